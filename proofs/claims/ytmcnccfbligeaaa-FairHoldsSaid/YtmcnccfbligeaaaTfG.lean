/-
  Operations that lean on facts: an element, a part of a slice, a new slice, a call that asks and tells. Plain laws.
-/
import Derived.Test.YtmcnccfbligeaaaTfM
import Derived.Test.YtmcnccfbligeaaaTzZ
namespace Go.Tz
open Go.Rp Go.RowKit

/-- Of what a function asks and tells. -/
inductive C3 where
  | k (x : Int)
  | av (i : Nat)
  | al (i : Nat)
  | af (i j : Nat)
  | ov (i : Nat)
  | ol (i : Nat)
  | of_ (i j : Nat)
  deriving DecidableEq
structure Sx where
  sg : Sg
  pre : List (C3 × C3 × Int)
  post : List (Option Bool × C3 × C3 × Int)
  frs : List (Nat × Nat)
  els : List (C3 × Int) := []
def outAt (n : Nat) (v : Value) (i : Nat) : Value := if n = 1 then v else partOf v i
def C3.den (args : List Value) (n : Nat) (v : Value) : C3 → Int
  | .k x => x
  | .av i => intOf (args.getD i undef)
  | .al i => lenOf (args.getD i undef)
  | .af i j => lenOf (partOf (args.getD i undef) j)
  | .ov i => intOf (outAt n v i)
  | .ol i => lenOf (outAt n v i)
  | .of_ i j => lenOf (partOf (outAt n v i) j)
def PreOK (args : List Value) (pre : List (C3 × C3 × Int)) : Prop := ∀ x ∈ pre, x.1.den args 0 undef ≤ x.2.1.den args 0 undef + x.2.2
def PostOK (args : List Value) (n : Nat) (v : Value) (post : List (Option Bool × C3 × C3 × Int)) : Prop := ∀ x ∈ post, (∀ b, x.1 = some b → v = .bool b) → x.2.1.den args n v ≤ x.2.2.1.den args n v + x.2.2.2
/-- New since then. -/
def FrsOK (w : World) (n : Nat) (v : Value) (l : List (Nat × Nat)) : Prop := ∀ x ∈ l, ∀ A m c ad, partOf (outAt n v x.1) x.2 = .slice A m c → A = some ad → w.heap.size ≤ ad.block
/-- All its elements are from 0 to there; and it is new. -/
def EltsOK (args : List Value) (n : Nat) (w w' : World) (v : Value) (l : List (C3 × Int)) : Prop := ∀ x ∈ l, ∀ A m c, v = .slice A m c → InsAt w' A m (NumTo (x.1.den args n v + x.2)) ∧ ∀ ad, A = some ad → w.heap.size ≤ ad.block
structure FnX (P : Program) (lay : Lay) (G : FuncId → Bounds → Bounds) (f : FuncId) (s : Sx) : Prop where
  enter : ∀ (args : Array Value) (w : World), (callFunc f args).run P w = .ok (.enter f args) w
  flat : s.sg.flat = true → ∀ K, G f K = K
  run : ∀ (B : Nat) (K : Bounds) (w : World) (args : Array Value), (∀ e, G f K e ≤ LIM) → Typed lay B K w → VOKs lay B 0 K w s.sg.ins args.toList → PreOK args.toList s.pre →
    Calls P f args w fun e w' => ∃ v, e = .returned v ∧ TOK lay B w.heap.size (G f K) w' (retT s.sg.outs) v ∧ Typed lay B (G f K) w' ∧ Below w.heap.size w w' ∧ PostOK args.toList s.sg.outs.length v s.post ∧ FrsOK w s.sg.outs.length v s.frs ∧ EltsOK args.toList s.sg.outs.length w w' v s.els
theorem FnX.plain {P : Program} {lay : Lay} {G : FuncId → Bounds → Bounds} {f : FuncId} {s : Sx} (h : FnX P lay G f s) (hp : s.pre = []) : FnOK P lay G f s.sg :=
  ⟨h.enter, h.flat, fun B K w args h1 h2 h3 => (h.run B K w args h1 h2 h3 (by rw [hp]; intro x hx; cases hx)).mono fun e w' ⟨v, e1, e2, e3, e4, _⟩ => ⟨v, e1, e2, e3, e4⟩⟩
theorem FnOK.ext {P : Program} {lay : Lay} {G : FuncId → Bounds → Bounds} {f : FuncId} {s : Sg} (h : FnOK P lay G f s) : FnX P lay G f ⟨s, [], [], [], []⟩ :=
  ⟨h.enter, h.flat, fun B K w args h1 h2 h3 _ => (h.run B K w args h1 h2 h3).mono fun e w' ⟨v, e1, e2, e3, e4⟩ => ⟨v, e1, e2, e3, e4, fun x hx => (by cases hx), fun x hx => (by cases hx), fun x hx => (by cases hx)⟩⟩
/-- In the caller's words. -/
def C3.tm (xs : List Operand) (d : Option Nat) (n : Nat) : C3 → Option Tm
  | .k x => some (.c x)
  | .av i => (xs[i]?).bind tmOf
  | .al i => (xs[i]?).bind lenTm
  | .af i j => match xs[i]? with
    | some (.tmp p) => some (.len (.f p j))
    | _ => none
  | .ov i => d.map fun d => .val (if n = 1 then .t d else .f d i)
  | .ol i => d.map fun d => .len (if n = 1 then .t d else .f d i)
  | .of_ i j => d.map fun d => .len (if n = 1 then .f d j else .g d i j)
def preT (fs : List Fa) (xs : List Operand) : List (C3 × C3 × Int) → Bool
  | [] => true
  | (s, t, c) :: ps => (match s.tm xs none 0, t.tm xs none 0 with
    | some s, some t => ent fs s t c
    | _, _ => false) && preT fs xs ps
def postT (xs : List Operand) (d : Option Nat) (n : Nat) : List (Option Bool × C3 × C3 × Int) → Rs
  | [] => []
  | (b, s, t, c) :: ps => (match s.tm xs d n, t.tm xs d n, b, d with
    | some s, some t, none, _ => [([], .le s t c)]
    | some s, some t, some b, some d => [([(d, b)], .le s t c)]
    | _, _, _, _ => []) ++ postT xs d n ps
def frsT (d : Option Nat) (n : Nat) (l : List (Nat × Nat)) : List Fa := match d with
  | some d => l.map fun x => .frs (if n = 1 then .f d x.2 else .g d x.1 x.2)
  | none => []
def elsT (Γ : Env) (fs : List Fa) (xs : List Operand) (d : Option Nat) (outs : List A0) (l : List (C3 × Int)) : List Fa := match d with
  | some d => if isSl (retT outs) && !(isNil l) then (l.flatMap fun x => match x.1.tm xs (some d) outs.length with
      | some t => if memN d t.ments then [] else [.elts (.t d) t x.2]
      | none => []) ++ ((boxesOf fs).map (fun p => .aps d p) ++ (freshOf Γ).map fun i => .apx i d) else []
  | none => []
def typeV (Γ : Env) : Vr → Option TypeId
  | .t i => match look Γ none i with
    | some (.one (.val false [.sl e])) => some e
    | _ => none
  | .f i j => match look Γ none i with
    | some (.one (.val true cs)) => match cs[j]? with
      | some (.sl e) => some e
      | _ => none
    | some (.tup ts) => match ts[j]? with
      | some (.val false [.sl e]) => some e
      | _ => none
    | _ => none
  | .g i j k => match look Γ none i with
    | some (.tup ts) => match ts[j]? with
      | some (.val true cs) => match cs[k]? with
        | some (.sl e) => some e
        | _ => none
      | _ => none
    | _ => none
/-- How long at most: so much more than rows of e have, or at all. -/
def relB (Γ : Env) (e : TypeId) : Dist → Option Nat
  | [] => none
  | (.len v, d) :: ds => if typeV Γ v = some e ∧ d ≤ 1000000 then some d.toNat else relB Γ e ds
  | _ :: ds => relB Γ e ds
def absB (Γ : Env) : Dist → Option Nat
  | [] => none
  | (.len v, d) :: ds => if (typeV Γ v).isSome = true ∧ d ≤ 1000000 then some (LIM + d.toNat) else absB Γ ds
  | (.c x, d) :: ds => if x + d ≤ 68720476736 then some (x + d).toNat else absB Γ ds
  | _ :: ds => absB Γ ds
def constB : Dist → Option Nat
  | [] => none
  | (.c x, d) :: ds => if x + d ≤ 1000000 then some (x + d).toNat else constB ds
  | _ :: ds => constB ds
def refine1 (Γ : Env) (fs : List Fa) (i : Nat) : Env :=
  match look Γ none i with
  | some (.one (.slf e)) =>
    let ds := relaxN fs 3 [(.len (.t i), 0)]
    match constB ds with
    | some j => (i, none, .one (.sli e true j)) :: Γ
    | none => match relB Γ e ds with
      | some j => (i, none, .one (.sli e false j)) :: Γ
      | none => match absB Γ ds with
        | some j => (i, none, .one (.sli e true j)) :: Γ
        | none => Γ
  | some (.one (.sli e _ _)) => match constB (relaxN fs 3 [(.len (.t i), 0)]) with
    | some j => (i, none, .one (.sli e true j)) :: Γ
    | none => Γ
  | some (.one (.val false [.slb e m])) => if Fa.frs (.t i) ∈ fs then (i, none, .one (.sli e true m)) :: Γ else Γ
  | some (.one (.val false [.sl e])) => if Fa.frs (.t i) ∈ fs then (i, none, .one (.sli e false 0)) :: Γ else Γ
  | _ => Γ
def refineE (fs : List Fa) : List Operand → Env → Env
  | [], Γ => Γ
  | .tmp i :: xs, Γ => refineE fs xs (refine1 Γ fs i)
  | _ :: xs, Γ => refineE fs xs Γ
def elemOfT : A0 → Option (Bool × TypeId × A0)
  | .val false [.sl e] => some (false, e, .val false [.sl e])
  | .val false [.slb e m] => some (false, e, .val false [.slb e m])
  | .sli e _ _ => some (true, e, .slf e)
  | .slf e => some (true, e, .slf e)
  | _ => none
section
variable {P : Program} {lay : Lay} {els : List (TypeId × TypeId × Nat)} {Fs : FuncId → Option Sg} {B F : Nat} {K K' : Bounds} {γ : Nat → Int} {a : Act} {w w' : World} {Γ : Env} {fs : List Fa} {g : Gd} {o : Oper} {v : Value} {G : FuncId → Bounds → Bounds}
theorem typeV_ok (hE : EOK lay B F K w (fun _ => True) Γ a) {x : Vr} {e : TypeId} (h : typeV Γ x = some e) : lenOf (x.ev a) ≤ (K e : Int) := by
  have one : ∀ {u : Value}, CellOK lay B K w (some (.sl e)) u → lenOf u ≤ (K e : Int) := fun ⟨A, n, c, e1, e2, _⟩ => by subst e1; simp only [lenOf]; omega
  have agg : ∀ {arr : Array Value} {cs : List CT} {j : Nat}, Ofs lay B K w cs arr.toList → cs[j]? = some (.sl e) → lenOf (partOf (.agg arr) j) ≤ (K e : Int) := fun {arr cs j} h hj => by
    have hjl : j < arr.size := by have := (List.getElem?_eq_some_iff.1 hj).1; have := h.1; simp at this; omega
    have := h.2 j _ arr[j] hj (by simp [hjl])
    simp only [partOf, Array.getD_eq_getD_getElem?, Array.getElem?_eq_getElem hjl, Option.getD_some]
    exact one this
  cases x
  · rename_i i
    simp only [typeV] at h
    split at h
    · rename_i e' hl
      obtain rfl := Option.some.inj h
      have hv : VOK lay B F K w (.val false [.sl e']) (a.eval (.tmp i)) := look_ok hE (g := none) trivial trivial hl
      exact one (hv.2 0 _ _ rfl rfl)
    · cases h
  · rename_i i j
    simp only [typeV] at h
    split at h
    · rename_i cs hl
      split at h
      · rename_i e' hj
        obtain rfl := Option.some.inj h
        obtain ⟨arr, e1, e2⟩ : VOK lay B F K w (.val true cs) (a.eval (.tmp i)) := look_ok hE (g := none) trivial trivial hl
        simp only [Vr.ev, e1]
        exact agg e2 hj
      · cases h
    · rename_i ts hl
      split at h
      · rename_i e' hj
        obtain rfl := Option.some.inj h
        obtain ⟨vs, e1, e2⟩ : TOK lay B F K w (.tup ts) (a.eval (.tmp i)) := look_ok hE (g := none) trivial trivial hl
        obtain ⟨u, hu, hu2⟩ := e2.at.2 j _ hj
        have hu' : vs[j]? = some u := by simpa using hu
        simp only [Vr.ev, e1, partOf, Array.getD_eq_getD_getElem?, hu', Option.getD_some]
        exact one (hu2.2 0 _ _ rfl rfl)
      · cases h
    · cases h
  · rename_i i j k
    simp only [typeV] at h
    split at h
    · rename_i ts hl
      split at h
      · rename_i cs hj
        split at h
        · rename_i e' hk
          obtain rfl := Option.some.inj h
          obtain ⟨vs, e1, e2⟩ : TOK lay B F K w (.tup ts) (a.eval (.tmp i)) := look_ok hE (g := none) trivial trivial hl
          obtain ⟨u, hu, arr, hu2, hu3⟩ := e2.at.2 j _ hj
          have hu' : vs[j]? = some u := by simpa using hu
          have e3 : partOf (Value.tuple vs) j = .agg arr := by simp [partOf, Array.getD_eq_getD_getElem?, hu', hu2]
          simp only [Vr.ev, e1]
          rw [e3]
          exact agg hu3 hk
        · cases h
      · cases h
    · cases h
theorem relB_ok (hE : EOK lay B F K w (fun _ => True) Γ a) {e : TypeId} {s : Tm} : ∀ {ds : Dist} {j : Nat}, DistOK γ a s ds → relB Γ e ds = some j → s.den γ a ≤ (K e : Int) + j
  | [], _, _, h => by cases h
  | (t, d) :: ds, j, hd, h => by
    have hds : DistOK γ a s ds := fun x hx => hd x (List.mem_cons_of_mem _ hx)
    have h0 : s.den γ a ≤ t.den γ a + d := hd _ (List.mem_cons_self ..)
    cases t with
    | len x =>
      simp only [relB] at h
      split at h
      · rename_i hc
        obtain rfl := Option.some.inj h
        have := typeV_ok hE hc.1
        have h0 : s.den γ a ≤ lenOf (x.ev a) + d := h0
        omega
      · exact relB_ok hE hds h
    | _ => exact relB_ok hE hds (by simpa [relB] using h)
theorem absB_ok (hE : EOK lay B F K w (fun _ => True) Γ a) (hlim : ∀ e, K e ≤ LIM) {s : Tm} : ∀ {ds : Dist} {j : Nat}, DistOK γ a s ds → absB Γ ds = some j → s.den γ a ≤ j ∧ j ≤ LIM + 1000000
  | [], _, _, h => by cases h
  | (t, d) :: ds, j, hd, h => by
    have hds : DistOK γ a s ds := fun x hx => hd x (List.mem_cons_of_mem _ hx)
    have h0 : s.den γ a ≤ t.den γ a + d := hd _ (List.mem_cons_self ..)
    cases t with
    | len x =>
      simp only [absB] at h
      split at h
      · rename_i hc
        obtain rfl := Option.some.inj h
        obtain ⟨e, he⟩ := Option.isSome_iff_exists.1 hc.1
        have := typeV_ok hE he
        have := hlim e
        have h0 : s.den γ a ≤ lenOf (x.ev a) + d := h0
        simp only [LIM] at *
        omega
      · exact absB_ok hE hlim hds h
    | c x =>
      simp only [absB] at h
      split at h
      · rename_i hc
        obtain rfl := Option.some.inj h
        have h0 : s.den γ a ≤ x + d := h0
        simp only [LIM]
        omega
      · exact absB_ok hE hlim hds h
    | _ => exact absB_ok hE hlim hds (by simpa [absB] using h)
theorem constB_ok {s : Tm} : ∀ {ds : Dist} {j : Nat}, DistOK γ a s ds → constB ds = some j → s.den γ a ≤ j
  | [], _, _, h => by cases h
  | (t, d) :: ds, j, hd, h => by
    have hds : DistOK γ a s ds := fun x hx => hd x (List.mem_cons_of_mem _ hx)
    have h0 : s.den γ a ≤ t.den γ a + d := hd _ (List.mem_cons_self ..)
    cases t with
    | c x =>
      simp only [constB] at h
      split at h
      · rename_i hc
        obtain rfl := Option.some.inj h
        have h0 : s.den γ a ≤ x + d := h0
        omega
      · exact constB_ok hds h
    | _ => exact constB_ok hds (by simpa [constB] using h)
theorem refine1_ok (hγ : γ 999 = (F : Int)) (hE : EOK lay B F K w (fun _ => True) Γ a) (hlim : ∀ e, K e ≤ LIM) (hfs : FsOK γ a w fs) (i : Nat) : EOK lay B F K w (fun _ => True) (refine1 Γ fs i) a := by
  have hdist : DistOK γ a (.len (.t i)) (relaxN fs 3 [(.len (.t i), 0)]) := relaxN_ok (w := w) hfs 3 (fun y hy => by obtain rfl := List.mem_singleton.1 hy; simp)
  unfold refine1
  split
  · rename_i e hl
    have hv : VOK lay B F K w (.slf e) (a.eval (.tmp i)) := look_ok hE (g := none) trivial trivial hl
    obtain ⟨A, n, c, e1, e2, e3⟩ := hv
    have hn : (Tm.len (.t i)).den γ a = n := by simp [Tm.den, Vr.ev, e1, lenOf]
    have add : ∀ (ab : Bool) (j : Nat), n ≤ (if ab then j else K e + j) → EOK lay B F K w (fun _ => True) ((i, none, .one (.sli e ab j)) :: Γ) a := fun ab j hj i' g' t' hs hm hg => by
      rcases List.mem_cons.1 hm with he | hm
      · simp only [Prod.mk.injEq] at he
        obtain ⟨rfl, rfl, rfl⟩ := he
        exact ⟨A, n, c, e1, e2, e3, hj⟩
      · exact hE i' g' t' hs hm hg
    dsimp only
    split
    · rename_i j hj
      have := constB_ok hdist hj
      rw [hn] at this
      exact add true j (by simp; omega)
    · split
      · rename_i j hj
        have := relB_ok hE hdist hj
        rw [hn] at this
        exact add false j (by simp; omega)
      · split
        · rename_i j hj
          have := (absB_ok hE hlim hdist hj).1
          rw [hn] at this
          exact add true j (by simp; omega)
        · exact hE
  · rename_i e ab0 j0 hl
    split
    · rename_i j hj
      have hv : VOK lay B F K w (.sli e ab0 j0) (a.eval (.tmp i)) := look_ok hE (g := none) trivial trivial hl
      obtain ⟨A, n, c, e1, e2, e3, _⟩ := hv
      have hn : (Tm.len (.t i)).den γ a = n := by simp [Tm.den, Vr.ev, e1, lenOf]
      have := constB_ok hdist hj
      rw [hn] at this
      intro i' g' t' hs hm hg
      rcases List.mem_cons.1 hm with he | hm
      · simp only [Prod.mk.injEq] at he
        obtain ⟨rfl, rfl, rfl⟩ := he
        exact ⟨A, n, c, e1, e2, e3, by simp; omega⟩
      · exact hE i' g' t' hs hm hg
    · exact hE
  · rename_i e m hl
    split
    · rename_i hfr
      have hv : VOK lay B F K w (.val false [.slb e m]) (a.eval (.tmp i)) := look_ok hE (g := none) trivial trivial hl
      obtain ⟨A, n, c, e1, e2, e3⟩ := hv.2 0 _ _ rfl rfl
      intro i' g' t' hs hm hg
      rcases List.mem_cons.1 hm with he | hm
      · simp only [Prod.mk.injEq] at he
        obtain ⟨rfl, rfl, rfl⟩ := he
        refine ⟨A, n, c, e1, e3, fun ad ha => ?_, by simpa using e2⟩
        have := hfs _ hfr A n c ad e1 ha
        omega
      · exact hE i' g' t' hs hm hg
    · exact hE
  · rename_i e hl
    split
    · rename_i hfr
      have hv : VOK lay B F K w (.val false [.sl e]) (a.eval (.tmp i)) := look_ok hE (g := none) trivial trivial hl
      obtain ⟨A, n, c, e1, e2, e3⟩ := hv.2 0 _ _ rfl rfl
      intro i' g' t' hs hm hg
      rcases List.mem_cons.1 hm with he | hm
      · simp only [Prod.mk.injEq] at he
        obtain ⟨rfl, rfl, rfl⟩ := he
        refine ⟨A, n, c, e1, e3, fun ad ha => ?_, by simpa using e2⟩
        have := hfs _ hfr A n c ad e1 ha
        omega
      · exact hE i' g' t' hs hm hg
    · exact hE
  · exact hE
theorem refineE_ok (hγ : γ 999 = (F : Int)) (hlim : ∀ e, K e ≤ LIM) (hfs : FsOK γ a w fs) : ∀ (xs : List Operand) {Γ : Env}, EOK lay B F K w (fun _ => True) Γ a → EOK lay B F K w (fun _ => True) (refineE fs xs Γ) a
  | [], _, h => h
  | x :: xs, _, h => by
    cases x with
    | tmp i => exact refineE_ok hγ hlim hfs xs (refine1_ok hγ h hlim hfs i)
    | _ => exact refineE_ok hγ hlim hfs xs h
theorem refine1_keys {d : Nat} (h : ∀ x ∈ Γ, x.1 ≠ d) (hi : d ≠ d ∨ True) (i : Nat) (hid : i ≠ d) : ∀ x ∈ refine1 Γ fs i, x.1 ≠ d := by
  unfold refine1
  split
  · dsimp only
    split
    · intro x hx; rcases List.mem_cons.1 hx with rfl | hx <;> first | exact hid | exact h x hx
    · split
      · intro x hx; rcases List.mem_cons.1 hx with rfl | hx <;> first | exact hid | exact h x hx
      · split
        · intro x hx; rcases List.mem_cons.1 hx with rfl | hx <;> first | exact hid | exact h x hx
        · exact h
  · split
    · intro x hx; rcases List.mem_cons.1 hx with rfl | hx <;> first | exact hid | exact h x hx
    · exact h
  · split
    · intro x hx; rcases List.mem_cons.1 hx with rfl | hx <;> first | exact hid | exact h x hx
    · exact h
  · split
    · intro x hx; rcases List.mem_cons.1 hx with rfl | hx <;> first | exact hid | exact h x hx
    · exact h
  · exact h
theorem refineE_keys {d : Nat} : ∀ (xs : List Operand) {Γ : Env}, (∀ i, .tmp i ∈ xs → i ≠ d) → (∀ x ∈ Γ, x.1 ≠ d) → ∀ x ∈ refineE fs xs Γ, x.1 ≠ d
  | [], _, _, h => h
  | x :: xs, _, hx, h => by
    cases x with
    | tmp i => exact refineE_keys xs (fun j hj => hx j (List.mem_cons_of_mem _ hj)) (refine1_keys h (.inr trivial) i (hx i (List.mem_cons_self ..)))
    | _ => exact refineE_keys xs (fun j hj => hx j (List.mem_cons_of_mem _ hj)) h
end
end Go.Tz
/-
  An operation with facts: what it makes, what it lets know, what it writes; and that it is so. Plain laws.
-/
namespace Go.Tz
open Go.Rp Go.RowKit

def gl : Gd → Gs
  | none => []
  | some d => [d]
def dropD (Γ : Env) : Option Nat → Env
  | some d => dropE Γ d
  | none => Γ
abbrev XOut := Option AT × List Gr × Rs × Eff
section
variable (P : Program) (lay : Lay) (els : List (TypeId × TypeId × Nat)) (Fs : FuncId → Option Sg) (Xs : FuncId → Option Sx)
def idxX (Γ : Env) (fs : List Fa) (g : Gd) (d : Option Nat) (t : TypeId) (x i : Operand) : Option XOut :=
  match P.underlying t, x, tmOf i, opnd Γ g i with
  | some (.slice e), .tmp j, some ti, some (.val false [.int _ _ _]) => match (opnd Γ g x).bind elemOfT, P.info? e with
    | some (fr, e', _), some ie => if e' = e ∧ ie.size = (lay e).length ∧ 0 < ie.size ∧ ent fs (.c 0) ti 0 = true ∧ ent fs ti (.len (.t j)) (-1) = true then some (some (.one (if fr || decide (Fa.frs (.t j) ∈ fs) then .ptr (lay e) else .rd (lay e))), [], plain (match d with | some d => [.into d j (lay e).length] | none => []), .old) else none
    | _, _ => none
  | _, _, _, _ => none
/-- A slice of two. -/
def two (n : Nat) : Bool := Nat.beq n 2
def build2X (Γ : Env) (fs : List Fa) (g : Gd) (d : Option Nat) (t : TypeId) (parts : List (Nat × Operand)) : Option XOut :=
  match P.underlying t, d with
  | some (.slice e), some d => match P.info? e with
    | some ie => match ie.zero, partsT Γ g parts with
      | some z, some ps => match constCs z.cells.toList with
        | some zs => match fillT (fun i => some (i * ie.size, ie.size)) (zs ++ zs) ps with
          | some r => if z.cells.size = ie.size ∧ 0 < ie.size ∧ ie.size ≤ 1000 ∧ subs r (lay e ++ lay e) = true ∧ zs.length = (lay e).length then some (some (.one (.sli e true 2)), [], plain (eqs (.len (.t d)) (.c 2) 0 ++ (boxesOf fs).map fun p => Fa.aps d p), .old) else none
          | none => none
        | none => none
      | _, _ => none
    | none => none
  | _, _ => none
/-- An element of what came in. -/
def inpX (Γ : Env) (fs : List Fa) (g : Gd) (t : TypeId) (x i : Operand) : Option XOut :=
  match P.underlying t, x, tmOf i, opnd Γ g i with
  | some (.slice e), .tmp j, some ti, some (.val false [.int _ _ _]) => match opnd Γ g x, P.info? e with
    | some .inp, some ie => if ie.size = 1 ∧ ent fs (.c 0) ti 0 = true ∧ ent fs ti (.len (.t j)) (-1) = true then some (some (.one .inpp), [], [], .old) else none
    | _, _ => none
  | _, _, _, _ => none
def isInp (Γ : Env) (g : Gd) (x : Operand) : Bool := match opnd Γ g x with
  | some .inp => true
  | _ => false
def isInpp (Γ : Env) (g : Gd) (x : Operand) : Bool := match opnd Γ g x with
  | some .inpp => true
  | _ => false
def inpL (t : TypeId) (d : Option Nat) : Option XOut := match P.underlying t with
  | some (.int .u8) => some (some (.one (.val false [.int .u8 0 255])), [], rangeS d (some (.one (.val false [.int .u8 0 255]))), .old)
  | _ => none
/-- What is left by one that is not 0. -/
def remX (Γ : Env) (fs : List Fa) (g : Gd) (x y : Operand) : Option XOut :=
  match opnd Γ g x, y, opnd Γ g y with
  | some (.val false [.int k lo hi]), .tmp j, some (.val false [.int k' _ _]) => if k = k' ∧ ent fs (.c 1) (.val (.t j)) 0 = true then some (some (.one (.val false [.int k (if lo ≤ 0 then lo else 0) (if 0 ≤ hi then hi else 0)])), [], [], .old) else none
  | _, _, _ => none
def isTmp : Operand → Bool
  | .tmp _ => true
  | _ => false
def boundOK (Γ : Env) (g : Gd) : Option Operand → Bool
  | none => true
  | some y => match opnd Γ g y with
    | some (.val false [.int _ _ _]) => true
    | _ => false
def loTm : Option Operand → Option Tm
  | none => some (.c 0)
  | some y => tmOf y
def hiTm (x : Nat) : Option Operand → Option Tm
  | none => some (.len (.t x))
  | some y => tmOf y
def cut1F (d x : Nat) (lo hi : Option Operand) : List Fa :=
  match hi, lo with
    | some y, none => match tmOf y with
      | some s => eqs (.len (.t d)) s 0
      | none => []
    | none, none => eqs (.len (.t d)) (.len (.t x)) 0
    | none, some y => match tmOf y with
      | some (.c c) => eqs (.len (.t d)) (.len (.t x)) (-c)
      | some s => [.sum (.len (.t d)) s (.len (.t x)), .le (.len (.t d)) (.len (.t x)) 0]
      | none => []
    | _, _ => []
def cutF (fs : List Fa) (d x : Nat) (lo hi : Option Operand) (fr one : Bool) : List Fa := cut1F d x lo hi ++ ((if fr then apsOf fs d x else []) ++ (if one && hasE fs then eltsOf fs d x ++ apxOf fs d x else []))
def cutX (Γ : Env) (fs : List Fa) (g : Gd) (d : Option Nat) (t : TypeId) (x : Operand) (lo hi mx : Option Operand) : Option XOut :=
  match P.underlying t, x, loTm lo, mx, d with
  | some (.slice e), .tmp j, some tl, none, some d => match (opnd Γ g x).bind elemOfT, P.info? e, hiTm j hi with
    | some (fr, e', tr), some ie, some th => if e' = e ∧ ie.size = (lay e).length ∧ boundOK Γ g lo = true ∧ boundOK Γ g hi = true ∧ ent fs (.c 0) tl 0 = true ∧ ent fs tl th 0 = true ∧ ent fs th (.len (.t j)) 0 = true then
        some (some (.one tr), [], plain (cutF fs d j lo hi fr (Nat.beq (lay e).length 1)), .old) else none
    | _, _, _ => none
  | _, _, _, _, _ => none
def makeX (Γ : Env) (fs : List Fa) (g : Gd) (d : Option Nat) (t : TypeId) (n c : Operand) : Option XOut :=
  match P.underlying t, tmOf n, d, opnd Γ g n, n, c with
  | some (.slice e), some tn, some d, some (.val false [.int _ _ _]), .tmp i, .tmp i' => match P.info? e with
    | some ie => match ie.zero with
      | some z => match constCs z.cells.toList with
        | some zs => if i = i' ∧ subs zs (lay e) = true ∧ ie.size = (lay e).length ∧ 0 < ie.size ∧ ie.bytes ≤ 200 ∧ ent fs (.c 0) tn 0 = true ∧ (absB Γ (relaxN fs 3 [(tn, 0)])).isSome = true then
            some (some (.one (.slf e)), [], plain (eqs (.len (.t d)) tn 0 ++ (boxesOf fs).map fun p => Fa.aps d p), .old) else none
        | none => none
      | none => none
    | none => none
  | _, _, _, _, _, _ => none
/-- How long it is with so many more, by what is known of a rest. -/
def zeroF (fs : List Fa) (d x : Nat) (tn : Tm) : List Fa := fs.flatMap fun f => match f with
  | .sum s t u => if ent fs tn s 0 = true ∧ ent fs (.len (.t x)) t 0 = true then [.le (.len (.t d)) u 0] else []
  | _ => []
def zeroX (Γ : Env) (fs : List Fa) (g : Gd) (d : Option Nat) (args : List Operand) (ats : List TypeId) : Option XOut :=
  match args, ats, d with
  | [.tmp i, .tmp j], [t, tx], some d => match opnd Γ g (.tmp i), opnd Γ g (.tmp j), P.underlying tx, els.find? (fun p => Nat.beq p.1 t) with
    | some ti, some (.val false [.int .i64 _ _]), some (.int _), some (_, e, by_) => match asFresh ti e with
      | some (_, jj) => if jj ≤ 206158430208 ∧ by_ ≤ 200 ∧ ent fs (.c 1) (.val (.t j)) 0 = true ∧ ent fs (.val (.t j)) (.c 1000) 0 = true then
          some (some (.one (.slf e)), [], plain (zeroF fs d i (.val (.t j))), .all) else none
      | none => none
    | _, _, _, _ => none
  | _, _, _ => none
def callX (Γ : Env) (fs : List Fa) (g : Gd) (d : Option Nat) (f : FuncId) (s : Sx) (args : List Operand) : Option XOut :=
  match fitAs Γ g args s.sg.ins with
  | some gr => if preT fs args s.pre = true then some (some (retT s.sg.outs), if s.sg.flat then gr else gr ++ [.fn f], postT args d s.sg.outs.length s.post ++ plain (frsT d s.sg.outs.length s.frs ++ elsT Γ fs args d s.sg.outs s.els), .old) else none
  | none => none
def chkX (Γ : Env) (R : Rs) (g : Gd) (o : Oper) : Option XOut :=
  let fs := act (killR o.dst R) (gl g)
  let Γ2 := refineE fs o.op.operands.toList (dropD Γ o.dst)
  if opsNe o then
    match o.op with
    | .indexAddr t x i => bif isInp Γ2 g x then inpX P Γ2 fs g t x i else idxX P lay Γ2 fs g o.dst t x i
    | .buildSlice t n parts => bif two n then build2X P lay Γ2 fs g o.dst t parts.toList else match chkOp P lay els Fs Γ2 g o with
      | some (rt, gr) => some (rt, gr, genF P Γ2 fs g o rt ++ rangeS o.dst rt ++ plain (genE lay els Γ2 fs g o rt), effF P Γ2 fs g o)
      | none => none
    | .binOp .rem xt x y yt => bif isTmp y then remX Γ2 fs g x y else match chkOp P lay els Fs Γ2 g o with
      | some (rt, gr) => some (rt, gr, genF P Γ2 fs g o rt ++ rangeS o.dst rt ++ plain (genE lay els Γ2 fs g o rt), effF P Γ2 fs g o)
      | none => none
    | .load t x => bif isInpp Γ2 g x then inpL P t o.dst else match chkOp P lay els Fs Γ2 g o with
      | some (rt, gr) => some (rt, gr, genF P Γ2 fs g o rt ++ rangeS o.dst rt ++ plain (genE lay els Γ2 fs g o rt), effF P Γ2 fs g o)
      | none => none
    | .slice t x lo hi mx => cutX P lay Γ2 fs g o.dst t x lo hi mx
    | .makeSlice t n c => makeX P lay Γ2 fs g o.dst t n c
    | .call { callee := .builtin .append, args, argTypes } => if argTypes.toList.eraseDups.length = 2 then zeroX P els Γ2 fs g o.dst args.toList argTypes.toList else match chkOp P lay els Fs Γ2 g o with
      | some (rt, gr) => some (rt, gr, genF P Γ2 fs g o rt ++ rangeS o.dst rt ++ plain (genE lay els Γ2 fs g o rt), effF P Γ2 fs g o)
      | none => none
    | .call { callee := .value (.func f), args, .. } => match Xs f with
      | some s => callX Γ2 fs g o.dst f s args.toList
      | none => match chkOp P lay els Fs Γ2 g o with
        | some (rt, gr) => some (rt, gr, genF P Γ2 fs g o rt ++ rangeS o.dst rt ++ plain (genE lay els Γ2 fs g o rt), effF P Γ2 fs g o)
        | none => none
    | _ => match chkOp P lay els Fs Γ2 g o with
      | some (rt, gr) => some (rt, gr, genF P Γ2 fs g o rt ++ rangeS o.dst rt ++ plain (genE lay els Γ2 fs g o rt), effF P Γ2 fs g o)
      | none => none
  else none
end
section
variable {P : Program} {lay : Lay} {els : List (TypeId × TypeId × Nat)} {Fs : FuncId → Option Sg} {Xs : FuncId → Option Sx} {B F : Nat} {K K' : Bounds} {γ : Nat → Int} {a : Act} {w w' : World} {Γ : Env} {R : Rs} {fs : List Fa} {g : Gd} {o : Oper} {v : Value} {G : FuncId → Bounds → Bounds}
/-- What is to be shown of an operation. -/
def DoesX (P : Program) (lay : Lay) (B F : Nat) (G : FuncId → Bounds → Bounds) (γ : Nat → Int) (K : Bounds) (o : Oper) (a : Act) (w : World) (out : XOut) : Prop :=
  ∀ (next : Act → World → Prop) (Q : Exit → Act → World → Prop), (∀ v w', (∀ t, out.1 = some t → TOK lay B F (den G out.2.1 K) w' t v) → Typed lay B (den G out.2.1 K) w' → Below F w w' → Keeps w w' → w.heap.size ≤ w'.heap.size → RsOK γ (a.put o.dst v) w' out.2.2.1 → out.2.2.2.ok a w w' → next (a.put o.dst v) w') → o.wp P a w next Q
theorem does_same (hT : Typed lay B K w) {v : Value} {t : AT} {nf : Rs} (h : (execOp a.eval o).run P w = .ok (.value v) w) (hv : TOK lay B F K w t v) (hn : RsOK γ (a.put o.dst v) w nf) : DoesX P lay B F G γ K o a w (some t, [], nf, .old) := fun next Q hq =>
  wp_value h (hq v w (fun t' ht => by obtain rfl := Option.some.inj ht; exact hv) hT (Below.refl _ _) (Keeps.refl _) (Nat.le_refl _) hn fun _ _ => rfl)
theorem elemOfT_ok {t : A0} {fr : Bool} {e : TypeId} {tr : A0} (h : elemOfT t = some (fr, e, tr)) {u : Value} (hv : VOK lay B F K w t u) : ∃ A n c, u = .slice A n c ∧ SlOK lay B w e A n c ∧ (fr = true → FreshA F A) ∧ ∀ A' n' c', SlOK lay B w e A' n' c' → n' ≤ n → (FreshA F A → FreshA F A') → VOK lay B F K w tr (.slice A' n' c') := by
  unfold elemOfT at h
  split at h
  · simp only [Option.some.injEq, Prod.mk.injEq] at h
    obtain ⟨rfl, rfl, rfl⟩ := h
    obtain ⟨A, n, c, e1, e2, e3⟩ := hv.2 0 _ _ rfl rfl
    exact ⟨A, n, c, e1, e3, fun h => (by cases h), fun A' n' c' h1 h2 _ => vok_cell ⟨A', n', c', rfl, by omega, h1⟩⟩
  · simp only [Option.some.injEq, Prod.mk.injEq] at h
    obtain ⟨rfl, rfl, rfl⟩ := h
    obtain ⟨A, n, c, e1, e2, e3⟩ := hv.2 0 _ _ rfl rfl
    exact ⟨A, n, c, e1, e3, fun h => (by cases h), fun A' n' c' h1 h2 _ => vok_cell ⟨A', n', c', rfl, by omega, h1⟩⟩
  · simp only [Option.some.injEq, Prod.mk.injEq] at h
    obtain ⟨rfl, rfl, rfl⟩ := h
    obtain ⟨A, n, c, e1, e2, e3, _⟩ := hv
    exact ⟨A, n, c, e1, e2, fun _ => e3, fun A' n' c' h1 _ h3 => ⟨A', n', c', rfl, h1, h3 e3⟩⟩
  · simp only [Option.some.injEq, Prod.mk.injEq] at h
    obtain ⟨rfl, rfl, rfl⟩ := h
    obtain ⟨A, n, c, e1, e2, e3⟩ := hv
    exact ⟨A, n, c, e1, e2, fun _ => e3, fun A' n' c' h1 _ h3 => ⟨A', n', c', rfl, h1, h3 e3⟩⟩
  · cases h
theorem idx_ok (hγ : γ 999 = (F : Int)) (hT : Typed lay B K w) (hE : EOK lay B F K w (fun _ => True) Γ a) (hg : GH a g) (hfs : FsOK γ a w fs) (hnd : ∀ d, o.dst = some d → (∀ f ∈ fs, d ∉ f.ments) ∧ d < a.tmps.size) (hne : opsNe o = true) {t : TypeId} {x i : Operand} (ho : o.op = .indexAddr t x i) {out : XOut} (hc : idxX P lay Γ fs g o.dst t x i = some out) : DoesX P lay B F G γ K o a w out := by
  unfold idxX at hc
  split at hc
  · rename_i e j ti k lo hi hu hti hii
    split at hc
    · rename_i fr e' tr ie hel hie
      split at hc
      · rename_i hcond
        obtain ⟨rfl, hsz, hpos, h0, h1⟩ := hcond
        obtain rfl := Option.some.inj hc
        obtain ⟨t0, ht0, hel⟩ := Option.bind_eq_some_iff.1 hel
        obtain ⟨A, n, c, ex, hs, hfr, _⟩ := elemOfT_ok hel (opnd_ok hE hg (fun _ _ => trivial) ht0)
        obtain ⟨p, ep, _⟩ := (opnd_ok hE hg (fun _ _ => trivial) hii).int
        have h0 := ent_ok hfs h0
        have h1 := ent_ok hfs h1
        have e1 : ti.den γ a = p := by rw [tmOf_den hti, ep]; rfl
        have e2 : (Tm.len (.t j)).den γ a = n := by simp only [Tm.den, Vr.ev]; rw [ex]; rfl
        have e3 : (Tm.c 0).den γ a = 0 := rfl
        rw [e1, e3] at h0
        rw [e1, e2] at h1
        obtain ⟨q, rfl⟩ : ∃ q : Nat, p = (q : Int) := ⟨p.toNat, by omega⟩
        obtain ⟨hnc, hcm, hA⟩ := hs
        rcases hA with ⟨_, rfl, _⟩ | ⟨b, off, arr, rfl, hB, hb, hmod, hcs⟩
        · omega
        · have hm : (q + 1) * (lay e').length ≤ c * (lay e').length := Nat.mul_le_mul_right _ (by omega)
          rw [Nat.succ_mul] at hm
          have hptr : ∀ (i : Nat) (ct : CT), (lay e')[i]? = some ct → (lay e')[(off + q * (lay e').length + i) % (lay e').length]? = some ct := fun i ct hi => by
            have hil := (List.getElem?_eq_some_iff.1 hi).1
            rw [show (off + q * (lay e').length + i) % (lay e').length = i by rw [Nat.add_mod, Nat.add_mod off, hmod, Nat.mul_mod_left]; simp [Nat.mod_eq_of_lt hil]]
            exact hi
          refine does_same (F := F) hT (v := .pointer (some ⟨b, off + q * (lay e').length, none⟩)) ?_ ?_ (plain_ok ?_)
          rotate_right
          · split
            · rename_i d hd
              refine .cons ⟨b, off, n, c, q, ?_, by omega, ?_⟩ .nil
              · rw [hd, eval_put_ne _ (ne_of hne hd (by simp [ho, Op.operands]))]; exact ex
              · rw [hd]; exact eval_put_eq _ (hnd d hd).2
            · exact .nil
          · have hq : ((q : Int) < (n : Int)) := by omega
            have hq0 : (0 : Int) ≤ (q : Int) := by omega
            unfold execOp
            simp only [ho, ex, ep, Instr.indexAt, asIntOf, Sem.run_bind, Sem.run_pure, run_underlying hu, Result.andThen_ok]
            simp [hq0, hq, sizeOf, typeInfo, hie, hsz, Addr.add_mid]
          · split
            · rename_i hor
              refine ⟨b, _, e', arr, rfl, ?_, hb, by omega, hptr⟩
              simp only [Bool.or_eq_true, decide_eq_true_eq] at hor
              rcases hor with hor | hor
              · exact hfr hor _ rfl
              · have h5 : γ 999 ≤ (b : Int) := hfs _ hor _ _ _ _ (show (Vr.t j).ev a = _ from ex) rfl
                omega
            · exact ⟨b, _, e', arr, rfl, hB, hb, by omega, hptr⟩
      · cases hc
    · cases hc
  · cases hc
theorem inp_ok (hT : Typed lay B K w) (hE : EOK lay B F K w (fun _ => True) Γ a) (hg : GH a g) (hfs : FsOK γ a w fs) {t : TypeId} {x i : Operand} (ho : o.op = .indexAddr t x i) {out : XOut} (hc : inpX P Γ fs g t x i = some out) : DoesX P lay B F G γ K o a w out := by
  unfold inpX at hc
  split at hc
  · rename_i e j ti k lo hi hu hti hii
    split at hc
    · rename_i ie hx hie
      split at hc
      · rename_i hcond
        obtain ⟨hsz, h0, h1⟩ := hcond
        obtain rfl := Option.some.inj hc
        obtain ⟨A, n, c, ex, hn, hrd⟩ : VOK lay B F K w .inp (a.eval (.tmp j)) := opnd_ok hE hg (fun _ _ => trivial) hx
        obtain ⟨p, ep, _⟩ := (opnd_ok hE hg (fun _ _ => trivial) hii).int
        have h0 := ent_ok hfs h0
        have h1 := ent_ok hfs h1
        have e1 : ti.den γ a = p := by rw [tmOf_den hti, ep]; rfl
        have e2 : (Tm.len (.t j)).den γ a = n := by simp only [Tm.den, Vr.ev]; rw [ex]; rfl
        have e3 : (Tm.c 0).den γ a = 0 := rfl
        rw [e1, e3] at h0
        rw [e1, e2] at h1
        obtain ⟨q, rfl⟩ : ∃ q : Nat, p = (q : Int) := ⟨p.toNat, by omega⟩
        obtain ⟨b, off, y, rfl, hb, hcell, hy1, hy2⟩ := hrd q (by omega)
        refine does_same (F := F) hT (v := .pointer (some ⟨b, off + q, none⟩)) ?_ ⟨b, off + q, y, rfl, hb, hcell, hy1, hy2⟩ .nil
        have hq : ((q : Int) < (n : Int)) := by omega
        have hq0 : (0 : Int) ≤ (q : Int) := by omega
        unfold execOp
        simp only [ho, ex, ep, Instr.indexAt, asIntOf, Sem.run_bind, Sem.run_pure, run_underlying hu, Result.andThen_ok]
        simp [hq0, hq, sizeOf, typeInfo, hie, hsz, Addr.add_mid]
      · cases hc
    · cases hc
  · cases hc
theorem rem_ok (hT : Typed lay B K w) (hE : EOK lay B F K w (fun _ => True) Γ a) (hg : GH a g) (hfs : FsOK γ a w fs) {xt yt : TypeId} {x y : Operand} (ho : o.op = .binOp .rem xt x y yt) {out : XOut} (hc : remX Γ fs g x y = some out) : DoesX P lay B F G γ K o a w out := by
  unfold remX at hc
  split at hc
  · rename_i k lo hi j k' lo' hi' hx hy
    split at hc
    · rename_i hcond
      obtain ⟨rfl, h1⟩ := hcond
      obtain rfl := Option.some.inj hc
      obtain ⟨p, ep, p1, p2⟩ := (opnd_ok hE hg (fun _ _ => trivial) hx).int
      obtain ⟨q, eq, _, _⟩ := (opnd_ok hE hg (fun _ _ => trivial) hy).int
      have h1 := ent_ok hfs h1
      have e1 : (Tm.val (.t j)).den γ a = q := by simp only [Tm.den, Vr.ev]; rw [eq]; rfl
      have e3 : (Tm.c 1).den γ a = 1 := rfl
      rw [e1, e3] at h1
      have hq : q ≠ 0 := by omega
      refine does_same (F := F) hT (v := .int k (p.tmod q)) ?_ ?_ .nil
      · unfold execOp
        simp [ho, ep, eq, eqGuard, binOp, Op.intDiv, hq]
      · have pos : ∀ p : Int, 0 ≤ p → 0 ≤ p.tmod q ∧ p.tmod q ≤ p := fun p h0 => by
          have h6 := Int.tmod_eq_emod_of_nonneg (a := p) (b := q) (by omega)
          have h7 := Int.emod_nonneg p hq
          have h8 : p % q ≤ p := by
            rcases Int.lt_or_le p q with h | h
            · rw [Int.emod_eq_of_lt (by omega) h]; omega
            · have := Int.emod_lt_of_pos p (show 0 < q by omega); omega
          omega
        rcases Int.lt_or_le p 0 with h0 | h0
        · have h9 := pos (-p) (by omega)
          rw [Int.neg_tmod] at h9
          exact vok_int (F := F) (by split <;> omega) (by split <;> omega)
        · have h9 := pos p h0
          exact vok_int (F := F) (by split <;> omega) (by split <;> omega)
    · cases hc
  · cases hc
theorem inpL_ok (hT : Typed lay B K w) (hlim : ∀ e, K e ≤ LIM) (hE : EOK lay B F K w (fun _ => True) Γ a) (hg : GH a g) (hnd : ∀ d, o.dst = some d → d < a.tmps.size) {t : TypeId} {x : Operand} (hx : isInpp Γ g x = true) (ho : o.op = .load t x) {out : XOut} (hc : inpL P t o.dst = some out) : DoesX P lay B F G γ K o a w out := by
  unfold isInpp at hx
  split at hx
  · rename_i hx'
    unfold inpL at hc
    split at hc
    · rename_i hu
      obtain rfl := Option.some.inj hc
      obtain ⟨b, off, y, ex, hb, hcell, hy1, hy2⟩ : VOK lay B F K w .inpp (a.eval x) := opnd_ok hE hg (fun _ _ => trivial) hx'
      have hcell' : w.cell? ⟨b, off, none⟩ = some (.int .u8 y) := (hT.froz ⟨b, off, none⟩ hb).trans hcell
      have hvok : TOK lay B F K w (.one (.val false [.int .u8 0 255])) (.int .u8 y) := vok_int (F := F) hy1 hy2
      refine does_same (F := F) hT (v := .int .u8 y) ?_ hvok (rangeS_ok (lay := lay) (B := B) (F := F) (K := K) (w' := w) hlim fun d' hd t' ht => ?_)
      · unfold execOp
        simp only [ho, ex]
        have hagg : (isAgg t).run P w = .ok false w := by
          unfold isAgg
          rw [Sem.run_bind, run_underlying hu w]
          rfl
        simp [Instr.loadAt, Instr.sureAddr, loadVar, hagg, hcell']
      · obtain rfl := Option.some.inj ht
        rw [hd, eval_put_eq _ (hnd d' hd)]
        exact hvok
    · cases hc
  · cases hx
theorem cut_ok (hT : Typed lay B K w) (hE : EOK lay B F K w (fun _ => True) Γ a) (hg : GH a g) (hfs : FsOK γ a w fs) (hnd : ∀ d, o.dst = some d → (∀ f ∈ fs, d ∉ f.ments) ∧ d < a.tmps.size) (hne : opsNe o = true) {t : TypeId} {x : Operand} {lo hi mx : Option Operand} (ho : o.op = .slice t x lo hi mx) {out : XOut} (hc : cutX P lay Γ fs g o.dst t x lo hi mx = some out) : DoesX P lay B F G γ K o a w out := by
  unfold cutX at hc
  split at hc
  · rename_i e j tl d hu htl hd
    split at hc
    · rename_i fr e' tr ie th hel hie hth
      split at hc
      · rename_i hcond
        obtain ⟨rfl, hsz, hbl, hbh, h0, h1, h2⟩ := hcond
        obtain rfl := Option.some.inj hc
        obtain ⟨t0, ht0, hel⟩ := Option.bind_eq_some_iff.1 hel
        obtain ⟨A, n, c, ex, hs, hfr, hnk⟩ := elemOfT_ok hel (opnd_ok hE hg (fun _ _ => trivial) ht0)
        have h0 := ent_ok hfs h0
        have h1 := ent_ok hfs h1
        have h2 := ent_ok hfs h2
        have e2 : (Tm.len (.t j)).den γ a = n := by simp only [Tm.den, Vr.ev]; rw [ex]; rfl
        rw [e2] at h2
        have hnc := hs.1
        obtain ⟨l, hl, el⟩ : ∃ l : Nat, tl.den γ a = (l : Int) ∧ ∀ y, lo = some y → ∃ k, a.eval y = .int k (l : Int) := by
          have h0' : 0 ≤ tl.den γ a := by simpa [Tm.den] using h0
          refine ⟨(tl.den γ a).toNat, by omega, fun y hy => ?_⟩
          subst hy
          have hbl' : boundOK Γ g (some y) = true := hbl
          unfold boundOK at hbl'
          dsimp only at hbl'
          split at hbl'
          · rename_i k lo1 hi1 hy'
            obtain ⟨p, ep, _⟩ := (opnd_ok hE hg (fun _ _ => trivial) hy').int
            have : tl.den γ a = p := by rw [tmOf_den htl, ep]; rfl
            exact ⟨k, by rw [ep]; congr 1; omega⟩
          · cases hbl'
        obtain ⟨h, hh, eh⟩ : ∃ h : Nat, th.den γ a = (h : Int) ∧ (∀ y, hi = some y → ∃ k, a.eval y = .int k (h : Int)) ∧ (hi = none → h = n) := by
          have h0' : 0 ≤ th.den γ a := by have : 0 ≤ tl.den γ a := by simpa [Tm.den] using h0
                                          omega
          refine ⟨(th.den γ a).toNat, by omega, fun y hy => ?_, fun hn => ?_⟩
          · subst hy
            unfold boundOK at hbh
            dsimp only at hbh
            split at hbh
            · rename_i k lo1 hi1 hy'
              obtain ⟨p, ep, _⟩ := (opnd_ok hE hg (fun _ _ => trivial) hy').int
              have : th.den γ a = p := by rw [tmOf_den hth, ep]; rfl
              exact ⟨k, by rw [ep]; congr 1; omega⟩
            · cases hbh
          · subst hn
            obtain rfl : Tm.len (.t j) = th := by simpa [hiTm] using hth
            omega
        have hlh : l ≤ h := by omega
        have hhn : h ≤ n := by omega
        have hrun : (execOp a.eval o).run P w = .ok (.value (.slice (if c = l then A else A.map (·.add (l * (lay e').length))) (h - l) (c - l))) w := by
          have hhc : h ≤ c := by omega
          have hhl : l ≤ h := by omega
          have hh0 : ¬ c < h := by omega
          have hl0 : ¬ h < l := by omega
          unfold execOp
          rw [ho]
          dsimp only
          cases lo with
          | none =>
            obtain rfl : l = 0 := by
              obtain rfl : Tm.c 0 = tl := by simpa [loTm] using htl
              simp only [Tm.den] at hl
              omega
            cases hi with
            | none =>
              obtain rfl := eh.2 rfl
              simp [Instr.sliceAt, Instr.slice, Instr.sliceBounds, run_underlying hu, ex, sizeOf, typeInfo, hie, hsz]
            | some y =>
              obtain ⟨k, ey⟩ := eh.1 y rfl
              simp [Instr.sliceAt, Instr.slice, Instr.sliceBounds, Instr.sliceBound, asIntOf, run_underlying hu, ex, ey, sizeOf, typeInfo, hie, hsz, hhc, hh0]
          | some z =>
            obtain ⟨k', ez⟩ := el z rfl
            cases hi with
            | none =>
              obtain rfl := eh.2 rfl
              simp [Instr.sliceAt, Instr.slice, Instr.sliceBounds, Instr.sliceBound, asIntOf, run_underlying hu, ex, ez, sizeOf, typeInfo, hie, hsz, hhl, hl0]
            | some y =>
              obtain ⟨k, ey⟩ := eh.1 y rfl
              simp [Instr.sliceAt, Instr.slice, Instr.sliceBounds, Instr.sliceBound, asIntOf, run_underlying hu, ex, ey, ez, sizeOf, typeInfo, hie, hsz, hhc, hh0, hhl, hl0]
        have hsl : SlOK lay B w e' (if c = l then A else A.map (·.add (l * (lay e').length))) (h - l) (c - l) := (hs.take hhn).drop hlh
        have hfr' : FreshA F A → FreshA F (if c = l then A else A.map (·.add (l * (lay e').length))) := fun hf ad ha => by
          split at ha
          · exact hf ad ha
          · cases A with
            | none => cases ha
            | some a0 =>
              obtain rfl := Option.some.inj ha
              have := hf a0 rfl
              simp only [Addr.add]
              split <;> exact this
        have hblk : ∀ ad, (if c = l then A else A.map (·.add (l * (lay e').length))) = some ad → ∃ x, A = some x ∧ x.block = ad.block := fun ad ha => by
          split at ha
          · exact ⟨ad, ha, rfl⟩
          · cases A with
            | none => cases ha
            | some a0 =>
              obtain rfl := Option.some.inj ha
              refine ⟨a0, rfl, ?_⟩
              simp only [Addr.add]
              split <;> rfl
        have evd : ∀ u, (a.put o.dst u).eval (.tmp d) = u := fun u => by rw [hd]; exact eval_put_eq u (hnd d hd).2
        have hjd : j ≠ d := ne_of hne hd (by simp [ho, Op.operands])
        have hins : ∀ p : Value → Prop, (lay e').length = 1 → InsAt w A n p → InsAt w (if c = l then A else A.map (·.add (l * (lay e').length))) (h - l) p := fun p h1 hp j hj => by
          obtain ⟨b, off, u, e1, e2, e3⟩ := hp (l + j) (by omega)
          rw [if_neg (by omega), h1, Nat.mul_one]
          refine ⟨b, off + l, u, ?_, by rw [Nat.add_assoc]; exact e2, e3⟩
          rw [e1]
          simp [Addr.add]
        generalize (if c = l then A else A.map (·.add (l * (lay e').length))) = A' at hrun hsl hfr' hblk hins
        have dj : lenOf ((a.put o.dst (.slice A' (h - l) (c - l))).eval (.tmp j)) = n := by
          rw [hd, eval_put_ne _ hjd, ex]; rfl
        have hdv : lenOf ((a.put o.dst (.slice A' (h - l) (c - l))).eval (.tmp d)) = ((h - l : Nat) : Int) := by rw [evd]; rfl
        have dtm : ∀ {y : Operand} {s : Tm}, tmOf y = some s → (∀ i, y = .tmp i → i ≠ d) → s.den γ (a.put o.dst (.slice A' (h - l) (c - l))) = s.den γ a := fun hs hi => by
          rw [hd]; exact tm_put _ (tmOf_ne hs hi)
        have lz : lo = none → l = 0 := fun h0 => by
          subst h0
          obtain rfl : Tm.c 0 = tl := by simpa [loTm] using htl
          simp only [Tm.den] at hl
          omega
        have cut1 : FsOK γ (a.put o.dst (.slice A' (h - l) (c - l))) w (cut1F d j lo hi) := by
          cases lo with
          | none =>
            have l0 := lz rfl
            cases hi with
            | none =>
              have hn := eh.2 rfl
              refine eqs_ok ?_
              simp only [Tm.den, Vr.ev, hdv, dj]
              omega
            | some y =>
              have hth' : tmOf y = some th := hth
              unfold cut1F
              dsimp only
              rw [hth']
              dsimp only
              refine eqs_ok ?_
              rw [dtm hth' fun i hi => ne_of hne hd (by simp [ho, Op.operands, hi]), hh]
              simp only [Tm.den, Vr.ev, hdv]
              omega
          | some y =>
            cases hi with
            | some z => exact .nil
            | none =>
              have hn := eh.2 rfl
              have htl' : tmOf y = some tl := htl
              unfold cut1F
              dsimp only
              rw [htl']
              have e5 := dtm htl' fun i hi => ne_of hne hd (by simp [ho, Op.operands, hi])
              have fin : FsOK γ (a.put o.dst (.slice A' (h - l) (c - l))) w [.sum (.len (.t d)) tl (.len (.t j)), .le (.len (.t d)) (.len (.t j)) 0] := by
                refine .cons ?_ (.cons ?_ .nil)
                · show (Tm.len (.t d)).den γ _ + tl.den γ _ = (Tm.len (.t j)).den γ _
                  rw [e5, hl]
                  simp only [Tm.den, Vr.ev, hdv, dj]
                  omega
                · show (Tm.len (.t d)).den γ _ ≤ (Tm.len (.t j)).den γ _ + 0
                  simp only [Tm.den, Vr.ev, hdv, dj]
                  omega
              cases tl with
              | c c1 =>
                dsimp only
                simp only [Tm.den] at hl
                refine eqs_ok ?_
                simp only [Tm.den, Vr.ev, hdv, dj]
                omega
              | _ => exact fin
        have cut2 : FsOK γ (a.put o.dst (.slice A' (h - l) (c - l))) w (if fr = true then apsOf fs d j else []) := by
          cases fr with
          | false => exact .nil
          | true =>
            intro f hf
            rw [if_pos rfl] at hf
            obtain ⟨g1, hg1, he⟩ := List.mem_filterMap.1 hf
            split at he
            · rename_i i p
              split at he
              · rename_i hii
                subst hii
                obtain rfl := Option.some.inj he
                have hok := (fa_put (w := w) (γ := γ) (a := a) (d := d) (.slice A' (h - l) (c - l)) ((hnd d hd).1 _ hg1)).2 (hfs _ hg1)
                rw [← hd] at hok
                obtain ⟨A3, n3, c3, b3, e1, e2', e3, e4⟩ := hok
                obtain rfl : A3 = A := by rw [hd, eval_put_ne _ hjd, ex] at e1; simp at e1; exact e1.1.symm
                refine ⟨_, _, _, b3, evd _, e2', fun ad ha => ?_, e4⟩
                obtain ⟨x, hx, hxb⟩ := hblk ad ha
                rw [← hxb]
                exact e3 x hx
              · cases he
            · cases he
        have cut3 : FsOK γ (a.put o.dst (.slice A' (h - l) (c - l))) w (if (Nat.beq (lay e').length 1) && hasE fs then eltsOf fs d j ++ apxOf fs d j else []) := by
          split
          · rename_i hone
            simp only [Bool.and_eq_true] at hone
            have hone := Nat.eq_of_beq_eq_true hone.1
            have kp : ∀ i, i ≠ d → (a.put o.dst (.slice A' (h - l) (c - l))).eval (.tmp i) = a.eval (.tmp i) := fun i hi => by rw [hd]; exact eval_put_ne _ hi
            refine .app (fun f hf => ?_) fun f hf => ?_
            · obtain ⟨g1, hg1, he⟩ := List.mem_filterMap.1 hf
              split at he
              · rename_i i t1 c1
                split at he
                · rename_i hi2
                  obtain rfl := Nat.eq_of_beq_eq_true hi2
                  obtain rfl := Option.some.inj he
                  intro A3 n3 c3 h3
                  obtain ⟨rfl, rfl, rfl⟩ : A' = A3 ∧ h - l = n3 ∧ c - l = c3 := by simpa using (evd _).symm.trans h3
                  rw [show t1.den γ (a.put o.dst (.slice A' (h - l) (c - l))) = t1.den γ a by rw [hd]; exact tm_put _ fun hm => (hnd d hd).1 _ hg1 (by simp [Fa.ments, hm])]
                  exact hins _ hone (hfs _ hg1 _ _ _ ex)
                · cases he
              · cases he
            · obtain ⟨g1, hg1, he⟩ := List.mem_filterMap.1 hf
              split at he
              · rename_i i j2
                obtain ⟨A1, n1, c1, A2, n2, c2, f1, f2, f3, f4⟩ := hfs _ hg1
                have hid : i ≠ d := fun e => (hnd d hd).1 _ hg1 (by simp [Fa.ments, e])
                have hj2 : j2 ≠ d := fun e => (hnd d hd).1 _ hg1 (by simp [Fa.ments, e])
                split at he
                · rename_i hi2
                  obtain rfl := Nat.eq_of_beq_eq_true hi2
                  obtain rfl := Option.some.inj he
                  rw [ex] at f1
                  obtain ⟨rfl, _, _⟩ : A = A1 ∧ n = n1 ∧ c = c1 := by simpa using f1
                  refine ⟨_, _, _, A2, n2, c2, evd _, (kp j2 hj2).trans f2, fun x y hx hy => ?_, f4⟩
                  obtain ⟨z, hz, hzb⟩ := hblk x hx
                  rw [← hzb]; exact f3 z y hz hy
                · split at he
                  · rename_i hi2
                    obtain rfl := Nat.eq_of_beq_eq_true hi2
                    obtain rfl := Option.some.inj he
                    rw [ex] at f2
                    obtain ⟨rfl, _, _⟩ : A = A2 ∧ n = n2 ∧ c = c2 := by simpa using f2
                    refine ⟨A1, n1, c1, _, _, _, (kp i hid).trans f1, evd _, fun x y hx hy => ?_, fun y hy => ?_⟩
                    · obtain ⟨z, hz, hzb⟩ := hblk y hy
                      rw [← hzb]; exact f3 x z hx hz
                    · obtain ⟨z, hz, hzb⟩ := hblk y hy
                      rw [← hzb]; exact f4 z hz
                  · cases he
              · cases he
          · exact .nil
        exact does_same (F := F) hT hrun (hnk _ _ _ hsl (by omega) hfr') (plain_ok (.app cut1 (.app cut2 cut3)))
      · cases hc
    · cases hc
  · cases hc
end
end Go.Tz
/-
  An operation with facts runs. Plain laws.
-/
namespace Go.Tz
open Go.Rp Go.RowKit

section
variable {P : Program} {lay : Lay} {els : List (TypeId × TypeId × Nat)} {Fs : FuncId → Option Sg} {Xs : FuncId → Option Sx} {B F : Nat} {K K' : Bounds} {γ : Nat → Int} {a : Act} {w w' : World} {Γ : Env} {R : Rs} {fs : List Fa} {g : Gd} {o : Oper} {v : Value} {G : FuncId → Bounds → Bounds}
theorem make_ok (hT : Typed lay B K w) (hF : F ≤ w.heap.size) (hlim : ∀ e, K e ≤ LIM) (hE : EOK lay B F K w (fun _ => True) Γ a) (hg : GH a g) (hfs : FsOK γ a w fs) (hnd : ∀ d, o.dst = some d → (∀ f ∈ fs, d ∉ f.ments) ∧ d < a.tmps.size) (hne : opsNe o = true) {t : TypeId} {n c : Operand} (ho : o.op = .makeSlice t n c) {out : XOut} (hc : makeX P lay Γ fs g o.dst t n c = some out) : DoesX P lay B F G γ K o a w out := by
  unfold makeX at hc
  split at hc
  · rename_i e tn d k lo hi i i' hu hd htn hni
    split at hc
    · rename_i ie hie
      split at hc
      · rename_i z hz
        split at hc
        · rename_i zs hzs
          split at hc
          · rename_i hcond
            obtain ⟨rfl, hsub, hsz, hpos, hby, h0, hb⟩ := hcond
            obtain rfl := Option.some.inj hc
            obtain ⟨j, hj⟩ := Option.isSome_iff_exists.1 hb
            obtain ⟨p, ep, _⟩ := (opnd_ok hE hg (fun _ _ => trivial) hni).int
            have hden : tn.den γ a = p := by rw [tmOf_den htn, ep]; rfl
            have h0 := ent_ok hfs h0
            have hup := absB_ok hE hlim (relaxN_ok (w := w) hfs 3 (s := tn) (ds := [(tn, 0)]) (fun y hy => by obtain rfl := List.mem_singleton.1 hy; simp)) hj
            have h00 : (Tm.c 0).den γ a = 0 := rfl
            rw [hden] at h0 hup
            rw [h00] at h0
            simp only [LIM] at hup
            obtain ⟨q, rfl⟩ : ∃ q : Nat, p = (q : Int) := ⟨p.toNat, by omega⟩
            have hq : q ≤ 68720476736 := by omega
            have hzr := (constCs_ok (lay := lay) (B := B) (K := K) (w := w) hzs).sub hsub
            have hzl : z.cells.size = (lay e).length := by have := hzr.1; simpa using this
            obtain ⟨arr, harr⟩ : ∃ arr, (Array.range (q * ie.size)).map (z.cells[· % z.cells.size]!) = arr := ⟨_, rfl⟩
            have harrs : arr.size = q * ie.size := by rw [← harr]; simp
            have hrow : RowOK lay B K w e arr := fun j u hu => by
              obtain ⟨hj, rfl⟩ := Array.getElem?_eq_some_iff.1 hu
              have hm : j % (lay e).length < (lay e).length := Nat.mod_lt _ (by omega)
              rw [List.getElem?_eq_getElem hm]
              subst harr
              simp only [Array.getElem_map, Array.getElem_range]
              have hm' : j % z.cells.size < z.cells.size := by rw [hzl]; exact hm
              rw [getElem!_pos z.cells _ hm']
              refine hzr.2 (j % (lay e).length) _ _ (List.getElem?_eq_getElem hm) ?_
              rw [Array.getElem?_toList]
              simp only [hzl]
              exact Array.getElem?_eq_getElem _
            have hrun : (execOp a.eval o).run P w = .ok (.value (.slice (some ⟨w.heap.size, 0, none⟩) q q)) (w.alloc (.cells arr e)) := by
              have hbq : ie.bytes * q ≤ 200 * 68720476736 := Nat.mul_le_mul hby hq
              have hbi : ((ie.bytes : Int) * (q : Int)) = ((ie.bytes * q : Nat) : Int) := (Int.natCast_mul ..).symm
              have hw : IntKind.i64.wrap (q : Int) = (q : Int) := wrap_id (Int.le_trans (by decide) (Int.natCast_nonneg q)) (by simp [IntKind.max, IntKind.signed, IntKind.bits]; omega)
              have t1 : ¬ ((q : Int) < 0) := by omega
              have t2 : ¬ (281474976710656 < (ie.bytes : Int) * (q : Int)) := by omega
              have hz0 : (if q * ie.size = 0 then (pure #[] : Sem (Array Value)) else do pure (← zeroValue e).cells).run P w = .ok (if q * ie.size = 0 then #[] else z.cells) w := by
                split <;> simp [zeroValue, typeInfo, hie, hz]
              have harr2 : (Array.range (q * ie.size)).map ((if q * ie.size = 0 then #[] else z.cells)[· % (if q * ie.size = 0 then #[] else z.cells).size]!) = arr := by
                by_cases hq0 : q * ie.size = 0
                · rw [← harr]; simp [hq0]
                · rw [← harr]; simp [hq0]
              unfold execOp
              rw [ho]
              dsimp only
              simp [Instr.makeSlice, run_underlying hu, ep, asInt, asIntOf, typeInfo, hie, hw, t1, t2, sizeOf, newRow]
              rw [Sem.run_ite] at hz0
              first
                | (simp [zeroValue, typeInfo, hie, hz] at hz0 ⊢; split <;> simp_all; done)
                | (by_cases hq0 : q * ie.size = 0
                   · simp [hq0] at harr2 ⊢
                     simp_all
                   · simp [hq0, zeroValue, typeInfo, hie, hz]
                     rw [harr])
            have evd : (a.put o.dst (.slice (some ⟨w.heap.size, 0, none⟩) q q)).eval (.tmp d) = .slice (some ⟨w.heap.size, 0, none⟩) q q := by rw [hd]; exact eval_put_eq _ (hnd d hd).2
            intro next Q hq'
            refine wp_value hrun (hq' _ _ (fun t' ht => ?_) (hT.alloc _ _ hrow) ((Below.refl F w).alloc hF _) (Keeps.alloc w _) (by simp) (plain_ok (.app ?_ ?_)) fun ad had => World.cell?_alloc_lt w _ ad had)
            · obtain rfl := Option.some.inj ht
              refine ⟨_, q, q, rfl, SlOK.blk (Blk.new w e arr) hT.size q q (Nat.le_refl _) (by simp only [maxLen]; omega) (by rw [harrs, hsz]; exact Nat.le_refl _), fun ad ha => ?_⟩
              cases ha
              exact hF
            · refine eqs_ok ?_
              have e1 : tn.den γ (a.put o.dst (.slice (some ⟨w.heap.size, 0, none⟩) q q)) = tn.den γ a := by rw [hd]; exact tm_put _ (tmOf_ne htn fun i hi => ne_of hne hd (by simp [ho, Op.operands, hi]))
              rw [e1, hden]
              simp only [Tm.den, Vr.ev]
              rw [evd]
              simp [lenOf]
            · refine boxesOf_aps (w := w) (by simp) (fun f hf => ?_) evd fun ad ha => ?_
              · rw [hd]; exact (fa_put _ ((hnd d hd).1 f hf)).2 (hfs f hf)
              · cases ha; exact Nat.le_refl _
          · cases hc
        · cases hc
      · cases hc
    · cases hc
  · cases hc
theorem build2_ok (hT : Typed lay B K w) (hF : F ≤ w.heap.size) (hE : EOK lay B F K w (fun _ => True) Γ a) (hg : GH a g) (hfs : FsOK γ a w fs) (hnd : ∀ d, o.dst = some d → (∀ f ∈ fs, d ∉ f.ments) ∧ d < a.tmps.size) {t : TypeId} {parts : Array (Nat × Operand)} (ho : o.op = .buildSlice t 2 parts) {out : XOut} (hc : build2X P lay Γ fs g o.dst t parts.toList = some out) : DoesX P lay B F G γ K o a w out := by
  unfold build2X at hc
  split at hc
  · rename_i e d hu hd
    split at hc
    · rename_i ie hie
      split at hc
      · rename_i z ps hz hps
        split at hc
        · rename_i zs hzs
          split at hc
          · rename_i r hr
            split at hc
            · rename_i hcond
              obtain ⟨hsz, hpos, hle, hsub, hzl⟩ := hcond
              obtain rfl := Option.some.inj hc
              have hp := partsT_ok hE hg (fun i hi => trivial) hps
              have hzr := constCs_ok (lay := lay) (B := B) (K := K) (w := w) hzs
              have hzL : z.cells.size = zs.length := by have := hzr.1; simpa using this
              have hz0 : ((Array.range (2 * ie.size)).map (z.cells[· % z.cells.size]!)).toList = z.cells.toList ++ z.cells.toList := by
                apply List.ext_getElem
                · simp; omega
                · intro i h1 h2
                  simp at h1
                  simp only [Array.toList_map, List.getElem_map, Array.getElem_toList, Array.getElem_range]
                  rw [getElem!_pos z.cells _ (Nat.mod_lt _ (by omega))]
                  rw [List.getElem_append]
                  split
                  · rename_i hi
                    simp at hi
                    simp [Nat.mod_eq_of_lt hi]
                  · rename_i hi
                    simp at hi
                    simp only [Array.length_toList, Array.getElem_toList]
                    congr 1
                    rw [Nat.mod_eq_sub_mod hi, Nat.mod_eq_of_lt (by omega)]
              have hofs : Ofs lay B K w (zs ++ zs) ((Array.range (2 * ie.size)).map (z.cells[· % z.cells.size]!)).toList := by
                rw [hz0]
                refine ⟨by simp; omega, fun j c u hc hu => ?_⟩
                rw [List.getElem?_append] at hc hu
                have hl : z.cells.toList.length = zs.length := hzr.1
                rw [hl] at hu
                split at hc
                · rename_i hj
                  rw [if_pos hj] at hu
                  exact hzr.2 j c u hc hu
                · rename_i hj
                  rw [if_neg hj] at hu
                  exact hzr.2 _ c u hc hu
              obtain ⟨cells, h1, h2⟩ := fill_ok hp hofs hr
              have hrow2 := h2.sub hsub
              have hcl : cells.size = 2 * (lay e).length := by have := hrow2.1; simp at this; omega
              have hrow : RowOK lay B K w e cells := fun j u hu => by
                obtain ⟨hj, rfl⟩ := Array.getElem?_eq_some_iff.1 hu
                have hm : j % (lay e).length < (lay e).length := Nat.mod_lt _ (by omega)
                rw [List.getElem?_eq_getElem hm]
                refine hrow2.2 j _ _ ?_ (by simp [hj])
                rw [List.getElem?_append]
                split
                · rename_i hlt
                  rw [List.getElem?_eq_getElem hlt]
                  simp [Nat.mod_eq_of_lt hlt]
                · rename_i hge
                  have hlt : j - (lay e).length < (lay e).length := by omega
                  rw [List.getElem?_eq_getElem hlt]
                  congr 1
                  have : j % (lay e).length = j - (lay e).length := by rw [Nat.mod_eq_sub_mod (by omega), Nat.mod_eq_of_lt hlt]
                  simp [this]
              have hrun := run_buildSlice (P := P) w t e 2 (parts.map fun (i, x) => (i, a.eval x)) cells ie z hu hie hz (by omega) (by omega) (by rw [Array.toList_map]; exact h1)
              have hx : (execOp a.eval o).run P w = .ok (.value (.slice (some ⟨w.heap.size, 0, none⟩) 2 2)) (w.alloc (.cells cells e)) := by
                unfold execOp
                simp only [ho, Sem.run_bind, hrun, Result.andThen_ok]
                rfl
              intro next Q hq'
              have evd : (a.put o.dst (.slice (some ⟨w.heap.size, 0, none⟩) 2 2)).eval (.tmp d) = .slice (some ⟨w.heap.size, 0, none⟩) 2 2 := by rw [hd]; exact eval_put_eq _ (hnd d hd).2
              refine wp_value hx (hq' _ _ (fun t' ht => ?_) (hT.alloc _ _ hrow) ((Below.refl F w).alloc hF _) (Keeps.alloc w _) (by simp) (plain_ok (.app (eqs_ok ?_) ?_)) (fun ad had => World.cell?_alloc_lt w _ ad had))
              · obtain rfl := Option.some.inj ht
                refine ⟨_, 2, 2, rfl, SlOK.blk (Blk.new w e cells) hT.size 2 2 (Nat.le_refl _) (by simp [maxLen]) (by omega), fun a ha => ?_, by simp⟩
                cases ha; exact hF
              · simp only [Tm.den, Vr.ev]
                rw [evd]
                simp [lenOf]
              · refine boxesOf_aps (w := w) (by simp) (fun f hf => ?_) evd fun ad ha => ?_
                · rw [hd]; exact (fa_put _ ((hnd d hd).1 f hf)).2 (hfs f hf)
                · cases ha; exact Nat.le_refl _
            · cases hc
          · cases hc
        · cases hc
      · cases hc
    · cases hc
  · cases hc
theorem c3_den {xs : List Operand} {n : Nat} {s : C3} {t : Tm} (h : s.tm xs none 0 = some t) : t.den γ a = s.den (xs.map a.eval) 0 undef := by
  cases s with
  | k x => obtain rfl := Option.some.inj h; rfl
  | av i =>
    obtain ⟨y, hy, ht⟩ := Option.bind_eq_some_iff.1 h
    rw [tmOf_den ht]
    simp [C3.den, List.getD, hy]
  | al i =>
    obtain ⟨y, hy, ht⟩ := Option.bind_eq_some_iff.1 h
    simp only [C3.den, List.getD, List.getElem?_map, hy, Option.map_some, Option.getD_some]
    unfold lenTm at ht
    split at ht
    · obtain rfl := Option.some.inj ht; rfl
    · obtain rfl := Option.some.inj ht; rfl
    · cases ht
  | af i j =>
    simp only [C3.tm] at h
    split at h
    · rename_i p hy
      obtain rfl := Option.some.inj h
      simp only [C3.den, List.getD, List.getElem?_map, hy, Option.map_some, Option.getD_some]
      rfl
    · cases h
  | ov i => simp [C3.tm] at h
  | ol i => simp [C3.tm] at h
  | of_ i j => simp [C3.tm] at h
theorem preT_ok (hfs : FsOK γ a w fs) {xs : List Operand} : ∀ {pre : List (C3 × C3 × Int)}, preT fs xs pre = true → PreOK (xs.map a.eval) pre
  | [], _, x, hx => by cases hx
  | (s, t, c) :: ps, h, x, hx => by
    unfold preT at h
    simp only [Bool.and_eq_true] at h
    obtain ⟨h1, h2⟩ := h
    rcases List.mem_cons.1 hx with rfl | hx
    · split at h1
      · rename_i s' t' hs ht
        have := ent_ok hfs h1
        rw [c3_den (n := 0) hs, c3_den (n := 0) ht] at this
        exact this
      · cases h1
    · exact preT_ok hfs h2 x hx
theorem c3_den2 {xs : List Operand} {d : Option Nat} {n : Nat} {s : C3} {t : Tm} (h : s.tm xs d n = some t) (hd : ∀ d', d = some d' → (a.put d v).eval (.tmp d') = v) (hx : ∀ x ∈ xs, (a.put d v).eval x = a.eval x) : t.den γ (a.put d v) = s.den (xs.map a.eval) n v := by
  cases s with
  | k x => obtain rfl := Option.some.inj h; rfl
  | av i =>
    obtain ⟨y, hy, ht⟩ := Option.bind_eq_some_iff.1 h
    rw [tmOf_den ht, hx y (List.mem_of_getElem? hy)]
    simp [C3.den, List.getD, hy]
  | al i =>
    obtain ⟨y, hy, ht⟩ := Option.bind_eq_some_iff.1 h
    simp only [C3.den, List.getD, List.getElem?_map, hy, Option.map_some, Option.getD_some]
    have hxy := hx y (List.mem_of_getElem? hy)
    unfold lenTm at ht
    split at ht
    · obtain rfl := Option.some.inj ht; rw [← hxy]; rfl
    · obtain rfl := Option.some.inj ht; rfl
    · cases ht
  | af i j =>
    simp only [C3.tm] at h
    split at h
    · rename_i p hy
      obtain rfl := Option.some.inj h
      simp only [C3.den, List.getD, List.getElem?_map, hy, Option.map_some, Option.getD_some]
      rw [← hx _ (List.mem_of_getElem? hy)]
      rfl
    · cases h
  | ov i =>
    obtain ⟨d', rfl, rfl⟩ := Option.map_eq_some_iff.1 h
    have := hd d' rfl
    simp only [Tm.den, C3.den, outAt]
    split <;> simp only [Vr.ev, this]
  | ol i =>
    obtain ⟨d', rfl, rfl⟩ := Option.map_eq_some_iff.1 h
    have := hd d' rfl
    simp only [Tm.den, C3.den, outAt]
    split <;> simp only [Vr.ev, this]
  | of_ i j =>
    obtain ⟨d', rfl, rfl⟩ := Option.map_eq_some_iff.1 h
    have := hd d' rfl
    simp only [Tm.den, C3.den, outAt]
    split <;> simp only [Vr.ev, this]
theorem postT_ok {xs : List Operand} {d : Option Nat} {n : Nat} (hd : ∀ d', d = some d' → (a.put d v).eval (.tmp d') = v) (hx : ∀ x ∈ xs, (a.put d v).eval x = a.eval x) : ∀ {post : List (Option Bool × C3 × C3 × Int)}, PostOK (xs.map a.eval) n v post → RsOK γ (a.put d v) w (postT xs d n post)
  | [], _ => .nil
  | (b, s, t, c) :: ps, h => by
    unfold postT
    refine .app ?_ (postT_ok hd hx fun x hx => h x (List.mem_cons_of_mem _ hx))
    have h0 := h _ (List.mem_cons_self ..)
    split
    · rename_i s' t' hs ht
      refine .cons (fun _ => ?_) .nil
      have := h0 (fun b hb => by cases hb)
      show s'.den γ _ ≤ t'.den γ _ + c
      rw [c3_den2 hs hd hx, c3_den2 ht hd hx]
      exact this
    · rename_i s' t' b' d' hs ht
      refine .cons (fun hh => ?_) .nil
      have h1 := hh _ (List.mem_singleton.2 rfl)
      simp only at h1
      rw [hd d' rfl] at h1
      have := h0 (fun b hb => by obtain rfl := Option.some.inj hb; exact h1)
      show s'.den γ _ ≤ t'.den γ _ + c
      rw [c3_den2 hs hd hx, c3_den2 ht hd hx]
      exact this
    · exact .nil
theorem zero_ok (hel : ∀ p ∈ els, Elem lay P p.1 p.2.1 p.2.2) (hT : Typed lay B K w) (hBF : B ≤ F) (hF : F ≤ w.heap.size) (hlim : ∀ e, K e ≤ LIM) (hE : EOK lay B F K w (fun _ => True) Γ a) (hg : GH a g) (hfs : FsOK γ a w fs) (hnd : ∀ d, o.dst = some d → (∀ f ∈ fs, d ∉ f.ments) ∧ d < a.tmps.size) (hne : opsNe o = true) {args : Array Operand} {ats : Array TypeId} (ho : o.op = .call ⟨.builtin .append, args, ats⟩) {out : XOut} (hc : zeroX P els Γ fs g o.dst args.toList ats.toList = some out) : DoesX P lay B F G γ K o a w out := by
  unfold zeroX at hc
  split at hc
  · rename_i i j t tx d hargs hats hd
    have hargs := arr_of hargs
    have hats := arr_of hats
    subst hargs hats
    split at hc
    · rename_i ti k lo hi p1 e by_ hti htj hu hf
      have hmem := List.mem_of_find?_eq_some hf
      have hp : p1 = t := by have := List.find?_some hf; exact Nat.eq_of_beq_eq_true this
      subst hp
      split at hc
      · rename_i b jj hax
        split at hc
        · rename_i hcond
          obtain ⟨hjj, hby, h1, h2⟩ := hcond
          obtain rfl := Option.some.inj hc
          obtain ⟨A, n, c, ex, hs, hfr, hn⟩ := asFresh_ok hax (opnd_ok hE hg (fun _ _ => trivial) hti)
          obtain ⟨p, ep, _⟩ := (opnd_ok hE hg (fun _ _ => trivial) htj).int
          have h1 := ent_ok hfs h1
          have h2 := ent_ok hfs h2
          have ej : (Tm.val (.t j)).den γ a = p := by simp only [Tm.den, Vr.ev]; rw [ep]; rfl
          rw [ej] at h1 h2
          simp only [Tm.den] at h1 h2
          obtain ⟨m, rfl⟩ : ∃ m : Nat, p = (m : Int) := ⟨p.toNat, by omega⟩
          have hKe := hlim e
          simp only [LIM] at hKe
          have hnm : n + m ≤ 68719476736 + 206158430208 + 1000 := by cases b <;> simp at hn <;> omega
          have hby2 : (n + m) * by_ ≤ 140737488355328 := Nat.le_trans (Nat.mul_le_mul hnm hby) (by decide)
          obtain ⟨A', c', w', hrun, r1, r2, r3, r4, r5, _⟩ := run_zeros_ty (P := P) (w := w) (F := F) (bytes := by_) o.type (hel _ hmem) hu hT hs hfr hF hBF (m := m) (by omega) (by omega) (by omega) (by simp only [maxLen]; omega) hby2
          have hx : (execOp a.eval o).run P w = .ok (.value (.slice A' (n + m) c')) w' := by
            unfold execOp
            simp only [ho, resolve, invoke, builtin, Sem.run_bind, Sem.run_pure, Result.andThen_ok, List.map_toArray, List.map_cons, List.map_nil, ex, ep, hrun]
          intro next Q hq
          refine wp_value hx (hq _ _ (fun t' ht => ?_) r3 r4 r5 r4.size (plain_ok fun f hf => ?_) trivial)
          · obtain rfl := Option.some.inj ht
            exact ⟨A', _, c', rfl, r1, r2⟩
          · obtain ⟨h, hh, hf⟩ := List.mem_flatMap.1 hf
            split at hf
            · rename_i s t u
              split at hf
              · rename_i hc2
                obtain rfl := List.mem_singleton.1 hf
                have e1 := ent_ok hfs hc2.1
                have e2 := ent_ok hfs hc2.2
                have e3 : s.den γ a + t.den γ a = u.den γ a := hfs _ hh
                rw [ej] at e1
                have e4 : (Tm.len (.t i)).den γ a = n := by simp only [Tm.den, Vr.ev]; rw [ex]; rfl
                rw [e4] at e2
                show (Tm.len (.t d)).den γ _ ≤ u.den γ _ + 0
                have hdu : d ∉ u.ments := fun hm => (hnd d hd).1 _ hh (by simp [Fa.ments, hm])
                have e5 : u.den γ (a.put o.dst (.slice A' (n + m) c')) = u.den γ a := by rw [hd]; exact tm_put _ hdu
                have e6 : (Tm.len (.t d)).den γ (a.put o.dst (.slice A' (n + m) c')) = ((n + m : Nat) : Int) := by
                  simp only [Tm.den, Vr.ev]
                  rw [hd, eval_put_eq _ (hnd d hd).2]
                  rfl
                rw [e5, e6]
                omega
              · cases hf
            · cases hf
        · cases hc
      · cases hc
    · cases hc
  · cases hc
theorem frsT_ok (hγ : γ 999 = (F : Int)) (hF : F ≤ w.heap.size) {d : Option Nat} {n : Nat} (hd : ∀ d', d = some d' → (a.put d v).eval (.tmp d') = v) {l : List (Nat × Nat)} (h : FrsOK w n v l) : FsOK γ (a.put d v) w' (frsT d n l) := by
  unfold frsT
  split
  · rename_i d'
    intro f hf
    obtain ⟨x, hx, rfl⟩ := List.mem_map.1 hf
    intro A m c ad h1 h2
    have h3 := h x hx A m c ad (by
      rw [← h1]
      have := hd d' rfl
      unfold outAt
      split <;> simp only [Vr.ev, this]) h2
    omega
  · exact .nil
theorem elsT_ok {F' : Nat} {outs : List A0} {xs : List Operand} {d : Option Nat} {l : List (C3 × Int)} (hE : EOK lay B F K w (fun _ => True) Γ a) (hfs : FsOK γ a w fs) (hnd : ∀ d', d = some d' → (∀ f ∈ fs, d' ∉ f.ments) ∧ (∀ x ∈ Γ, x.1 ≠ d') ∧ d' < a.tmps.size)
    (hx : ∀ x ∈ xs, (a.put d v).eval x = a.eval x) (hv : TOK lay B F' K' w' (retT outs) v) (h : EltsOK (xs.map a.eval) outs.length w w' v l) (hsz : w.heap.size ≤ w'.heap.size) : FsOK γ (a.put d v) w' (elsT Γ fs xs d outs l) := by
  unfold elsT
  split
  · rename_i d
    have hd : ∀ d', some d = some d' → (a.put (some d) v).eval (.tmp d') = v := fun d' e => by
      obtain rfl := Option.some.inj e
      exact eval_put_eq v (hnd d rfl).2.2
    split
    · rename_i hc
      simp only [Bool.and_eq_true, Bool.not_eq_true'] at hc
      obtain ⟨A, n, c, rfl, hlt⟩ := isSl_ok hc.1 hv
      have hnew : ∀ ad, A = some ad → w.heap.size ≤ ad.block := fun ad ha => by
        cases l with
        | nil => cases hc.2
        | cons x l => exact (h x (List.mem_cons_self ..) A n c rfl).2 ad ha
      refine .app (fun f hf => ?_) (.app ?_ fun f hf => ?_)
      · obtain ⟨x, hx1, hf⟩ := List.mem_flatMap.1 hf
        split at hf
        · rename_i t ht
          split at hf
          · cases hf
          · obtain rfl := List.mem_singleton.1 hf
            intro A3 n3 c3 h3
            obtain ⟨rfl, rfl, rfl⟩ : A = A3 ∧ n = n3 ∧ c = c3 := by simpa using (hd d rfl).symm.trans h3
            rw [c3_den2 ht hd hx]
            exact (h x hx1 A n c rfl).1
        · cases hf
      · refine boxesOf_aps (w := w) hsz (fun f hf => ?_) (hd d rfl) hnew
        exact (fa_put _ ((hnd d rfl).1 f hf)).2 (hfs f hf)
      · obtain ⟨i, hi, rfl⟩ := List.mem_map.1 hf
        obtain ⟨x, hxm, he⟩ := List.mem_filterMap.1 hi
        have fin : ∀ {t : AT}, x.2.1 = none → x.2.2 = t → isSl t = true → x.1 = i → (Fa.apx i d).ok γ (a.put (some d) (.slice A n c)) w' := fun {t} e1 e2 e3 e4 => by
          subst e4
          obtain ⟨A2, n2, c2, f1, f2⟩ := isSl_ok e3 (hE x.1 none t trivial (by rw [← e1, ← e2]; exact hxm) trivial)
          refine ⟨A2, n2, c2, A, n, c, ?_, hd d rfl, fun y z hy hz => ?_, hlt⟩
          · rw [eval_put_ne _ ((hnd d rfl).2.1 x hxm)]; exact f1
          · have := f2 y hy
            have := hnew z hz
            omega
        split at he
        · rename_i e1 e2; exact fin e1 e2 rfl (Option.some.inj he)
        · rename_i e1 e2; exact fin e1 e2 rfl (Option.some.inj he)
        · cases he
    · exact .nil
  · exact .nil
theorem callX_ok (hγ : γ 999 = (F : Int)) (hXs : ∀ f s, Xs f = some s → FnX P lay G f s) (hT : Typed lay B K w) (hF : F ≤ w.heap.size) (hE : EOK lay B F K w (fun _ => True) Γ a) (hg : GH a g) (hfs : FsOK γ a w fs) (hnd' : ∀ d, o.dst = some d → (∀ f ∈ fs, d ∉ f.ments) ∧ (∀ x ∈ Γ, x.1 ≠ d) ∧ d < a.tmps.size) (hne : opsNe o = true) {f : FuncId} {s : Sx} {args : Array Operand} {ats : Array TypeId} (ho : o.op = .call ⟨.value (.func f), args, ats⟩) (hs : Xs f = some s) {out : XOut} (hc : callX Γ fs g o.dst f s args.toList = some out) (hfit : ∀ e, den G out.2.1 K e ≤ LIM) : DoesX P lay B F G γ K o a w out := by
  unfold callX at hc
  split at hc
  · rename_i gr0 hgr
    split at hc
    · rename_i hpre
      obtain rfl := Option.some.inj hc
      have hnd : ∀ d, o.dst = some d → d < a.tmps.size := fun d hd => (hnd' d hd).2.2
      obtain ⟨h1, h2, h3⟩ := hXs f s hs
      obtain ⟨k1, k2⟩ := fitAs_ok (G := G) hE hg (fun _ _ => trivial) hgr
      have hGK : den G (if s.sg.flat = true then gr0 else gr0 ++ [.fn f]) K = G f (den G gr0 K) := by
        split
        · rename_i hfl; rw [h2 hfl]
        · rw [den_append]; rfl
      simp only at hfit
      rw [hGK] at hfit
      intro next Q hn
      simp only at hn
      rw [hGK] at hn
      have hx : (execOp a.eval o).run P w = .ok (.enter f (args.map a.eval)) w := by
        have e : execOp a.eval o = callFunc f (#[] ++ args.map a.eval ++ #[]) := by
          unfold execOp
          simp only [ho]
          rfl
        rw [e, h1]
        simp
      unfold Oper.wp
      rw [hx]
      refine (h3 B (den G gr0 K) w (args.map a.eval) hfit (hT.le k2) (by simpa using k1.from (Nat.zero_le _)) (by simpa using preT_ok hfs hpre)).mono ?_
      rintro e w' ⟨v, rfl, hv, hT2, hb, hpost, hfrs, helts⟩
      refine hn v w' (fun t ht => ?_) hT2 (hb.mono hF) (Keeps.below hb) hb.size (RsOK.app (postT_ok (fun d hd => ?_) (fun x hx => ?_) (by simpa using hpost)) (plain_ok (.app (frsT_ok hγ hF (fun d hd => ?_) hfrs) (elsT_ok hE hfs hnd' (fun x hx => ?_) hv (by simpa using helts) hb.size)))) fun ad had => hb.cell had
      · obtain rfl := Option.some.inj ht
        match hr : retT s.sg.outs, hv with
        | .one t, hv => exact VOK.from hv hF
        | .tup ts, ⟨vs, e1, e2⟩ => exact ⟨vs, e1, e2.from hF⟩
      · rw [hd]; exact eval_put_eq v (hnd d hd)
      · cases hd : o.dst with
        | none => rfl
        | some d => exact eval_op fun i hi => ne_of hne hd (by subst hi; simp [ho, Op.operands, Call.operands]; simpa using hx)
      · rw [hd]; exact eval_put_eq v (hnd d hd)
      · cases hd : o.dst with
        | none => rfl
        | some d => exact eval_op fun i hi => ne_of hne hd (by subst hi; simp [ho, Op.operands, Call.operands]; simpa using hx)
    · cases hc
  · cases hc
theorem opx_ok (hγ : γ 999 = (F : Int)) (hG : GOK G) (hFs : ∀ f s, Fs f = some s → FnOK P lay G f s) (hXs : ∀ f s, Xs f = some s → FnX P lay G f s) (hel : ∀ p ∈ els, Elem lay P p.1 p.2.1 p.2.2) (hT : Typed lay B K w) (hBF : B ≤ F) (hF : F ≤ w.heap.size) (hE : EOK lay B F K w (fun _ => True) Γ a) (hg : GH a g)
    (hR : ∀ x ∈ R, GsOK a x.1 → x.2.ok γ a w) (hlt : ∀ d, o.dst = some d → d < a.tmps.size) {out : XOut} (hc : chkX P lay els Fs Xs Γ R g o = some out) (hfit : ∀ e, den G out.2.1 K e ≤ LIM) : DoesX P lay B F G γ K o a w out := by
  have hlim : ∀ e, K e ≤ LIM := den_lim hG hfit
  have hgs : GsOK a (gl g) := by
    cases g with
    | none => intro x hx; cases hx
    | some d => intro x hx; obtain rfl := List.mem_singleton.1 hx; exact hg
  unfold chkX at hc
  dsimp only at hc
  have hRk : ∀ x ∈ killR o.dst R, GsOK a x.1 → x.2.ok γ a w := kill_ok hR
  have hfs : FsOK γ a w (act (killR o.dst R) (gl g)) := act_ok hRk hgs
  have hnm : ∀ d, o.dst = some d → ∀ f ∈ act (killR o.dst R) (gl g), d ∉ f.ments := fun d hd f hf => by
    unfold act at hf
    obtain ⟨x, hx, he⟩ := List.mem_filterMap.1 hf
    split at he
    · obtain rfl := Option.some.inj he
      have := kill_free hx
      rw [hd] at this
      simp only [freeOf, Bool.and_eq_true, Bool.not_eq_true'] at this
      exact memN_not this.1
    · cases he
  generalize act (killR o.dst R) (gl g) = fs at hc hfs hnm
  have hE1 : EOK lay B F K w (fun _ => True) (dropD Γ o.dst) a := by
    cases o.dst with
    | none => exact hE
    | some d => exact fun i g t hi hm hg => hE i g t hi (mem_dropE hm).1 hg
  have hE2 := refineE_ok hγ hlim hfs o.op.operands.toList hE1
  have hne_keys : opsNe o = true → ∀ d, o.dst = some d → ∀ x ∈ refineE fs o.op.operands.toList (dropD Γ o.dst), x.1 ≠ d := fun hne d hd => by
    refine refineE_keys _ (fun i hi => ne_of hne hd hi) ?_
    rw [hd]
    exact fun x hx => (mem_dropE (g := x.2.1) (t := x.2.2) hx).2.1
  generalize refineE fs o.op.operands.toList (dropD Γ o.dst) = Γ2 at hc hE2 hne_keys
  split at hc
  · rename_i hne
    have norm : (match chkOp P lay els Fs Γ2 g o with
        | some (rt, gr) => some (rt, gr, genF P Γ2 fs g o rt ++ rangeS o.dst rt ++ plain (genE lay els Γ2 fs g o rt), effF P Γ2 fs g o)
        | none => none) = some out → DoesX P lay B F G γ K o a w out := fun hc => by
      split at hc
      · rename_i rt gr hchk
        obtain rfl := Option.some.inj hc
        intro next Q hn
        refine op_ok hG hFs hel hT hBF hF hE2 hg (fun _ _ => trivial) hchk hfit next Q fun v w' hv hT' hb hk hi => ?_
        exact hn v w' hv hT' hb hk hb.size (RsOK.app (RsOK.app (gen_ok hγ (K' := den G gr K) hT hBF hE2 hg hchk hlim hi hv hfs (fun d hd => ⟨hnm d hd, hne_keys hne d hd, hlt d hd⟩) hne hb.size hF hel) (rangeS_ok (lay := lay) (B := B) (F := F) (K := den G gr K) (w' := w') hfit (fun d' hd t ht => by rw [hd, eval_put_eq v (hlt d' hd)]; exact hv t ht))) (plain_ok (genE_ok hT hBF hE2 hg hchk hlim hi hfs (fun d hd => ⟨hnm d hd, hne_keys hne d hd, hlt d hd⟩) hne hb.size hF hel))) (eff_ok hT hBF hF hel hE2 hg hchk hlim hi hfs)
      · cases hc
    split at hc
    · rename_i t x i ho
      cases hin : isInp Γ2 g x with
      | true => rw [hin] at hc; exact inp_ok hT hE2 hg hfs ho hc
      | false => rw [hin] at hc; exact idx_ok hγ hT hE2 hg hfs (fun d hd => ⟨hnm d hd, hlt d hd⟩) hne ho hc
    · rename_i t n parts ho
      cases hin : two n with
      | true =>
        rw [hin] at hc
        have hn2 : n = 2 := Nat.eq_of_beq_eq_true hin
        subst hn2
        exact build2_ok hT hF hE2 hg hfs (fun d hd => ⟨hnm d hd, hlt d hd⟩) ho hc
      | false => rw [hin] at hc; exact norm hc
    · rename_i xt x y yt ho
      cases hin : isTmp y with
      | true => rw [hin] at hc; exact rem_ok hT hE2 hg hfs ho hc
      | false => rw [hin] at hc; exact norm hc
    · rename_i t x ho
      cases hin : isInpp Γ2 g x with
      | true => rw [hin] at hc; exact inpL_ok hT hlim hE2 hg hlt hin ho hc
      | false => rw [hin] at hc; exact norm hc
    · rename_i t x lo hi mx ho
      exact cut_ok hT hE2 hg hfs (fun d hd => ⟨hnm d hd, hlt d hd⟩) hne ho hc
    · rename_i t n c ho
      exact make_ok hT hF hlim hE2 hg hfs (fun d hd => ⟨hnm d hd, hlt d hd⟩) hne ho hc
    · rename_i args ats ho
      split at hc
      · exact zero_ok hel hT hBF hF hlim hE2 hg hfs (fun d hd => ⟨hnm d hd, hlt d hd⟩) hne ho hc
      · exact norm hc
    · rename_i f args ats ho
      split at hc
      · rename_i s hs
        exact callX_ok hγ hXs hT hF hE2 hg hfs (fun d hd => ⟨hnm d hd, hne_keys hne d hd, hlt d hd⟩) hne ho hs hc hfit
      · exact norm hc
    · exact norm hc
  · cases hc
end
end Go.Tz
