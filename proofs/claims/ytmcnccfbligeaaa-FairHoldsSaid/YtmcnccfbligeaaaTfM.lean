/-
  What an operation lets know is so: the parts. Plain laws.
-/
import Derived.Test.YtmcnccfbligeaaaTfB
namespace Go.Tz
open Go.Rp Go.RowKit

section
variable {P : Program} {lay : Lay} {B F : Nat} {K : Bounds} {γ : Nat → Int} {a : Act} {w w' : World} {Γ : Env} {fs : List Fa} {d x : Nat}
def RsOK (γ : Nat → Int) (a : Act) (w : World) (R : Rs) : Prop := ∀ y ∈ R, GsOK a y.1 → y.2.ok γ a w
def FsOK (γ : Nat → Int) (a : Act) (w : World) (fs : List Fa) : Prop := ∀ f ∈ fs, f.ok γ a w
theorem FsOK.nil : FsOK γ a w [] := fun _ h => by cases h
theorem FsOK.cons {f : Fa} (h : f.ok γ a w) (hs : FsOK γ a w fs) : FsOK γ a w (f :: fs) := fun g hg => by
  rcases List.mem_cons.1 hg with rfl | hg
  · exact h
  · exact hs g hg
theorem FsOK.app {gs : List Fa} (h : FsOK γ a w fs) (hs : FsOK γ a w gs) : FsOK γ a w (fs ++ gs) := fun g hg => (List.mem_append.1 hg).elim (h g) (hs g)
theorem plain_ok (h : FsOK γ a w fs) : RsOK γ a w (plain fs) := fun y hy _ => by
  obtain ⟨f, hf, rfl⟩ := List.mem_map.1 hy
  exact h f hf
theorem RsOK.nil : RsOK γ a w [] := fun _ h => by cases h
theorem RsOK.cons {f : Gs × Fa} {R : Rs} (h : GsOK a f.1 → f.2.ok γ a w) (hs : RsOK γ a w R) : RsOK γ a w (f :: R) := fun g hg => by
  rcases List.mem_cons.1 hg with rfl | hg
  · exact h
  · exact hs g hg
theorem RsOK.app {R R' : Rs} (h : RsOK γ a w R) (hs : RsOK γ a w R') : RsOK γ a w (R ++ R') := fun g hg => (List.mem_append.1 hg).elim (h g) (hs g)
theorem eqs_ok {s t : Tm} {c : Int} (h : s.den γ a = t.den γ a + c) : FsOK γ a w (eqs s t c) := by
  refine .cons ?_ (.cons ?_ .nil)
  · show s.den γ a ≤ t.den γ a + c; omega
  · show t.den γ a ≤ s.den γ a + -c; omega
theorem copyV_ok {v u : Vr} (c : CT) (h : v.ev a = u.ev a) : FsOK γ a w (copyV v u c) := by
  cases c <;> simp only [copyV]
  · exact eqs_ok (by simp [Tm.den, h])
  · exact .nil
  · exact eqs_ok (by simp [Tm.den, h])
  · exact eqs_ok (by simp [Tm.den, h])
  · exact eqs_ok (by simp [Tm.den, h])
theorem slsOf_ok {g : Nat → CT → List Fa} : ∀ {cs : List CT} {j : Nat}, (∀ i c, cs[i]? = some c → FsOK γ a w (g (j + i) c)) → FsOK γ a w (slsOf cs g j)
  | [], _, _ => .nil
  | c :: cs, j, h => by
    unfold slsOf
    refine .app ?_ (slsOf_ok fun i c' hi => ?_)
    · split
      · exact h 0 _ rfl
      · exact h 0 _ rfl
      · exact .nil
    · have := h (i + 1) c' (by simpa using hi)
      rwa [show j + (i + 1) = j + 1 + i by omega] at this
theorem cellsOf_ok {g : Nat → CT → List Fa} : ∀ {cs : List CT} {j : Nat}, (∀ i c, cs[i]? = some c → FsOK γ a w (g (j + i) c)) → FsOK γ a w (cellsOf cs g j)
  | [], _, _ => .nil
  | c :: cs, j, h => by
    unfold cellsOf
    refine .app (h 0 _ rfl) (cellsOf_ok fun i c' hi => ?_)
    have := h (i + 1) c' (by simpa using hi)
    rwa [show j + (i + 1) = j + 1 + i by omega] at this
theorem tupOf_ok {v u : Nat → Vr} {vf uf : Nat → Nat → Vr} (h1 : ∀ i, (v i).ev a = (u i).ev a) (h2 : ∀ i j, (vf i j).ev a = (uf i j).ev a) : ∀ {ts : List A0} {i : Nat}, FsOK γ a w (tupOf ts v u vf uf i)
  | [], _ => .nil
  | t :: ts, i => by
    unfold tupOf
    refine .app ?_ (tupOf_ok h1 h2)
    split
    · exact copyV_ok _ (h1 i)
    · exact slsOf_ok fun j c _ => copyV_ok _ (h2 i _)
    · exact eqs_ok (by simp [Tm.den, h1])
    · exact eqs_ok (by simp [Tm.den, h1])
    · exact .nil
theorem apsOf_ok (h : a.eval (.tmp d) = a.eval (.tmp x)) (hfs : FsOK γ a w fs) : FsOK γ a w (apsOf fs d x) := fun f hf => by
  obtain ⟨g, hg, he⟩ := List.mem_filterMap.1 hf
  split at he
  · rename_i i p
    split at he
    · rename_i hi
      subst hi
      obtain rfl := Option.some.inj he
      obtain ⟨A, n, c, b, e1, e2, e3⟩ := hfs _ hg
      exact ⟨A, n, c, b, h.trans e1, e2, e3⟩
    · cases he
  · cases he
theorem rootOf_mem : ∀ {fs : List Fa} {x p k : Nat}, rootOf fs x = some (p, k) → Fa.root x p k ∈ fs
  | [], _, _, _, h => by cases h
  | f :: fs, x, p, k, h => by
    cases f with
    | root q p' k' =>
      unfold rootOf at h
      cases hq : Nat.beq q x with
      | true =>
        rw [hq] at h
        simp only [cond_true, Option.some.injEq, Prod.mk.injEq] at h
        obtain ⟨rfl, rfl⟩ := h
        rw [Nat.eq_of_beq_eq_true hq]
        exact List.mem_cons_self ..
      | false =>
        rw [hq] at h
        exact List.mem_cons_of_mem _ (rootOf_mem (by simpa using h))
    | _ => exact List.mem_cons_of_mem _ (rootOf_mem (by simpa [rootOf] using h))
theorem copyT_ok (h : a.eval (.tmp d) = a.eval (.tmp x)) (hfs : FsOK γ a w fs) (t : AT) : RsOK γ a w (copyT fs d x t) := by
  have hf : ∀ j, (Vr.f d j).ev a = (Vr.f x j).ev a := fun j => by simp [Vr.ev, h]
  have hg : ∀ i j, (Vr.g d i j).ev a = (Vr.g x i j).ev a := fun i j => by simp [Vr.ev, h]
  unfold copyT
  split
  · refine .cons (fun hh => ?_) (.cons (fun hh => ?_) (.cons (fun hh => ?_) (.cons (fun hh => ?_) .nil)))
    · exact h.symm.trans (hh _ (List.mem_singleton.2 rfl))
    · exact h.symm.trans (hh _ (List.mem_singleton.2 rfl))
    · exact h.trans (hh _ (List.mem_singleton.2 rfl))
    · exact h.trans (hh _ (List.mem_singleton.2 rfl))
  · exact plain_ok (copyV_ok _ h)
  · exact plain_ok (slsOf_ok fun j c _ => copyV_ok _ (hf _))
  · exact plain_ok (.app (eqs_ok (by simp [Tm.den, Vr.ev, h])) (apsOf_ok h hfs))
  · exact plain_ok (.app (eqs_ok (by simp [Tm.den, Vr.ev, h])) (apsOf_ok h hfs))
  · exact plain_ok (eqs_ok (by simp [Tm.den, Vr.ev, h]))
  · split
    · rename_i p k hr
      refine plain_ok (.cons ?_ .nil)
      obtain ⟨b, e1, e2, e3⟩ := hfs _ (rootOf_mem hr)
      exact ⟨b, e1, h.trans e2, e3⟩
    · exact .nil
  · exact plain_ok (tupOf_ok hf hg)
  · exact .nil
theorem constF_ok {v : Value} (h : a.eval (.tmp d) = v) : RsOK γ a w (constF d v) := by
  unfold constF
  split
  · exact plain_ok (eqs_ok (by simp [Tm.den, Vr.ev, h, intOf]))
  · exact plain_ok (.cons h .nil)
  · exact plain_ok (eqs_ok (by simp [Tm.den, Vr.ev, h, lenOf]))
  · exact .nil
theorem rangeF_ok {t : AT} (h : TOK lay B F K w' t (a.eval (.tmp d))) : RsOK γ a w (rangeF d t) := by
  unfold rangeF
  split
  · split
    · exact .nil
    · obtain ⟨y, hy, h1, h2⟩ := VOK.int (F := F) h
      refine plain_ok (.cons ?_ (.cons ?_ .nil))
      · simp only [Fa.ok, Tm.den, Vr.ev, hy, intOf]; omega
      · simp only [Fa.ok, Tm.den, Vr.ev, hy, intOf]; omega
  · exact .nil
theorem rangeS_ok {d : Option Nat} {rt : Option AT} (hlim : ∀ e, K e ≤ LIM) (h : ∀ d', d = some d' → ∀ t, rt = some t → TOK lay B F K w' t (a.eval (.tmp d'))) : RsOK γ a w (rangeS d rt) := by
  unfold rangeS
  split
  · rename_i d e
    have hv : VOK lay B F K w' (.val false [.sl e]) (a.eval (.tmp d)) := h d rfl _ rfl
    obtain ⟨A, n, c, e1, e2, _⟩ := hv.2 0 _ _ rfl rfl
    refine plain_ok (.cons ?_ .nil)
    have := hlim e
    show lenOf (a.eval (.tmp d)) ≤ (LIM : Int) + 0
    rw [e1]
    simp only [lenOf, LIM] at *
    omega
  · rename_i d e m
    have hv : VOK lay B F K w' (.val false [.slb e m]) (a.eval (.tmp d)) := h d rfl _ rfl
    obtain ⟨A, n, c, e1, e2, _⟩ := hv.2 0 _ _ rfl rfl
    refine plain_ok (.cons ?_ .nil)
    show lenOf (a.eval (.tmp d)) ≤ (m : Int) + 0
    rw [e1]
    simp only [lenOf]
    omega
  · exact rangeF_ok (lay := lay) (B := B) (F := F) (K := K) (w' := w') (h _ rfl _ rfl)
  · rename_i d e j
    cases (!(Nat.beq j 1000) && (Nat.ble 901 j && Nat.ble j 100000)) with
    | false => exact .nil
    | true =>
      obtain ⟨A, n, c, e1, e2, e3, e4⟩ : VOK lay B F K w' (.sli e true j) (a.eval (.tmp d)) := h d rfl _ rfl
      refine plain_ok (.cons ?_ .nil)
      show lenOf (a.eval (.tmp d)) ≤ (j : Int) + 0
      rw [e1]
      simp at e4
      simp only [lenOf]
      omega
  · exact .nil
theorem cellsAt_ok (hfs : FsOK γ a w fs) {v : Vr} {p k b : Nat} {c : CT} (hp : a.eval (.tmp p) = .pointer (some ⟨b, 0, none⟩)) (hc : w.cell? ⟨b, k, none⟩ = some (v.ev a)) : FsOK γ a w (cellsAt fs v p k c) := fun f hf => by
  obtain ⟨g, hg, he⟩ := List.mem_flatMap.1 hf
  split at he
  · rename_i u q j
    split at he
    · rename_i hq
      obtain rfl := Nat.eq_of_beq_eq_true hq.1
      obtain rfl := Nat.eq_of_beq_eq_true hq.2
      obtain ⟨b', e1, e2⟩ := hfs _ hg
      obtain rfl : b = b' := by rw [hp] at e1; simpa using e1
      rw [hc] at e2
      have heq := Option.some.inj e2
      rcases List.mem_append.1 he with he | he
      · exact copyV_ok _ heq f he
      · split at he
        · rename_i hfr
          obtain rfl := List.mem_singleton.1 he
          intro A n c ad h1 h2
          exact hfs _ hfr A n c ad (heq ▸ h1) h2
        · cases he
    · cases he
  · cases he
theorem loadF_ok (hfs : FsOK γ a w fs) {agg : Bool} {cs : List CT} {b off : Nat} (hx : a.eval (.tmp x) = .pointer (some ⟨b, off, none⟩)) (hv : VOK lay B F K w (.val agg cs) (a.eval (.tmp d))) (hc : ∀ (j : Nat) (u : Value), (a.eval (.tmp d)).cells[j]? = some u → w.cell? ⟨b, off + j, none⟩ = some u) : RsOK γ a w (loadF fs d x agg cs) := by
  unfold loadF
  split
  · rename_i p k hr
    obtain ⟨b', e1, e2, _⟩ := hfs _ (rootOf_mem hr)
    obtain ⟨rfl, rfl⟩ : b = b' ∧ off = k := by rw [hx] at e2; simpa using e2
    match agg, cs, hv with
    | false, [c], hv =>
      have h1 : (a.eval (.tmp d)).oneCell' = true := Ofs.one hv _ (by simp)
      have h2 := hc 0 (a.eval (.tmp d)) (by rw [cells_one' h1]; rfl)
      exact plain_ok (.cons ⟨b, e1, h2⟩ (cellsAt_ok hfs (v := .t d) e1 h2))
    | true, cs, ⟨arr, h1, h2⟩ =>
      refine plain_ok (slsOf_ok fun j c hj => ?_)
      have hj' := (List.getElem?_eq_some_iff.1 hj).1
      have hsz : arr.size = cs.length := by simpa using h2.1
      have hjs : j < arr.size := by omega
      have hcell : w.cell? ⟨b, off + (0 + j), none⟩ = some ((Vr.f d (0 + j)).ev a) := by
        simp only [Vr.ev, h1, partOf, Nat.zero_add]
        rw [h1] at hc
        rw [hc j arr[j] (by simp [Value.cells, hjs])]
        simp [Array.getD_eq_getD_getElem?, hjs]
      exact .cons ⟨b, e1, hcell⟩ (cellsAt_ok hfs e1 hcell)
    | false, [], _ => exact .nil
    | false, _ :: _ :: _, _ => exact .nil
  · exact .nil
theorem putF_ok (hγ : γ 999 = (F : Int)) {p k y b : Nat} {t : A0} (hp : a.eval (.tmp p) = .pointer (some ⟨b, 0, none⟩)) (hv : VOK lay B F K w t (a.eval (.tmp y))) (hc : ∀ (j : Nat) (u : Value), (a.eval (.tmp y)).cells[j]? = some u → w'.cell? ⟨b, k + j, none⟩ = some u) : FsOK γ a w' (putF p k y t) := by
  have one : (a.eval (.tmp y)).oneCell' = true → FsOK γ a w' [.cell (.t y) p k] := fun h1 => by
    refine .cons ⟨b, hp, ?_⟩ .nil
    exact hc 0 _ (by rw [cells_one' h1]; rfl)
  unfold putF
  split
  · exact one (Ofs.one hv _ (by simp))
  · obtain ⟨A, n, c, e, _, hfr, _⟩ := hv
    refine .cons (one (by rw [e]; rfl) _ (List.mem_singleton.2 rfl)) (.cons (fun A' n' c' ad h1 h2 => ?_) .nil)
    obtain rfl : A = A' := by have : a.eval (.tmp y) = _ := h1; rw [e] at this; simp at this; exact this.1
    have := hfr ad h2
    omega
  · obtain ⟨A, n, c, e, _, hfr⟩ := hv
    refine .cons (one (by rw [e]; rfl) _ (List.mem_singleton.2 rfl)) (.cons (fun A' n' c' ad h1 h2 => ?_) .nil)
    obtain rfl : A = A' := by have : a.eval (.tmp y) = _ := h1; rw [e] at this; simp at this; exact this.1
    have := hfr ad h2
    omega
  · rename_i cs
    obtain ⟨arr, h1, h2⟩ := hv
    refine cellsOf_ok fun j c hj => ?_
    have hj' := (List.getElem?_eq_some_iff.1 hj).1
    have hsz : arr.size = cs.length := by simpa using h2.1
    refine .cons ⟨b, hp, ?_⟩ ?_
    rotate_left
    · unfold nilFr
      split
      · have hcell := h2.2 j _ arr[j] hj (by simp [hsz, hj'])
        have hcell : arr[j] = .slice none 0 0 := hcell
        refine .cons (fun A n c ad e1 e2 => ?_) .nil
        have e3 : (Vr.f y (0 + j)).ev a = .slice none 0 0 := by
          simp only [Vr.ev, h1, partOf, Nat.zero_add, Array.getD_eq_getD_getElem?]
          rw [Array.getElem?_eq_getElem (by omega)]
          exact hcell
        rw [e3] at e1
        have e4 : none = A := by simpa using congrArg (fun v => match v with | Value.slice A _ _ => A | _ => none) e1
        rw [← e4] at e2
        cases e2
      · exact .nil
    simp only [Vr.ev, h1, partOf, Nat.zero_add]
    rw [h1] at hc
    rw [hc j arr[j] (by simp [Value.cells, hsz, hj'])]
    simp [Array.getD_eq_getD_getElem?, hsz, hj']
  · exact .nil
theorem newBox_ok {G' : World} (hE : ∀ i g t, (i, g, t) ∈ Γ → i ≠ d → g = none → TOK lay B F K w t (a.eval (.tmp i))) (hfs : FsOK γ a w fs) (hnd : ∀ f ∈ fs, d ∉ f.ments) (hnΓ : ∀ x ∈ Γ, x.1 ≠ d) (hd : a.eval (.tmp d) = .pointer (some ⟨w.heap.size, 0, none⟩)) (hsz : w.heap.size < G'.heap.size) : FsOK γ a G' (newBox Γ fs d) := by
  refine .cons ⟨_, hd, hd, hsz⟩ (.app (fun f hf => ?_) fun f hf => ?_)
  · obtain ⟨q, hq, rfl⟩ := List.mem_map.1 hf
    unfold boxesOf at hq
    obtain ⟨h, hh, he⟩ := List.mem_filterMap.1 hq
    split at he
    · rename_i q' p' k'
      split at he
      · rename_i hqp
        obtain rfl := Option.some.inj he
        obtain ⟨b, e1, e2, e3⟩ := hfs _ hh
        exact ⟨_, b, hd, e1, by omega⟩
      · cases he
    · cases he
  · obtain ⟨i, hi, rfl⟩ := List.mem_map.1 hf
    unfold freshOf at hi
    obtain ⟨x, hx, he⟩ := List.mem_filterMap.1 hi
    have key : ∀ (e : TypeId) (A : Option Addr) (n c : Nat), SlOK lay B w e A n c → ∀ ad, A = some ad → ad.block ≠ w.heap.size := fun e A n c hs ad ha => by
      obtain ⟨_, _, h3⟩ := hs
      rcases h3 with ⟨h3, _⟩ | ⟨b, off, arr, h3, _, h4, _⟩
      · rw [h3] at ha; cases ha
      · rw [h3] at ha
        obtain rfl := Option.some.inj ha
        have := h4.lt
        simp only
        omega
    have hne := hnΓ x hx
    split at he
    · rename_i e abs j hg ht
      obtain rfl := Option.some.inj he
      have := hE x.1 x.2.1 x.2.2 hx hne hg
      rw [ht] at this
      obtain ⟨A, n, c, e1, e2, _⟩ := this
      exact ⟨A, n, c, _, e1, hd, key _ _ _ _ e2, hsz⟩
    · rename_i e hg ht
      obtain rfl := Option.some.inj he
      have := hE x.1 x.2.1 x.2.2 hx hne hg
      rw [ht] at this
      obtain ⟨A, n, c, e1, e2, _⟩ := this
      exact ⟨A, n, c, _, e1, hd, key _ _ _ _ e2, hsz⟩
    · cases he
def cmpVal (op : BinOp) (p q : Int) (r : Bool) : Prop := match op with
  | .lss => r = decide (p < q)
  | .leq => r = decide (p ≤ q)
  | .gtr => r = decide (p > q)
  | .geq => r = decide (p ≥ q)
  | .eql => r = (p == q)
  | .neq => r = (p != q)
  | _ => True
theorem cmpF_ok (hfs : FsOK γ a w fs) {op : BinOp} {s t : Tm} {r : Bool} (hd : a.eval (.tmp d) = .bool r)
    (h : cmpVal op (s.den γ a) (t.den γ a) r) : RsOK γ a w' (cmpF fs d op s t) := by
  have one : ∀ (b : Bool) (f : Fa), (r = b → f.ok γ a w') → (GsOK a [(d, b)] → f.ok γ a w') := fun b f hf hg => by
    have := hg (d, b) (List.mem_singleton.2 rfl)
    rw [hd] at this
    exact hf (by simpa using this)
  unfold cmpVal at h
  unfold cmpF
  split
  · refine .cons (one _ _ fun hr => ?_) (.cons (one _ _ fun hr => ?_) .nil) <;> simp only at h <;> rw [hr] at h <;> simp at h <;> simp only [Fa.ok] <;> omega
  · refine .cons (one _ _ fun hr => ?_) (.cons (one _ _ fun hr => ?_) .nil) <;> simp only at h <;> rw [hr] at h <;> simp at h <;> simp only [Fa.ok] <;> omega
  · refine .cons (one _ _ fun hr => ?_) (.cons (one _ _ fun hr => ?_) .nil) <;> simp only at h <;> rw [hr] at h <;> simp at h <;> simp only [Fa.ok] <;> omega
  · refine .cons (one _ _ fun hr => ?_) (.cons (one _ _ fun hr => ?_) .nil) <;> simp only at h <;> rw [hr] at h <;> simp at h <;> simp only [Fa.ok] <;> omega
  · simp only at h
    refine .app (.app (.cons (one _ _ fun hr => ?_) (.cons (one _ _ fun hr => ?_) (.cons (one _ _ fun hr => ?_) .nil))) ?_) ?_
    · rw [hr] at h; simp at h; simp only [Fa.ok]; omega
    · rw [hr] at h; simp at h; simp only [Fa.ok]; omega
    · rw [hr] at h; simp at h; simp only [Fa.ok]; omega
    · split
      · rename_i he
        have he := ent_ok hfs he
        refine .cons (one _ _ fun hr => ?_) .nil
        rw [hr] at h; simp at h; simp only [Fa.ok]; omega
      · exact .nil
    · split
      · rename_i he
        have he := ent_ok hfs he
        refine .cons (one _ _ fun hr => ?_) .nil
        rw [hr] at h; simp at h; simp only [Fa.ok]; omega
      · exact .nil
  · simp only at h
    refine .app (.app (.cons (one _ _ fun hr => ?_) (.cons (one _ _ fun hr => ?_) (.cons (one _ _ fun hr => ?_) .nil))) ?_) ?_
    · rw [hr] at h; simp at h; simp only [Fa.ok]; omega
    · rw [hr] at h; simp at h; simp only [Fa.ok]; omega
    · rw [hr] at h; simp at h; simp only [Fa.ok]; omega
    · split
      · rename_i he
        have he := ent_ok hfs he
        refine .cons (one _ _ fun hr => ?_) .nil
        rw [hr] at h; simp at h; simp only [Fa.ok]; omega
      · exact .nil
    · split
      · rename_i he
        have he := ent_ok hfs he
        refine .cons (one _ _ fun hr => ?_) .nil
        rw [hr] at h; simp at h; simp only [Fa.ok]; omega
      · exact .nil
  · exact .nil
theorem lenConst_ok (hfs : FsOK γ a w fs) {y : Nat} {m : Int} (h : lenConst fs y = some m) : lenOf (a.eval (.tmp y)) = m := by
  have hn := lenOf_nn (a.eval (.tmp y))
  unfold lenConst at h
  split at h
  · rename_i hc
    obtain rfl := Option.some.inj h
    simp only [Bool.and_eq_true] at hc
    have h1 := ent_ok hfs hc.1
    have h2 := ent_ok hfs hc.2
    simp only [Tm.den, Vr.ev] at h1 h2
    omega
  · split at h
    · rename_i hc
      obtain rfl := Option.some.inj h
      have h1 := ent_ok hfs hc
      simp only [Tm.den, Vr.ev] at h1
      omega
    · split at h
      · rename_i hc
        obtain rfl := Option.some.inj h
        simp only [Bool.and_eq_true] at hc
        have h1 := ent_ok hfs hc.1
        have h2 := ent_ok hfs hc.2
        simp only [Tm.den, Vr.ev] at h1 h2
        omega
      · cases h
theorem sumF_ok (hfs : FsOK γ a w fs) {y : Nat} (hd : lenOf (a.eval (.tmp d)) = lenOf (a.eval (.tmp x)) + lenOf (a.eval (.tmp y))) : FsOK γ a w' (sumF fs d x y) := fun f hf => by
  unfold sumF at hf
  dsimp only at hf
  obtain ⟨g, hg, he⟩ := List.mem_flatMap.1 hf
  split at he
  · rename_i s t u
    split at he
    · rename_i hs
      have hsy : s.den γ a = (Tm.len (.t y)).den γ a := by
        simp only [Bool.or_eq_true, Bool.and_eq_true] at hs
        rcases hs with hs | ⟨h1, h2⟩
        · rw [Tm.eqb_eq hs]
        · have := ent_ok hfs h1
          have := ent_ok hfs h2
          omega
      split at he
      · rename_i c hc
        split at he
        · rename_i hc2
          have h1 := ent_ok hfs hc2
          have h2 : (Tm.len (.t x)).den γ a ≤ t.den γ a + c := relaxN_ok (w := w) hfs 3 (s := .len (.t x)) (fun z hz => by obtain rfl := List.mem_singleton.1 hz; simp) _ (getD_mem hc)
          have h3 : s.den γ a + t.den γ a = u.den γ a := hfs _ hg
          rw [hsy] at h3
          simp only [Tm.den, Vr.ev] at h1 h2 h3
          refine eqs_ok ?_ f he
          simp only [Tm.den, Vr.ev]
          omega
        · cases he
      · cases he
    · cases he
  · cases he
theorem boxesOf_aps (hsz : w.heap.size ≤ w'.heap.size) (hfs : FsOK γ a w fs) {i : Nat} {A : Option Addr} {n c : Nat} (hi : a.eval (.tmp i) = .slice A n c) (hA : ∀ ad, A = some ad → w.heap.size ≤ ad.block) : FsOK γ a w' ((boxesOf fs).map fun p => Fa.aps i p) := fun f hf => by
  obtain ⟨q, hq, rfl⟩ := List.mem_map.1 hf
  unfold boxesOf at hq
  obtain ⟨h, hh, he⟩ := List.mem_filterMap.1 hq
  split at he
  · rename_i q' p' k'
    split at he
    · rename_i hqp
      obtain rfl := Option.some.inj he
      obtain ⟨b, e1, e2, e3⟩ := hfs _ hh
      exact ⟨A, n, c, b, hi, e1, fun ad ha => by have := hA ad ha; omega, by omega⟩
    · cases he
  · cases he
theorem pickF_ok {c : Nat} {x y : Operand} {r : Bool} (hc : a.eval (.tmp c) = .bool r) (hd : a.eval (.tmp d) = if r then a.eval x else a.eval y) : RsOK γ a w (pickF d c x y) := by
  unfold pickF
  split
  · refine .cons (fun hh => ?_) (.cons (fun hh => ?_) (.cons (fun hh => ?_) .nil))
    all_goals
      have h1 := hh (d, _) (by first | exact List.mem_singleton.2 rfl | exact List.mem_cons_self ..)
      rw [hd] at h1
      cases r
      · first
          | exact hc
          | exact h1
      · first
          | (simp [Act.eval] at h1; done)
          | (have h2 := hh (c, false) (by simp); rw [hc] at h2; simp at h2; done)
  · refine .cons (fun hh => ?_) (.cons (fun hh => ?_) (.cons (fun hh => ?_) .nil))
    all_goals
      have h1 := hh (d, _) (by first | exact List.mem_singleton.2 rfl | exact List.mem_cons_self ..)
      rw [hd] at h1
      cases r
      · first
          | (simp [Act.eval] at h1; done)
          | (have h2 := hh (c, true) (by simp); rw [hc] at h2; simp at h2; done)
      · first
          | exact hc
          | exact h1
  · exact .nil
end
end Go.Tz
/-
  What an operation lets know is so. Plain laws.
-/
namespace Go.Tz
open Go.Rp Go.RowKit

section
variable {P : Program} {lay : Lay} {els : List (TypeId × TypeId × Nat)} {Fs : FuncId → Option Sg} {B F : Nat} {K K' : Bounds} {γ : Nat → Int} {a : Act} {w w' : World} {Γ : Env} {fs : List Fa} {g : Gd} {o : Oper} {v : Value}
theorem inf_val {u : Value} {w1 : World} (hi : Inf P o a w v w') (hx : (execOp a.eval o).run P w = .ok (.value u) w1) : v = u ∧ w' = w1 := by
  rcases hi.1 with hi | ⟨hi, _⟩ | ⟨f, args, hi, _⟩
  · rw [hx] at hi; simp only [Result.ok.injEq, Next.value.injEq] at hi; exact ⟨hi.1.symm, hi.2.symm⟩
  · rw [hx] at hi; simp at hi
  · rw [hx] at hi; simp at hi
theorem inf_skip {w1 : World} (hi : Inf P o a w v w') (hx : (execOp a.eval o).run P w = .ok .skip w1) : w' = w1 := by
  rcases hi.1 with hi | ⟨hi, _⟩ | ⟨f, args, hi, _⟩
  · rw [hx] at hi; simp at hi
  · rw [hx] at hi; simp only [Result.ok.injEq] at hi; exact hi.2.symm
  · rw [hx] at hi; simp at hi
theorem ne_of {d : Nat} (hne : opsNe o = true) (hd : o.dst = some d) {i : Nat} (hi : .tmp i ∈ o.op.operands.toList) : i ≠ d := by
  unfold opsNe at hne
  rw [hd] at hne
  have := List.all_eq_true.1 hne _ hi
  simpa using this
theorem eval_op {d : Nat} {u : Value} {x : Operand} (h : ∀ i, x = .tmp i → i ≠ d) : (a.put (some d) u).eval x = a.eval x := by
  cases x with
  | tmp i => exact eval_put_ne u (h i rfl)
  | _ => rfl
theorem tmOf_den {x : Operand} {s : Tm} (h : tmOf x = some s) : s.den γ a = intOf (a.eval x) := by
  unfold tmOf at h
  split at h
  · obtain rfl := Option.some.inj h; rfl
  · obtain rfl := Option.some.inj h; rfl
  · cases h
theorem tmOf_ne {x : Operand} {s : Tm} {d : Nat} (h : tmOf x = some s) (hx : ∀ i, x = .tmp i → i ≠ d) : d ∉ s.ments := by
  unfold tmOf at h
  split at h
  · rename_i i
    obtain rfl := Option.some.inj h
    simp only [Tm.ments, Vr.tmp, List.mem_singleton]
    exact fun e => hx i rfl e.symm
  · obtain rfl := Option.some.inj h; simp [Tm.ments]
  · cases h
theorem intoOf_mem : ∀ {fs : List Fa} {x j : Nat}, intoOf fs x = some j → ∃ s, Fa.into x j s ∈ fs
  | [], _, _, h => by cases h
  | f :: fs, x, j, h => by
    cases f with
    | into q j' s =>
      unfold intoOf at h
      cases hq : Nat.beq q x with
      | true =>
        rw [hq] at h
        obtain rfl : j' = j := by simpa using h
        rw [Nat.eq_of_beq_eq_true hq]
        exact ⟨s, List.mem_cons_self ..⟩
      | false =>
        rw [hq] at h
        obtain ⟨s, hs⟩ := intoOf_mem (fs := fs) (by simpa using h)
        exact ⟨s, List.mem_cons_of_mem _ hs⟩
    | _ =>
      obtain ⟨s, hs⟩ := intoOf_mem (fs := fs) (x := x) (j := j) (by simpa [intoOf] using h)
      exact ⟨s, List.mem_cons_of_mem _ hs⟩
theorem nilF_ok {d : Nat} {v : Value} (h : a.eval (.tmp d) = v) (hfs : FsOK γ a w fs) : RsOK γ a w (nilF fs d v) := by
  unfold nilF
  split
  · exact plain_ok (boxesOf_aps (Nat.le_refl _) hfs h (fun ad ha => by cases ha))
  · exact .nil
theorem gen_ok (hγ : γ 999 = (F : Int)) (hT : Typed lay B K w) (hBF : B ≤ F) (hE : EOK lay B F K w (fun _ => True) Γ a) (hg : GH a g) {rt : Option AT} {gr : List Gr} (hc : chkOp P lay els Fs Γ g o = some (rt, gr)) (hlim : ∀ e, K e ≤ LIM)
    (hi : Inf P o a w v w') (hv : ∀ t, rt = some t → TOK lay B F K' w' t v) (hfs : FsOK γ a w fs) (hnd : ∀ d, o.dst = some d → (∀ f ∈ fs, d ∉ f.ments) ∧ (∀ x ∈ Γ, x.1 ≠ d) ∧ d < a.tmps.size) (hne : opsNe o = true) (hsz : w.heap.size ≤ w'.heap.size) (hF : F ≤ w.heap.size) (hel : ∀ p ∈ els, Elem lay P p.1 p.2.1 p.2.2) :
    RsOK γ (a.put o.dst v) w' (genF P Γ fs g o rt) := by
  have hne' : ∀ d, o.dst = some d → ∀ i, .tmp i ∈ o.op.operands.toList → i ≠ d := fun d hd i hi => ne_of hne hd hi
  have hvd : ∀ d, o.dst = some d → (a.put o.dst v).eval (.tmp d) = v := fun d hd => by rw [hd]; exact eval_put_eq v (hnd d hd).2.2
  have hev : ∀ x, x ∈ o.op.operands.toList → (a.put o.dst v).eval x = a.eval x := fun x hx => by
    cases hd : o.dst with
    | none => rfl
    | some d => exact eval_op fun i hi => hne' d hd i (hi ▸ hx)
  have hfs1 : FsOK γ (a.put o.dst v) w fs := fun f hf => by
    cases hd : o.dst with
    | none => exact hfs f hf
    | some d => exact (fa_put v ((hnd d hd).1 f hf)).2 (hfs f hf)
  have op1 : ∀ {x : Operand} {t : A0}, opnd Γ g x = some t → VOK lay B F K w t (a.eval x) := fun hx => opnd_ok hE hg (fun _ _ => trivial) hx
  have mv : ∀ x, (o.op = .move x ∨ o.op = .assign x) → v = a.eval x ∧ w' = w := fun x ho => inf_val hi (by
    unfold execOp
    rcases ho with ho | ho <;> simp [ho])
  have ext : ∀ x i, o.op = .extract (.tmp x) i → v = partOf (a.eval (.tmp x)) i ∧ w' = w := fun x i ho => by
    unfold chkOp at hc
    rw [ho] at hc
    dsimp only at hc
    split at hc
    · rename_i ts hts
      obtain ⟨t, ht, he⟩ := Option.map_eq_some_iff.1 hc
      obtain ⟨vs, e1, e2⟩ := look_ok hE hg trivial hts
      obtain ⟨u, hu, hu2⟩ := e2.at.2 i t ht
      have hu' : vs[i]? = some u := by simpa using hu
      obtain ⟨rfl, rfl⟩ := inf_val hi (u := u) (w1 := w) (by
        unfold execOp
        simp [ho, e1, Instr.extract, hu'])
      refine ⟨?_, rfl⟩
      rw [e1]
      simp [partOf, Array.getD_eq_getD_getElem?, hu']
    · cases hc
  have extd : ∀ x i d, o.op = .extract (.tmp x) i → o.dst = some d → (Vr.t d).ev (a.put o.dst v) = (Vr.f x i).ev (a.put o.dst v) ∧ ∀ j, (Vr.f d j).ev (a.put o.dst v) = (Vr.g x i j).ev (a.put o.dst v) := fun x i d ho hd => by
    obtain ⟨e, _⟩ := ext x i ho
    have h1 := hvd d hd
    have h2 := hev (.tmp x) (by simp [ho, Op.operands])
    refine ⟨?_, fun j => ?_⟩
    · simp only [Vr.ev]; rw [h1, h2, e]
    · simp only [Vr.ev]; rw [h1, h2, e]
  have cmp : ∀ {op : BinOp} {xt : TypeId} {x y : Operand} {yt : TypeId}, o.op = .binOp op xt x y yt → rt ≠ none → ∃ k k' p q lo hi lo' hi', opnd Γ g x = some (.val false [.int k lo hi]) ∧ opnd Γ g y = some (.val false [.int k' lo' hi']) ∧ a.eval x = .int k p ∧ a.eval y = .int k' q ∧ (k = k' ∨ op = .shr) ∧ ∀ u, (binOp op xt (.int k p) (.int k' q)).run P w = .ok u w → v = u ∧ w' = w := fun {op xt x y yt} ho hrt => by
    unfold chkOp at hc
    rw [ho] at hc
    dsimp only at hc
    split at hc
    · rename_i k lo hi' k' lo' hi'' hx hy
      obtain ⟨p, ep, p1, p2⟩ := (op1 hx).int
      obtain ⟨q, eq, q1, q2⟩ := (op1 hy).int
      refine ⟨k, k', p, q, lo, hi', lo', hi'', hx, hy, ep, eq, ?_, fun u hu => ?_⟩
      · split at hc
        · rename_i h; exact .inr h
        · split at hc
          · rename_i h; exact .inl h
          · cases hc
      · refine inf_val hi ?_
        unfold execOp
        have hq : (eqGuard op xt x y (.int k p) (.int k' q)).run P w = .ok () w := by unfold eqGuard; split <;> rfl
        simp only [ho, ep, eq]
        rw [Sem.run_bind, Sem.run_bind, hq, Result.andThen_ok, hu]
        rfl
    · cases hc
  unfold genF
  split
  · rename_i x d t ho hd
    obtain ⟨rfl, rfl⟩ := mv _ (.inl ho)
    exact copyT_ok ((hvd d hd).trans (hev (.tmp x) (by simp [ho, Op.operands])).symm) hfs1 t
  · rename_i x d t ho hd
    obtain ⟨rfl, rfl⟩ := mv _ (.inr ho)
    exact copyT_ok ((hvd d hd).trans (hev (.tmp x) (by simp [ho, Op.operands])).symm) hfs1 t
  · rename_i u d ho hd
    obtain ⟨rfl, rfl⟩ := mv _ (.inl ho)
    exact .app (constF_ok (hvd d hd)) (nilF_ok (hvd d hd) hfs1)
  · rename_i u d ho hd
    obtain ⟨rfl, rfl⟩ := mv _ (.inr ho)
    exact .app (constF_ok (hvd d hd)) (nilF_ok (hvd d hd) hfs1)
  · rename_i t x d agg cs ho hd
    unfold chkOp at hc
    rw [ho] at hc
    dsimp only at hc
    split at hc
    · rename_i cs' dd i hx hu hin
      split at hc
      · rename_i hcond
        simp only [Option.some.injEq, Prod.mk.injEq, AT.one.injEq, A0.val.injEq] at hc
        obtain ⟨⟨rfl, rfl⟩, rfl⟩ := hc
        obtain ⟨t0, ht0, hx⟩ := Option.bind_eq_some_iff.1 hx
        obtain ⟨u, h1, h2, b, off, h3, h4⟩ := load_ok (P := P) hT (asRd_ok hBF hx (op1 ht0)) hu hin hcond.1 (fun hd => hcond.2.resolve_left (by simp [hd]))
        obtain ⟨rfl, rfl⟩ := inf_val hi (u := u) (w1 := w) (by
          unfold execOp
          simp only [ho, Sem.run_bind, h1, Result.andThen_ok]
          rfl)
        refine loadF_ok hfs1 ((hev (.tmp x) (by simp [ho, Op.operands])).trans h3) (by rw [hvd d hd]; exact h2) (by rw [hvd d hd]; exact h4)
      · cases hc
    · cases hc
  · rename_i t x y ho hd
    split
    · rename_i p k ty hr hy
      unfold chkOp at hc
      rw [ho] at hc
      dsimp only at hc
      split at hc
      · rename_i cs u i hx hy' hin
        split at hc
        · rename_i hszc
          obtain ⟨gr0, hgr, he⟩ := Option.map_eq_some_iff.1 hc
          obtain ⟨k1, k2⟩ := fit_ok (G := fun _ K => K) hgr (op1 hy')
          obtain ⟨w2, h1, _, _, _, b, off, h5, h6, _⟩ := store_ok (P := P) (hT.le k2) hBF ((op1 hx).keeps (Keeps.refl _) k2) hin hszc k1
          obtain rfl := inf_skip hi (w1 := w2) (by
            unfold execOp
            simp only [ho, Sem.run_bind, h1, Result.andThen_ok]
            rfl)
          obtain ⟨b', e1, e2, _⟩ := hfs _ (rootOf_mem hr)
          obtain ⟨rfl, rfl⟩ : b = b' ∧ off = k := by rw [h5] at e2; simpa using e2
          rw [hd]
          exact plain_ok (putF_ok hγ (B := B) (lay := lay) (F := F) (K := K) (w := w) e1 (op1 hy) h6)
        · cases hc
      · cases hc
    · exact .nil
  · rename_i e y d ho hd
    split
    · rename_i t hy
      unfold chkOp at hc
      rw [ho] at hc
      dsimp only at hc
      rw [hy] at hc
      dsimp only at hc
      split at hc
      · rename_i gr0 hgr
        obtain ⟨k1, k2⟩ := fit_ok (G := fun _ K => K) hgr (op1 hy)
        obtain ⟨ad, w2, h1, ⟨rfl, rfl⟩, _⟩ := new_ok (P := P) (F := 0) (hT.le k2) (Nat.zero_le _) (ty := e) (v := a.eval (.tmp y)) k1
        obtain ⟨rfl, rfl⟩ := inf_val hi (u := .pointer (some ⟨w.heap.size, 0, none⟩)) (w1 := w.alloc (.cells (a.eval (.tmp y)).cells e)) (by
          unfold execOp
          simp [ho, Instr.box, h1])
        have hp := hvd d hd
        refine plain_ok (.app (newBox_ok (lay := lay) (B := B) (F := F) (K := K) (w := w) (fun i g' t' hm hid hg' => ?_) hfs1 (hnd d hd).1 (hnd d hd).2.1 hp (by simp)) (putF_ok hγ (lay := lay) (B := B) (F := F) (K := K) (w := w) hp ?_ fun j u hu => ?_))
        · subst hg'
          rw [hd, eval_put_ne _ hid]
          exact hE i none t' trivial hm trivial
        · rw [hev (.tmp y) (by simp [ho, Op.operands])]
          exact op1 hy
        · rw [hev (.tmp y) (by simp [ho, Op.operands])] at hu
          rw [(Blk.new w e _).cell, Nat.zero_add]
          exact hu
      · cases hc
    · exact .nil
  · rename_i e d ho hd
    unfold chkOp at hc
    rw [ho] at hc
    dsimp only at hc
    split at hc
    · rename_i i hin
      split at hc
      · rename_i z hz
        split at hc
        · rename_i zs hzs
          split at hc
          · rename_i hsub
            obtain ⟨ad, w2, h1, ⟨rfl, rfl⟩, _⟩ := new_ok (P := P) (F := 0) hT (Nat.zero_le _) (ty := e) (v := z) ((constCs_ok hzs).sub hsub)
            obtain ⟨rfl, rfl⟩ := inf_val hi (u := .pointer (some ⟨w.heap.size, 0, none⟩)) (w1 := w.alloc (.cells z.cells e)) (by
              unfold execOp
              simp only [ho, Instr.alloc]
              simp [zeroValue, typeInfo, hin, hz, h1])
            refine plain_ok (newBox_ok (lay := lay) (B := B) (F := F) (K := K) (w := w) (fun i g' t' hm hid hg' => ?_) hfs1 (hnd d hd).1 (hnd d hd).2.1 (hvd d hd) (by simp))
            subst hg'
            rw [hd, eval_put_ne _ hid]
            exact hE i none t' trivial hm trivial
          · cases hc
        · cases hc
      · cases hc
    · cases hc
  · rename_i x i d c ho hd
    exact plain_ok (copyV_ok c (extd x i d ho hd).1)
  · rename_i x i d cs ho hd
    exact plain_ok (slsOf_ok fun j c _ => copyV_ok c ((extd x i d ho hd).2 _))
  · rename_i x i d e ab j ho hd
    exact plain_ok (eqs_ok (by simp only [Tm.den]; rw [(extd x i d ho hd).1]; omega))
  · rename_i x i d e ho hd
    exact plain_ok (eqs_ok (by simp only [Tm.den]; rw [(extd x i d ho hd).1]; omega))
  · rename_i s x f d cs ho hd
    split
    · rename_i fields p k hu hr
      split
      · rename_i fd hfd
        obtain ⟨b, e1, e2, e3⟩ := hfs1 _ (rootOf_mem hr)
        rw [hev (.tmp x) (by simp [ho, Op.operands])] at e2
        unfold chkOp at hc
        rw [ho] at hc
        dsimp only at hc
        rw [hu] at hc
        have key : ∀ i, P.info? fd.type = some i → i.size ≠ 0 → v = .pointer (some ⟨b, k + fd.offset, none⟩) ∧ w' = w := fun i hin h0 => inf_val hi (by
          unfold execOp
          simp only [ho, e2, Instr.fieldAt, Instr.sureAddr, fieldPlace, sizeOf, typeInfo, Sem.run_bind, run_underlying hu, Result.andThen_ok, hfd, hin, run_program, Sem.run_pure]
          rw [if_neg h0]
          simp [Addr.add_mid])
        have fin : ∀ i, P.info? fd.type = some i → i.size ≠ 0 → RsOK γ (a.put o.dst v) w' (plain [.root d p (k + fd.offset)]) := fun i hin h0 => by
          obtain ⟨rfl, rfl⟩ := key i hin h0
          exact plain_ok (.cons ⟨b, e1, hvd d hd, e3⟩ .nil)
        split at hc
        · rename_i h1 _
          obtain rfl : fields = _ := by simpa using h1
          rw [hfd] at hc
          dsimp only at hc
          split at hc
          · rename_i i hin
            split at hc
            · rename_i hcond; exact fin i hin hcond.1
            · cases hc
          · cases hc
        · rename_i h1 _
          obtain rfl : fields = _ := by simpa using h1
          rw [hfd] at hc
          dsimp only at hc
          split at hc
          · rename_i i hin
            split at hc
            · rename_i hcond; exact fin i hin hcond.1
            · cases hc
          · cases hc
        · cases hc
      · exact .nil
    · exact .nil
  · rename_i op xt x y yt d ho hd
    split
    · rename_i s t hs ht
      obtain ⟨k, k', p, q, lo, hi1, lo', hi2, hx, hy, ep, eq, hk, hrun⟩ := cmp ho (by simp)
      have hxo : .tmp 0 ∈ o.op.operands.toList → True := fun _ => trivial
      have ds : s.den γ (a.put o.dst v) = p := by
        have : s.den γ (a.put o.dst v) = s.den γ a := by rw [hd]; exact tm_put v (tmOf_ne hs fun i hi => hne' d hd i (by simp [ho, Op.operands, hi]))
        rw [this, tmOf_den hs, ep]; rfl
      have dt : t.den γ (a.put o.dst v) = q := by
        have : t.den γ (a.put o.dst v) = t.den γ a := by rw [hd]; exact tm_put v (tmOf_ne ht fun i hi => hne' d hd i (by simp [ho, Op.operands, hi]))
        rw [this, tmOf_den ht, eq]; rfl
      have fin : ∀ r : Bool, (binOp op xt (.int k p) (.int k' q)).run P w = .ok (.bool r) w → cmpVal op p q r → RsOK γ (a.put o.dst v) w' (cmpF fs d op s t) := fun r hr hm => by
        obtain ⟨rfl, rfl⟩ := hrun _ hr
        refine cmpF_ok hfs1 (hvd d hd) ?_
        rw [ds, dt]
        exact hm
      rcases hk with rfl | rfl
      · cases op
        all_goals first
          | exact fin _ (by simp [binOp, Op.intCmp]; rfl) rfl
          | exact fin (decide (p < q)) (by simp [binOp, Op.intCmp]) rfl
          | exact fin (decide (p ≤ q)) (by simp [binOp, Op.intCmp]) rfl
          | exact fin (decide (q < p)) (by simp [binOp, Op.intCmp]) rfl
          | exact fin (decide (q ≤ p)) (by simp [binOp, Op.intCmp]) rfl
          | exact fin (p == q) (by simp [binOp, Op.intCmp]) rfl
          | exact fin (p != q) (by simp [binOp, Op.intCmp]) rfl
          | exact RsOK.nil
      · exact RsOK.nil
    · exact .nil
  · rename_i op xt x y yt d k lo hi' ho hd
    refine .app (.app ?_ ?_) (rangeF_ok (lay := lay) (B := B) (F := F) (K := K') (w' := w') (by rw [hvd d hd]; exact hv _ rfl))
    rotate_left
    · unfold subF
      split
      · rename_i i j
        split
        · rename_i k1 lo1 hi1 kk lo2 hi2 hx hy
          split
          · rename_i hcond
            obtain ⟨rfl, c1, c2⟩ := hcond
            obtain ⟨k2, k3, p, q, lo3, hi3, lo4, hi4, hx', hy', ep, eq, hk, hrun⟩ := cmp ho (by simp)
            obtain ⟨p', ep', p1, p2⟩ := (op1 hx).int
            obtain ⟨q', eq', q1, q2⟩ := (op1 hy).int
            rw [ep] at ep'
            rw [eq] at eq'
            simp only [Value.int.injEq] at ep' eq'
            obtain ⟨rfl, rfl⟩ := ep'
            obtain ⟨rfl, rfl⟩ := eq'
            rcases hk with rfl | hk
            · obtain ⟨rfl, rfl⟩ := hrun (.int k2 (k2.wrap (p - q))) (by simp [binOp, Op.intArith])
              refine plain_ok (.cons ?_ .nil)
              show (Tm.val (.t d)).den γ _ + (Tm.val (.t j)).den γ _ = (Tm.val (.t i)).den γ _
              simp only [Tm.den, Vr.ev]
              rw [hvd d hd, hev (.tmp i) (by simp [ho, Op.operands]), hev (.tmp j) (by simp [ho, Op.operands]), ep, eq]
              simp only [intOf]
              rw [wrap_id (by omega) (by omega)]
              omega
            · cases hk
          · exact .nil
        · exact .nil
      · exact .nil
    unfold arithF
    split
    · rename_i i kc c
      split
      · rename_i he
        simp only [Bool.and_eq_true] at he
        have h1 := ent_ok hfs1 he.1
        have h2 := ent_ok hfs1 he.2
        obtain ⟨k1, k2, p, q, lo1, hi1, lo2, hi2, hx, hy, ep, eq, hk, hrun⟩ := cmp ho (by simp)
        have ei := hev (.tmp i) (by simp [ho, Op.operands])
        simp only [Tm.den, Vr.ev, ei, ep, intOf] at h1 h2
        have eq' : Value.int kc c = Value.int k2 q := eq
        simp only [Value.int.injEq] at eq'
        obtain ⟨rfl, rfl⟩ := eq'
        rcases hk with rfl | hk
        · obtain ⟨rfl, rfl⟩ := hrun (.int k1 (k1.wrap (p + c))) (by simp [binOp, Op.intArith])
          have hkk : k = k1 := by
            have := hv _ rfl
            rw [show o.dst = some d from hd] at *
            obtain ⟨y, hy1, _⟩ := VOK.int (F := F) this
            exact (by simpa using hy1.symm : k = _ ∧ _).1
          subst hkk
          refine plain_ok (eqs_ok ?_)
          simp only [Tm.den, Vr.ev, hvd d hd, ei, ep, intOf]
          rw [wrap_id (by omega) (by omega)]
        · cases hk
      · exact .nil
    · rename_i i kc c
      split
      · rename_i he
        simp only [Bool.and_eq_true] at he
        have h1 := ent_ok hfs1 he.1
        have h2 := ent_ok hfs1 he.2
        obtain ⟨k1, k2, p, q, lo1, hi1, lo2, hi2, hx, hy, ep, eq, hk, hrun⟩ := cmp ho (by simp)
        have ei := hev (.tmp i) (by simp [ho, Op.operands])
        simp only [Tm.den, Vr.ev, ei, ep, intOf] at h1 h2
        have eq' : Value.int kc c = Value.int k2 q := eq
        simp only [Value.int.injEq] at eq'
        obtain ⟨rfl, rfl⟩ := eq'
        rcases hk with rfl | hk
        · obtain ⟨rfl, rfl⟩ := hrun (.int k1 (k1.wrap (p - c))) (by simp [binOp, Op.intArith])
          have hkk : k = k1 := by
            have := hv _ rfl
            obtain ⟨y, hy1, _⟩ := VOK.int (F := F) this
            exact (by simpa using hy1.symm : k = _ ∧ _).1
          subst hkk
          refine plain_ok (eqs_ok ?_)
          simp only [Tm.den, Vr.ev, hvd d hd, ei, ep, intOf]
          rw [wrap_id (by omega) (by omega)]
          omega
        · cases hk
      · exact .nil
    · exact .nil
  · rename_i xt x d ho hd
    unfold chkOp at hc
    rw [ho] at hc
    dsimp only at hc
    split at hc
    · rename_i hx
      obtain ⟨b, hb⟩ := VOK.bool (F := F) (op1 hx)
      obtain ⟨rfl, rfl⟩ := inf_val hi (u := .bool !b) (w1 := w) (by
        unfold execOp
        simp [ho, hb, Op.unary])
      have h1 := hvd d hd
      have h2 := (hev (.tmp x) (by simp [ho, Op.operands])).trans hb
      refine .cons (fun hh => ?_) (.cons (fun hh => ?_) (.cons (fun hh => ?_) (.cons (fun hh => ?_) .nil)))
      all_goals
        have h3 := hh _ (List.mem_singleton.2 rfl)
        simp only at h3
        simp only [Fa.ok]
        first
          | (rw [h1] at h3; rw [h2]; cases b <;> simp_all; done)
          | (rw [h2] at h3; rw [h1]; cases b <;> simp_all; done)
    · cases hc
  · rename_i src dst x d k lo hi' ho hd
    refine .app ?_ (rangeF_ok (lay := lay) (B := B) (F := F) (K := K') (w' := w') (by rw [hvd d hd]; exact hv _ rfl))
    split
    · rename_i k2 lo2 hi2 hx
      split
      · rename_i hr
        unfold chkOp at hc
        rw [ho] at hc
        dsimp only at hc
        split at hc
        · rename_i dd kk kx lo3 hi3 hsrc hdst hx'
          rw [hx] at hx'
          simp only [Option.some.injEq, A0.val.injEq, List.cons.injEq, CT.int.injEq, true_and, and_true] at hx'
          obtain ⟨rfl, rfl, rfl⟩ := hx'
          obtain ⟨p, ep, p1, p2⟩ := (op1 hx).int
          obtain ⟨rfl, rfl⟩ := inf_val hi (u := .int kk (kk.wrap p)) (w1 := w) (by
            unfold execOp
            simp only [ho, ep, convert, Sem.run_bind, run_underlying hsrc, run_underlying hdst, Result.andThen_ok]
            cases dd <;> rfl)
          have hkk : k = kk := by
            have := hv _ rfl
            obtain ⟨y, hy1, _⟩ := VOK.int (F := F) this
            exact (by simpa using hy1.symm : k = _ ∧ _).1
          subst hkk
          refine plain_ok (eqs_ok ?_)
          simp only [Tm.den, Vr.ev, hvd d hd, hev (.tmp x) (by simp [ho, Op.operands]), ep, intOf]
          rw [wrap_id (by omega) (by omega)]
          omega
        · cases hc
      · exact .nil
    · exact .nil
  · rename_i c x y d ho hd
    unfold chkOp at hc
    rw [ho] at hc
    dsimp only at hc
    split at hc
    · rename_i hcb
      obtain ⟨b, hb⟩ := VOK.bool (F := F) (look_ok hE hg trivial hcb)
      obtain ⟨rfl, rfl⟩ := inf_val hi (u := if b then a.eval x else a.eval y) (w1 := w) (by
        unfold execOp
        simp only [ho, hb]
        cases b <;> rfl)
      refine pickF_ok (r := b) ((hev (.tmp c) (by simp [ho, Op.operands])).trans hb) ?_
      rw [hvd d hd, hev x (by simp [ho, Op.operands]), hev y (by simp [ho, Op.operands])]
    · cases hc
  · rename_i t n parts d e ab j ho hd
    have hcc := hc
    unfold chkOp at hc
    rw [ho] at hc
    dsimp only at hc
    split at hc
    · rename_i e' hu
      split at hc
      · rename_i ie hie
        split at hc
        · rename_i z ps hz hps
          split at hc
          · rename_i zs hzs
            split at hc
            · rename_i r hr
              split at hc
              · rename_i hcond
                obtain ⟨rfl, hsz1, hpos, hle, hsub⟩ := hcond
                have hp := partsT_ok hE hg (fun _ _ => trivial) hps
                have hz0 : (Array.range (1 * ie.size)).map (z.cells[· % z.cells.size]!) = z.cells := by
                  apply Array.ext
                  · simp [hsz1]
                  · intro i h1 h2
                    simp at h1
                    simp [Nat.mod_eq_of_lt h2, h2]
                obtain ⟨cells, h1, h2⟩ := fill_ok hp (constCs_ok hzs) hr
                have hrun := run_buildSlice (P := P) w t e' 1 (parts.map fun (i, x) => (i, a.eval x)) cells ie z hu hie hz (by omega) (by omega) (by rw [hz0, Array.toList_map]; exact h1)
                obtain ⟨rfl, rfl⟩ := inf_val hi (u := .slice (some ⟨w.heap.size, 0, none⟩) 1 1) (w1 := w.alloc (.cells cells e')) (by
                  unfold execOp
                  simp only [ho, Sem.run_bind, hrun, Result.andThen_ok]
                  rfl)
                refine plain_ok (.app (eqs_ok ?_) (boxesOf_aps hsz hfs1 (hvd d hd) fun ad ha => ?_))
                · simp [Tm.den, Vr.ev, hvd d hd, lenOf]
                · cases ha; exact Nat.le_refl _
              · cases hc
            · cases hc
          · cases hc
        · cases hc
      · cases hc
    · cases hc
  · rename_i args ats d t ho hd
    split
    · rename_i x hxs
      have hargs := arr_of hxs
      subst hargs
      refine .app ?_ (rangeF_ok (lay := lay) (B := B) (F := F) (K := K') (w' := w') (by rw [hvd d hd]; exact hv _ rfl))
      split
      · rename_i s hs
        have key : ∀ (A : Option Addr) (n c : Nat) (e tt : TypeId), ats.toList = [tt] → P.underlying tt = some (.slice e) → a.eval x = .slice A n c → RsOK γ (a.put o.dst v) w' (plain (eqs (.val (.t d)) s 0)) := fun A n c e tt hat hu hx => by
          have hat' := arr_of hat
          subst hat'
          obtain ⟨rfl, rfl⟩ := inf_val hi (u := .int .i64 n) (w1 := w) (by
            unfold execOp
            simp [ho, resolve, invoke, builtin, hx, Builtin.len_, run_underlying hu, goInt])
          refine plain_ok (eqs_ok ?_)
          have hsd : s.den γ (a.put o.dst (.int .i64 n)) = n := by
            unfold lenTm at hs
            split at hs
            · rename_i i
              obtain rfl := Option.some.inj hs
              simp only [Tm.den, Vr.ev]
              rw [hev (.tmp i) (by simp [ho, Op.operands, Call.operands]), hx]
              rfl
            · obtain rfl := Option.some.inj hs
              have hx' : Value.slice none 0 0 = Value.slice A n c := hx
              simp only [Value.slice.injEq] at hx'
              obtain ⟨_, rfl, _⟩ := hx'
              rfl
            · cases hs
          rw [hsd]
          simp [Tm.den, Vr.ev, hvd d hd, intOf]
        unfold chkOp at hc
        rw [ho] at hc
        dsimp only at hc
        obtain ⟨r1, hr1, _⟩ := Option.map_eq_some_iff.1 hc
        unfold chkCall at hr1
        dsimp only at hr1
        split at hr1
        · rename_i x' tt hx' htt
          obtain rfl : x = x' := by simpa using hx'
          split at hr1
          · rename_i e hu hx
            obtain ⟨A, n, c, e1, _⟩ := (op1 hx).2 0 _ _ rfl rfl
            exact key A n c _ _ htt hu e1
          · rename_i hu hx
            obtain ⟨A, n, c, e1, _⟩ := (op1 hx).2 0 _ _ rfl rfl
            exact key A n c _ _ htt hu e1
          · rename_i hu hx
            obtain ⟨A, n, c, e1, _⟩ := op1 hx
            exact key A n c _ _ htt hu e1
          · rename_i hu hx
            exact key none 0 0 _ _ htt hu ((op1 hx).2 0 _ _ rfl rfl)
          · rename_i hu hx
            obtain ⟨A, n, c, e1, _⟩ := op1 hx
            exact key A n c _ _ htt hu e1
          · rename_i hu hx
            obtain ⟨A, n, c, e1, _⟩ := op1 hx
            exact key A n c _ _ htt hu e1
          · cases hr1
        · cases hr1
      · exact .nil
    · exact .nil
  · rename_i args ats d ho hd
    split
    · rename_i x y hxs
      have hargs := arr_of hxs
      subst hargs
      unfold chkOp at hc
      rw [ho] at hc
      dsimp only at hc
      obtain ⟨r1, hr1, _⟩ := Option.map_eq_some_iff.1 hc
      unfold chkCall at hr1
      dsimp only at hr1
      split at hr1
      · rename_i x' y' t t' hxs' hts
        obtain ⟨rfl, rfl⟩ : x = x' ∧ y = y' := by simpa using hxs'
        split at hr1
        · rename_i tx ty p1 e by_ hx hy hf
          have hmem := List.mem_of_find?_eq_some hf
          have hp : p1 = t := by have := List.find?_some hf; exact Nat.eq_of_beq_eq_true this
          subst hp
          split at hr1
          · rename_i b j b' j' hax hay
            split at hr1
            · rename_i hcond
              obtain ⟨rfl, hb, hj, hj', hby⟩ := hcond
              have hats := arr_of hts
              subst hats
              obtain ⟨A, n, c, ex, hs, hfr, hn⟩ := asFresh_ok hax (op1 hx)
              obtain ⟨A2, m, c2, ey, hs2, hm⟩ := asAny_ok hay (op1 hy)
              have hKe : K e ≤ LIM := hlim e
              simp only [LIM] at hKe
              have hnm : n + m ≤ 68719476736 + 412316860416 := by cases b <;> cases b' <;> simp at hb hn hm <;> omega
              have hby2 : (n + m) * by_ ≤ 140737488355328 := Nat.le_trans (Nat.mul_le_mul hnm hby) (by decide)
              obtain ⟨A', c', w2, hrun, r1, r2, r3, r4, r5, r6, r7, r8⟩ := run_append_ty (P := P) (w := w) (F := F) o.type (hel _ hmem) hT hs hfr hF hBF hs2 (by simp only [maxLen]; omega) hby2
              obtain ⟨rfl, rfl⟩ := inf_val hi (u := .slice A' (n + m) c') (w1 := w2) (by
                unfold execOp
                simp only [ho, resolve, invoke, builtin, Sem.run_bind, Sem.run_pure, Result.andThen_ok, List.map_toArray, List.map_cons, List.map_nil, ex, ey, hrun])
              have evd := hvd d hd
              have evx : (a.put o.dst (.slice A' (n + m) c')).eval x = .slice A n c := (hev x (by simp [ho, Op.operands, Call.operands])).trans ex
              have evy : (a.put o.dst (.slice A' (n + m) c')).eval y = .slice A2 m c2 := (hev y (by simp [ho, Op.operands, Call.operands])).trans ey
              have nilc : decide (opnd Γ g x = some (.val false [.nil])) = true → A = none := fun h => by
                have h := of_decide_eq_true h
                have := (op1 h).2 0 _ _ rfl rfl
                rw [ex] at this
                have this : Value.slice A n c = Value.slice none 0 0 := this
                simpa using (by simpa using this : A = none ∧ n = 0 ∧ c = 0).1
              have niln : decide (opnd Γ g x = some (.val false [.nil])) = true → n = 0 := fun h => by
                have h := of_decide_eq_true h
                have := (op1 h).2 0 _ _ rfl rfl
                rw [ex] at this
                have this : Value.slice A n c = Value.slice none 0 0 := this
                simpa using (by simpa using this : A = none ∧ n = 0 ∧ c = 0).2.1
              have newb : A = none → ∀ ad, A' = some ad → w.heap.size ≤ ad.block := fun hA ad ha => by
                rcases r7 ad ha with ⟨x, hx, _⟩ | h
                · rw [hA] at hx; cases hx
                · exact h
              unfold appendF
              split
              · rename_i jy
                split
                · rename_i ix
                  refine plain_ok (.app ?_ ?_)
                  · split
                    · rename_i hnl
                      have hn0 := niln hnl
                      refine eqs_ok ?_
                      simp only [Tm.den, Vr.ev, evd, evy, lenOf]
                      omega
                    · split
                      rename_i mm hl
                      have := lenConst_ok hfs1 hl
                      rw [evy] at this
                      refine eqs_ok ?_
                      simp only [Tm.den, Vr.ev, evd, evx, lenOf] at this ⊢
                      omega
                      split
                      · rename_i mm hl
                        have := lenConst_ok hfs1 hl
                        rw [evx] at this
                        refine eqs_ok ?_
                        simp only [Tm.den, Vr.ev, evd, evy, lenOf] at this ⊢
                        omega
                      · refine sumF_ok (w := w) hfs1 ?_
                        rw [evd, evx, evy]
                        simp only [lenOf]
                        omega
                  · split
                    · rename_i hnil
                      exact boxesOf_aps hsz hfs1 evd (newb (nilc hnil))
                    · intro f hf
                      obtain ⟨g1, hg1, he⟩ := List.mem_filterMap.1 hf
                      split at he
                      · rename_i i p
                        split at he
                        · rename_i hii
                          subst hii
                          obtain rfl := Option.some.inj he
                          obtain ⟨A3, n3, c3, b3, e1, e2, e3, hbl⟩ := hfs1 _ hg1
                          obtain rfl : A3 = A := by rw [evx] at e1; simp at e1; exact e1.1.symm
                          refine ⟨A', _, _, b3, evd, e2, fun ad ha => ?_, by omega⟩
                          rcases r7 ad ha with ⟨x, hx, hxb⟩ | h
                          · rw [← hxb]; exact e3 x hx
                          · omega
                        · cases he
                      · cases he
                · rename_i hz
                  have hx0 : Value.slice none 0 0 = Value.slice A n c := ex
                  simp only [Value.slice.injEq] at hx0
                  obtain ⟨hA, rfl, rfl⟩ := hx0
                  refine plain_ok (.app (eqs_ok ?_) (boxesOf_aps hsz hfs1 evd (newb hA.symm)))
                  simp only [Tm.den, Vr.ev, evd, evy, lenOf]
                  omega
                · exact .nil
              · exact .nil
            · cases hr1
          · cases hr1
        · cases hr1
      · cases hr1
    · exact .nil
  · rename_i args ats _ _ d t ho hd
    refine .app (rangeF_ok (lay := lay) (B := B) (F := F) (K := K') (w' := w') (by rw [hvd _ hd]; exact hv _ rfl)) (plain_ok ?_)
    unfold minF
    split
    · rename_i x y hxs
      split
      · rename_i s t' hs ht
        have hargs := arr_of hxs
        subst hargs
        unfold chkOp at hc
        rw [ho] at hc
        dsimp only at hc
        obtain ⟨r1, hr1, _⟩ := Option.map_eq_some_iff.1 hc
        unfold chkCall at hr1
        dsimp only at hr1
        split at hr1
        · rename_i k lo hi1 k' lo' hi' hx hy
          split at hr1
          · rename_i hk
            subst hk
            obtain ⟨u, eu, _⟩ := (op1 hx).int
            obtain ⟨q, eq, _⟩ := (op1 hy).int
            obtain ⟨rfl, rfl⟩ := inf_val hi (u := .int k (if q < u then q else u)) (w1 := w) (by
              unfold execOp
              simp [ho, resolve, invoke, builtin, eu, eq, Builtin.min_, Builtin.min2])
            have e1 : s.den γ (a.put o.dst (.int k (if q < u then q else u))) = u := by
              rw [tmOf_den hs, hev x (by simp [ho, Op.operands, Call.operands]), eu]; rfl
            have e2 : t'.den γ (a.put o.dst (.int k (if q < u then q else u))) = q := by
              rw [tmOf_den ht, hev y (by simp [ho, Op.operands, Call.operands]), eq]; rfl
            have e3 : (Tm.val (.t d)).den γ (a.put o.dst (.int k (if q < u then q else u))) = if q < u then q else u := by
              simp only [Tm.den, Vr.ev]; rw [hvd d hd]; rfl
            refine .cons ?_ (.cons ?_ .nil)
            · show (Tm.val (.t d)).den γ _ ≤ s.den γ _ + 0
              rw [e1, e3]; split <;> omega
            · show (Tm.val (.t d)).den γ _ ≤ t'.den γ _ + 0
              rw [e2, e3]; split <;> omega
          · cases hr1
        · cases hr1
      · exact .nil
    · exact .nil
  · rename_i ho hd
    exact rangeF_ok (lay := lay) (B := B) (F := F) (K := K') (w' := w') (by rw [hvd _ hd]; exact hv _ rfl)
  · exact .nil
theorem eff_ok (hT : Typed lay B K w) (hBF : B ≤ F) (hF : F ≤ w.heap.size) (hel : ∀ p ∈ els, Elem lay P p.1 p.2.1 p.2.2) (hE : EOK lay B F K w (fun _ => True) Γ a) (hg : GH a g) {rt : Option AT} {gr : List Gr} (hc : chkOp P lay els Fs Γ g o = some (rt, gr)) (hlim : ∀ e, K e ≤ LIM)
    (hi : Inf P o a w v w') (hfs : FsOK γ a w fs) : (effF P Γ fs g o).ok a w w' := by
  have op1 : ∀ {x : Operand} {t : A0}, opnd Γ g x = some t → VOK lay B F K w t (a.eval x) := fun hx => opnd_ok hE hg (fun _ _ => trivial) hx
  unfold effF
  split
  · rename_i t x y ho
    split
    · rename_i p k i hr hin
      intro b hp ad hlt had
      unfold chkOp at hc
      rw [ho] at hc
      dsimp only at hc
      split at hc
      · rename_i cs u i' hx hy' hin'
        obtain rfl : i = i' := by rw [hin] at hin'; simpa using hin'
        split at hc
        · rename_i hszc
          obtain ⟨gr0, hgr, he⟩ := Option.map_eq_some_iff.1 hc
          obtain ⟨k1, k2⟩ := fit_ok (G := fun _ K => K) hgr (op1 hy')
          obtain ⟨w2, h1, _, _, _, b2, off, h5, _, h7⟩ := store_ok (P := P) (hT.le k2) hBF ((op1 hx).keeps (Keeps.refl _) k2) hin hszc k1
          obtain rfl := inf_skip hi (w1 := w2) (by
            unfold execOp
            simp only [ho, Sem.run_bind, h1, Result.andThen_ok]
            rfl)
          obtain ⟨b', e1, e2, _⟩ := hfs _ (rootOf_mem hr)
          obtain rfl : b = b' := by rw [hp] at e1; simpa using e1
          obtain ⟨rfl, rfl⟩ : b2 = b ∧ off = k := by rw [h5] at e2; simpa using e2
          have hvs : (a.eval y).cells.size = i.size := by have := k1.1; rw [Array.length_toList] at this; omega
          exact h7 ad (by rw [hvs]; exact had)
        · cases hc
      · cases hc
    · split
      · rename_i j hj
        intro A n c hA ad hlt had
        unfold chkOp at hc
        rw [ho] at hc
        dsimp only at hc
        split at hc
        · rename_i cs u i' hx hy' hin'
          split at hc
          · rename_i hszc
            obtain ⟨gr0, hgr, he⟩ := Option.map_eq_some_iff.1 hc
            obtain ⟨k1, k2⟩ := fit_ok (G := fun _ K => K) hgr (op1 hy')
            obtain ⟨w2, h1, _, _, _, b2, off, h5, _, h7⟩ := store_ok (P := P) (hT.le k2) hBF ((op1 hx).keeps (Keeps.refl _) k2) hin' hszc k1
            obtain rfl := inf_skip hi (w1 := w2) (by
              unfold execOp
              simp only [ho, Sem.run_bind, h1, Result.andThen_ok]
              rfl)
            obtain ⟨s, hs⟩ := intoOf_mem hj
            obtain ⟨b, o1, n1, c1, k, e1, _, e3⟩ := hfs _ hs
            rw [← sameOf_ok hfs, hA] at e1
            rw [h5] at e3
            obtain ⟨rfl, _⟩ : A = some ⟨b, o1, none⟩ ∧ _ := by simpa using e1
            obtain ⟨rfl, _⟩ : b2 = b ∧ _ := by simpa using e3
            exact h7 ad (.inl (had _ rfl))
          · cases hc
        · cases hc
      · trivial
  · trivial
  · rename_i args ats ho
    split
    · rename_i x y hxs
      have hargs := arr_of hxs
      subst hargs
      unfold chkOp at hc
      rw [ho] at hc
      dsimp only at hc
      obtain ⟨r1, hr1, _⟩ := Option.map_eq_some_iff.1 hc
      unfold chkCall at hr1
      dsimp only at hr1
      split at hr1
      · rename_i x' y' t t' hxs' hts
        obtain ⟨rfl, rfl⟩ : x = x' ∧ y = y' := by simpa using hxs'
        split at hr1
        · rename_i tx ty p1 e by_ hx hy hf
          have hmem := List.mem_of_find?_eq_some hf
          have hp : p1 = t := by have := List.find?_some hf; exact Nat.eq_of_beq_eq_true this
          subst hp
          split at hr1
          · rename_i b j b' j' hax hay
            split at hr1
            · rename_i hcond
              obtain ⟨rfl, hb, hj, hj', hby⟩ := hcond
              have hats := arr_of hts
              subst hats
              obtain ⟨A, n, c, ex, hs, hfr, hn⟩ := asFresh_ok hax (op1 hx)
              obtain ⟨A2, m, c2, ey, hs2, hm⟩ := asAny_ok hay (op1 hy)
              have hKe : K e ≤ LIM := hlim e
              simp only [LIM] at hKe
              have hnm : n + m ≤ 68719476736 + 412316860416 := by cases b <;> cases b' <;> simp at hb hn hm <;> omega
              have hby2 : (n + m) * by_ ≤ 140737488355328 := Nat.le_trans (Nat.mul_le_mul hnm hby) (by decide)
              obtain ⟨A', c', w2, hrun, r1, r2, r3, r4, r5, r6, r7, r8⟩ := run_append_ty (P := P) (w := w) (F := F) o.type (hel _ hmem) hT hs hfr hF hBF hs2 (by simp only [maxLen]; omega) hby2
              obtain ⟨rfl, rfl⟩ := inf_val hi (u := .slice A' (n + m) c') (w1 := w2) (by
                unfold execOp
                simp only [ho, resolve, invoke, builtin, Sem.run_bind, Sem.run_pure, Result.andThen_ok, List.map_toArray, List.map_cons, List.map_nil, ex, ey, hrun])
              split
              · rename_i hnil
                have := (op1 hnil).2 0 _ _ rfl rfl
                rw [ex] at this
                have this : Value.slice A n c = Value.slice none 0 0 := this
                have hA : A = none := (by simpa using this : A = none ∧ n = 0 ∧ c = 0).1
                exact fun ad had => r6 ad had fun x hx => by rw [hA] at hx; cases hx
              · split
                · rename_i i _
                  intro A3 n3 c3 e3 ad had hx
                  have e3' : a.eval (.tmp i) = .slice A n c := ex
                  rw [e3] at e3'
                  obtain rfl : A3 = A := by simp at e3'; exact e3'.1
                  exact r6 ad had hx
                · trivial
            · cases hr1
          · cases hr1
        · cases hr1
      · cases hr1
    · trivial
  · rename_i h1 h2 h3
    refine fun ad had => hi.2 ?_ ad had
    unfold isWrite
    split
    · rename_i hs; exact absurd hs (h2 _ _ _)
    · rename_i hs; exact absurd hs (h3 _ _)
    · rfl
end
end Go.Tz
/-
  What an operation lets know of slices' elements; and that it is so. Plain laws.
-/
namespace Go.Tz
open Go.Rp Go.RowKit

def hasE (fs : List Fa) : Bool := fs.any fun f => match f with
  | .elts _ _ _ => true
  | _ => false
def eltsOf (fs : List Fa) (d x : Nat) : List Fa := fs.filterMap fun f => match f with
  | .elts (.t i) t c => if Nat.beq i x then some (.elts (.t d) t c) else none
  | _ => none
def apxOf (fs : List Fa) (d x : Nat) : List Fa := fs.filterMap fun f => match f with
  | .apx i j => if Nat.beq i x then some (.apx d j) else if Nat.beq j x then some (.apx i d) else none
  | _ => none
def isSl : AT → Bool
  | .one (.val false [.sl _]) => true
  | .one (.val false [.slb _ _]) => true
  | .one (.sli _ _ _) => true
  | .one (.slf _) => true
  | _ => false
def eltTmps (Γ : Env) (fs : List Fa) : List Nat := fs.filterMap fun f => match f with
  | .elts (.t i) _ _ => match find Γ i with
    | some (none, t) => if isSl t then some i else none
    | _ => none
  | _ => none
def mixE (fs : List Fa) (d x y : Nat) : List Fa := fs.filterMap fun f => match f with
  | .elts (.t i) t c => if Nat.beq i x && fs.any (fun h => match h with
      | .elts (.t j) u c' => Nat.beq j y && ent fs u t (c - c')
      | _ => false) then some (.elts (.t d) t c) else none
  | _ => none
def apxL (fs : List Fa) (d x : Nat) : List Fa := fs.filterMap fun f => match f with
  | .apx i j => if Nat.beq i x then some (.apx d j) else none
  | _ => none
def elemE (fs : List Fa) (d j : Nat) : List Fa := fs.flatMap fun h => match h with
  | .elts (.t i) t c => if Nat.beq i j then [.le (.c 0) (.val (.t d)) 0, .le (.val (.t d)) t c] else []
  | _ => []
def loadE (fs : List Fa) (d x : Nat) : List Fa := fs.flatMap fun f => match f with
  | .into q j s => if Nat.beq q x && Nat.beq s 1 then elemE fs d j else []
  | _ => []
section
variable (lay : Lay) (els : List (TypeId × TypeId × Nat))
def oneCell (t : TypeId) : Bool := match els.find? (fun p => Nat.beq p.1 t) with
  | some (_, e, _) => Nat.beq (lay e).length 1
  | none => false
def genE (Γ : Env) (fs : List Fa) (g : Gd) (o : Oper) (rt : Option AT) : List Fa :=
  match o.op, o.dst, rt with
  | .move (.tmp x), some d, some t | .assign (.tmp x), some d, some t => (eltsOf fs d x ++ apxOf fs d x) ++ (if isSl t && hasE fs then [.same d x] else [])
  | .load _ (.tmp x), some d, some (.one (.val false _)) => loadE fs d x
  | .box _ _, some d, _ | .alloc _, some d, _ => (eltTmps Γ fs).map fun i => .aps i d
  | .buildSlice t _ parts, some d, _ => match parts.toList with
    | [(0, .tmp y)] => match opnd Γ g (.tmp y) with
      | some (.val false [.int _ _ _]) => if ent fs (.c 0) (.val (.t y)) 0 && oneCell lay els t then [.elts (.t d) (.val (.t y)) 0] else []
      | _ => []
    | _ => []
  | .call { callee := .builtin .append, args, argTypes }, some d, _ => match args.toList, argTypes.toList with
    | [.tmp i, .tmp j], [t, _] => if hasE fs then (if decide (opnd Γ g (.tmp i) = some (.val false [.nil])) then (if oneCell lay els t then eltsOf fs d j else []) ++ (eltTmps Γ fs).map (fun v => .apx d v) else (if oneCell lay els t then mixE fs d i j else []) ++ apxL fs d i) else []
    | _, _ => []
  | _, _, _ => []
end
section
variable {P : Program} {lay : Lay} {els : List (TypeId × TypeId × Nat)} {Fs : FuncId → Option Sg} {B F : Nat} {K K' : Bounds} {γ : Nat → Int} {a : Act} {w w' : World} {Γ : Env} {fs : List Fa} {g : Gd} {o : Oper} {v : Value} {d x : Nat}
theorem eltsOf_ok (h : a.eval (.tmp d) = a.eval (.tmp x)) (hfs : FsOK γ a w fs) : FsOK γ a w (eltsOf fs d x) := fun f hf => by
  obtain ⟨g, hg, he⟩ := List.mem_filterMap.1 hf
  split at he
  · rename_i i t c
    split at he
    · rename_i hi
      obtain rfl := Nat.eq_of_beq_eq_true hi
      obtain rfl := Option.some.inj he
      intro A n m hA
      exact hfs _ hg A n m (h.symm.trans hA)
    · cases he
  · cases he
theorem apxOf_ok (h : a.eval (.tmp d) = a.eval (.tmp x)) (hfs : FsOK γ a w fs) : FsOK γ a w (apxOf fs d x) := fun f hf => by
  obtain ⟨g, hg, he⟩ := List.mem_filterMap.1 hf
  split at he
  · rename_i i j
    obtain ⟨A, n, c, A', n', c', h1, h2, h3⟩ := hfs _ hg
    split at he
    · rename_i hi
      obtain rfl := Nat.eq_of_beq_eq_true hi
      obtain rfl := Option.some.inj he
      exact ⟨A, n, c, A', n', c', h.trans h1, h2, h3⟩
    · split at he
      · rename_i hj
        obtain rfl := Nat.eq_of_beq_eq_true hj
        obtain rfl := Option.some.inj he
        exact ⟨A, n, c, A', n', c', h1, h.trans h2, h3⟩
      · cases he
  · cases he
theorem isSl_ok {t : AT} (h : isSl t = true) {u : Value} (hv : TOK lay B F K w t u) : ∃ A n c, u = .slice A n c ∧ ∀ ad, A = some ad → ad.block < w.heap.size := by
  have fin : ∀ {e : TypeId} {A : Option Addr} {n c : Nat}, SlOK lay B w e A n c → ∀ ad, A = some ad → ad.block < w.heap.size := fun hs ad ha => by
    rcases hs.2.2 with ⟨h1, _⟩ | ⟨b, off, arr, h1, _, hb, _⟩
    · rw [h1] at ha; cases ha
    · rw [h1] at ha
      obtain rfl := Option.some.inj ha
      exact hb.lt
  unfold isSl at h
  split at h
  · obtain ⟨A, n, c, e1, _, e3⟩ := hv.2 0 _ _ rfl rfl
    exact ⟨A, n, c, e1, fin e3⟩
  · obtain ⟨A, n, c, e1, _, e3⟩ := hv.2 0 _ _ rfl rfl
    exact ⟨A, n, c, e1, fin e3⟩
  · obtain ⟨A, n, c, e1, e3, _⟩ := hv
    exact ⟨A, n, c, e1, fin e3⟩
  · obtain ⟨A, n, c, e1, e3, _⟩ := hv
    exact ⟨A, n, c, e1, fin e3⟩
  · cases h
theorem eltTmps_ok (hE : EOK lay B F K w (fun _ => True) Γ a) {i : Nat} (hi : i ∈ eltTmps Γ fs) : (∃ A n c, a.eval (.tmp i) = .slice A n c ∧ ∀ ad, A = some ad → ad.block < w.heap.size) ∧ ∃ f ∈ fs, i ∈ f.ments := by
  obtain ⟨f, hf, he⟩ := List.mem_filterMap.1 hi
  split at he
  · rename_i i' t c
    split at he
    · rename_i t' hfi
      split at he
      · rename_i hs
        obtain rfl := Option.some.inj he
        exact ⟨isSl_ok hs (hE i' none t' trivial (find_mem hfi) trivial), _, hf, by simp [Fa.ments, Vr.tmp]⟩
      · cases he
    · cases he
  · cases he
theorem loadE_ok (hfs : FsOK γ a w fs) {b off : Nat} (hx : a.eval (.tmp x) = .pointer (some ⟨b, off, none⟩)) {u : Value} (hd : a.eval (.tmp d) = u) (hc : w.cell? ⟨b, off, none⟩ = some u) : FsOK γ a w (loadE fs d x) := fun f hf => by
  obtain ⟨g, hg, he⟩ := List.mem_flatMap.1 hf
  split at he
  · rename_i q j s
    split at he
    · rename_i hq
      simp only [Bool.and_eq_true] at hq
      obtain rfl := Nat.eq_of_beq_eq_true hq.1
      obtain rfl := Nat.eq_of_beq_eq_true hq.2
      obtain ⟨b1, o1, n, c, k, e1, e2, e3⟩ := hfs _ hg
      rw [hx] at e3
      obtain ⟨rfl, rfl⟩ : b = b1 ∧ off = o1 + k * 1 := by simpa using e3
      obtain ⟨h, hh, he2⟩ := List.mem_flatMap.1 he
      clear he
      split at he2
      · rename_i i t c'
        split at he2
        · rename_i hi
          obtain rfl := Nat.eq_of_beq_eq_true hi
          obtain ⟨b2, o2, u', f1, f2, k2, y, rfl, f3, f4⟩ := hfs _ hh _ _ _ e1 k e2
          obtain ⟨rfl, rfl⟩ : b = b2 ∧ o1 = o2 := by simpa using f1
          rw [Nat.mul_one, f2] at hc
          obtain rfl := Option.some.inj hc
          have he : f ∈ [Fa.le (.c 0) (.val (.t d)) 0, .le (.val (.t d)) t c'] := he2
          rcases List.mem_cons.1 he with rfl | he
          · show (0 : Int) ≤ intOf (a.eval (.tmp d)) + 0
            rw [hd]; simp only [intOf]; omega
          · obtain rfl := List.mem_singleton.1 he
            show intOf (a.eval (.tmp d)) ≤ t.den γ a + c'
            rw [hd]; exact f4
        · cases he2
      · cases he2
    · cases he
  · cases he
theorem fill_one {z : Array Value} {v : Value} {r : Array Value} (hz : z.size = 1) (h1 : v.oneCell' = true) (h : Instr.fill (fun i => some (i * 1, 1)) z [(0, v)] = some r) : r[0]? = some v := by
  simp only [Instr.fill, cells_one' h1] at h
  simp [hz] at h
  subst h
  rw [Array.getElem?_setIfInBounds_self]
  simp [hz]
theorem genE_ok (hT : Typed lay B K w) (hBF : B ≤ F) (hE : EOK lay B F K w (fun _ => True) Γ a) (hg : GH a g) {rt : Option AT} {gr : List Gr} (hc : chkOp P lay els Fs Γ g o = some (rt, gr)) (hlim : ∀ e, K e ≤ LIM)
    (hi : Inf P o a w v w') (hfs : FsOK γ a w fs) (hnd : ∀ d, o.dst = some d → (∀ f ∈ fs, d ∉ f.ments) ∧ (∀ x ∈ Γ, x.1 ≠ d) ∧ d < a.tmps.size) (hne : opsNe o = true) (hsz : w.heap.size ≤ w'.heap.size) (hF : F ≤ w.heap.size) (hel : ∀ p ∈ els, Elem lay P p.1 p.2.1 p.2.2) :
    FsOK γ (a.put o.dst v) w' (genE lay els Γ fs g o rt) := by
  have hne' : ∀ d, o.dst = some d → ∀ i, .tmp i ∈ o.op.operands.toList → i ≠ d := fun d hd i hi => ne_of hne hd hi
  have hvd : ∀ d, o.dst = some d → (a.put o.dst v).eval (.tmp d) = v := fun d hd => by rw [hd]; exact eval_put_eq v (hnd d hd).2.2
  have hev : ∀ x, x ∈ o.op.operands.toList → (a.put o.dst v).eval x = a.eval x := fun x hx => by
    cases hd : o.dst with
    | none => rfl
    | some d => exact eval_op fun i hi => hne' d hd i (hi ▸ hx)
  have hfs1 : FsOK γ (a.put o.dst v) w fs := fun f hf => by
    cases hd : o.dst with
    | none => exact hfs f hf
    | some d => exact (fa_put v ((hnd d hd).1 f hf)).2 (hfs f hf)
  have op1 : ∀ {x : Operand} {t : A0}, opnd Γ g x = some t → VOK lay B F K w t (a.eval x) := fun hx => opnd_ok hE hg (fun _ _ => trivial) hx
  have mv : ∀ x, (o.op = .move x ∨ o.op = .assign x) → v = a.eval x ∧ w' = w := fun x ho => inf_val hi (by
    unfold execOp
    rcases ho with ho | ho <;> simp [ho])
  have newb : ∀ d, o.dst = some d → (v = .pointer (some ⟨w.heap.size, 0, none⟩) ∧ w.heap.size < w'.heap.size) → FsOK γ (a.put o.dst v) w' ((eltTmps Γ fs).map fun i => .aps i d) := fun d hd hv f hf => by
    obtain ⟨i, hi, rfl⟩ := List.mem_map.1 hf
    obtain ⟨⟨A, n, c, e1, e2⟩, f, hf, hfm⟩ := eltTmps_ok hE hi
    have hid : i ≠ d := fun e => (hnd d hd).1 f hf (e ▸ hfm)
    refine ⟨A, n, c, w.heap.size, ?_, (hvd d hd).trans hv.1, fun ad ha => ?_, hv.2⟩
    · rw [hd, eval_put_ne _ hid]; exact e1
    · have := e2 ad ha; omega
  unfold genE
  split
  · rename_i x d t ho hd
    obtain ⟨rfl, rfl⟩ := mv _ (.inl ho)
    have h := (hvd d hd).trans (hev (.tmp x) (by simp [ho, Op.operands])).symm
    refine .app (.app (eltsOf_ok h hfs1) (apxOf_ok h hfs1)) ?_
    split
    · exact .cons h .nil
    · exact .nil
  · rename_i x d t ho hd
    obtain ⟨rfl, rfl⟩ := mv _ (.inr ho)
    have h := (hvd d hd).trans (hev (.tmp x) (by simp [ho, Op.operands])).symm
    refine .app (.app (eltsOf_ok h hfs1) (apxOf_ok h hfs1)) ?_
    split
    · exact .cons h .nil
    · exact .nil
  · rename_i t x d cs ho hd
    unfold chkOp at hc
    rw [ho] at hc
    dsimp only at hc
    split at hc
    · rename_i cs' dd i hx hu hin
      split at hc
      · rename_i hcond
        simp only [Option.some.injEq, Prod.mk.injEq, AT.one.injEq, A0.val.injEq] at hc
        obtain ⟨⟨hr, rfl⟩, _⟩ := hc
        obtain ⟨t0, ht0, hx⟩ := Option.bind_eq_some_iff.1 hx
        obtain ⟨u, h1, h2, b, off, h3, h4⟩ := load_ok (P := P) hT (asRd_ok hBF hx (op1 ht0)) hu hin hcond.1 (fun hd => hcond.2.resolve_left (by simp [hd]))
        obtain ⟨rfl, rfl⟩ := inf_val hi (u := u) (w1 := w) (by
          unfold execOp
          simp only [ho, Sem.run_bind, h1, Result.andThen_ok]
          rfl)
        rw [hr] at h2
        have h1' : v.oneCell' = true := Ofs.one h2 v (by simp)
        exact loadE_ok hfs1 ((hev (.tmp x) (by simp [ho, Op.operands])).trans h3) (hvd d hd) (h4 0 v (by rw [cells_one' h1']; rfl))
      · cases hc
    · cases hc
  · rename_i e y d ho hd
    unfold chkOp at hc
    rw [ho] at hc
    dsimp only at hc
    split at hc
    · rename_i t hy
      split at hc
      · rename_i gr0 hgr
        obtain ⟨k1, k2⟩ := fit_ok (G := fun _ K => K) hgr (op1 hy)
        obtain ⟨ad, w2, h1, ⟨rfl, rfl⟩, _⟩ := new_ok (P := P) (F := 0) (hT.le k2) (Nat.zero_le _) (ty := e) (v := a.eval y) k1
        obtain ⟨rfl, rfl⟩ := inf_val hi (u := .pointer (some ⟨w.heap.size, 0, none⟩)) (w1 := w.alloc (.cells (a.eval y).cells e)) (by
          unfold execOp
          simp [ho, Instr.box, h1])
        exact newb d hd ⟨rfl, by simp⟩
      · cases hc
    · cases hc
  · rename_i e d ho hd
    unfold chkOp at hc
    rw [ho] at hc
    dsimp only at hc
    split at hc
    · rename_i i hin
      split at hc
      · rename_i z hz
        split at hc
        · rename_i zs hzs
          split at hc
          · rename_i hsub
            obtain ⟨ad, w2, h1, ⟨rfl, rfl⟩, _⟩ := new_ok (P := P) (F := 0) hT (Nat.zero_le _) (ty := e) (v := z) ((constCs_ok hzs).sub hsub)
            obtain ⟨rfl, rfl⟩ := inf_val hi (u := .pointer (some ⟨w.heap.size, 0, none⟩)) (w1 := w.alloc (.cells z.cells e)) (by
              unfold execOp
              simp only [ho, Instr.alloc]
              simp [zeroValue, typeInfo, hin, hz, h1])
            exact newb d hd ⟨rfl, by simp⟩
          · cases hc
        · cases hc
      · cases hc
    · cases hc
  · rename_i t n parts d ho hd
    split
    · rename_i y hparts
      have hparts := arr_of hparts
      subst hparts
      split
      · rename_i k lo hi1 hy
        split
        · rename_i hcnd
          simp only [Bool.and_eq_true] at hcnd
          unfold chkOp at hc
          rw [ho] at hc
          dsimp only at hc
          split at hc
          · rename_i e' hu
            split at hc
            · rename_i ie hie
              split at hc
              · rename_i z ps hz hps
                split at hc
                · rename_i zs hzs
                  split at hc
                  · rename_i r hr
                    split at hc
                    · rename_i hcond
                      obtain ⟨rfl, hsz1, hpos, hle, hsub⟩ := hcond
                      have hp := partsT_ok hE hg (fun _ _ => trivial) hps
                      have hz0 : (Array.range (1 * ie.size)).map (z.cells[· % z.cells.size]!) = z.cells := by
                        apply Array.ext
                        · simp [hsz1]
                        · intro i h1 h2
                          simp at h1
                          simp [Nat.mod_eq_of_lt h2, h2]
                      obtain ⟨cells, h1, h2⟩ := fill_ok hp (constCs_ok hzs) hr
                      have hrun := run_buildSlice (P := P) w t e' 1 (#[(0, Operand.tmp y)].map fun (i, x) => (i, a.eval x)) cells ie z hu hie hz (by omega) (by omega) (by rw [hz0, Array.toList_map]; exact h1)
                      obtain ⟨rfl, rfl⟩ := inf_val hi (u := .slice (some ⟨w.heap.size, 0, none⟩) 1 1) (w1 := w.alloc (.cells cells e')) (by
                        unfold execOp
                        simp only [ho, Sem.run_bind, hrun, Result.andThen_ok]
                        rfl)
                      have hone : ie.size = 1 := by
                        have hoc := hcnd.2
                        unfold oneCell at hoc
                        split at hoc
                        · rename_i p1 e by_ hf
                          have hmem := List.mem_of_find?_eq_some hf
                          have hpt : p1 = t := by have := List.find?_some hf; exact Nat.eq_of_beq_eq_true this
                          subst hpt
                          obtain ⟨hu2, _, i2, z2, hi2, _, hs2, _⟩ := hel _ hmem
                          obtain rfl : e' = e := by rw [hu] at hu2; simpa using hu2
                          rw [hie] at hi2
                          obtain rfl := Option.some.inj hi2
                          rw [hs2]; exact Nat.eq_of_beq_eq_true hoc
                        · cases hoc
                      obtain ⟨q, eq, _⟩ := (op1 hy).int
                      have hent := ent_ok hfs hcnd.1
                      have hval : (Tm.val (.t y)).den γ a = q := by simp only [Tm.den, Vr.ev]; rw [eq]; rfl
                      rw [hval] at hent
                      have hcell : cells[0]? = some (a.eval (.tmp y)) := by
                        refine fill_one (z := z.cells) (by omega) (by rw [eq]; rfl) ?_
                        rw [← h1, hone]
                        rfl
                      refine .cons (fun A m c hA j hj => ?_) .nil
                      have hA' := (hvd d hd).symm.trans hA
                      simp only [Value.slice.injEq] at hA'
                      obtain ⟨rfl, rfl, rfl⟩ := hA'
                      obtain rfl : j = 0 := by omega
                      refine ⟨_, _, _, rfl, ((Blk.new w e' cells).cell _).trans hcell, k, q, eq, ?_, ?_⟩
                      · simpa [Tm.den] using hent
                      · have hvy : (Tm.val (.t y)).den γ (a.put o.dst (.slice (some ⟨w.heap.size, 0, none⟩) 1 1)) = q := by
                          simp only [Tm.den, Vr.ev]
                          rw [hev (.tmp y) (by simp [ho, Op.operands]), eq]; rfl
                        rw [hvy]; omega
                    · cases hc
                  · cases hc
                · cases hc
              · cases hc
            · cases hc
          · cases hc
        · exact .nil
      · exact .nil
    · exact .nil
  · rename_i args ats d ho hd
    split
    · rename_i ix jy t t' hxs hts
      split
      · rename_i hcnd
        have hargs := arr_of hxs
        have hats := arr_of hts
        subst hargs hats
        unfold chkOp at hc
        rw [ho] at hc
        dsimp only at hc
        obtain ⟨r1, hr1, _⟩ := Option.map_eq_some_iff.1 hc
        unfold chkCall at hr1
        dsimp only at hr1
        split at hr1
        · rename_i tx ty p1 e by_ hx hy hf
          have hmem := List.mem_of_find?_eq_some hf
          have hp : p1 = t := by have := List.find?_some hf; exact Nat.eq_of_beq_eq_true this
          subst hp
          have hL : oneCell lay els p1 = true → (lay e).length = 1 := fun hoc => by
            unfold oneCell at hoc
            rw [hf] at hoc
            exact Nat.eq_of_beq_eq_true hoc
          split at hr1
          · rename_i b j b' j' hax hay
            split at hr1
            · rename_i hcond
              obtain ⟨rfl, hb, hj, hj', hby⟩ := hcond
              obtain ⟨A, n, c, ex, hs, hfr, hn⟩ := asFresh_ok hax (op1 hx)
              obtain ⟨A2, m, c2, ey, hs2, hm⟩ := asAny_ok hay (op1 hy)
              have hKe : K e ≤ LIM := hlim e
              simp only [LIM] at hKe
              have hnm : n + m ≤ 68719476736 + 412316860416 := by cases b <;> cases b' <;> simp at hb hn hm <;> omega
              have hby2 : (n + m) * by_ ≤ 140737488355328 := Nat.le_trans (Nat.mul_le_mul hnm hby) (by decide)
              obtain ⟨A', c', w2, hrun, r1, r2, r3, r4, r5, r6, r7, r8⟩ := run_append_ty (P := P) (w := w) (F := F) o.type (hel _ hmem) hT hs hfr hF hBF hs2 (by simp only [maxLen]; omega) hby2
              obtain ⟨rfl, rfl⟩ := inf_val hi (u := .slice A' (n + m) c') (w1 := w2) (by
                unfold execOp
                simp only [ho, resolve, invoke, builtin, Sem.run_bind, Sem.run_pure, Result.andThen_ok, List.map_toArray, List.map_cons, List.map_nil, ex, ey, hrun])
              have evd := hvd d hd
              have r8 : oneCell lay els p1 = true → ∀ p : Value → Prop, InsAt w A n p → InsAt w A2 m p → InsAt w' A' (n + m) p := fun hoc p p1 p2 => by
                have := r8 p
                simp only [hL hoc, Nat.mul_one] at this
                exact this p1 p2
              have den1 : ∀ t : Tm, d ∉ t.ments → t.den γ (a.put o.dst (.slice A' (n + m) c')) = t.den γ a := fun t ht => by rw [hd]; exact tm_put _ ht
              have evx : a.eval (.tmp ix) = .slice A n c := ex
              have evy : a.eval (.tmp jy) = .slice A2 m c2 := ey
              have keep2 : ∀ i, i ≠ d → (a.put o.dst (.slice A' (n + m) c')).eval (.tmp i) = a.eval (.tmp i) := fun i hi => by rw [hd]; exact eval_put_ne _ hi
              split
              · rename_i hnil
                have hnil := of_decide_eq_true hnil
                have h0 := (op1 hnil).2 0 _ _ rfl rfl
                rw [evx] at h0
                have h0 : Value.slice A n c = Value.slice none 0 0 := h0
                obtain ⟨rfl, rfl, rfl⟩ : A = none ∧ n = 0 ∧ c = 0 := by simpa using h0
                refine .app (?_) fun f hf => ?_
                · split
                  case isFalse => exact .nil
                  rename_i hoc
                  intro f hf
                  obtain ⟨g1, hg1, he⟩ := List.mem_filterMap.1 hf
                  split at he
                  · rename_i i t c1
                    split at he
                    · rename_i hi2
                      obtain rfl := Nat.eq_of_beq_eq_true hi2
                      obtain rfl := Option.some.inj he
                      intro A3 n3 c3 h3
                      obtain ⟨rfl, rfl, rfl⟩ : A' = A3 ∧ 0 + m = n3 ∧ c' = c3 := by simpa using evd.symm.trans h3
                      rw [den1 t fun hm => (hnd d hd).1 _ hg1 (by simp [Fa.ments, hm])]
                      exact r8 hoc _ (fun j hj => by omega) (hfs _ hg1 _ _ _ evy)
                    · cases he
                  · cases he
                · obtain ⟨i, hi, rfl⟩ := List.mem_map.1 hf
                  obtain ⟨⟨A3, n3, c3, e1, e2⟩, f, hf, hfm⟩ := eltTmps_ok hE hi
                  have hid : i ≠ d := fun e => (hnd d hd).1 f hf (e ▸ hfm)
                  refine ⟨A', _, _, A3, n3, c3, evd, (keep2 i hid).trans e1, fun x y hx hy => ?_, fun y hy => by have := e2 y hy; omega⟩
                  rcases r7 x hx with ⟨z, hz, _⟩ | h
                  · cases hz
                  · have := e2 y hy; omega
              · refine .app (?_) fun f hf => ?_
                · split
                  case isFalse => exact .nil
                  rename_i hoc
                  intro f hf
                  obtain ⟨g1, hg1, he⟩ := List.mem_filterMap.1 hf
                  split at he
                  · rename_i i t c1
                    split at he
                    · rename_i hcc
                      simp only [Bool.and_eq_true] at hcc
                      obtain rfl := Nat.eq_of_beq_eq_true hcc.1
                      obtain rfl := Option.some.inj he
                      obtain ⟨h, hh, hany⟩ := List.any_eq_true.1 hcc.2
                      split at hany
                      · rename_i j2 u c2'
                        simp only [Bool.and_eq_true] at hany
                        obtain rfl := Nat.eq_of_beq_eq_true hany.1
                        have hle := ent_ok hfs hany.2
                        intro A3 n3 c3 h3
                        obtain ⟨rfl, rfl, rfl⟩ : A' = A3 ∧ n + m = n3 ∧ c' = c3 := by simpa using evd.symm.trans h3
                        rw [den1 t fun hm => (hnd d hd).1 _ hg1 (by simp [Fa.ments, hm])]
                        refine r8 hoc _ (hfs _ hg1 _ _ _ evx) fun j hj => ?_
                        obtain ⟨b1, o1, u1, f1, f2, k1, x1, f3, f4, f5⟩ := hfs _ hh _ _ _ evy j hj
                        exact ⟨b1, o1, u1, f1, f2, k1, x1, f3, f4, by omega⟩
                      · cases hany
                    · cases he
                  · cases he
                · obtain ⟨g1, hg1, he⟩ := List.mem_filterMap.1 hf
                  split at he
                  · rename_i i j2
                    split at he
                    · rename_i hi2
                      obtain rfl := Nat.eq_of_beq_eq_true hi2
                      obtain rfl := Option.some.inj he
                      obtain ⟨A1, n1, c1, A3, n3, c3, e1, e2, e3, e4⟩ := hfs _ hg1
                      have hjd : j2 ≠ d := fun e => (hnd d hd).1 _ hg1 (by simp [Fa.ments, e])
                      obtain rfl : A1 = A := by rw [evx] at e1; simp at e1; exact e1.1.symm
                      refine ⟨A', _, _, A3, n3, c3, evd, (keep2 j2 hjd).trans e2, fun x y hx hy => ?_, fun y hy => by have := e4 y hy; omega⟩
                      rcases r7 x hx with ⟨z, hz, hzb⟩ | h
                      · rw [← hzb]; exact e3 z y hz hy
                      · have := e4 y hy; omega
                    · cases he
                  · cases he
            · cases hr1
          · cases hr1
        · cases hr1
      · exact .nil
    · exact .nil
  · exact .nil
end
end Go.Tz
