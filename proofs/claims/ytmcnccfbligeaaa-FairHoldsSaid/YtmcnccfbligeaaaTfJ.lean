/-
  Regions with facts: in their own order, or in any. Plain laws.
-/
import Derived.Test.YtmcnccfbligeaaaTfG
namespace Go.Tz
open Go.Rp Go.RowKit

def guardR (g : Gd) (nf : Rs) : Rs := match g with
  | none => nf
  | some d => nf.map fun x => (d :: x.1, x.2)
def nextR (R : Rs) (o : Oper) (g : Gd) (nf : Rs) (e : Eff) : Rs :=
  let R1 := killR o.dst R
  let fs := act R1 (gl g)
  guardR g nf ++ R1.filter fun x => keepsF fs e x.2
section
variable (P : Program) (lay : Lay) (els : List (TypeId × TypeId × Nat)) (Fs : FuncId → Option Sg) (Xs : FuncId → Option Sx) (nt : Nat)
def chkOpsX (ops : Array Oper) : Env → Rs → List Oper → Option (Env × Rs × List Gr)
  | Γ, R, [] => some (Γ, R, [])
  | Γ, R, o :: rest => match gdOf ops o with
    | some g => match chkX P lay els Fs Xs Γ R g o with
      | some (rt, gr, nf, e) => match dstOK nt o.dst g with
        | true => match chkOpsX ops (setE Γ o.dst g rt) (nextR R o g nf e) rest with
          | some (Γ', R', gr') => some (Γ', R', gr ++ gr')
          | none => none
        | false => none
      | none => none
    | none => none
end
/-- How things stand, with facts. -/
structure StX (lay : Lay) (nt B F : Nat) (w0 : World) (γ : Nat → Int) (K : Bounds) (S : Nat → Prop) (Γ : Env) (R : Rs) (a : Act) (w : World) : Prop where
  st : St lay nt B F w0 K S Γ a w
  facts : ROK γ a w S R
  own : γ 999 = (F : Int)
section
variable {P : Program} {lay : Lay} {els : List (TypeId × TypeId × Nat)} {Fs : FuncId → Option Sg} {Xs : FuncId → Option Sx} {nt B F : Nat} {K K' : Bounds} {w0 w w' : World} {γ : Nat → Int} {G : FuncId → Bounds → Bounds} {Γ : Env} {R : Rs} {a : Act} {S : Nat → Prop} {g : Gd} {o : Oper} {ops : Array Oper} {Q : Exit → Act → World → Prop}
theorem StX.le (h : StX lay nt B F w0 γ K S Γ R a w) (k : ∀ e, K e ≤ K' e) : StX lay nt B F w0 γ K' S Γ R a w := ⟨h.st.le k, h.facts, h.own⟩
theorem StX.all (h : StX lay nt B F w0 γ K (fun _ => True) Γ R a w) : ∀ x ∈ R, GsOK a x.1 → x.2.ok γ a w := h.facts.all
theorem rok_all (h : ∀ x ∈ R, GsOK a x.1 → x.2.ok γ a w) : ROK γ a w (fun _ => True) R := fun x hx _ => h x hx
theorem gl_ok {g : Gd} (h : GH a g) : GsOK a (gl g) := by
  cases g with
  | none => intro x hx; cases hx
  | some d => intro x hx; obtain rfl := List.mem_singleton.1 hx; exact h
theorem guardR_mem {g : Gd} {nf : Rs} {x : Gs × Fa} (h : x ∈ guardR g nf) : ∃ y ∈ nf, x = (gl g ++ y.1, y.2) := by
  unfold guardR at h
  cases g with
  | none => exact ⟨x, h, rfl⟩
  | some d => obtain ⟨y, hy, rfl⟩ := List.mem_map.1 h; exact ⟨y, hy, rfl⟩
/-- Facts behind an operation that was done. -/
theorem next_ok (hR : ∀ x ∈ R, GsOK a x.1 → x.2.ok γ a w) (hg : GH a g) {nf : Rs} {e : Eff} {v : Value} (hn : RsOK γ (a.put o.dst v) w' nf) (he : e.ok a w w') (hsz : w.heap.size ≤ w'.heap.size) : ∀ x ∈ nextR R o g nf e, GsOK (a.put o.dst v) x.1 → x.2.ok γ (a.put o.dst v) w' := fun x hx hgs => by
  unfold nextR at hx
  rcases List.mem_append.1 hx with hx | hx
  · obtain ⟨y, hy, rfl⟩ := guardR_mem hx
    exact hn y hy fun z hz => hgs z (List.mem_append_right _ hz)
  · obtain ⟨hx1, hk⟩ := List.mem_filter.1 hx
    have hfr := kill_free hx1
    obtain ⟨p1, p2⟩ := free_put (γ := γ) (a := a) (w := w') v hfr
    have hfs : FsOK γ a w (act (killR o.dst R) (gl g)) := act_ok (kill_ok hR) (gl_ok hg)
    exact p1.2 (keepsF_ok he hsz hfs hk (kill_ok hR x hx1 (p2.1 hgs)))
/-- Facts behind an operation that was passed over. -/
theorem skip_ok (hR : ∀ x ∈ R, GsOK a x.1 → x.2.ok γ a w) (hg : ¬ GH a g) (hd : dstOK nt o.dst g = true) {nf : Rs} {e : Eff} {v : Value} : ∀ x ∈ nextR R o g nf e, GsOK (a.put o.dst v) x.1 → x.2.ok γ (a.put o.dst v) w := fun x hx hgs => by
  unfold nextR at hx
  rcases List.mem_append.1 hx with hx | hx
  · obtain ⟨y, hy, rfl⟩ := guardR_mem hx
    exfalso
    cases g with
    | none => exact hg trivial
    | some d =>
      have h1 := hgs d (List.mem_append_left _ (List.mem_singleton.2 rfl))
      refine hg ?_
      cases hdst : o.dst with
      | none => rw [hdst] at h1; exact h1
      | some d' =>
        rw [hdst] at h1 hd
        simp only [dstOK, Bool.and_eq_true, Bool.not_eq_true', mentions] at hd
        have hne : d.1 ≠ d' := beq_ne hd.2
        rw [eval_put_ne v hne] at h1
        exact h1
  · obtain ⟨hx1, hk⟩ := List.mem_filter.1 hx
    have hfr := kill_free hx1
    obtain ⟨p1, p2⟩ := free_put (γ := γ) (a := a) (w := w) v hfr
    exact p1.2 (kill_ok hR x hx1 (p2.1 hgs))
theorem dst_lt (h : dstOK nt o.dst g = true) (hs : a.tmps.size = nt) : ∀ d, o.dst = some d → d < a.tmps.size := fun d hd => by
  rw [hd] at h
  simp only [dstOK, Bool.and_eq_true, decide_eq_true_eq] at h
  exact hs ▸ h.1
section
theorem opsX_ok (hG : GOK G) (hFs : ∀ f s, Fs f = some s → FnOK P lay G f s) (hXs : ∀ f s, Xs f = some s → FnX P lay G f s) (hel : ∀ p ∈ els, Elem lay P p.1 p.2.1 p.2.2) : ∀ (rest : List Oper) (Γ Γ' : Env) (R R' : Rs) (gr : List Gr) (K : Bounds) (a : Act) (w : World), chkOpsX P lay els Fs Xs nt ops Γ R rest = some (Γ', R', gr) → (∀ e, den G gr K e ≤ LIM) → StX lay nt B F w0 γ K (fun _ => True) Γ R a w →
    (∀ a' w', StX lay nt B F w0 γ (den G gr K) (fun _ => True) Γ' R' a' w' → Q .normal a' w') → wpList P ops Q rest a w
  | [], Γ, Γ', R, R', gr, K, a, w, h, _, hst, hq => by
    simp only [chkOpsX, Option.some.injEq, Prod.mk.injEq] at h
    obtain ⟨rfl, rfl, rfl⟩ := h
    exact hq a w hst
  | o :: rest, Γ, Γ', R, R', gr, K, a, w, h, hfit, hst, hq => by
    unfold chkOpsX at h
    split at h
    · rename_i g hg
      split at h
      · rename_i rt gr1 nf e h1
        split at h
        · rename_i hd
          split at h
          · rename_i Γ2 R2 gr2 h2
            simp only [Option.some.injEq, Prod.mk.injEq] at h
            obtain ⟨rfl, rfl, rfl⟩ := h
            rw [den_append] at hfit hq
            have hup := den_up hG gr1 K
            have hfit1 : ∀ e, den G gr1 K e ≤ LIM := fun e => Nat.le_trans (den_up hG gr2 _ e) (hfit e)
            unfold wpList
            split
            · rename_i hw
              have hgh := (wanted_iff hg).1 hw
              refine .inl (opx_ok hst.own hG hFs hXs hel hst.st.typed hst.st.base.1 hst.st.lt hst.st.env hgh hst.all (dst_lt hd hst.st.size) h1 hfit1 _ _ fun v w' hv hT hb hk hsz hn he => ?_)
              exact opsX_ok hG hFs hXs hel rest _ _ _ _ _ _ _ _ h2 hfit ⟨hst.st.after (gr := gr1) hup (fun _ => hv) hT hb hk hd, rok_all (next_ok hst.all hgh hn he hsz), hst.own⟩ hq
            · rename_i hw
              have hgh : ¬ GH a g := fun hh => hw ((wanted_iff hg).2 hh)
              exact opsX_ok hG hFs hXs hel rest _ _ _ _ _ _ _ _ h2 hfit ⟨hst.st.after (gr := gr1) hup (fun hh => absurd hh hgh) (hst.st.typed.le hup) (Below.refl _ _) (Keeps.refl _) hd, rok_all (skip_ok hst.all hgh hd), hst.own⟩ hq
          · cases h
        · cases h
      · cases h
    · cases h
end
end
/-! ### In any order -/
def dedupe (l : List Nat) : List Nat := l.foldr (fun x acc => if x ∈ acc then acc else x :: acc) []
/-- What lies ahead of each operation. -/
def closAll : List Oper → List (List Nat) → List (List Nat)
  | [], acc => acc
  | o :: os, acc => closAll os (acc ++ [dedupe (bindsOn o ++ (bindsOn o).flatMap fun j => acc.getD j [])])
def settledAt (ops : Array Oper) (cl : List (List Nat)) (i t : Nat) : Bool := !((dsts ops).contains t) || (cl.getD i []).any fun j => decide ((ops[j]?).bind (·.dst) = some t)
def settledE (ops : Array Oper) (cl : List (List Nat)) (i : Nat) (x : Nat × Gd × AT) : Bool := settledAt ops cl i x.1 && match x.2.1 with
  | some (d, _) => settledAt ops cl i d
  | none => true
def settledF (ops : Array Oper) (cl : List (List Nat)) (i : Nat) (x : Gs × Fa) : Bool := x.2.ments.all (settledAt ops cl i) && x.1.all fun d => settledAt ops cl i d.1
def depsF (ops : Array Oper) (x : Gs × Fa) : List Nat := (x.2.ments ++ x.1.map (·.1)).filter fun t => (dsts ops).contains t
def depsE (ops : Array Oper) (x : Nat × Gd × AT) : List Nat := (x.1 :: (match x.2.1 with
  | some (d, _) => [d]
  | none => [])).filter fun t => (dsts ops).contains t
def isCell : Fa → Bool
  | .cell _ _ _ => true
  | .elts _ _ _ => true
  | _ => false
def dstIs (ops : Array Oper) (i k : Nat) : Bool := match (ops[i]?).bind (·.dst) with
  | some d => Nat.beq d k
  | none => false
/-- Is operation i done ahead of the one that makes it new? -/
def beforeT (ops : Array Oper) (cl : List (List Nat)) (i t : Nat) : Bool := (List.range ops.size).any fun k => dstIs ops k t && (cl.getD k []).contains i
def oldE (ops : Array Oper) (cl : List (List Nat)) (Γ0 : Env) (i : Nat) : Env := Γ0.filter fun x => gdEqb x.2.1 none && beforeT ops cl i x.1
def oldF (ops : Array Oper) (cl : List (List Nat)) (R0 : Rs) (i : Nat) : Rs := R0.filter fun x => isNil x.1 && (!(isCell x.2) && (x.2.ments.any (fun t => (dsts ops).contains t) && x.2.ments.all fun t => !((dsts ops).contains t) || beforeT ops cl i t))
structure OpRes where
  g : Gd
  rt : Option AT
  nf : Rs
  e : Eff
  fs : List Fa
  gr : List Gr
section
variable (P : Program) (lay : Lay) (els : List (TypeId × TypeId × Nat)) (Fs : FuncId → Option Sg) (Xs : FuncId → Option Sx) (nt : Nat)
def opAt (Γ0 : Env) (R0 : Rs) (ops : Array Oper) (cl : List (List Nat)) (Γ : Env) (R : Rs) (i : Nat) (o : Oper) : Option OpRes :=
  match gdOf ops o with
  | some g => let Ri := R.filter (settledF ops cl i) ++ oldF ops cl R0 i
    match chkX P lay els Fs Xs (Γ.filter (settledE ops cl i) ++ oldE ops cl Γ0 i) Ri g o with
    | some (rt, gr, nf, e) => if dstOK nt o.dst g then some ⟨g, rt, guardR g nf, e, act (killR o.dst Ri) (gl g), gr⟩ else none
    | _ => none
  | none => none
def resAll (Γ0 : Env) (R0 : Rs) (ops : Array Oper) (cl : List (List Nat)) (Γ : Env) (R : Rs) : List Oper → Nat → Option (List OpRes)
  | [], _ => some []
  | o :: os, i => match opAt P lay els Fs Xs nt Γ0 R0 ops cl Γ R i o, resAll Γ0 R0 ops cl Γ R os (i + 1) with
    | some r, some rs => some (r :: rs)
    | _, _ => none
/-- Does operation i make it, all else that it leans on being there? -/
def makes (ops : Array Oper) (cl : List (List Nat)) (deps : List Nat) (i : Nat) : Bool := match (ops[i]?).bind (·.dst) with
  | some d => deps.contains d && deps.all fun t => decide (t = d) || settledAt ops cl i t
  | none => false
def madeF (ops : Array Oper) (cl : List (List Nat)) (rs : List OpRes) (x : Gs × Fa) : Bool := (List.range rs.length).any fun i => match rs[i]? with
  | some r => makes ops cl (depsF ops x) i && memR x r.nf
  | none => false
def rtIs (rt : Option AT) (t : AT) : Bool := match rt with
  | some u => AT.eqb u t
  | none => false
theorem dstIs_eq {ops : Array Oper} {i k : Nat} (h : dstIs ops i k = true) : (ops[i]?).bind (·.dst) = some k := by
  unfold dstIs at h
  split at h
  · rename_i d hd; rw [hd, Nat.eq_of_beq_eq_true h]
  · cases h
theorem rtIs_eq {rt : Option AT} {t : AT} (h : rtIs rt t = true) : rt = some t := by
  cases rt with
  | none => cases h
  | some u => rw [AT.eqb_eq h]
def madeE (ops : Array Oper) (cl : List (List Nat)) (rs : List OpRes) (x : Nat × Gd × AT) : Bool := (List.range rs.length).any fun i => match rs[i]? with
  | some r => dstIs ops i x.1 && gdEqb x.2.1 r.g && rtIs r.rt x.2.2 && makes ops cl (depsE ops x) i
  | none => false
def keptAll (ops : Array Oper) (cl : List (List Nat)) (rs : List OpRes) (x : Gs × Fa) : Bool := (List.range rs.length).all fun i => match rs[i]? with
  | some r => keepsF r.fs r.e x.2 || memR x r.nf || (List.range rs.length).any fun k => (cl.getD k []).contains i && match (ops[k]?).bind (·.dst) with
      | some d => (depsF ops x).contains d
      | none => false
  | none => false
/-- Which operation makes longer, and what: one at most. -/
def growOf : List OpRes → Nat → Option (Nat × List Gr)
  | [], _ => some (0, [])
  | r :: rs, i => if isNil r.gr then growOf rs (i + 1) else if rs.all (fun r => isNil r.gr) then some (i, r.gr) else none
def finalD (ops : Array Oper) (Γ : Env) (R : Rs) (Γe : Env) (R2 : Rs) : Option (Env × Rs × List Gr) :=
  let cl := closAll ops.toList []
  match resAll P lay els Fs Xs nt Γ R ops cl Γe R2 ops.toList 0 with
  | some rs2 =>
    if apartDst ops && (ops.toList.zipIdx.all fun x => (bindsOn x.1).all fun j => decide (j < x.2)) &&
      (R2.all fun x => (if isNil (depsF ops x) then memR x R else madeF ops cl rs2 x) && keptAll ops cl rs2 x) &&
      (Γe.all fun x => if isNil (depsE ops x) then memE x Γ else madeE ops cl rs2 x) then (match growOf rs2 0 with
      | some (_, gr) => some (Γe, R2, gr)
      | none => none) else none
  | none => none
def iterD (ops : Array Oper) (Γ : Env) (R : Rs) (Γe : Env) : Nat → Rs → Option (Env × Rs × List Gr)
  | 0, R2 => finalD P lay els Fs Xs nt ops Γ R Γe R2
  | n + 1, R2 => match finalD P lay els Fs Xs nt ops Γ R Γe R2 with
    | some r => some r
    | none => match resAll P lay els Fs Xs nt Γ R ops (closAll ops.toList []) Γe R2 ops.toList 0 with
      | some rs2 => iterD ops Γ R Γe n (R2.filter fun x => (if isNil (depsF ops x) then memR x R else madeF ops (closAll ops.toList []) rs2 x) && keptAll ops (closAll ops.toList []) rs2 x)
      | none => none
def chkDraw (ops : Array Oper) (Γ : Env) (R : Rs) : Option (Env × Rs × List Gr) :=
  match chkOpsX P lay els Fs Xs nt ops Γ R ops.toList with
  | some (Γe, Re, _) =>
    let cl := closAll ops.toList []
    match resAll P lay els Fs Xs nt Γ R ops cl Γe Re ops.toList 0 with
    | some rs0 =>
      let R2 := (Re.filter fun x => if isNil (depsF ops x) then memR x R else madeF ops cl rs0 x).filter (keptAll ops cl rs0)
      iterD P lay els Fs Xs nt ops Γ R Γe 4 R2
    | none => none
  | none => none
end
end Go.Tz
/-
  A region in any order, with facts, runs. Plain laws.
-/
namespace Go.Tz
open Go.Rp Go.RowKit

section
variable {P : Program} {lay : Lay} {els : List (TypeId × TypeId × Nat)} {Fs : FuncId → Option Sg} {Xs : FuncId → Option Sx} {nt B F : Nat} {K K' : Bounds} {w0 w w' : World} {γ : Nat → Int} {G : FuncId → Bounds → Bounds} {Γ Γ0 ΓO : Env} {R R0 RO : Rs} {a : Act} {S : Nat → Prop} {g : Gd} {o : Oper} {ops : Array Oper} {Q : Exit → Act → World → Prop} {cl : List (List Nat)}
theorem of_or {x y : Bool} (h : (x || y) = true) : x = true ∨ y = true := by simpa using h
theorem mem_dedupe {l : List Nat} {x : Nat} : x ∈ dedupe l → x ∈ l := by
  induction l with
  | nil => exact id
  | cons y l ih =>
    intro h
    simp only [dedupe, List.foldr_cons] at h
    split at h
    · exact List.mem_cons_of_mem _ (ih h)
    · rcases List.mem_cons.1 h with rfl | h
      · exact List.mem_cons_self ..
      · exact List.mem_cons_of_mem _ (ih h)
/-- It is not made new yet. -/
def Un (ops : Array Oper) (listed : Array Bool) (t : Nat) : Prop := ∃ (k : Nat) (p : Oper), ops[k]? = some p ∧ p.dst = some t ∧ listed[k]? = some false
/-- In a set that has all that lies ahead of what it has. -/
def Closed (ops : Array Oper) (L : Nat → Prop) : Prop := ∀ (j : Nat) (o : Oper), L j → ops[j]? = some o → ∀ e ∈ bindsOn o, L e
theorem clos_ok {L : Nat → Prop} (hL : Closed ops L) : ∀ (os : List Oper) (acc : List (List Nat)), (∀ j, os[j]? = ops[acc.length + j]?) → (∀ (i : Nat) (o : Oper), i < acc.length → ops[i]? = some o → (∀ e ∈ bindsOn o, L e) → ∀ j ∈ acc.getD i [], L j) →
    ∀ (i : Nat) (o : Oper), ops[i]? = some o → (∀ e ∈ bindsOn o, L e) → ∀ j ∈ (closAll os acc).getD i [], L j
  | [], acc, hos, hacc, i, o, ho, hb, j, hj => by
    by_cases hi : i < acc.length
    · exact hacc i o hi ho hb j hj
    · have := hos (i - acc.length)
      rw [show acc.length + (i - acc.length) = i by omega, ho] at this
      cases this
  | p :: os, acc, hos, hacc, i, o, ho, hb, j, hj => by
    have hp : ops[acc.length]? = some p := by simpa using (hos 0).symm
    refine clos_ok hL os (acc ++ [dedupe (bindsOn p ++ (bindsOn p).flatMap fun j => acc.getD j [])]) (fun k => ?_) (fun i' o' hi' ho' hb' j' hj' => ?_) i o ho hb j hj
    · have := hos (k + 1)
      simp only [List.length_append, List.length_singleton]
      rw [show acc.length + 1 + k = acc.length + (k + 1) by omega]
      simpa using this
    · simp only [List.length_append, List.length_singleton] at hi'
      by_cases hlt : i' < acc.length
      · have e : (acc ++ [dedupe (bindsOn p ++ (bindsOn p).flatMap fun j => acc.getD j [])]).getD i' [] = acc.getD i' [] := by simp [List.getD, List.getElem?_append_left hlt]
        rw [e] at hj'
        exact hacc i' o' hlt ho' hb' j' hj'
      · obtain rfl : i' = acc.length := by omega
        obtain rfl : o' = p := by rw [hp] at ho'; exact (Option.some.inj ho').symm
        have e : (acc ++ [dedupe (bindsOn o' ++ (bindsOn o').flatMap fun j => acc.getD j [])]).getD acc.length [] = dedupe (bindsOn o' ++ (bindsOn o').flatMap fun j => acc.getD j []) := by simp [List.getD]
        rw [e] at hj'
        rcases List.mem_append.1 (mem_dedupe hj') with h | h
        · exact hb' _ h
        · obtain ⟨k, hk, hk2⟩ := List.mem_flatMap.1 h
          have hLk := hb' k hk
          by_cases hkl : k < acc.length
          · cases hok : ops[k]? with
            | none =>
              exfalso
              have : ops.size ≤ k := by rwa [Array.getElem?_eq_none_iff] at hok
              have := (Array.getElem?_eq_some_iff.1 hp).1
              omega
            | some q => exact hacc k q hkl hok (hL k q hLk hok) j' hk2
          · simp [List.getD, List.getElem?_eq_none (Nat.le_of_not_lt hkl)] at hk2
theorem settledAt_ok {L : Nat → Prop} {i t : Nat} (hcl : ∀ j ∈ cl.getD i [], L j) (h : settledAt ops cl i t = true) : t ∉ dsts ops ∨ ∃ (j : Nat) (o : Oper), L j ∧ ops[j]? = some o ∧ o.dst = some t := by
  unfold settledAt at h
  simp only [Bool.or_eq_true, Bool.not_eq_true'] at h
  rcases h with h | h
  · exact .inl (by simpa using h)
  · obtain ⟨j, hj, hd⟩ := List.any_eq_true.1 h
    have hd := of_decide_eq_true hd
    cases ho : ops[j]? with
    | none => simp [ho] at hd
    | some o => exact .inr ⟨j, o, hcl j hj, ho, by simpa [ho] using hd⟩
theorem resAll_ok : ∀ {os : List Oper} {i : Nat} {rs : List OpRes}, resAll P lay els Fs Xs nt ΓO RO ops cl Γ R os i = some rs → rs.length = os.length ∧ ∀ (j : Nat) (o : Oper), os[j]? = some o → ∃ r, rs[j]? = some r ∧ opAt P lay els Fs Xs nt ΓO RO ops cl Γ R (i + j) o = some r
  | [], i, rs, h => by
    obtain rfl : [] = rs := by simpa [resAll] using h
    exact ⟨rfl, fun j o h => by cases h⟩
  | o :: os, i, rs, h => by
    unfold resAll at h
    split at h
    · rename_i r rs' h1 h2
      obtain rfl := Option.some.inj h
      obtain ⟨k1, k2⟩ := resAll_ok h2
      refine ⟨by simp [k1], fun j o' hj => ?_⟩
      rcases j with _ | j
      · obtain rfl : o = o' := by simpa using hj
        exact ⟨r, rfl, h1⟩
      · obtain ⟨r', e1, e2⟩ := k2 j o' (by simpa using hj)
        exact ⟨r', by simpa using e1, by rw [show i + (j + 1) = i + 1 + j by omega]; exact e2⟩
    · cases h
section
theorem anyX_ok (hG : GOK G) (hFs : ∀ f s, Fs f = some s → FnOK P lay G f s) (hXs : ∀ f s, Xs f = some s → FnX P lay G f s) (hel : ∀ p ∈ els, Elem lay P p.1 p.2.1 p.2.2) (hγ : γ 999 = (F : Int)) (hap : apartDst ops = true) (hbef : ∀ (i : Nat) (o : Oper), ops[i]? = some o → ∀ j ∈ bindsOn o, j < i) {rs : List OpRes} (hrs : resAll P lay els Fs Xs nt ΓO RO ops (closAll ops.toList []) Γ R ops.toList 0 = some rs)
    (hF1 : ∀ x ∈ R, depsF ops x ≠ [] → madeF ops (closAll ops.toList []) rs x = true) (hF2 : ∀ x ∈ R, keptAll ops (closAll ops.toList []) rs x = true) (hE1 : ∀ x ∈ Γ, depsE ops x ≠ [] → madeE ops (closAll ops.toList []) rs x = true)
    {Kof : Array Bool → Bounds} {Kf : Bounds} (hKs : ∀ (listed : Array Bool) (i : Nat) (r : OpRes), rs[i]? = some r → listed[i]? = some false → ∀ e, den G r.gr (Kof listed) e ≤ Kof (listed.setIfInBounds i true) e) (hKf : ∀ listed e, Kof listed e ≤ Kf e) (hfit : ∀ e, Kf e ≤ LIM) (hq : ∀ a' w', StX lay nt B F w0 γ Kf (fun _ => True) Γ R a' w' → Q .normal a' w') : ∀ (fuel : Nat) (listed : Array Bool) (a : Act) (w : World),
    listed.size = ops.size → Closed ops (fun j => listed[j]? = some true) → Typed lay B (Kof listed) w → Below F w0 w → Keeps w0 w → (B ≤ F ∧ F ≤ w0.heap.size) → a.tmps.size = nt → a.defers = [] →
    (∀ x ∈ Γ, (∀ t ∈ depsE ops x, Sl ops listed t) → GH a x.2.1 → TOK lay B F (Kof listed) w x.2.2 (a.eval (.tmp x.1))) → (∀ x ∈ R, (∀ t ∈ depsF ops x, Sl ops listed t) → GsOK a x.1 → x.2.ok γ a w) → (∀ x ∈ ΓO, x.2.1 = none → Un ops listed x.1 → TOK lay B F (Kof listed) w x.2.2 (a.eval (.tmp x.1))) → (∀ x ∈ RO, x.1 = [] → isCell x.2 = false → (∀ t ∈ x.2.ments, t ∉ dsts ops ∨ Un ops listed t) → x.2.ok γ a w) →
    ((List.range ops.size).filter fun i => listed.getD i true = false).length ≤ fuel → wpAny P .any ops Q fuel listed a w := by
  have hapart : ∀ (i j : Nat) (o p : Oper) (d : Nat), ops[i]? = some o → ops[j]? = some p → o.dst = some d → p.dst = some d → i = j := fun i j o p d ho hp h1 h2 => by
    have hi := (Array.getElem?_eq_some_iff.1 ho).1
    have hj := (Array.getElem?_eq_some_iff.1 hp).1
    have := List.all_eq_true.1 (List.all_eq_true.1 hap i (by simpa using hi)) j (by simpa using hj)
    simpa [ho, hp, h1, h2] using this
  obtain ⟨hrl, hrs⟩ := resAll_ok hrs
  generalize hcl : closAll ops.toList [] = cl at *
  have hclos : ∀ {L : Nat → Prop}, Closed ops L → ∀ (i : Nat) (o : Oper), ops[i]? = some o → (∀ e ∈ bindsOn o, L e) → ∀ j ∈ cl.getD i [], L j := fun hL i o ho hb => by
    rw [← hcl]
    exact clos_ok hL ops.toList [] (fun j => by simp) (fun i o hi => by simp at hi) i o ho hb
  have fin : ∀ (listed : Array Bool) (a : Act) (w : World), listed.size = ops.size → Typed lay B (Kof listed) w → Below F w0 w → Keeps w0 w → (B ≤ F ∧ F ≤ w0.heap.size) → a.tmps.size = nt → a.defers = [] →
      (∀ x ∈ Γ, (∀ t ∈ depsE ops x, Sl ops listed t) → GH a x.2.1 → TOK lay B F (Kof listed) w x.2.2 (a.eval (.tmp x.1))) → (∀ x ∈ R, (∀ t ∈ depsF ops x, Sl ops listed t) → GsOK a x.1 → x.2.ok γ a w) → Region.ready .any ops listed = [] → Q .normal a w := fun listed a w hs h1 h2 h3 h4 h5 h6 h7 h8 hr => by
    have hall : ∀ t, Sl ops listed t := fun t => by
      by_cases ht : t ∈ dsts ops
      · obtain ⟨j, o, ho, hdst⟩ := mem_dsts.1 ht
        exact .inr ⟨j, o, all_listed hs hbef hr j (Array.getElem?_eq_some_iff.1 ho).1, ho, hdst⟩
      · exact .inl ht
    exact hq a w ⟨⟨h1.le (hKf listed), fun i g t _ hm hg => (h7 (i, g, t) hm (fun t _ => hall t) hg).keeps (Keeps.refl _) (hKf listed), h2, h3, h4, h5, h6⟩, rok_all fun x hx hg => h8 x hx (fun t _ => hall t) hg, hγ⟩
  intro fuel
  induction fuel with
  | zero =>
    intro listed a w hs _ h1 h2 h3 h4 h5 h6 h7 h8 _ _ hc
    have hnil : Region.ready .any ops listed = [] := by
      cases hr : Region.ready .any ops listed with
      | nil => rfl
      | cons i rs =>
        have hm : i ∈ Region.ready .any ops listed := by rw [hr]; exact List.mem_cons_self ..
        obtain ⟨k1, k2, _⟩ := mem_ready hm
        have : i ∈ (List.range ops.size).filter fun i => listed.getD i true = false := List.mem_filter.2 ⟨by simpa using k1, by simpa using k2⟩
        have h0 := List.length_eq_zero_iff.1 (Nat.le_zero.1 hc)
        rw [h0] at this
        cases this
    exact ⟨hnil, fin listed a w hs h1 h2 h3 h4 h5 h6 h7 h8 hnil⟩
  | succ fuel ih =>
    intro listed a w hs hcld hT hB hKe hbase hsize hdef hE hR hOE hOR hc
    refine ⟨fin listed a w hs hT hB hKe hbase hsize hdef hE hR, fun i hm => ?_⟩
    obtain ⟨h1, h2, o, ho, h3⟩ := mem_ready hm
    have hli : listed[i]? = some false := by
      rw [Array.getD_eq_getD_getElem?] at h2
      cases hl : listed[i]? with
      | none => simp [hl] at h2
      | some b => simp [hl] at h2; rw [h2]
    have hset : ∀ j : Nat, (listed.setIfInBounds i true)[j]? = if j = i then some true else listed[j]? := fun j => by
      by_cases hj : j = i
      · subst hj; rw [if_pos rfl]; exact Array.getElem?_setIfInBounds_self_of_lt (by omega)
      · rw [if_neg hj]; exact Array.getElem?_setIfInBounds_ne (by omega)
    have hcld' : Closed ops (fun j => (listed.setIfInBounds i true)[j]? = some true) := fun j p hj hp e he => by
      simp only [hset] at hj ⊢
      split
      · rfl
      · by_cases hji : j = i
        · subst hji
          obtain rfl : o = p := by simpa [ho] using hp
          exact h3 e he
        · rw [if_neg hji] at hj
          exact hcld j p hj hp e he
    have hcount : ((List.range ops.size).filter fun k => (listed.setIfInBounds i true).getD k true = false).length ≤ fuel := by
      have e : ((List.range ops.size).filter fun k => (listed.setIfInBounds i true).getD k true = false) = ((List.range ops.size).filter fun k => listed.getD k true = false).filter fun k => decide (k ≠ i) := by
        rw [List.filter_filter]
        apply List.filter_congr
        intro k _
        simp only [Array.getD_eq_getD_getElem?, hset]
        by_cases hk : k = i
        · subst hk; simp
        · simp [hk]
      have hlt : (((List.range ops.size).filter fun k => listed.getD k true = false).filter fun k => decide (k ≠ i)).length < ((List.range ops.size).filter fun k => listed.getD k true = false).length :=
        List.length_filter_lt_length_iff_exists.2 ⟨i, List.mem_filter.2 ⟨by simpa using h1, by simpa using h2⟩, by simp⟩
      rw [e]
      omega
    have hcli : ∀ j ∈ cl.getD i [], listed[j]? = some true := hclos hcld i o ho h3
    have hset_l : ∀ {t}, settledAt ops cl i t = true → Sl ops listed t := fun h => settledAt_ok hcli h
    obtain ⟨r, hr1, hr2⟩ := hrs i o (by simpa using ho)
    rw [Nat.zero_add] at hr2
    unfold opAt at hr2
    split at hr2
    · rename_i gd hgd
      dsimp only at hr2
      split at hr2
      · rename_i rt gr nf e hchk
        split at hr2
        · rename_i hdok
          obtain rfl := Option.some.inj hr2
          have hKle : ∀ e, den G gr (Kof listed) e ≤ Kof (listed.setIfInBounds i true) e := hKs listed i _ hr1 hli
          have hKle0 : ∀ e, Kof listed e ≤ Kof (listed.setIfInBounds i true) e := fun e => Nat.le_trans (den_up hG gr _ e) (hKle e)
          have hfit1 : ∀ e, den G gr (Kof listed) e ≤ LIM := fun e => Nat.le_trans (Nat.le_trans (hKle e) (hKf _ e)) (hfit e)
          -- what is there now
          have un : ∀ {t}, beforeT ops cl i t = true → Un ops listed t := fun {t} hb => by
            obtain ⟨k, hk, hb⟩ := List.any_eq_true.1 hb
            simp only [Bool.and_eq_true] at hb
            have hd := dstIs_eq hb.1
            cases hok : ops[k]? with
            | none => simp [hok] at hd
            | some p =>
              have hpd : p.dst = some t := by simpa [hok] using hd
              refine ⟨k, p, hok, hpd, ?_⟩
              have hkl : k < listed.size := by rw [hs]; exact (Array.getElem?_eq_some_iff.1 hok).1
              cases hlk : listed[k] with
              | false => rw [Array.getElem?_eq_getElem hkl, hlk]
              | true =>
                exfalso
                have hkt : listed[k]? = some true := by rw [Array.getElem?_eq_getElem hkl, hlk]
                have := hclos hcld k p hok (hcld k p hkt hok) i (by simpa using hb.2)
                rw [hli] at this
                cases this
          have hE' : EOK lay B F (Kof listed) w (fun _ => True) (Γ.filter (settledE ops cl i) ++ oldE ops cl ΓO i) a := fun k g' t' _ hm' hg' => by
            rcases List.mem_append.1 hm' with hm' | hm'
            case inr =>
              obtain ⟨m1, m2⟩ := List.mem_filter.1 hm'
              simp only [Bool.and_eq_true] at m2
              exact hOE _ m1 (gdEqb_eq m2.1) (un m2.2)
            obtain ⟨m1, m2⟩ := List.mem_filter.1 hm'
            refine hE _ m1 (fun t ht => ?_) hg'
            unfold depsE at ht
            have ht := (List.mem_filter.1 ht).1
            unfold settledE at m2
            simp only [Bool.and_eq_true] at m2
            rcases List.mem_cons.1 ht with rfl | ht
            · exact hset_l m2.1
            · cases g' with
              | none => cases ht
              | some d => obtain rfl := List.mem_singleton.1 ht; exact hset_l m2.2
          have hR' : ∀ x ∈ R.filter (settledF ops cl i) ++ oldF ops cl RO i, GsOK a x.1 → x.2.ok γ a w := fun x hx hg' => by
            rcases List.mem_append.1 hx with hx | hx
            case inr =>
              obtain ⟨m1, m2⟩ := List.mem_filter.1 hx
              simp only [Bool.and_eq_true, Bool.not_eq_true'] at m2
              refine hOR x m1 (isNil_eq m2.1) m2.2.1 fun t ht => ?_
              rcases of_or (List.all_eq_true.1 m2.2.2.2 t ht) with h | h
              · exact .inl (by simpa using h)
              · exact .inr (un h)
            obtain ⟨m1, m2⟩ := List.mem_filter.1 hx
            refine hR x m1 (fun t ht => ?_) hg'
            unfold depsF at ht
            have ht := (List.mem_filter.1 ht).1
            unfold settledF at m2
            simp only [Bool.and_eq_true] at m2
            rcases List.mem_append.1 ht with ht | ht
            · exact hset_l (List.all_eq_true.1 m2.1 t ht)
            · obtain ⟨d, hd, rfl⟩ := List.mem_map.1 ht
              exact hset_l (List.all_eq_true.1 m2.2 d hd)
          have hFlt : F ≤ w.heap.size := Nat.le_trans hbase.2 hB.size
          -- who makes what comes
          have maker : ∀ {deps : List Nat} {i' : Nat}, (∀ t ∈ deps, t ∈ dsts ops) → makes ops cl deps i' = true → (∀ t ∈ deps, Sl ops (listed.setIfInBounds i true) t) → (∃ d, o.dst = some d ∧ d ∈ deps) → i' = i := fun {deps i'} hdd hmk hst ⟨d, hd, hdm⟩ => by
            unfold makes at hmk
            split at hmk
            · rename_i d' hd'
              simp only [Bool.and_eq_true] at hmk
              have hd'm : d' ∈ deps := by simpa using hmk.1
              cases hoi : ops[i']? with
              | none => simp [hoi] at hd'
              | some p =>
                have hpd : p.dst = some d' := by simpa [hoi] using hd'
                have hl' : (listed.setIfInBounds i true)[i']? = some true := by
                  rcases hst d' hd'm with h | ⟨j, q, hj, hq', hqd⟩
                  · exact absurd (hdd d' hd'm) h
                  · obtain rfl := hapart i' j p q d' hoi hq' hpd hqd
                    exact hj
                by_cases hii : i' = i
                · exact hii
                · exfalso
                  rw [hset, if_neg hii] at hl'
                  have hcl' : ∀ j ∈ cl.getD i' [], listed[j]? = some true := hclos hcld i' p hoi (hcld i' p hl' hoi)
                  have hall := of_or (List.all_eq_true.1 hmk.2 d hdm)
                  rcases hall with h | h
                  · have hdd' : d = d' := of_decide_eq_true h
                    subst hdd'
                    exact hii (hapart i' i p o d hoi ho hpd hd)
                  · rcases settledAt_ok (L := fun j => listed[j]? = some true) hcl' h with h | ⟨j, q, hj, hq', hqd⟩
                    · exact h (hdd d hdm)
                    · obtain rfl := hapart j i q o d hq' ho hqd hd
                      rw [hli] at hj
                      cases hj
            · cases hmk
          have Sl_old : ∀ {t}, Sl ops (listed.setIfInBounds i true) t → o.dst ≠ some t → Sl ops listed t := fun {t} ht hne => by
            rcases ht with h | ⟨j, p, hj, hp, hpd⟩
            · exact .inl h
            · rw [hset] at hj
              by_cases hji : j = i
              · subst hji
                obtain rfl : o = p := by simpa [ho] using hp
                exact absurd hpd hne
              · rw [if_neg hji] at hj
                exact .inr ⟨j, p, hj, hp, hpd⟩
          have Un_old : ∀ {t}, Un ops (listed.setIfInBounds i true) t → Un ops listed t ∧ o.dst ≠ some t := fun {t} ⟨k, p, hk, hpd, hl⟩ => by
            rw [hset] at hl
            by_cases hki : k = i
            · rw [if_pos hki] at hl; cases hl
            · rw [if_neg hki] at hl
              exact ⟨⟨k, p, hk, hpd, hl⟩, fun h => hki (hapart k i p o t hk ho hpd h)⟩
          have step : ∀ v w', (GH a gd → ∀ t, rt = some t → TOK lay B F (Kof (listed.setIfInBounds i true)) w' t v) → (∀ x ∈ guardR gd nf, GsOK (a.put o.dst v) x.1 → x.2.ok γ (a.put o.dst v) w') → e.ok a w w' ∨ w' = w → (GH a gd ∨ w' = w) → Typed lay B (Kof (listed.setIfInBounds i true)) w' → Below F w w' → Keeps w w' → w.heap.size ≤ w'.heap.size →
              wpAny P .any ops Q fuel (listed.setIfInBounds i true) (a.put o.dst v) w' := fun v w' hv hnf heff hgw hT' hB' hK' hsz => by
            refine ih _ _ _ (by simpa using hs) hcld' hT' (hB.trans hB') (hKe.trans hK') hbase (by rw [← hsize]; cases o.dst <;> simp [Act.put]) (by rw [← hdef]; cases o.dst <;> simp [Act.put]) (fun x hx hst hg' => ?_) (fun x hx hst hg' => ?_) (fun x hx hg' hun => ?_) (fun x hx hg' hcell hun => ?_) hcount
            rotate_left 2
            · have hun' := Un_old hun
              have hv' := hOE x hx hg' hun'.1
              cases hdst : o.dst with
              | none => exact hv'.keeps hK' hKle0
              | some d =>
                rw [eval_put_ne v (fun h => hun'.2 (by rw [hdst, h]))]
                exact hv'.keeps hK' hKle0
            · have hok := hOR x hx hg' hcell fun t ht => (hun t ht).imp id fun h => (Un_old h).1
              have hfree : freeOf o.dst x = true := by
                cases hdst : o.dst with
                | none => rfl
                | some d =>
                  show (!(memN d x.2.ments) && x.1.all fun y => !(Nat.beq y.1 d)) = true
                  rw [hg']
                  simp only [List.all_nil, Bool.and_true, Bool.not_eq_true']
                  unfold memN
                  refine List.any_eq_false.2 fun t ht h => ?_
                  have htd := Nat.eq_of_beq_eq_true h
                  subst htd
                  rcases hun _ ht with h | h
                  · exact h (mem_dsts.2 ⟨i, o, ho, hdst⟩)
                  · exact (Un_old h).2 hdst
              refine (free_put (γ := γ) (a := a) (w := w') v hfree).1.2 (keepsF_ok (fs := []) (e := .all) trivial hsz (fun _ h => by cases h) ?_ hok)
              cases hf : x.2 <;> rw [hf] at hcell <;> first | rfl | cases hcell
            · by_cases hnew : ∃ d, o.dst = some d ∧ d ∈ depsE ops x
              · obtain ⟨d, hd, hdm⟩ := hnew
                have hm' := hE1 x hx (fun h => by rw [h] at hdm; cases hdm)
                unfold madeE at hm'
                obtain ⟨i', _, hm'⟩ := List.any_eq_true.1 hm'
                split at hm'
                · rename_i r' hr'
                  simp only [Bool.and_eq_true] at hm'
                  obtain ⟨⟨⟨m1, m2⟩, m3⟩, m4⟩ := hm'
                  have m1 := dstIs_eq m1
                  have m2 := gdEqb_eq m2
                  have m3 := rtIs_eq m3
                  have hii := maker (fun t ht => by unfold depsE at ht; simpa using (List.mem_filter.1 ht).2) m4 hst ⟨d, hd, hdm⟩
                  subst hii
                  rw [hr1] at hr'
                  obtain rfl := Option.some.inj hr'
                  have hxd : o.dst = some x.1 := by simpa [ho] using m1
                  rw [hxd] at hdok hg' ⊢
                  simp only [dstOK, Bool.and_eq_true, decide_eq_true_eq, Bool.not_eq_true'] at hdok
                  rw [eval_put_eq v (by rw [hsize]; exact hdok.1)]
                  simp only at m2 m3
                  rw [m2] at hg'
                  exact hv ((gh_put v hdok.2).1 hg') x.2.2 m3
                · cases hm'
              · have hne : ∀ t ∈ depsE ops x, o.dst ≠ some t := fun t ht h => hnew ⟨t, h, ht⟩
                have hold := hE x hx (fun t ht => Sl_old (hst t ht) (hne t ht))
                have nd : ∀ d, o.dst = some d → x.1 ≠ d ∧ mentions d x.2.1 = false := fun d hd => by
                  have hdd : d ∈ dsts ops := mem_dsts.2 ⟨i, o, ho, hd⟩
                  refine ⟨fun h => hne d ?_ hd, ?_⟩
                  · unfold depsE; rw [← h]; refine List.mem_filter.2 ⟨List.mem_cons_self .., ?_⟩; rw [h]; simpa using hdd
                  · cases hb : mentions d x.2.1 with
                    | false => rfl
                    | true =>
                      exfalso
                      cases hgx : x.2.1 with
                      | none => rw [hgx] at hb; cases hb
                      | some y =>
                        rw [hgx] at hb
                        have hyd : y.1 = d := Nat.eq_of_beq_eq_true hb
                        refine hne d ?_ hd
                        unfold depsE
                        rw [hgx]
                        refine List.mem_filter.2 ⟨List.mem_cons_of_mem _ (List.mem_singleton.2 hyd.symm), by simpa using hdd⟩
                cases hdst : o.dst with
                | none => rw [hdst] at hg'; exact (hold hg').keeps hK' hKle0
                | some d =>
                  rw [hdst] at hg'
                  obtain ⟨n1, n2⟩ := nd d hdst
                  rw [eval_put_ne v n1]
                  exact (hold ((gh_put v n2).1 hg')).keeps hK' hKle0
            · by_cases hnew : ∃ d, o.dst = some d ∧ d ∈ depsF ops x
              · obtain ⟨d, hd, hdm⟩ := hnew
                have hm' := hF1 x hx (fun h => by rw [h] at hdm; cases hdm)
                unfold madeF at hm'
                obtain ⟨i', _, hm'⟩ := List.any_eq_true.1 hm'
                split at hm'
                · rename_i r' hr'
                  simp only [Bool.and_eq_true] at hm'
                  have hii := maker (fun t ht => by unfold depsF at ht; simpa using (List.mem_filter.1 ht).2) hm'.1 hst ⟨d, hd, hdm⟩
                  subst hii
                  rw [hr1] at hr'
                  obtain rfl := Option.some.inj hr'
                  exact hnf x (memR_mem hm'.2) hg'
                · cases hm'
              · have hne : ∀ t ∈ depsF ops x, o.dst ≠ some t := fun t ht h => hnew ⟨t, h, ht⟩
                have hfree : freeOf o.dst x = true := by
                  cases hdst : o.dst with
                  | none => rfl
                  | some d =>
                    have hdd : d ∈ dsts ops := mem_dsts.2 ⟨i, o, ho, hdst⟩
                    have hnm : ∀ y, y ∈ x.2.ments ++ x.1.map (·.1) → y ≠ d := fun y hy h => by
                      subst h
                      exact hne y (by unfold depsF; exact List.mem_filter.2 ⟨hy, by simpa using hdd⟩) hdst
                    simp only [freeOf, Bool.and_eq_true, Bool.not_eq_true']
                    refine ⟨?_, List.all_eq_true.2 fun y hy => ?_⟩
                    · unfold memN
                      refine List.any_eq_false.2 fun t ht h => hnm d (List.mem_append_left _ ?_) rfl
                      rw [Nat.eq_of_beq_eq_true h]; exact ht
                    · have := hnm y.1 (List.mem_append_right _ (List.mem_map.2 ⟨y, hy, rfl⟩))
                      cases hb : Nat.beq y.1 d with
                      | true => exact absurd (Nat.eq_of_beq_eq_true hb) this
                      | false => rfl
                obtain ⟨p1, p2⟩ := free_put (γ := γ) (a := a) (w := w') v hfree
                obtain ⟨p3, p4⟩ := free_put (γ := γ) (a := a) (w := w) v hfree
                have hold := hR x hx (fun t ht => Sl_old (hst t ht) (hne t ht)) (p2.1 hg')
                rcases hgw with hgh | rfl
                · rcases heff with heff | rfl
                  · have hkp := List.all_eq_true.1 (hF2 x hx) i (by simpa [hrl] using h1)
                    rw [hr1] at hkp
                    simp only [Bool.or_eq_true] at hkp
                    rcases hkp with (hkp | hkp) | hkp
                    · exact p1.2 (keepsF_ok heff hsz (act_ok (kill_ok hR') (gl_ok hgh)) hkp hold)
                    · exact hnf x (memR_mem hkp) hg'
                    · exfalso
                      obtain ⟨k, _, hk⟩ := List.any_eq_true.1 hkp
                      simp only [Bool.and_eq_true] at hk
                      obtain ⟨hk1, hk2⟩ := hk
                      split at hk2
                      · rename_i d hd
                        have hdm : d ∈ depsF ops x := by simpa using hk2
                        cases hok : ops[k]? with
                        | none => simp [hok] at hd
                        | some p =>
                          have hpd : p.dst = some d := by simpa [hok] using hd
                          rcases Sl_old (hst d hdm) (hne d hdm) with h | ⟨j, q, hj, hq', hqd⟩
                          · exact h (by unfold depsF at hdm; simpa using (List.mem_filter.1 hdm).2)
                          · obtain rfl := hapart k j p q d hok hq' hpd hqd
                            have := hclos hcld k p hok (hcld k p hj hok) i (by simpa using hk1)
                            rw [hli] at this
                            cases this
                      · cases hk2
                  · exact p3.2 hold
                · exact p3.2 hold
          unfold wpOp
          rw [ho]
          dsimp only
          split
          · rename_i hw
            have hgh := (wanted_iff hgd).1 hw
            refine .inl (opx_ok hγ hG hFs hXs hel hT hbase.1 hFlt hE' hgh hR' (dst_lt hdok hsize) hchk hfit1 _ _ fun v w' hv hT' hb hk hsz hn he => ?_)
            refine step v w' (fun _ t ht => (hv t ht).keeps (Keeps.refl _) hKle) (fun x hx hg' => ?_) (.inl he) (.inl hgh) (hT'.le hKle) hb hk hsz
            obtain ⟨y, hy, rfl⟩ := guardR_mem hx
            exact hn y hy fun z hz => hg' z (List.mem_append_right _ hz)
          · rename_i hw
            have hgh : ¬ GH a gd := fun hh => hw ((wanted_iff hgd).2 hh)
            refine step undef w (fun hh => absurd hh hgh) (fun x hx hg' => ?_) (.inr rfl) (.inr rfl) (hT.le hKle0) (Below.refl _ _) (Keeps.refl _) (Nat.le_refl _)
            exact skip_ok (R := []) (nf := nf) (e := e) (fun y hy => by cases hy) hgh hdok x (by unfold nextR; exact List.mem_append_left _ hx) hg'
        · cases hr2
      · cases hr2
    · cases hr2
end
end
end Go.Tz
/-
  Code with facts, with loops: every way is followed. Plain laws.
-/
namespace Go.Tz
open Go.Rp Go.RowKit

inductive Ex where
  | norm
  | out (id : Nat)
  | ret
  deriving DecidableEq
abbrev Ways := List (Ex × Env × Rs)
/-- A loop: what its changing temporaries are, what holds, what grows towards what. -/
structure Inv where
  env : List (Nat × A0)
  facts : List Fa
  lo : Tm
  hi : Tm
def firstReg : Code → Nat
  | .region id _ _ => id
  | .seq x _ => firstReg x
  | .block _ c => firstReg c
  | .loop c => firstReg c
  | .cond _ x _ => firstReg x
  | _ => 0
def assigned : Code → List Nat
  | .region _ ops _ => dsts ops
  | .seq x y => assigned x ++ assigned y
  | .cond _ x y => assigned x ++ assigned y
  | .block _ c => assigned c
  | .loop c => assigned c
  | _ => []
def ghs : Code → List Nat
  | .seq x y => ghs x ++ ghs y
  | .cond _ x y => ghs x ++ ghs y
  | .block _ c => ghs c
  | .loop c => 2 * firstReg c :: (2 * firstReg c + 1) :: ghs c
  | _ => []
def Tm.ghOf : Tm → List Nat
  | .gh n => [n]
  | _ => []
def Fa.ghOf : Fa → List Nat
  | .le s t _ => s.ghOf ++ t.ghOf
  | .ne s t _ => s.ghOf ++ t.ghOf
  | .sum s t u => s.ghOf ++ (t.ghOf ++ u.ghOf)
  | .frs _ => [999]
  | .elts _ t _ => t.ghOf
  | _ => []
def mergeGr (a b : List Gr) : List Gr := if a.isSublist b then b else if b.isSublist a then a else a ++ b
/-- The ways in which a Bool comes to be so. -/
def splitOf (R : Rs) (i : Nat) (b : Bool) : Option Nat := match R with
  | [] => none
  | (gs, .isb _ _) :: R => match gs with
    | [(i', b'), (x, _)] => if i' = i ∧ b' = b then some x else splitOf R i b
    | _ => splitOf R i b
  | _ :: R => splitOf R i b
def fresh1 (R : Rs) (fs : List Fa) : List Fa := fs.filter fun f => !(memR ([], f) R)
/-- R, and the Bool of temporary i is b: in which cases. -/
def caseB (Γ : Env) : Nat → Rs → Nat → Bool → List Rs
  | 0, R, i, b => [([], .isb i b) :: R]
  | n + 1, R, i, b =>
    let R1 := ([], .isb i b) :: R
    match splitOf R i b with
    | some x => match look Γ none x with
      | some (.one (.val false [.bool])) => if memR ([], .isb x true) R || memR ([], .isb x false) R then [R1] else caseB Γ n R1 x true ++ caseB Γ n R1 x false
      | _ => [R1]
    | none => [R1]
def alive (R : Rs) : Bool :=
  let fs := act R []
  !(contra fs) && !(contraNew fs (fresh1 R fs))
def entR (R : Rs) (fs : List Fa) (x : Gs × Fa) : Bool := memR x R || (match x.1, x.2 with
  | [], .le s t c => ent fs s t c
  | [], .elts v t c => ent fs (.len v) (.c 0) 0 || fs.any (fun f => match f with | .elts v' t' c' => Vr.eqb v' v && ent fs t' t (c - c') | _ => false)
  | [], f => fs.any (Fa.eqb f)
  | _, _ => false)
def entE (Γ ΓI : Env) : Bool := ΓI.all fun x => match find Γ x.1 with
  | some (g, t) => (decide (g = none) || decide (g = x.2.1)) && subT t x.2.2
  | none => false
def goes (Γ : Env) (R : Rs) (ΓI : Env) (RI : Rs) : Bool := entE Γ ΓI && (let fs := act R []; RI.all fun x => entR R fs x)
def invE (Γ : Env) (asg : List Nat) (I : Inv) : Env := (I.env.map fun x => (x.1, none, AT.one x.2)) ++ Γ.filter fun x => !(asg.contains x.1) && match x.2.1 with
  | some (d, _) => !(asg.contains d)
  | none => true
def invR (R : Rs) (asg : List Nat) (gs : List Nat) (I : Inv) : Rs := (I.facts.map fun f => ([], f)) ++ R.filter fun x => (x.2.ments.all fun t => !(asg.contains t)) && (x.1.all fun d => !(asg.contains d.1)) && (x.2.ghOf.all fun n => !(gs.contains n)) && !(isCell x.2)
def measured (fs : List Fa) (I : Inv) (n : Nat) : Bool := ent fs I.lo I.hi 0 && ((ent fs (.gh (n + 1)) I.lo (-1) && ent fs I.hi (.gh n) 0) || (ent fs (.gh (n + 1)) I.lo 0 && ent fs I.hi (.gh n) (-1)))
/-- Which temporaries are still looked at. -/
def bit (i : Nat) : Nat := 1 <<< i
def bitsOf (xs : List Operand) : Nat := xs.foldl (fun m x => match x with
  | .tmp i => m ||| bit i
  | _ => m) 0
def usesR (ops : Array Oper) : Nat := ops.toList.foldl (fun m o => (m ||| bitsOf o.op.operands.toList) ||| (match o.guard with
  | some (j, _) => match (ops[j]?).bind (·.dst) with
    | some d => bit d
    | none => 0
  | none => 0)) 0
def usesC : Code → Nat
  | .region _ ops _ => usesR ops
  | .seq x y => usesC x ||| usesC y
  | .cond c x y => bitsOf [c] ||| (usesC x ||| usesC y)
  | .block _ c => usesC c
  | .loop c => usesC c
  | _ => 0
def bodyBits (c : Code) : Nat := let u := usesC c; u ^^^ (u &&& (assigned c).foldl (fun m i => m ||| bit i) 0)
def tmBits (t : Tm) : Nat := t.ments.foldl (fun m i => m ||| bit i) 0
def invBits (I : Inv) : Nat := I.facts.foldl (fun m f => f.ments.foldl (fun m i => m ||| bit i) m) (tmBits I.lo ||| tmBits I.hi)
def cellMask (mask : Nat) (R : Rs) : Nat := R.reverse.foldl (fun m x => match x with
  | (_, .cell v p k) => if mask.testBit p then (if R.any (fun y => match y with
      | (_, .cell v' p' k') => m.testBit v'.tmp && (Nat.beq p p' && Nat.beq k k')
      | _ => false) then m else m ||| bit v.tmp) else m
  | ([], .sum s t u) => m ||| (tmBits s ||| (tmBits t ||| tmBits u))
  | _ => m) mask
def deadOf (mask : Nat) (R : Rs) : List Nat := R.foldl (fun acc x => (x.2.ments ++ x.1.map (·.1)).foldl (fun acc i => if mask.testBit i || acc.contains i then acc else i :: acc) acc) []
def dedupR (R : Rs) : Rs := R.foldr (fun x acc => if x ∈ acc then acc else x :: acc) []
/-- What need not be known any more goes; what follows over it stays. -/
def guardMask (R : Rs) (m : Nat) : Nat := R.foldl (fun m x => x.1.tail.foldl (fun m d => m ||| bit d.1) m) m
def gcR (mask : Nat) (R : Rs) : Rs :=
  let R0 := tidy R
  tidy ((deadOf (guardMask R0 (cellMask mask R0)) R0).foldl (fun R i => killR (some i) R) R0)
section
variable (P : Program) (lay : Lay) (els : List (TypeId × TypeId × Nat)) (Fs : FuncId → Option Sg) (Xs : FuncId → Option Sx) (nt : Nat) (inv : Nat → Option Inv)
def seqWays (f : Env → Rs → Option (Ways × List Gr)) : Ways → Option (Ways × List Gr)
  | [] => some ([], [])
  | (.norm, Γ, R) :: ws => match f Γ R, seqWays f ws with
    | some (ws1, gr1), some (ws2, gr2) => some (ws1 ++ ws2, mergeGr gr1 gr2)
    | _, _ => none
  | (e, Γ, R) :: ws => match seqWays f ws with
    | some (ws2, gr2) => some ((e, Γ, R) :: ws2, gr2)
    | none => none
def norms (Γ : Env) (Rs_ : List Rs) : Ways := Rs_.filterMap fun R => if alive R then some (.norm, Γ, R) else none
/-- What holds on each of the ways that go on. -/
def joinEv (Γ Γ' : Env) : Env := Γ.filter fun x => entE Γ' [x]
def joinR (R R' : Rs) : Rs := (let fs' := act R' []; R.filter fun x => entR R' fs' x) ++ (let fs := act R []; R'.filter fun x => !(memR x R) && entR R fs x)
def join2 : Ways → Option (Env × Rs)
  | [] => none
  | (.norm, Γ, R) :: ws => match join2 ws with
    | none => some (Γ, R)
    | some (Γ', R') => some (joinEv Γ Γ', joinR R R')
  | _ :: ws => join2 ws
def keepI (I : Inv) (R : Rs) : Rs := bif Tm.eqb I.lo (.c 0) then R else (let fs := act R []; (I.facts.map fun f => (([], f) : Gs × Fa)).filter fun x => entR R fs x)
def keepE (I : Inv) (Γ : Env) : Env := (I.env.map fun p => ((p.1, none, AT.one p.2) : Nat × Gd × AT)).filter (fun x => entE Γ [x]) ++ Γ
def joinW (b : Option Inv) (ws : Ways) : Ways := match b with
  | some I => (match join2 (ws.map fun x => (x.1, keepE I x.2.1, if x.1 = .norm then keepI I x.2.2 else x.2.2)) with
    | none => ws
    | some (Γ, R) => (.norm, Γ, R) :: ws.filter fun x => !(decide (x.1 = .norm)))
  | none => ws
/-- Growth, as often as a loop goes round. -/
def addOf : Gr → Option (TypeId × Nat × List TypeId)
  | .add e j => some (e, j, [])
  | .mul e c es => some (e, c, es)
  | .fn _ => none
def raiseA (e : TypeId) (j : Nat) : AT → AT
  | .one (.sli e' false i) => bif Nat.beq e' e then .one (.sli e' false (i - j)) else .one (.sli e' false i)
  | t => t
def raiseL : List Gr → Env → Env
  | [.add e j], Γ => Γ.map fun x => (x.1, x.2.1, raiseA e j x.2.2)
  | _, Γ => Γ
def raiseOf (I : Inv) : List Gr := match I.env with
  | [(e, .sli _ _ j)] => [.add e j]
  | _ => []
def repeatG (Γ : Env) (R : Rs) (o : Option Inv) (I : Inv) (gr : List Gr) : Option (List Gr × List Gr) := match o with
  | none => match gr with
    | [] => some ([], [])
    | _ => none
  | some I2 => match I2.hi with
    | .len v => match gr ++ raiseOf I2 with
      | [g] => match typeV Γ v, addOf g with
        | some e2, some (e, c, es) => if !(es.contains e) && (!(Nat.beq e e2) && (ent (act R []) I.hi I2.hi 0 && ent (act R []) (.c 0) I.lo 0)) then some ([.mul e c (e2 :: es)], raiseOf I2) else none
        | _, _ => none
      | _ => none
    | .c m => if ent (act R []) I.hi (.c m) 0 && ent (act R []) (.c 0) I.lo 0 then
        match gr ++ raiseOf I2 with
        | [.add e j] => some ([.add e (j * (m.toNat + 1))], raiseOf I2)
        | gs => some ((List.replicate (m.toNat + 1) gs).flatten, raiseOf I2)
      else none
    | _ => none
/-- A loop, round by round. -/
def unrollW (f : Env → Rs → Option (Ways × List Gr)) (mask : Nat) : Nat → Env → Rs → Option (Ways × List Gr)
  | 0, _, _ => none
  | n + 1, Γ, R => match f Γ R with
    | some (ws, gr) => match seqWays (fun Γ' R' => unrollW f mask n Γ' (gcR mask R')) ws with
      | some (ws', gr') => some (ws', gr ++ gr')
      | none => none
    | none => none
def chkW : Nat → Env → Rs → Code → Option (Ways × List Gr)
  | live, Γ, R, .skip => some ([(.norm, Γ, R)], [])
  | live, Γ, R, .region _ ops draw => match draw with
    | true => match chkDraw P lay els Fs Xs nt ops Γ R with
      | some (Γ', R', gr) => some ([(.norm, Γ', R')], gr)
      | none => none
    | false => match chkOpsX P lay els Fs Xs nt ops Γ R ops.toList with
      | some (Γ', R', gr) => some ([(.norm, Γ', R')], gr)
      | none => none
  | live, Γ, R, .seq x y => match chkW (usesC y ||| live) Γ R x with
    | some (ws, gr) => match seqWays (fun Γ' R' => chkW live Γ' (gcR (usesC y ||| live) R') y) (joinW (inv (5000 + firstReg y)) ws) with
      | some (ws', gr') => some (ws', gr ++ gr')
      | none => none
    | none => none
  | live, Γ, R, .cond c x y => match c with
    | .tmp i => match look Γ none i with
      | some (.one (.val false [.bool])) => match seqWays (fun Γ' R' => chkW live Γ' R' x) (norms Γ (caseB Γ 3 R i true)), seqWays (fun Γ' R' => chkW live Γ' R' y) (norms Γ (caseB Γ 3 R i false)) with
        | some (ws1, gr1), some (ws2, gr2) => some (ws1 ++ ws2, mergeGr gr1 gr2)
        | _, _ => none
      | _ => none
    | _ => none
  | live, Γ, R, .block id c => match chkW live Γ R c with
    | some (ws, gr) => some (ws.map fun x => if x.1 = .out id then (.norm, x.2) else x, gr)
    | none => none
  | live, Γ, R, .exit id => some ([(.out id, Γ, R)], [])
  | live, Γ, R, .ret => some ([(.ret, Γ, R)], [])
  | live, Γ, R, .loop c => match inv (firstReg c) with
    | some I =>
      let n := 2 * firstReg c
      let asg := assigned c
      let ΓI := invE Γ asg I
      let RI := invR R asg (n :: (n + 1) :: ghs c) I
      let RB := (eqs (.gh n) I.hi 0 ++ eqs (.gh (n + 1)) I.lo 0).map (fun f => (([] : Gs), f)) ++ RI
      match chkW (bodyBits c ||| (invBits I ||| live)) ΓI RB c with
      | some (ws, gr) => match repeatG Γ R (inv (7000 + firstReg c)) I gr with
        | some (gr', rz) => if goes Γ R ΓI RI && decide (n + 1 < 900) && !((n :: (n + 1) :: ghs c).any fun k => I.lo.ghOf.contains k || I.hi.ghOf.contains k || RI.any fun x => x.2.ghOf.contains k) && !((ghs c).contains n) && !((ghs c).contains (n + 1)) &&
            (ws.all fun x => if x.1 = .norm then goes (raiseL rz x.2.1) x.2.2 ΓI RI && measured (act x.2.2 []) I n else true) then some (ws.filter fun x => decide (x.1 ≠ .norm), gr') else none
        | none => none
      | _ => none
    | none => match inv (8000 + firstReg c) with
      | some I => match I.hi with
        | .c m => unrollW (fun Γ' R' => chkW (usesC c ||| live) Γ' R' c) (usesC c ||| live) m.toNat Γ R
        | _ => none
      | none => none
  | _, _, _, _ => none
end
end Go.Tz
