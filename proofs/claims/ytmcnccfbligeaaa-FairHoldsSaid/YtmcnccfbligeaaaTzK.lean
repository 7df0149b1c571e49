/-
  Code without loops that was looked at runs; a function that was looked at is total. Plain laws.
-/
import Derived.Test.YtmcnccfbligeaaaTzJ
namespace Go.Tz
open Go.Rp Go.RowKit

def CT.join : CT → CT → Option CT
  | .int k lo hi, .int k' lo' hi' => if k = k' then some (.int k (if lo ≤ lo' then lo else lo') (if hi ≤ hi' then hi' else hi)) else none
  | .slb e m, .slb e' m' => if e = e' then some (.slb e (if m ≤ m' then m' else m)) else none
  | c, d => if CT.sub c d = true then some d else if CT.sub d c = true then some c else none
def joins : List CT → List CT → Option (List CT)
  | [], [] => some []
  | c :: cs, d :: ds => match CT.join c d, joins cs ds with
    | some x, some xs => some (x :: xs)
    | _, _ => none
  | _, _ => none
def sub0 : A0 → A0 → Bool
  | .val a cs, .val a' ds => decide (a = a') && subs cs ds
  | .val false [.nil], .sli _ _ _ => true
  | .sli e abs j, .sli e' abs' j' => decide (e = e') && ((!abs' || abs) && decide (j ≤ j'))
  | .val false [.nil], .slf _ => true
  | .sli e _ _, .slf e' => decide (e = e')
  | .sli e abs j, .val false [.sl e'] => decide (e = e') && (!abs && decide (j = 0))
  | .sli e abs j, .val false [.slb e' m] => decide (e = e') && (abs && decide (j ≤ m))
  | t, u => decide (t = u)
def join0 : A0 → A0 → Option A0
  | .val a cs, .val _ ds => (joins cs ds).map (.val a)
  | .sli e abs j, .sli _ abs' j' => some (.sli e (abs && abs') (if j ≤ j' then j' else j))
  | t, u => if sub0 t u = true then some u else if sub0 u t = true then some t else none
def subT : AT → AT → Bool
  | .one t, .one u => sub0 t u
  | t, u => decide (t = u)
def joinT : AT → AT → Option AT
  | .one t, .one u => (join0 t u).map .one
  | t, u => if t = u then some t else none
/-- What both say. -/
def joinE (Γ1 Γ2 : Env) : Env := Γ1.filterMap fun x => match find Γ2 x.1 with
  | some (g, t) => if g = x.2.1 then match joinT x.2.2 t with
      | some r => if subT x.2.2 r = true ∧ subT t r = true then some (x.1, g, r) else none
      | none => none
    else none
  | none => none
def joinO : Option Env → Option Env → Option Env
  | some Γ1, some Γ2 => some (joinE Γ1 Γ2)
  | some Γ1, none => some Γ1
  | none, o => o
abbrev Outs := List (Option Nat × Env)
def outsOf (id : Nat) (E : Outs) : Option Env := E.foldr (fun x o => if x.1 = some id then joinO (some x.2) o else o) none
section
variable (P : Program) (lay : Lay) (els : List (TypeId × TypeId × Nat)) (Fs : FuncId → Option Sg) (nt : Nat)
def chkCode : Env → Code → Option (Option Env × Outs × List Gr)
  | Γ, .skip => some (some Γ, [], [])
  | Γ, .region _ ops draw => match chkOps P lay els Fs nt ops Γ ops.toList with
    | some (Γ', gr) => match draw with
      | true => if gr = [] ∧ drawOK P lay els Fs nt ops Γ' = true then some (some Γ', [], []) else none
      | false => some (some Γ', [], gr)
    | none => none
  | Γ, .seq x y => match chkCode Γ x with
    | some (none, E, gr) => some (none, E, gr)
    | some (some Γ', E, gr) => match chkCode Γ' y with
      | some (N, E', gr') => some (N, E ++ E', gr ++ gr')
      | none => none
    | none => none
  | Γ, .cond c x y => match opnd Γ none c with
    | some (.val false [.bool]) => match chkCode Γ x, chkCode Γ y with
      | some (N, E, gr), some (N', E', gr') => some (joinO N N', E ++ E', gr ++ gr')
      | _, _ => none
    | _ => none
  | Γ, .block id c => match chkCode Γ c with
    | some (N, E, gr) => some (joinO N (outsOf id E), E.filter (fun x => decide (x.1 ≠ some id)), gr)
    | none => none
  | Γ, .exit id => some (none, [(some id, Γ)], [])
  | Γ, .ret => some (none, [(none, Γ)], [])
  | _, _ => none
def resT (Γ : Env) : ResultVar → Option A0
  | .tmp t => match look Γ none t with
    | some (.one t) => some t
    | _ => none
  | .cell x t => match look Γ none x, P.underlying t, P.info? t with
    | some (.one (.ptr cs)), some d, some i => if i.size = cs.length ∧ (d.isRow = true ∨ cs.length = 1) then some (.val d.isRow cs) else none
    | _, _, _ => none
def ressOK (Γ : Env) : List ResultVar → List A0 → Bool
  | [], [] => true
  | r :: rs, t :: ts => (match resT P Γ r with
    | some u => sub0 u t
    | none => false) && ressOK Γ rs ts
  | _, _ => false
def envOf : Nat → List A0 → Env
  | _, [] => []
  | i, t :: ts => (i, none, .one t) :: envOf (i + 1) ts
def isVal : A0 → Bool
  | .val _ _ => true
  | .inp => true
  | _ => false
def normOK (fn : Func) (s : Sg) : Option Env → Bool
  | some Γ => ressOK P Γ fn.results.toList s.outs
  | none => true
/-- A function is looked at: what it makes longer. -/
def chkFunc (fn : Func) (c : Code) (s : Sg) : Option (List Gr) :=
  match chkCode P lay els Fs fn.ntmps (envOf 0 s.ins) c with
  | some (N, E, gr) =>
    if (s.ins.all isVal && decide (s.ins.length ≤ fn.ntmps) && normOK P fn s N && E.all fun x => decide (x.1 = none) && ressOK P x.2 fn.results.toList s.outs) = true then some gr else none
  | none => none
end
section
variable {P : Program} {lay : Lay} {els : List (TypeId × TypeId × Nat)} {Fs : FuncId → Option Sg} {nt B F : Nat} {K K' : Bounds} {w0 w w' : World} {G : FuncId → Bounds → Bounds} {Γ : Env} {a : Act} {S : Nat → Prop} {g : Gd} {o : Oper} {ops : Array Oper} {Q : Exit → Act → World → Prop}
def readR (tmps : Array Value) : ResultVar → Sem Value
  | .tmp t => pure (tmps.getD t undef)
  | .cell x t => do loadVar t (← asAddr (tmps.getD x undef))
theorem results_eq (fn : Func) (tmps : Array Value) : results fn tmps = (do
    let vs ← fn.results.mapM (readR tmps)
    pure (if h : vs.size = 1 then vs[0] else .tuple vs)) := by
  unfold results
  congr 1
theorem sub0_ok {t u : A0} (h : sub0 t u = true) {v : Value} (hv : VOK lay B F K w t v) : VOK lay B F K w u v := by
  unfold sub0 at h
  split at h
  · rename_i a1 cs a2 ds
    simp only [Bool.and_eq_true, decide_eq_true_eq] at h
    obtain ⟨rfl, hs⟩ := h
    cases a1 with
    | false => exact Ofs.sub hv hs
    | true => obtain ⟨arr, h1, h2⟩ := hv; exact ⟨arr, h1, h2.sub hs⟩
  · obtain rfl := hv.2 0 _ v rfl rfl
    exact ⟨none, 0, 0, rfl, SlOK.nil _ _, FreshA.none_ _, Nat.zero_le _⟩
  · rename_i e abs j e' abs' j'
    simp only [Bool.and_eq_true, decide_eq_true_eq, Bool.or_eq_true, Bool.not_eq_true'] at h
    obtain ⟨rfl, h1, h2⟩ := h
    obtain ⟨A, n, c, e1, e2, e3, e4⟩ := hv
    refine ⟨A, n, c, e1, e2, e3, ?_⟩
    cases abs <;> cases abs' <;> simp at h1 e4 ⊢ <;> omega
  · obtain rfl := hv.2 0 _ v rfl rfl
    exact ⟨none, 0, 0, rfl, SlOK.nil _ _, FreshA.none_ _⟩
  · rename_i e abs j e'
    obtain rfl := of_decide_eq_true h
    obtain ⟨A, n, c, e1, e2, e3, e4⟩ := hv
    exact ⟨A, n, c, e1, e2, e3⟩
  · rename_i e abs j e'
    simp only [Bool.and_eq_true, decide_eq_true_eq, Bool.not_eq_true'] at h
    obtain ⟨rfl, rfl, rfl⟩ := h
    obtain ⟨A, n, c, rfl, e2, e3, e4⟩ := hv
    exact vok_cell ⟨A, n, c, rfl, by simpa using e4, e2⟩
  · rename_i e abs j e' m
    simp only [Bool.and_eq_true, decide_eq_true_eq] at h
    obtain ⟨rfl, rfl, hj⟩ := h
    obtain ⟨A, n, c, rfl, e2, e3, e4⟩ := hv
    exact vok_cell ⟨A, n, c, rfl, by simp at e4; omega, e2⟩
  · exact of_decide_eq_true h ▸ hv
theorem subT_ok {t u : AT} (h : subT t u = true) {v : Value} (hv : TOK lay B F K w t v) : TOK lay B F K w u v := by
  unfold subT at h
  split at h
  · exact sub0_ok h hv
  · exact of_decide_eq_true h ▸ hv
theorem joinE_ok {Γ1 Γ2 : Env} (h : EOK lay B F K w S Γ1 a ∨ EOK lay B F K w S Γ2 a) : EOK lay B F K w S (joinE Γ1 Γ2) a := by
  intro i g t hi hm hg
  unfold joinE at hm
  obtain ⟨x, hx, he⟩ := List.mem_filterMap.1 hm
  split at he
  · rename_i g' t' hf
    split at he
    · rename_i hgg
      split at he
      · rename_i r hr
        split at he
        · rename_i hs
          simp only [Option.some.injEq, Prod.mk.injEq] at he
          obtain ⟨rfl, rfl, rfl⟩ := he
          rcases h with h | h
          · exact subT_ok hs.1 (h x.1 x.2.1 x.2.2 hi hx (hgg ▸ hg))
          · exact subT_ok hs.2 (h x.1 g' t' hi (find_mem hf) hg)
        · cases he
      · cases he
    · cases he
  · cases he
theorem St.joinl {Γ1 Γ2 : Env} (h : St lay nt B F w0 K S Γ1 a w) : St lay nt B F w0 K S (joinE Γ1 Γ2) a w := ⟨h.typed, joinE_ok (.inl h.env), h.below, h.keeps, h.base, h.size, h.defers⟩
theorem St.joinr {Γ1 Γ2 : Env} (h : St lay nt B F w0 K S Γ2 a w) : St lay nt B F w0 K S (joinE Γ1 Γ2) a w := ⟨h.typed, joinE_ok (.inr h.env), h.below, h.keeps, h.base, h.size, h.defers⟩
theorem joinO_l {N N' : Option Env} {Γ1 : Env} (h1 : N = some Γ1) (h : St lay nt B F w0 K S Γ1 a w) : ∃ Γ, joinO N N' = some Γ ∧ St lay nt B F w0 K S Γ a w := by
  subst h1
  cases N' with
  | none => exact ⟨_, rfl, h⟩
  | some Γ2 => exact ⟨_, rfl, h.joinl⟩
theorem joinO_r {N N' : Option Env} {Γ2 : Env} (h1 : N' = some Γ2) (h : St lay nt B F w0 K S Γ2 a w) : ∃ Γ, joinO N N' = some Γ ∧ St lay nt B F w0 K S Γ a w := by
  subst h1
  cases N with
  | none => exact ⟨_, rfl, h⟩
  | some Γ1 => exact ⟨_, rfl, h.joinr⟩
theorem outsOf_ok {id : Nat} {Γ2 : Env} : ∀ {E : Outs}, (some id, Γ2) ∈ E → St lay nt B F w0 K S Γ2 a w → ∃ Γ, outsOf id E = some Γ ∧ St lay nt B F w0 K S Γ a w
  | [], h, _ => by cases h
  | x :: E, h, hst => by
    unfold outsOf
    simp only [List.foldr_cons]
    rcases List.mem_cons.1 h with he | h
    · subst he
      simp only [if_true]
      exact joinO_l rfl hst
    · obtain ⟨Γ, h1, h2⟩ := outsOf_ok h hst
      unfold outsOf at h1
      split
      · exact joinO_r h1 h2
      · exact ⟨Γ, h1, h2⟩
def Post (lay : Lay) (nt B F : Nat) (w0 : World) (K : Bounds) (N : Option Env) (E : Outs) (Q : Exit → Act → World → Prop) : Prop :=
  (∀ Γ, N = some Γ → ∀ a w, St lay nt B F w0 K (fun _ => True) Γ a w → Q .normal a w) ∧
  ∀ x ∈ E, ∀ a w, St lay nt B F w0 K (fun _ => True) x.2 a w → match x.1 with
    | some id => Q (.exit id) a w
    | none => Q .ret a w
section
theorem code_ok (hm : P.follows .mixedOrders = true) (hG : GOK G) (hFs : ∀ f s, Fs f = some s → FnOK P lay G f s) (hel : ∀ p ∈ els, Elem lay P p.1 p.2.1 p.2.2) : ∀ (c : Code) (Γ : Env) (N : Option Env) (E : Outs) (gr : List Gr) (K K1 : Bounds) (Q : Exit → Act → World → Prop) (a : Act) (w : World), chkCode P lay els Fs nt Γ c = some (N, E, gr) → (∀ e, den G gr K e ≤ K1 e) → (∀ e, K1 e ≤ LIM) → St lay nt B F w0 K (fun _ => True) Γ a w →
    Post lay nt B F w0 K1 N E Q → c.wp P Q a w := by
  intro c
  induction c with
  | skip =>
    intro Γ N E gr K K1 Q a w h hK hfit hst hq
    simp only [chkCode, Option.some.injEq, Prod.mk.injEq] at h
    obtain ⟨rfl, rfl, rfl⟩ := h
    exact wp_skip (hq.1 Γ rfl a w (hst.le hK))
  | region id ops draw =>
    intro Γ N E gr K K1 Q a w h hK hfit hst hq
    unfold chkCode at h
    split at h
    · rename_i Γ' gr' h1
      split at h
      · split at h
        · rename_i hd
          simp only [Option.some.injEq, Prod.mk.injEq] at h
          obtain ⟨rfl, rfl, rfl⟩ := h
          obtain ⟨rfl, hd⟩ := hd
          refine wp_region_any hm ?_
          have hfit' : ∀ e, K e ≤ LIM := fun e => Nat.le_trans (hK e) (hfit e)
          have keys : ∀ (rest : List Oper) (Γ Γ' : Env) (gr : List Gr), (∀ o ∈ rest, ∀ d, o.dst = some d → d ∈ dsts ops) → chkOps P lay els Fs nt ops Γ rest = some (Γ', gr) → ∀ k g t, (k, g, t) ∈ Γ' → k ∉ dsts ops → (k, g, t) ∈ Γ := by
            intro rest
            induction rest with
            | nil =>
              intro Γ Γ' gr _ h k g t hk _
              simp only [chkOps, Option.some.injEq, Prod.mk.injEq] at h
              obtain ⟨rfl, rfl⟩ := h
              exact hk
            | cons o rest ih =>
              intro Γ Γ' gr hds h k g t hk hkd
              unfold chkOps at h
              split at h
              · split at h
                · rename_i rt gr1 _
                  split at h
                  · split at h
                    · rename_i Γ2 gr2 h2
                      simp only [Option.some.injEq, Prod.mk.injEq] at h
                      obtain ⟨rfl, rfl⟩ := h
                      have := ih _ _ _ (fun o ho => hds o (List.mem_cons_of_mem _ ho)) h2 k g t hk hkd
                      cases hdst : o.dst with
                      | none => rw [hdst] at this; exact this
                      | some d =>
                        rw [hdst] at this
                        have hdd := hds o (List.mem_cons_self ..) d hdst
                        cases rt with
                        | none => exact (mem_dropE this).1
                        | some t0 =>
                          rcases List.mem_cons.1 this with he | hm'
                          · simp only [Prod.mk.injEq] at he
                            exact absurd (he.1 ▸ hdd) hkd
                          · exact (mem_dropE hm').1
                    · cases h
                  · cases h
                · cases h
              · cases h
          have hst' : St lay nt B F w0 K (Sl ops (Array.replicate ops.size false)) Γ' a { w with drawn := w.drawn + 1 } := by
            refine ⟨hst.typed.drew, fun k g t hk hm' hg => ?_, hst.below.drew, hst.keeps.drew, hst.base, hst.size, hst.defers⟩
            rcases hk with hk | ⟨j, o, hj, _⟩
            · exact (hst.env k g t trivial (keys _ _ _ _ (fun o ho d hdo => mem_dsts.2 (by obtain ⟨j, hj, rfl⟩ := List.mem_iff_getElem.1 ho; exact ⟨j, _, by rw [← Array.getElem?_toList, List.getElem?_eq_getElem hj], hdo⟩)) h1 k g t hm' hk) hg).keeps ((Keeps.refl w).drew) (fun _ => Nat.le_refl _)
            · simp [Array.getElem?_replicate] at hj
          refine any_ok hG hFs hel hd hfit' (fun a' w' hs => hq.1 Γ' rfl a' w' (hs.le hK)) ops.size _ _ _ (by simp) (fun j o hj _ => by simp [Array.getElem?_replicate] at hj) hst' ?_
          exact Nat.le_trans (List.length_filter_le _ _) (by simp)
        · cases h
      · simp only [Option.some.injEq, Prod.mk.injEq] at h
        obtain ⟨rfl, rfl, rfl⟩ := h
        exact wp_region_list (ops_ok hG hFs hel _ _ _ _ _ _ _ h1 (fun e => Nat.le_trans (hK e) (hfit e)) hst fun a' w' hs => hq.1 Γ' rfl a' w' (hs.le hK))
    · cases h
  | seq x y ihx ihy =>
    intro Γ N E gr K K1 Q a w h hK hfit hst hq
    unfold chkCode at h
    split at h
    · rename_i E1 gr1 h1
      simp only [Option.some.injEq, Prod.mk.injEq] at h
      obtain ⟨rfl, rfl, rfl⟩ := h
      refine wp_seq (ihx Γ none E1 gr1 K K1 _ a w h1 hK hfit hst ⟨fun Γ h => (by cases h), fun x hx a w hs => ?_⟩)
      have := hq.2 x hx a w hs
      cases hx1 : x.1 <;> rw [hx1] at this <;> exact this
    · rename_i Γ1 E1 gr1 h1
      split at h
      · rename_i N2 E2 gr2 h2
        simp only [Option.some.injEq, Prod.mk.injEq] at h
        obtain ⟨rfl, rfl, rfl⟩ := h
        rw [den_append] at hK
        have hKm : ∀ e, den G gr1 K e ≤ K1 e := fun e => Nat.le_trans (den_up hG gr2 _ e) (hK e)
        have hfm : ∀ e, den G gr1 K e ≤ LIM := fun e => Nat.le_trans (hKm e) (hfit e)
        refine wp_seq (ihx Γ _ E1 gr1 K (den G gr1 K) _ a w h1 (fun _ => Nat.le_refl _) hfm hst ⟨fun Γ' he a' w' hs => ?_, fun x hx a' w' hs => ?_⟩)
        · obtain rfl := Option.some.inj he
          exact ihy Γ1 N2 E2 gr2 _ K1 Q a' w' h2 hK hfit hs ⟨hq.1, fun x hx => hq.2 x (List.mem_append_right _ hx)⟩
        · have := hq.2 x (List.mem_append_left _ hx) a' w' (hs.le hKm)
          cases hx1 : x.1 <;> rw [hx1] at this <;> exact this
      · cases h
    · cases h
  | cond cnd x y ihx ihy =>
    intro Γ N E gr K K1 Q a w h hK hfit hst hq
    unfold chkCode at h
    split at h
    · rename_i hc
      split at h
      · rename_i N1 E1 gr1 N2 E2 gr2 h1 h2
        simp only [Option.some.injEq, Prod.mk.injEq] at h
        obtain ⟨rfl, rfl, rfl⟩ := h
        rw [den_append] at hK
        have hK1 : ∀ e, den G gr1 K e ≤ K1 e := fun e => Nat.le_trans (den_up hG gr2 _ e) (hK e)
        have hK2 : ∀ e, den G gr2 K e ≤ K1 e := fun e => Nat.le_trans (den_mono hG gr2 (den_up hG gr1 K) e) (hK e)
        obtain ⟨b, hb⟩ := VOK.bool (F := F) (opnd_ok hst.env (g := none) trivial (fun _ _ => trivial) hc)
        refine wp_cond_split hb (fun _ => ?_) (fun _ => ?_)
        · exact ihx Γ N1 E1 gr1 K K1 Q a w h1 hK1 hfit hst ⟨fun Γ' he a' w' hs => (joinO_l he hs).elim fun Γ'' h => hq.1 Γ'' h.1 a' w' h.2, fun x hx => hq.2 x (List.mem_append_left _ hx)⟩
        · exact ihy Γ N2 E2 gr2 K K1 Q a w h2 hK2 hfit hst ⟨fun Γ' he a' w' hs => (joinO_r he hs).elim fun Γ'' h => hq.1 Γ'' h.1 a' w' h.2, fun x hx => hq.2 x (List.mem_append_right _ hx)⟩
      · cases h
    · cases h
  | block id c ih =>
    intro Γ N E gr K K1 Q a w h hK hfit hst hq
    unfold chkCode at h
    split at h
    · rename_i N1 E1 gr1 h1
      simp only [Option.some.injEq, Prod.mk.injEq] at h
      obtain ⟨rfl, rfl, rfl⟩ := h
      refine wp_block (ih Γ N1 E1 gr1 K K1 _ a w h1 hK hfit hst ⟨fun Γ' he a' w' hs => (joinO_l he hs).elim fun Γ'' h => hq.1 Γ'' h.1 a' w' h.2, fun x hx a' w' hs => ?_⟩)
      obtain ⟨k, Γx⟩ := x
      cases k with
      | none => exact hq.2 (none, Γx) (List.mem_filter.2 ⟨hx, by simp⟩) a' w' hs
      | some id' =>
        dsimp only [Exit.inBlock]
        by_cases hid : id' = id
        · subst hid
          rw [if_pos rfl]
          obtain ⟨Γ2, e2, s2⟩ := outsOf_ok hx hs
          exact (joinO_r e2 s2).elim fun Γ'' h => hq.1 Γ'' h.1 a' w' h.2
        · rw [if_neg hid]
          exact hq.2 (some id', Γx) (List.mem_filter.2 ⟨hx, by simp [hid]⟩) a' w' hs
    · cases h
  | exit id =>
    intro Γ N E gr K K1 Q a w h hK hfit hst hq
    simp only [chkCode, Option.some.injEq, Prod.mk.injEq] at h
    obtain ⟨rfl, rfl, rfl⟩ := h
    exact wp_exit (hq.2 (some id, Γ) (List.mem_singleton.2 rfl) a w (hst.le hK))
  | ret =>
    intro Γ N E gr K K1 Q a w h hK hfit hst hq
    simp only [chkCode, Option.some.injEq, Prod.mk.injEq] at h
    obtain ⟨rfl, rfl, rfl⟩ := h
    exact wp_ret (hq.2 (none, Γ) (List.mem_singleton.2 rfl) a w (hst.le hK))
  | _ => intro Γ N E gr K K1 Q a w h; simp [chkCode] at h
theorem res_ok (hm : P.follows .mixedOrders = true) (hG : GOK G) (hFs : ∀ f s, Fs f = some s → FnOK P lay G f s) (hel : ∀ p ∈ els, Elem lay P p.1 p.2.1 p.2.2) (hst : St lay nt B F w0 K (fun _ => True) Γ a w) {r : ResultVar} {t : A0} (h : resT P Γ r = some t) :
    ∃ v, (readR a.tmps r).run P w = .ok v w ∧ VOK lay B F K w t v := by
  cases r with
  | tmp i =>
    simp only [resT] at h
    split at h
    · rename_i ht
      obtain rfl := Option.some.inj h
      exact ⟨_, rfl, look_ok hst.env (g := none) trivial trivial ht⟩
    · cases h
  | cell x ty =>
    simp only [resT] at h
    split at h
    · rename_i cs d i hx hu hi
      split at h
      · rename_i hc
        obtain rfl := Option.some.inj h
        have hv : VOK lay B F K w (.ptr cs) (a.eval (.tmp x)) := look_ok hst.env (g := none) trivial trivial hx
        obtain ⟨u, h1, h2, _⟩ := load_ok (P := P) hst.typed (rd_of_ptr hst.base.1 hv) hu hi hc.1 (fun hd => hc.2.resolve_left (by simp [hd]))
        obtain ⟨b, off, t', arr, he, _⟩ := hv
        refine ⟨u, ?_, h2⟩
        have he' : a.tmps.getD x undef = .pointer (some ⟨b, off, none⟩) := he
        rw [he] at h1
        simp only [Instr.loadAt, Instr.sureAddr, Sem.run_bind, Sem.run_pure, Result.andThen_ok] at h1
        simp only [readR, he', asAddr, Sem.run_bind, Sem.run_pure, Result.andThen_ok]
        exact h1
      · cases h
    · cases h
theorem ress_ok (hm : P.follows .mixedOrders = true) (hG : GOK G) (hFs : ∀ f s, Fs f = some s → FnOK P lay G f s) (hel : ∀ p ∈ els, Elem lay P p.1 p.2.1 p.2.2) (hst : St lay nt B F w0 K (fun _ => True) Γ a w) : ∀ {rs : List ResultVar} {ts : List A0}, ressOK P Γ rs ts = true →
    ∃ vs, (rs.mapM (readR a.tmps)).run P w = .ok vs w ∧ VOKs lay B F K w ts vs
  | [], [], _ => ⟨[], rfl, trivial⟩
  | r :: rs, t :: ts, h => by
    unfold ressOK at h
    simp only [Bool.and_eq_true] at h
    obtain ⟨h1, h2⟩ := h
    split at h1
    · rename_i u hu
      obtain ⟨v, k1, k2⟩ := res_ok hm hG hFs hel hst hu
      obtain ⟨vs, k3, k4⟩ := ress_ok hm hG hFs hel hst h2
      refine ⟨v :: vs, ?_, sub0_ok h1 k2, k4⟩
      rw [List.mapM_cons, Sem.run_bind, k1, Result.andThen_ok, Sem.run_bind, k3]
      rfl
    · cases h1
theorem results_ok (hm : P.follows .mixedOrders = true) (hG : GOK G) (hFs : ∀ f s, Fs f = some s → FnOK P lay G f s) (hel : ∀ p ∈ els, Elem lay P p.1 p.2.1 p.2.2) (hst : St lay nt B F w0 K (fun _ => True) Γ a w) {fn : Func} {ts : List A0} (h : ressOK P Γ fn.results.toList ts = true) :
    ∃ v, (results fn a.tmps).run P w = .ok v w ∧ TOK lay B F K w (retT ts) v := by
  obtain ⟨vs, h1, h2⟩ := ress_ok hm hG hFs hel hst h
  have hl := h2.at.1
  refine ⟨if h : vs.toArray.size = 1 then vs.toArray[0] else .tuple vs.toArray, ?_, ?_⟩
  · rw [results_eq, Array.mapM_eq_mapM_toList, Sem.run_bind, Sem.run_map, h1]
    rfl
  · match ts, vs, h2 with
    | [], [], _ => exact ⟨#[], rfl, trivial⟩
    | [t], [v], h2 => exact h2.1
    | t :: u :: ts, v :: v' :: vs, h2 => exact ⟨_, by simp; rfl, by simpa using h2⟩
theorem func_ok (hm : P.follows .mixedOrders = true) (hG : GOK G) (hFs : ∀ f s, Fs f = some s → FnOK P lay G f s) (hel : ∀ p ∈ els, Elem lay P p.1 p.2.1 p.2.2) {f : FuncId} {fn : Func} {c : Code} {s : Sg} (hf : P.funcs[f]? = some fn) (hb : fn.body = some c) (hname : (fn.name == "runtime.NumGoroutine") = false) {gr : List Gr} (hc : chkFunc P lay els Fs fn c s = some gr) (hgr : ∀ K e, den G gr K e ≤ G f K e) (hfl : s.flat = true → ∀ K, G f K = K) : FnOK P lay G f s := by
  refine ⟨fun args w => ?_, hfl, fun B K w args hfit hT hargs => ?_⟩
  · unfold callFunc
    have hn : ¬ fn.name = "runtime.NumGoroutine" := by simpa using hname
    simp [hf, hn, hb]
  · unfold chkFunc at hc
    split at hc
    · rename_i N E gr' h1
      split at hc
      · rename_i hcond
        obtain rfl := Option.some.inj hc
        simp only [Bool.and_eq_true, decide_eq_true_eq] at hcond
        obtain ⟨⟨⟨hins, hlen⟩, hN⟩, hE⟩ := hcond
        refine calls_of_wp hf hb ?_
        have hal : args.size = s.ins.length := by have := hargs.at.1; simpa using this
        have hst : St lay fn.ntmps B w.heap.size w K (fun _ => True) (envOf 0 s.ins) { tmps := args ++ Array.replicate (fn.ntmps - args.size) undef, defers := [] } w := by
          refine ⟨hT, fun i g t _ hm' _ => ?_, Below.refl _ _, Keeps.refl _, ⟨hT.size, Nat.le_refl _⟩, by simp; omega, rfl⟩
          have key : ∀ (ts : List A0) (k : Nat), (i, g, t) ∈ envOf k ts → ∃ j t0, i = k + j ∧ ts[j]? = some t0 ∧ t = .one t0 := by
            intro ts
            induction ts with
            | nil => intro k h; cases h
            | cons t1 ts ih =>
              intro k h
              rcases List.mem_cons.1 h with he | h
              · simp only [Prod.mk.injEq] at he
                exact ⟨0, t1, by omega, rfl, he.2.2⟩
              · obtain ⟨j, t0, e1, e2, e3⟩ := ih (k + 1) h
                exact ⟨j + 1, t0, by omega, by simpa using e2, e3⟩
          obtain ⟨j, t0, e1, e2, e3⟩ := key _ _ hm'
          obtain rfl : i = j := by omega
          subst e3
          obtain ⟨v, hv1, hv2⟩ := hargs.at.2 i t0 e2
          have hi : i < args.size := by have := (List.getElem?_eq_some_iff.1 e2).1; omega
          have he : (args ++ Array.replicate (fn.ntmps - args.size) undef).getD i undef = v := by
            rw [Array.getD_eq_getD_getElem?, Array.getElem?_append_left hi]
            rw [Array.getElem?_toList] at hv1
            rw [hv1]; rfl
          show VOK lay B w.heap.size K w t0 _
          simp only [Act.eval]
          rw [he]
          have hval : isVal t0 = true := List.all_eq_true.1 hins t0 (List.mem_of_getElem? e2)
          match t0, hv2, hval with
          | .val false cs, h, _ => exact h
          | .val true cs, h, _ => exact h
          | .inp, h, _ => exact h
        refine code_ok hm hG hFs hel c _ N E gr' K (G f K) _ _ _ h1 (hgr K) hfit hst ⟨fun Γ he a' w' hs => ?_, fun x hx a' w' hs => ?_⟩
        · subst he
          obtain ⟨v, hv1, hv2⟩ := results_ok hm hG hFs hel hs hN
          exact bodyPost_end hv1 hs.defers ⟨v, rfl, hv2, hs.typed, hs.below⟩
        · have := List.all_eq_true.1 hE x hx
          simp only [Bool.and_eq_true, decide_eq_true_eq] at this
          rw [this.1]
          obtain ⟨v, hv1, hv2⟩ := results_ok hm hG hFs hel hs this.2
          exact bodyPost_ret hv1 hs.defers ⟨v, rfl, hv2, hs.typed, hs.below⟩
      · cases hc
    · cases hc
end
end
end Go.Tz
