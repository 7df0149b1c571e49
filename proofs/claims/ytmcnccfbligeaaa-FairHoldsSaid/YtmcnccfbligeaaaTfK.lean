/-
  Code with facts runs. Plain laws.
-/
import Derived.Test.YtmcnccfbligeaaaTfJ
namespace Go.Tz
open Go.Rp Go.RowKit

theorem least_of {p : Nat → Prop} (h : ∃ n, p n) : ∃ n, p n ∧ ∀ m, p m → n ≤ m := by
  obtain ⟨n, hn⟩ := h
  induction n using Nat.strongRecOn with
  | _ n ih =>
    by_cases h : ∃ m, m < n ∧ p m
    · obtain ⟨m, hm, hp⟩ := h
      exact ih m hm hp
    · exact ⟨n, hn, fun m hm => Nat.le_of_not_lt fun hlt => h ⟨m, hlt, hm⟩⟩
theorem wp_loopN {P : Program} {c : Code} {Q : Exit → Act → World → Prop} (J : Nat → Act → World → Prop) {n : Nat} {a : Act} {w : World} (h0 : J n a w) (round : ∀ n a w, J n a w → c.wp P (Exit.then (fun a' w' => ∃ m, m < n ∧ J m a' w') Q) a w) : (Code.loop c).wp P Q a w := by
  classical
  let μ : Act → World → Nat := fun a w => if h : ∃ n, J n a w then Classical.choose (least_of h) else 0
  refine wp_loop (fun a w => ∃ n, J n a w) μ ⟨n, h0⟩ fun a w h => ?_
  have hμ : μ a w = Classical.choose (least_of h) := dif_pos h
  obtain ⟨h1, h2⟩ := Classical.choose_spec (least_of h)
  refine wp_mono (round _ a w h1) fun e a' w' hq => ?_
  cases e with
  | normal =>
    obtain ⟨m, hm, hj⟩ := hq
    refine ⟨⟨m, hj⟩, ?_⟩
    have hex : ∃ n, J n a' w' := ⟨m, hj⟩
    have hμ' : μ a' w' = Classical.choose (least_of hex) := dif_pos hex
    have := (Classical.choose_spec (least_of hex)).2 m hj
    omega
  | _ => exact hq
section
variable {P : Program} {lay : Lay} {els : List (TypeId × TypeId × Nat)} {Fs : FuncId → Option Sg} {Xs : FuncId → Option Sx} {nt B F : Nat} {inv : Nat → Option Inv} {K K' : Bounds} {w0 w w' : World} {γ γ' : Nat → Int} {G : FuncId → Bounds → Bounds} {Γ Γ0 : Env} {R R0 : Rs} {a : Act} {S : Nat → Prop} {g : Gd} {o : Oper} {ops : Array Oper} {Q : Exit → Act → World → Prop}
theorem den_sub (hG : GOK G) : ∀ {l m : List Gr}, l.Sublist m → ∀ K e, den G l K e ≤ den G m K e := by
  intro l m h
  induction h with
  | slnil => intro K e; exact Nat.le_refl _
  | cons g _ ih => intro K e; exact Nat.le_trans (ih K e) (den_mono hG _ (g.den_up hG K) e)
  | cons_cons g _ ih => intro K e; exact ih _ e
theorem merge_l (hG : GOK G) (l m : List Gr) (K : Bounds) (e : TypeId) : den G l K e ≤ den G (mergeGr l m) K e := by
  unfold mergeGr
  split
  · rename_i h; exact den_sub hG (List.isSublist_iff_sublist.1 h) K e
  · split
    · exact Nat.le_refl _
    · exact den_sub hG (List.sublist_append_left ..) K e
theorem merge_r (hG : GOK G) (l m : List Gr) (K : Bounds) (e : TypeId) : den G m K e ≤ den G (mergeGr l m) K e := by
  unfold mergeGr
  split
  · exact Nat.le_refl _
  · split
    · rename_i h; exact den_sub hG (List.isSublist_iff_sublist.1 h) K e
    · exact den_sub hG (List.sublist_append_right ..) K e
theorem seqWays_ok (hG : GOK G) {f : Env → Rs → Option (Ways × List Gr)} : ∀ {ws ws' : Ways} {gr' : List Gr}, seqWays f ws = some (ws', gr') → ∀ x ∈ ws, (x.1 = .norm → ∃ ws1 gr1, f x.2.1 x.2.2 = some (ws1, gr1) ∧ (∀ y ∈ ws1, y ∈ ws') ∧ ∀ K e, den G gr1 K e ≤ den G gr' K e) ∧ (x.1 ≠ .norm → x ∈ ws')
  | [], _, _, _, x, hx => by cases hx
  | (.norm, Γ, R) :: ws, ws', gr', h, x, hx => by
    unfold seqWays at h
    split at h
    · rename_i ws1 gr1 ws2 gr2 h1 h2
      simp only [Option.some.injEq, Prod.mk.injEq] at h
      obtain ⟨rfl, rfl⟩ := h
      rcases List.mem_cons.1 hx with rfl | hx
      · exact ⟨fun _ => ⟨ws1, gr1, h1, fun y hy => List.mem_append_left _ hy, merge_l hG _ _⟩, fun h => absurd rfl h⟩
      · obtain ⟨k1, k2⟩ := seqWays_ok hG h2 x hx
        exact ⟨fun hn => (k1 hn).elim fun a h => h.elim fun b h => ⟨a, b, h.1, fun y hy => List.mem_append_right _ (h.2.1 y hy), fun K e => Nat.le_trans (h.2.2 K e) (merge_r hG _ _ K e)⟩, fun hn => List.mem_append_right _ (k2 hn)⟩
    · cases h
  | (.out id, Γ, R) :: ws, ws', gr', h, x, hx => by
    unfold seqWays at h
    split at h
    · rename_i ws2 gr2 h2
      simp only [Option.some.injEq, Prod.mk.injEq] at h
      obtain ⟨rfl, rfl⟩ := h
      rcases List.mem_cons.1 hx with rfl | hx
      · exact ⟨fun h => (by cases h), fun _ => List.mem_cons_self ..⟩
      · obtain ⟨k1, k2⟩ := seqWays_ok hG h2 x hx
        exact ⟨fun hn => (k1 hn).elim fun a h => h.elim fun b h => ⟨a, b, h.1, fun y hy => List.mem_cons_of_mem _ (h.2.1 y hy), h.2.2⟩, fun hn => List.mem_cons_of_mem _ (k2 hn)⟩
    · cases h
  | (.ret, Γ, R) :: ws, ws', gr', h, x, hx => by
    unfold seqWays at h
    split at h
    · rename_i ws2 gr2 h2
      simp only [Option.some.injEq, Prod.mk.injEq] at h
      obtain ⟨rfl, rfl⟩ := h
      rcases List.mem_cons.1 hx with rfl | hx
      · exact ⟨fun h => (by cases h), fun _ => List.mem_cons_self ..⟩
      · obtain ⟨k1, k2⟩ := seqWays_ok hG h2 x hx
        exact ⟨fun hn => (k1 hn).elim fun a h => h.elim fun b h => ⟨a, b, h.1, fun y hy => List.mem_cons_of_mem _ (h.2.1 y hy), h.2.2⟩, fun hn => List.mem_cons_of_mem _ (k2 hn)⟩
    · cases h
theorem rsok_cons {x : Gs × Fa} (h : GsOK a x.1 → x.2.ok γ a w) (hR : ∀ y ∈ R, GsOK a y.1 → y.2.ok γ a w) : ∀ y ∈ x :: R, GsOK a y.1 → y.2.ok γ a w := fun y hy => by
  rcases List.mem_cons.1 hy with rfl | hy
  · exact h
  · exact hR y hy
theorem caseB_ok (hE : EOK lay B F K w (fun _ => True) Γ a) : ∀ (n : Nat) {R : Rs} {i : Nat} {b : Bool}, (∀ x ∈ R, GsOK a x.1 → x.2.ok γ a w) → a.eval (.tmp i) = .bool b → ∃ R' ∈ caseB Γ n R i b, ∀ x ∈ R', GsOK a x.1 → x.2.ok γ a w
  | 0, R, i, b, hR, hb => ⟨_, List.mem_singleton.2 rfl, rsok_cons (fun _ => hb) hR⟩
  | n + 1, R, i, b, hR, hb => by
    have hR1 : ∀ x ∈ (([], .isb i b) :: R : Rs), GsOK a x.1 → x.2.ok γ a w := rsok_cons (fun _ => hb) hR
    unfold caseB
    dsimp only
    split
    · rename_i x _
      split
      · rename_i hx
        split
        · exact ⟨_, List.mem_singleton.2 rfl, hR1⟩
        · obtain ⟨bx, hbx⟩ := VOK.bool (F := F) (look_ok hE (g := none) trivial trivial hx)
          cases bx with
          | true => obtain ⟨R', h1, h2⟩ := caseB_ok hE n hR1 hbx; exact ⟨R', List.mem_append_left _ h1, h2⟩
          | false => obtain ⟨R', h1, h2⟩ := caseB_ok hE n hR1 hbx; exact ⟨R', List.mem_append_right _ h1, h2⟩
      · exact ⟨_, List.mem_singleton.2 rfl, hR1⟩
    · exact ⟨_, List.mem_singleton.2 rfl, hR1⟩
theorem gsok_nil : GsOK a [] := fun _ h => by cases h
theorem dedup_ok (hR : ∀ x ∈ R, GsOK a x.1 → x.2.ok γ a w) : ∀ x ∈ dedupR R, GsOK a x.1 → x.2.ok γ a w := by
  have key : ∀ (R : Rs) (x : Gs × Fa), x ∈ dedupR R → x ∈ R := by
    intro R
    induction R with
    | nil => intro x h; exact h
    | cons y R ih =>
      intro x h
      simp only [dedupR, List.foldr_cons] at h
      split at h
      · exact List.mem_cons_of_mem _ (ih x h)
      · rcases List.mem_cons.1 h with rfl | h
        · exact List.mem_cons_self ..
        · exact List.mem_cons_of_mem _ (ih x h)
  exact fun x hx => hR x (key R x hx)
theorem gc_ok {m : Nat} (hR : ∀ x ∈ R, GsOK a x.1 → x.2.ok γ a w) : ∀ x ∈ gcR m R, GsOK a x.1 → x.2.ok γ a w := by
  unfold gcR
  dsimp only
  have hR := tidy_ok hR
  generalize tidy R = R at hR
  generalize deadOf (guardMask R (cellMask m R)) R = l
  refine tidy_ok ?_
  induction l generalizing R with
  | nil => exact hR
  | cons i l ih => exact ih _ (kill_ok hR)
theorem alive_ok (hR : ∀ x ∈ R, GsOK a x.1 → x.2.ok γ a w) : alive R = true := by
  have hfs : FsOK γ a w (act R []) := act_ok hR gsok_nil
  unfold alive
  cases h1 : contra (act R []) with
  | true => exact (contra_ok hfs h1).elim
  | false =>
    cases h2 : contraNew (act R []) (fresh1 R (act R [])) with
    | true => exact (contraNew_ok hfs (fun f hf => hfs f (List.mem_filter.1 hf).1) h2).elim
    | false => simp [h1, h2]
theorem entE_ok {ΓI : Env} (hE : EOK lay B F K w (fun _ => True) Γ a) (h : entE Γ ΓI = true) : EOK lay B F K w (fun _ => True) ΓI a := fun i g t _ hm hg => by
  have := List.all_eq_true.1 h _ hm
  simp only at this
  split at this
  · rename_i g' t' hf
    simp only [Bool.and_eq_true, Bool.or_eq_true, decide_eq_true_eq] at this
    refine subT_ok this.2 (hE i g' t' trivial (find_mem hf) ?_)
    rcases this.1 with rfl | rfl
    · trivial
    · exact hg
  · cases this
theorem goes_ok {ΓI : Env} {RI : Rs} (h : StX lay nt B F w0 γ K (fun _ => True) Γ R a w) (hg : goes Γ R ΓI RI = true) : StX lay nt B F w0 γ K (fun _ => True) ΓI RI a w := by
  unfold goes at hg
  simp only [Bool.and_eq_true] at hg
  have hfs : FsOK γ a w (act R []) := act_ok h.all gsok_nil
  refine ⟨⟨h.st.typed, entE_ok h.st.env hg.1, h.st.below, h.st.keeps, h.st.base, h.st.size, h.st.defers⟩, rok_all fun x hx hgs => ?_, h.own⟩
  have := List.all_eq_true.1 hg.2 x hx
  unfold entR at this
  rcases of_or this with h1 | h1
  · exact h.all x (memR_mem h1) hgs
  · split at h1
    · rename_i s t c h2 h3
      rw [h3]
      exact ent_ok hfs h1
    · rename_i v t c h2 h3
      rw [h3]
      intro A n m hA
      rcases of_or h1 with h1 | h1
      · have := ent_ok hfs h1
        simp only [Tm.den] at this
        rw [hA] at this
        simp only [lenOf] at this
        exact fun j hj => by omega
      · obtain ⟨f, hf, h1⟩ := List.any_eq_true.1 h1
        split at h1
        · rename_i v' t' c'
          simp only [Bool.and_eq_true] at h1
          obtain rfl := Vr.eqb_eq h1.1
          have hle := ent_ok hfs h1.2
          intro j hj
          obtain ⟨b1, o1, u1, f1, f2, k1, x1, f3, f4, f5⟩ := hfs _ hf A n m hA j hj
          exact ⟨b1, o1, u1, f1, f2, k1, x1, f3, f4, by omega⟩
        · cases h1
    · rename_i f h2 _ _
      exact hfs _ (anyF_mem h1)
    · cases h1
theorem tm_gh {s : Tm} (h : ∀ n ∈ s.ghOf, γ' n = γ n) : s.den γ' a = s.den γ a := by
  cases s with
  | gh n => exact h n (List.mem_singleton.2 rfl)
  | _ => rfl
theorem fa_gh {f : Fa} (h : ∀ n ∈ f.ghOf, γ' n = γ n) (hf : f.ok γ a w) : f.ok γ' a w := by
  cases f with
  | le s t c =>
    simp only [Fa.ok] at hf ⊢
    rw [tm_gh fun n hn => h n (List.mem_append_left _ hn), tm_gh fun n hn => h n (List.mem_append_right _ hn)]
    exact hf
  | ne s t c =>
    simp only [Fa.ok] at hf ⊢
    rw [tm_gh fun n hn => h n (List.mem_append_left _ hn), tm_gh fun n hn => h n (List.mem_append_right _ hn)]
    exact hf
  | sum s t u =>
    simp only [Fa.ok] at hf ⊢
    rw [tm_gh fun n hn => h n (List.mem_append_left _ hn), tm_gh fun n hn => h n (List.mem_append_right _ (List.mem_append_left _ hn)), tm_gh fun n hn => h n (List.mem_append_right _ (List.mem_append_right _ hn))]
    exact hf
  | frs v =>
    intro A n c ad h1 h2
    rw [h 999 (List.mem_singleton.2 rfl)]
    exact hf A n c ad h1 h2
  | elts v t c =>
    simp only [Fa.ok] at hf ⊢
    rw [tm_gh h]
    exact hf
  | _ => exact hf
theorem joinR_l {R R' : Rs} (hR : ∀ x ∈ R, GsOK a x.1 → x.2.ok γ a w) (hst : StX lay nt B F w0 γ K (fun _ => True) Γ R a w) : ∀ x ∈ joinR R R', GsOK a x.1 → x.2.ok γ a w := fun x hx hg => by
  rcases List.mem_append.1 hx with hx | hx
  · exact hR x (List.mem_filter.1 hx).1 hg
  · have h1 := (List.mem_filter.1 hx).2
    simp only [Bool.and_eq_true] at h1
    exact (goes_ok (ΓI := []) (RI := [x]) hst (by simp [goes, entE, h1.2])).all x (List.mem_singleton.2 rfl) hg
theorem joinR_r {R R' : Rs} (hst : StX lay nt B F w0 γ K (fun _ => True) Γ R' a w) : ∀ x ∈ joinR R R', GsOK a x.1 → x.2.ok γ a w := fun x hx hg => by
  rcases List.mem_append.1 hx with hx | hx
  · have h1 := (List.mem_filter.1 hx).2
    exact (goes_ok (ΓI := []) (RI := [x]) hst (by simp [goes, entE, h1])).all x (List.mem_singleton.2 rfl) hg
  · exact hst.all x (List.mem_filter.1 hx).1 hg
theorem join2_ok : ∀ {ws : Ways} {ΓJ : Env} {RJ : Rs}, join2 ws = some (ΓJ, RJ) → ∀ (Γ : Env) (R : Rs), (Ex.norm, Γ, R) ∈ ws → StX lay nt B F w0 γ K (fun _ => True) Γ R a w → StX lay nt B F w0 γ K (fun _ => True) ΓJ RJ a w
  | [], _, _, h, _, _, _, _ => by cases h
  | (.out _, _, _) :: ws, ΓJ, RJ, h, Γ, R, hm, hst => by
    rcases List.mem_cons.1 hm with he | hm
    · cases he
    · exact join2_ok (ws := ws) h Γ R hm hst
  | (.ret, _, _) :: ws, ΓJ, RJ, h, Γ, R, hm, hst => by
    rcases List.mem_cons.1 hm with he | hm
    · cases he
    · exact join2_ok (ws := ws) h Γ R hm hst
  | (.norm, Γ0, R0) :: ws, ΓJ, RJ, h, Γ, R, hm, hst => by
    unfold join2 at h
    split at h
    · rename_i hn
      simp only [Option.some.injEq, Prod.mk.injEq] at h
      obtain ⟨rfl, rfl⟩ := h
      rcases List.mem_cons.1 hm with he | hm
      · simp only [Prod.mk.injEq, true_and] at he
        obtain ⟨rfl, rfl⟩ := he
        exact hst
      · exfalso
        have key : ∀ (ws : Ways), join2 ws = none → ∀ Γ R, (Ex.norm, Γ, R) ∉ ws := by
          intro ws
          induction ws with
          | nil => intro _ Γ R h; cases h
          | cons y ws ih =>
            intro hn Γ R hm
            obtain ⟨ey, Γy, Ry⟩ := y
            cases ey with
            | norm => unfold join2 at hn; split at hn <;> cases hn
            | out id => rcases List.mem_cons.1 hm with he | hm
                        · cases he
                        · exact ih hn Γ R hm
            | ret => rcases List.mem_cons.1 hm with he | hm
                     · cases he
                     · exact ih hn Γ R hm
        exact key ws hn Γ R hm
    · rename_i Γ' R' hs
      simp only [Option.some.injEq, Prod.mk.injEq] at h
      obtain ⟨rfl, rfl⟩ := h
      rcases List.mem_cons.1 hm with he | hm
      · simp only [Prod.mk.injEq, true_and] at he
        obtain ⟨rfl, rfl⟩ := he
        refine ⟨⟨hst.st.typed, fun i g t hs hm hg => hst.st.env i g t hs (List.mem_filter.1 hm).1 hg, hst.st.below, hst.st.keeps, hst.st.base, hst.st.size, hst.st.defers⟩, rok_all (joinR_l hst.all hst), hst.own⟩
      · have h1 := join2_ok (ws := ws) hs Γ R hm hst
        refine ⟨⟨h1.st.typed, entE_ok h1.st.env (List.all_eq_true.2 fun x hx => ?_), h1.st.below, h1.st.keeps, h1.st.base, h1.st.size, h1.st.defers⟩, rok_all (joinR_r h1), h1.own⟩
        have := (List.mem_filter.1 hx).2
        simpa [entE] using this
theorem keepI_ok (I : Inv) {R : Rs} (hst : StX lay nt B F w0 γ K (fun _ => True) Γ R a w) : ∀ x ∈ keepI I R, GsOK a x.1 → x.2.ok γ a w := fun x hx hg => by
  unfold keepI at hx
  cases h : Tm.eqb I.lo (.c 0) with
  | true => rw [h] at hx; exact hst.all x hx hg
  | false =>
    rw [h] at hx
    have h1 := (List.mem_filter.1 hx).2
    exact (goes_ok (ΓI := []) (RI := [x]) hst (by simp [goes, entE, h1])).all x (List.mem_singleton.2 rfl) hg
theorem joinW_ok (b : Option Inv) {ws : Ways} {x : Ex × Env × Rs} (hx : x ∈ ws) : (x.1 ≠ .norm → x ∈ joinW b ws) ∧ (x.1 = .norm → ∃ Γ' R', (Ex.norm, Γ', R') ∈ joinW b ws ∧ ∀ {K : Bounds} {γ : Nat → Int} {a : Act} {w : World}, StX lay nt B F w0 γ K (fun _ => True) x.2.1 x.2.2 a w → StX lay nt B F w0 γ K (fun _ => True) Γ' R' a w) := by
  obtain ⟨ex, Γ, R⟩ := x
  unfold joinW
  cases b with
  | none => exact ⟨fun _ => hx, fun h => ⟨Γ, R, by have h2 : ex = .norm := h; rw [← h2]; exact hx, fun h => h⟩⟩
  | some I =>
    dsimp only
    split
    · exact ⟨fun _ => hx, fun h => ⟨Γ, R, by have h2 : ex = .norm := h; rw [← h2]; exact hx, fun h => h⟩⟩
    · rename_i ΓJ RJ hj
      refine ⟨fun h => List.mem_cons_of_mem _ (List.mem_filter.2 ⟨hx, by simpa using h⟩), fun h => ⟨ΓJ, RJ, List.mem_cons_self .., fun hst => by
        have h2 : ex = .norm := h
        subst h2
        refine join2_ok hj (keepE I Γ) (keepI I R) (List.mem_map.2 ⟨_, hx, by simp⟩) ⟨⟨hst.st.typed, fun i g t hs hm hg => ?_, hst.st.below, hst.st.keeps, hst.st.base, hst.st.size, hst.st.defers⟩, rok_all (keepI_ok I hst), hst.own⟩
        rcases List.mem_append.1 hm with hm | hm
        · exact entE_ok hst.st.env (List.mem_filter.1 hm).2 i g t hs (List.mem_singleton.2 rfl) hg
        · exact hst.st.env i g t hs hm hg⟩⟩
theorem addOf_den {G : FuncId → Bounds → Bounds} {g : Gr} {e : TypeId} {c : Nat} {es : List TypeId} (h : addOf g = some (e, c, es)) (K : Bounds) (x : TypeId) : g.den G K x = K x + (if x = e then c * prodK K es else 0) := by
  cases g with
  | add e' j =>
    simp only [addOf, Option.some.injEq, Prod.mk.injEq] at h
    obtain ⟨rfl, rfl, rfl⟩ := h
    simp only [Gr.den, prodK, Nat.mul_one]
    split <;> omega
  | mul e' c' es' =>
    simp only [addOf, Option.some.injEq, Prod.mk.injEq] at h
    obtain ⟨rfl, rfl, rfl⟩ := h
    simp only [Gr.den]
    split <;> omega
  | fn f => cases h
theorem raise_ok {G : FuncId → Bounds → Bounds} (hG : GOK G) (rz : List Gr) (h : StX lay nt B F w0 γ K (fun _ => True) Γ R a w) : StX lay nt B F w0 γ (den G rz K) (fun _ => True) (raiseL rz Γ) R a w := by
  unfold raiseL
  split
  · rename_i e j
    have hle : ∀ x, K x ≤ den G [.add e j] K x := fun x => by simp only [den, Gr.den]; split <;> omega
    refine ⟨⟨h.st.typed.le hle, fun i g t hs hm hg => ?_, h.st.below, h.st.keeps, h.st.base, h.st.size, h.st.defers⟩, h.facts, h.own⟩
    obtain ⟨y, hy, he⟩ := List.mem_map.1 hm
    simp only [Prod.mk.injEq] at he
    obtain ⟨rfl, rfl, rfl⟩ := he
    have hv := h.st.env y.1 y.2.1 y.2.2 hs hy hg
    unfold raiseA
    split
    · rename_i e' i0 ht
      rw [ht] at hv
      cases hb : Nat.beq e' e with
      | true =>
        obtain rfl := Nat.eq_of_beq_eq_true hb
        obtain ⟨A, n, c, e1, e2, e3, e4⟩ := hv
        refine ⟨A, n, c, e1, e2, e3, ?_⟩
        simp only [den, Gr.den, if_pos] at e4 ⊢
        simp at e4 ⊢
        omega
      | false => exact hv.keeps (Keeps.refl _) hle
    · exact hv.keeps (Keeps.refl _) hle
  · exact h.le (den_up hG rz _)
/-- What may be when so many rounds are left. -/
def KbOK (G : FuncId → Bounds → Bounds) (gs gr' : List Gr) (K : Bounds) (M0 : Nat) : Prop :=
  ∃ Kb : Nat → Bounds → Prop, Kb M0 K ∧ ∀ m K', Kb m K' → (∀ x, den G gs K' x ≤ den G gr' K x) ∧ ∀ m', m' < m → Kb m' (den G gs K')
theorem kb_add {G : FuncId → Bounds → Bounds} {gs gr' : List Gr} {K : Bounds} {M0 : Nat} (e : TypeId) (pp : Nat) (r1 : ∀ K' : Bounds, (∀ x, x ≠ e → K' x ≤ K x) → ∀ x, den G gs K' x ≤ K' x + (if x = e then pp else 0)) (r2 : ∀ x, K x + (if x = e then pp * (M0 + 1) else 0) ≤ den G gr' K x) : KbOK G gs gr' K M0 := by
  refine ⟨fun m K' => m ≤ M0 ∧ ∀ x, K' x ≤ K x + (if x = e then pp * (M0 - m) else 0), ⟨Nat.le_refl _, fun x => Nat.le_add_right _ _⟩, fun m K' ⟨hm, hK'⟩ => ?_⟩
  have hKr : ∀ x, den G gs K' x ≤ K x + (if x = e then pp * (M0 - m + 1) else 0) := fun x => by
    have h1 := r1 K' (fun y hy => by have := hK' y; rw [if_neg hy] at this; omega) x
    have h2 := hK' x
    by_cases hx : x = e
    · rw [if_pos hx] at h1 h2 ⊢
      rw [Nat.mul_succ]
      omega
    · rw [if_neg hx] at h1 h2 ⊢
      omega
  refine ⟨fun x => ?_, fun m' hlt => ⟨by omega, fun x => ?_⟩⟩
  · have h1 := hKr x
    have h2 := r2 x
    by_cases hx : x = e
    · rw [if_pos hx] at h1 h2
      have h4 : pp * (M0 - m + 1) ≤ pp * (M0 + 1) := Nat.mul_le_mul_left _ (by omega)
      omega
    · rw [if_neg hx] at h1 h2
      omega
  · have h5 := hKr x
    by_cases hx : x = e
    · rw [if_pos hx] at h5 ⊢
      have h6 : pp * (M0 - m + 1) ≤ pp * (M0 - m') := Nat.mul_le_mul_left _ (by omega)
      omega
    · rw [if_neg hx] at h5 ⊢
      omega
theorem flat_succ (gs : List Gr) (n : Nat) : (List.replicate (n + 1) gs).flatten = (List.replicate n gs).flatten ++ gs := by
  rw [List.replicate_succ', List.flatten_append]
  simp
theorem kb_rep {G : FuncId → Bounds → Bounds} (hG : GOK G) {gs : List Gr} {K : Bounds} {M0 M : Nat} (hM : M0 ≤ M) : KbOK G gs (List.replicate (M + 1) gs).flatten K M0 := by
  have up : ∀ (n k : Nat) (x : TypeId), den G (List.replicate n gs).flatten K x ≤ den G (List.replicate (n + k) gs).flatten K x := fun n k x => by
    induction k with
    | zero => exact Nat.le_refl _
    | succ k ih =>
      refine Nat.le_trans ih ?_
      rw [show n + (k + 1) = (n + k) + 1 by omega, flat_succ, den_append]
      exact den_up hG gs _ x
  refine ⟨fun m K' => m ≤ M0 ∧ ∀ x, K' x ≤ den G (List.replicate (M0 - m) gs).flatten K x, ⟨Nat.le_refl _, fun x => by simp [den]⟩, fun m K' ⟨hm, hK'⟩ => ?_⟩
  have h1 : ∀ x, den G gs K' x ≤ den G (List.replicate (M0 - m + 1) gs).flatten K x := fun x => by
    rw [flat_succ, den_append]
    exact den_mono hG gs hK' x
  refine ⟨fun x => Nat.le_trans (h1 x) ?_, fun m' hlt => ⟨by omega, fun x => Nat.le_trans (h1 x) ?_⟩⟩
  · have := up (M0 - m + 1) (M - (M0 - m)) x
    rwa [show M0 - m + 1 + (M - (M0 - m)) = M + 1 by omega] at this
  · have := up (M0 - m + 1) (M0 - m' - (M0 - m + 1)) x
    rwa [show M0 - m + 1 + (M0 - m' - (M0 - m + 1)) = M0 - m' by omega] at this
theorem repeat_ok {G : FuncId → Bounds → Bounds} (hG : GOK G) {o : Option Inv} {I : Inv} {gr gr' rz : List Gr} (h : StX lay nt B F w0 γ K (fun _ => True) Γ R a w) (hr : repeatG Γ R o I gr = some (gr', rz)) :
    KbOK G (gr ++ rz) gr' K (I.hi.den γ a - I.lo.den γ a).toNat := by
  have hfs : FsOK γ a w (act R []) := act_ok h.all gsok_nil
  unfold repeatG at hr
  split at hr
  · split at hr
    · simp only [Option.some.injEq, Prod.mk.injEq] at hr
      obtain ⟨rfl, rfl⟩ := hr
      exact kb_add 0 0 (fun K' _ x => by simp [den]) (fun x => by simp [den])
    · cases hr
  · rename_i I2
    split at hr
    · rename_i v hv
      split at hr
      · rename_i g hg
        split at hr
        · rename_i e2 e c es ht ha
          split at hr
          · rename_i hc
            simp only [Option.some.injEq, Prod.mk.injEq] at hr
            obtain ⟨rfl, rfl⟩ := hr
            simp only [Bool.and_eq_true, Bool.not_eq_true'] at hc
            obtain ⟨h1, h2, h3, h4⟩ := hc
            have h3 := ent_ok hfs h3
            have h4 := ent_ok hfs h4
            have h5 := typeV_ok h.st.env ht
            rw [hv] at h3
            have h3 : I.hi.den γ a ≤ lenOf (v.ev a) + 0 := h3
            have h4 : (0 : Int) ≤ I.lo.den γ a + 0 := h4
            have hes : e ∉ es := by simpa using h1
            have hee : e2 ≠ e := fun he => by rw [he] at h2; simp at h2
            refine kb_add e (c * prodK K es) (fun K' hK' x => ?_) (fun x => ?_)
            · rw [hg]
              have h6 : prodK K' es ≤ prodK K es := prodK_mono es fun y hy => hK' y fun he => hes (he ▸ hy)
              have h7 : c * prodK K' es ≤ c * prodK K es := Nat.mul_le_mul_left _ h6
              simp only [den]
              rw [addOf_den ha]
              split <;> omega
            · simp only [den, Gr.den, prodK]
              by_cases hx : x = e
              · rw [if_pos hx, if_pos hx]
                have h8 : (I.hi.den γ a - I.lo.den γ a).toNat + 1 ≤ K e2 + 1 := by omega
                have h9 : c * prodK K es * ((I.hi.den γ a - I.lo.den γ a).toNat + 1) ≤ c * prodK K es * (K e2 + 1) := Nat.mul_le_mul_left _ h8
                have h10 : c * ((K e2 + 1) * prodK K es) = c * prodK K es * (K e2 + 1) := by rw [Nat.mul_comm (K e2 + 1), Nat.mul_assoc]
                rw [h10]
                omega
              · rw [if_neg hx, if_neg hx]
                omega
          · cases hr
        · cases hr
      · cases hr
    · rename_i m hv
      split at hr
      · rename_i hc
        simp only [Bool.and_eq_true] at hc
        have h3 := ent_ok hfs hc.1
        have h4 := ent_ok hfs hc.2
        have h3 : I.hi.den γ a ≤ m + 0 := h3
        have h4 : (0 : Int) ≤ I.lo.den γ a + 0 := h4
        have hM : (I.hi.den γ a - I.lo.den γ a).toNat ≤ m.toNat := by omega
        split at hr
        · rename_i e j hg
          simp only [Option.some.injEq, Prod.mk.injEq] at hr
          obtain ⟨rfl, rfl⟩ := hr
          refine kb_add e j (fun K' _ x => ?_) (fun x => ?_)
          · rw [hg]
            simp only [den, Gr.den]
            split <;> omega
          · simp only [den, Gr.den]
            have h9 : j * ((I.hi.den γ a - I.lo.den γ a).toNat + 1) ≤ j * (m.toNat + 1) := Nat.mul_le_mul_left _ (by omega)
            split <;> omega
        · simp only [Option.some.injEq, Prod.mk.injEq] at hr
          obtain ⟨rfl, rfl⟩ := hr
          exact kb_rep hG hM
      · cases hr
    · cases hr
def PostW (lay : Lay) (nt B F : Nat) (w0 : World) (γ : Nat → Int) (K : Bounds) (ws : Ways) (gs : List Nat) (Q : Exit → Act → World → Prop) : Prop :=
  ∀ x ∈ ws, ∀ γ' a w, (∀ n, n ∉ gs → γ' n = γ n) → StX lay nt B F w0 γ' K (fun _ => True) x.2.1 x.2.2 a w → match x.1 with
    | .norm => Q .normal a w
    | .out id => Q (.exit id) a w
    | .ret => Q .ret a w
section
theorem finalX_ok (hm : P.follows .mixedOrders = true) (hG : GOK G) (hFs : ∀ f s, Fs f = some s → FnOK P lay G f s) (hXs : ∀ f s, Xs f = some s → FnX P lay G f s) (hel : ∀ p ∈ els, Elem lay P p.1 p.2.1 p.2.2) {id : Nat} {Γe Γ' : Env} {Re R' : Rs} {gr : List Gr} (h : finalD P lay els Fs Xs nt ops Γ R Γe Re = some (Γ', R', gr)) (hfit : ∀ e, den G gr K e ≤ LIM) (hst : StX lay nt B F w0 γ K (fun _ => True) Γ R a w) (hq : ∀ a' w', StX lay nt B F w0 γ (den G gr K) (fun _ => True) Γ' R' a' w' → Q .normal a' w') : (Code.region id ops true).wp P Q a w := by
  unfold finalD at h
  dsimp only at h
  · have h1 : True := trivial
    · have h2 : True := trivial
      have h3 : True := trivial
      split at h
      · rename_i rs2 h4
        have h5 : True := trivial
        · split at h
          · rename_i hc
            split at h
            case h_2 => cases h
            rename_i i0 gr0 hgrow
            simp only [Option.some.injEq, Prod.mk.injEq] at h
            obtain ⟨rfl, rfl, rfl⟩ := h
            have hrl := (resAll_ok h4).1
            simp only [Bool.and_eq_true] at hc
            obtain ⟨⟨⟨c1, c2⟩, c3⟩, c4⟩ := hc
            refine wp_region_any hm ?_
            have hbef : ∀ (i : Nat) (o : Oper), ops[i]? = some o → ∀ j ∈ bindsOn o, j < i := fun i o ho j hj => by
              have := List.all_eq_true.1 c2 (o, i) (by rw [List.mem_zipIdx_iff_getElem?]; simpa using ho)
              exact of_decide_eq_true (List.all_eq_true.1 this j hj)
            have nodep : ∀ {deps : List Nat}, (∀ t ∈ deps, t ∈ dsts ops) → (∀ t ∈ deps, Sl ops (Array.replicate ops.size false) t) → deps = [] := fun {deps} hd hs => by
              cases deps with
              | nil => rfl
              | cons t ts =>
                exfalso
                rcases hs t (List.mem_cons_self ..) with h | ⟨j, o, hj, _⟩
                · exact h (hd t (List.mem_cons_self ..))
                · simp [Array.getElem?_replicate] at hj
            have dE : ∀ (x : Nat × Gd × AT), ∀ t ∈ depsE ops x, t ∈ dsts ops := fun x t ht => by unfold depsE at ht; simpa using (List.mem_filter.1 ht).2
            have dF : ∀ (x : Gs × Fa), ∀ t ∈ depsF ops x, t ∈ dsts ops := fun x t ht => by unfold depsF at ht; simpa using (List.mem_filter.1 ht).2
            have hle0 : ∀ e, K e ≤ (if (Array.replicate ops.size false).getD i0 false = true then den G gr0 K else K) e := fun e => by
              split
              · exact den_up hG gr0 K e
              · exact Nat.le_refl _
            have hgrow' : ∀ (k : Nat) (r : OpRes), rs2[k]? = some r → (r.gr = [] ∨ (k = i0 ∧ r.gr = gr0)) := by
              have key : ∀ (l : List OpRes) (n : Nat), growOf l n = some (i0, gr0) → ∀ (k : Nat) (r : OpRes), l[k]? = some r → (r.gr = [] ∨ (n + k = i0 ∧ r.gr = gr0)) := by
                intro l
                induction l with
                | nil => intro n _ k r hk; cases hk
                | cons y l ih =>
                  intro n hn k r hk
                  unfold growOf at hn
                  split at hn
                  · rename_i hy
                    rcases k with _ | k
                    · obtain rfl : y = r := by simpa using hk
                      exact .inl (isNil_eq hy)
                    · have := ih (n + 1) hn k r (by simpa using hk)
                      rwa [show n + (k + 1) = n + 1 + k by omega]
                  · split at hn
                    · rename_i hall
                      simp only [Option.some.injEq, Prod.mk.injEq] at hn
                      obtain ⟨rfl, rfl⟩ := hn
                      rcases k with _ | k
                      · obtain rfl : y = r := by simpa using hk
                        exact .inr ⟨rfl, rfl⟩
                      · exact .inl (isNil_eq (List.all_eq_true.1 hall r (List.mem_of_getElem? (by simpa using hk))))
                    · cases hn
              intro k r hk
              have := key rs2 0 hgrow k r hk
              rwa [Nat.zero_add] at this
            refine anyX_ok hG hFs hXs hel hst.own c1 hbef h4 (fun x hx hne => ?_) (fun x hx => ?_) (fun x hx hne => ?_) (Kof := fun listed => if listed.getD i0 false = true then den G gr0 K else K) (Kf := den G gr0 K) (fun listed k r hr hl e => ?_) (fun listed e => ?_) hfit hq ops.size _ _ _ (by simp) (fun j o hj => by simp [Array.getElem?_replicate] at hj) (hst.st.typed.drew.le hle0) hst.st.below.drew hst.st.keeps.drew hst.st.base hst.st.size hst.st.defers (fun x hx hs hg => ?_) (fun x hx hs hg => ?_) (fun x hx hg0 _ => (hst.st.env x.1 x.2.1 x.2.2 trivial hx (by rw [hg0]; trivial)).keeps ((Keeps.refl w).drew) hle0) (fun x hx hg0 _ _ => ?_) (Nat.le_trans (List.length_filter_le _ _) (by simp))
            · have := List.all_eq_true.1 c3 x hx
              simp only [Bool.and_eq_true] at this
              rw [if_neg (fun h => hne (isNil_eq h))] at this
              exact this.1
            · have := List.all_eq_true.1 c3 x hx
              simp only [Bool.and_eq_true] at this
              exact this.2
            · have := List.all_eq_true.1 c4 x hx
              rw [if_neg (fun h => hne (isNil_eq h))] at this
              exact this
            · have hlk : (listed.setIfInBounds k true).getD i0 false = true ∨ (listed.setIfInBounds k true).getD i0 false = listed.getD i0 false := by
                by_cases hki : k = i0
                · subst hki
                  left
                  have hsz : k < listed.size := (Array.getElem?_eq_some_iff.1 hl).1
                  simp [Array.getD_eq_getD_getElem?, hsz]
                · right
                  simp only [Array.getD_eq_getD_getElem?]
                  rw [Array.getElem?_setIfInBounds_ne hki]
              rcases hgrow' k r hr with hg | ⟨rfl, hg⟩
              · rw [hg]
                show (if listed.getD i0 false = true then den G gr0 K else K) e ≤ (if (listed.setIfInBounds k true).getD i0 false = true then den G gr0 K else K) e
                rcases hlk with h | h
                · rw [if_pos h]
                  split
                  · exact Nat.le_refl _
                  · exact den_up hG gr0 K e
                · rw [h]; exact Nat.le_refl _
              · rw [hg]
                have h0 : listed.getD k false = false := by simp [Array.getD_eq_getD_getElem?, hl]
                have h1 : (listed.setIfInBounds k true).getD k false = true := by
                  have hsz : k < listed.size := (Array.getElem?_eq_some_iff.1 hl).1
                  simp [Array.getD_eq_getD_getElem?, hsz]
                show den G gr0 (if listed.getD k false = true then den G gr0 K else K) e ≤ (if (listed.setIfInBounds k true).getD k false = true then den G gr0 K else K) e
                rw [if_pos h1, if_neg (by rw [h0]; simp)]
                exact Nat.le_refl _
            · show (if listed.getD i0 false = true then den G gr0 K else K) e ≤ den G gr0 K e
              split
              · exact Nat.le_refl _
              · exact den_up hG gr0 K e
            · have h0 := nodep (dE x) hs
              have := List.all_eq_true.1 c4 x hx
              rw [if_pos (by rw [h0]; rfl)] at this
              exact (hst.st.env x.1 x.2.1 x.2.2 trivial (memE_mem this) hg).keeps ((Keeps.refl w).drew) hle0
            · have h0 := nodep (dF x) hs
              have := List.all_eq_true.1 c3 x hx
              simp only [Bool.and_eq_true] at this
              rw [if_pos (by rw [h0]; rfl)] at this
              have hok := hst.all x (memR_mem this.1) hg
              cases hf : x.2 <;> rw [hf] at hok <;> exact hok
            · have hok := hst.all x hx (by rw [hg0]; exact gsok_nil)
              cases hf : x.2 <;> rw [hf] at hok <;> exact hok
          · cases h
      · cases h
theorem iterX_ok (hm : P.follows .mixedOrders = true) (hG : GOK G) (hFs : ∀ f s, Fs f = some s → FnOK P lay G f s) (hXs : ∀ f s, Xs f = some s → FnX P lay G f s) (hel : ∀ p ∈ els, Elem lay P p.1 p.2.1 p.2.2) {id : Nat} {Γe Γ' : Env} {R' : Rs} {gr : List Gr} (n : Nat) : ∀ (Re : Rs), iterD P lay els Fs Xs nt ops Γ R Γe n Re = some (Γ', R', gr) → (∀ e, den G gr K e ≤ LIM) → StX lay nt B F w0 γ K (fun _ => True) Γ R a w → (∀ a' w', StX lay nt B F w0 γ (den G gr K) (fun _ => True) Γ' R' a' w' → Q .normal a' w') → (Code.region id ops true).wp P Q a w := by
  induction n with
  | zero => intro Re h; exact finalX_ok hm hG hFs hXs hel h
  | succ n ih =>
    intro Re h
    unfold iterD at h
    split at h
    · rename_i r hr
      obtain rfl := Option.some.inj h
      exact finalX_ok hm hG hFs hXs hel hr
    · split at h
      · exact ih _ h
      · cases h
theorem drawX_ok (hm : P.follows .mixedOrders = true) (hG : GOK G) (hFs : ∀ f s, Fs f = some s → FnOK P lay G f s) (hXs : ∀ f s, Xs f = some s → FnX P lay G f s) (hel : ∀ p ∈ els, Elem lay P p.1 p.2.1 p.2.2) {id : Nat} {Γ' : Env} {R' : Rs} {gr : List Gr} (h : chkDraw P lay els Fs Xs nt ops Γ R = some (Γ', R', gr)) (hfit : ∀ e, den G gr K e ≤ LIM) (hst : StX lay nt B F w0 γ K (fun _ => True) Γ R a w) (hq : ∀ a' w', StX lay nt B F w0 γ (den G gr K) (fun _ => True) Γ' R' a' w' → Q .normal a' w') : (Code.region id ops true).wp P Q a w := by
  unfold chkDraw at h
  split at h
  · dsimp only at h
    split at h
    · exact iterX_ok hm hG hFs hXs hel _ _ h hfit hst hq
    · cases h
  · cases h
theorem way_ok (hm : P.follows .mixedOrders = true) (hG : GOK G) (hFs : ∀ f s, Fs f = some s → FnOK P lay G f s) (hXs : ∀ f s, Xs f = some s → FnX P lay G f s) (hel : ∀ p ∈ els, Elem lay P p.1 p.2.1 p.2.2) : ∀ (c : Code) (live : Nat) (Γ : Env) (R : Rs) (ws : Ways) (gr : List Gr) (K K1 : Bounds) (Q : Exit → Act → World → Prop) (γ : Nat → Int) (a : Act) (w : World), chkW P lay els Fs Xs nt inv live Γ R c = some (ws, gr) → (∀ e, den G gr K e ≤ K1 e) → (∀ e, K1 e ≤ LIM) → StX lay nt B F w0 γ K (fun _ => True) Γ R a w →
    PostW lay nt B F w0 γ K1 ws (ghs c) Q → c.wp P Q a w := by
  intro c
  induction c with
  | skip =>
    intro live Γ R ws gr K K1 Q γ a w h hK hfit hst hq
    simp only [chkW, Option.some.injEq, Prod.mk.injEq] at h
    obtain ⟨rfl, rfl⟩ := h
    exact wp_skip (hq _ (List.mem_singleton.2 rfl) γ a w (fun _ _ => rfl) (hst.le hK))
  | region id ops draw =>
    intro live Γ R ws gr K K1 Q γ a w h hK hfit hst hq
    unfold chkW at h
    split at h
    · split at h
      · rename_i Γ' R' gr' h1
        simp only [Option.some.injEq, Prod.mk.injEq] at h
        obtain ⟨rfl, rfl⟩ := h
        exact drawX_ok hm hG hFs hXs hel h1 (fun e => Nat.le_trans (hK e) (hfit e)) hst fun a' w' hs => hq _ (List.mem_singleton.2 rfl) γ a' w' (fun _ _ => rfl) (hs.le hK)
      · cases h
    · split at h
      · rename_i Γ' R' gr' h1
        simp only [Option.some.injEq, Prod.mk.injEq] at h
        obtain ⟨rfl, rfl⟩ := h
        exact wp_region_list (opsX_ok hG hFs hXs hel _ _ _ _ _ _ _ _ _ h1 (fun e => Nat.le_trans (hK e) (hfit e)) hst fun a' w' hs => hq _ (List.mem_singleton.2 rfl) γ a' w' (fun _ _ => rfl) (hs.le hK))
      · cases h
  | seq x y ihx ihy =>
    intro live Γ R ws gr K K1 Q γ a w h hK hfit hst hq
    unfold chkW at h
    split at h
    · rename_i ws1 gr1 h1
      split at h
      · rename_i ws2 gr2 h2
        simp only [Option.some.injEq, Prod.mk.injEq] at h
        obtain ⟨rfl, rfl⟩ := h
        rw [den_append] at hK
        have hKm : ∀ e, den G gr1 K e ≤ K1 e := fun e => Nat.le_trans (den_up hG gr2 _ e) (hK e)
        have hfm : ∀ e, den G gr1 K e ≤ LIM := fun e => Nat.le_trans (hKm e) (hfit e)
        refine wp_seq (ihx _ Γ R ws1 gr1 K (den G gr1 K) _ γ a w h1 (fun _ => Nat.le_refl _) hfm hst fun x hx γ' a' w' hag hs => ?_)
        obtain ⟨j1, j2⟩ := joinW_ok (lay := lay) (nt := nt) (B := B) (F := F) (w0 := w0) (inv (5000 + firstReg y)) hx
        obtain ⟨ex, Γx, Rx⟩ := x
        cases ex with
        | norm =>
          obtain ⟨Γx, Rx, hj, hjs⟩ := j2 rfl
          replace hs := hjs hs
          obtain ⟨ws3, gr3, h3, h4, h5⟩ := (seqWays_ok hG h2 _ hj).1 rfl
          exact ihy _ Γx _ ws3 gr3 _ K1 Q γ' a' w' h3 (fun e => Nat.le_trans (h5 _ e) (hK e)) hfit ⟨hs.st, rok_all (gc_ok hs.all), hs.own⟩ fun y hy γ2 a2 w2 hag2 hs2 => hq y (h4 y hy) γ2 a2 w2 (fun n hn => by
            simp only [ghs, List.mem_append, not_or] at hn
            rw [hag2 n hn.2, hag n hn.1]) hs2
        | out id => exact hq _ ((seqWays_ok hG h2 _ (j1 (by simp))).2 (by simp)) γ' a' w' (fun n hn => hag n fun h => hn (by simp [ghs, h])) (hs.le hKm)
        | ret => exact hq _ ((seqWays_ok hG h2 _ (j1 (by simp))).2 (by simp)) γ' a' w' (fun n hn => hag n fun h => hn (by simp [ghs, h])) (hs.le hKm)
      · cases h
    · cases h
  | cond cnd x y ihx ihy =>
    intro live Γ R ws gr K K1 Q γ a w h hK hfit hst hq
    unfold chkW at h
    split at h
    · rename_i i
      split at h
      · rename_i hc
        split at h
        · rename_i ws1 gr1 ws2 gr2 h1 h2
          simp only [Option.some.injEq, Prod.mk.injEq] at h
          obtain ⟨rfl, rfl⟩ := h
          obtain ⟨b, hb⟩ := VOK.bool (F := F) (look_ok hst.st.env (g := none) trivial trivial hc)
          have key : ∀ (b : Bool) (z : Code) (ws' : Ways) (gr' : List Gr), a.eval (.tmp i) = .bool b → seqWays (fun Γ' R' => chkW P lay els Fs Xs nt inv live Γ' R' z) (norms Γ (caseB Γ 3 R i b)) = some (ws', gr') →
              (∀ (live : Nat) (Γ : Env) (R : Rs) (ws : Ways) (gr : List Gr) (K K1 : Bounds) (Q : Exit → Act → World → Prop) (γ : Nat → Int) (a : Act) (w : World), chkW P lay els Fs Xs nt inv live Γ R z = some (ws, gr) → (∀ e, den G gr K e ≤ K1 e) → (∀ e, K1 e ≤ LIM) → StX lay nt B F w0 γ K (fun _ => True) Γ R a w → PostW lay nt B F w0 γ K1 ws (ghs z) Q → z.wp P Q a w) →
              (∀ e, den G gr' K e ≤ K1 e) → (∀ y ∈ ws', y ∈ ws1 ++ ws2) → (∀ n, n ∈ ghs z → n ∈ ghs (.cond (.tmp i) x y)) → z.wp P Q a w := fun b z ws' gr' hb hw ih hk hin hgs => by
            obtain ⟨R', m1, m2⟩ := caseB_ok hst.st.env 3 hst.all hb
            have hmem : ((Ex.norm, Γ, R') : Ex × Env × Rs) ∈ norms Γ (caseB Γ 3 R i b) := List.mem_filterMap.2 ⟨R', m1, by rw [if_pos (alive_ok m2)]⟩
            obtain ⟨ws3, gr3, h3, h4, h5⟩ := (seqWays_ok hG hw _ hmem).1 rfl
            exact ih _ Γ R' ws3 gr3 K K1 Q γ a w h3 (fun e => Nat.le_trans (h5 K e) (hk e)) hfit ⟨hst.st, rok_all m2, hst.own⟩ fun y hy γ2 a2 w2 hag2 hs2 => hq y (hin y (h4 y hy)) γ2 a2 w2 (fun n hn => hag2 n fun h => hn (hgs n h)) hs2
          refine wp_cond_split hb (fun ht => ?_) (fun hf => ?_)
          · subst ht
            exact key true x ws1 gr1 hb h1 ihx (fun e => Nat.le_trans (merge_l hG _ _ K e) (hK e)) (fun y hy => List.mem_append_left _ hy) fun n hn => by simp [ghs, hn]
          · subst hf
            exact key false y ws2 gr2 hb h2 ihy (fun e => Nat.le_trans (merge_r hG _ _ K e) (hK e)) (fun y hy => List.mem_append_right _ hy) fun n hn => by simp [ghs, hn]
        · cases h
      · cases h
    · cases h
  | block id c ih =>
    intro live Γ R ws gr K K1 Q γ a w h hK hfit hst hq
    unfold chkW at h
    split at h
    · rename_i ws1 gr1 h1
      simp only [Option.some.injEq, Prod.mk.injEq] at h
      obtain ⟨rfl, rfl⟩ := h
      refine wp_block (ih _ Γ R ws1 gr1 K K1 _ γ a w h1 hK hfit hst fun x hx γ' a' w' hag hs => ?_)
      have := hq _ (List.mem_map.2 ⟨x, hx, rfl⟩) γ' a' w' hag
      obtain ⟨ex, Γx, Rx⟩ := x
      cases ex with
      | norm => exact this hs
      | ret => exact this hs
      | out id' =>
        dsimp only [Exit.inBlock] at this ⊢
        by_cases hid : id' = id
        · subst hid
          rw [if_pos rfl] at this ⊢
          exact this hs
        · rw [if_neg hid]
          rw [if_neg (by simpa using hid)] at this
          exact this hs
    · cases h
  | exit id =>
    intro live Γ R ws gr K K1 Q γ a w h hK hfit hst hq
    simp only [chkW, Option.some.injEq, Prod.mk.injEq] at h
    obtain ⟨rfl, rfl⟩ := h
    exact wp_exit (hq _ (List.mem_singleton.2 rfl) γ a w (fun _ _ => rfl) (hst.le hK))
  | ret =>
    intro live Γ R ws gr K K1 Q γ a w h hK hfit hst hq
    simp only [chkW, Option.some.injEq, Prod.mk.injEq] at h
    obtain ⟨rfl, rfl⟩ := h
    exact wp_ret (hq _ (List.mem_singleton.2 rfl) γ a w (fun _ _ => rfl) (hst.le hK))
  | loop c ih =>
    intro live Γ R ws gr K K1 Q γ a w h hK hfit hst hq
    unfold chkW at h
    split at h
    · rename_i I hI
      dsimp only at h
      generalize hΓ : invE Γ (assigned c) I = ΓI at h
      generalize hRI : invR R (assigned c) (2 * firstReg c :: (2 * firstReg c + 1) :: ghs c) I = RI at h
      generalize hn : 2 * firstReg c = n at h
      split at h
      · rename_i ws1 grb hb
        split at h
        · rename_i gr' rz hrep
          split at h
          · rename_i hc
            simp only [Option.some.injEq, Prod.mk.injEq] at h
            obtain ⟨rfl, rfl⟩ := h
            simp only [Bool.and_eq_true, Bool.not_eq_true'] at hc
            obtain ⟨⟨⟨⟨⟨g1, g0⟩, g2⟩, g3⟩, g4⟩, g5⟩ := hc
            have g0 := of_decide_eq_true g0
            have g3' : n ∉ ghs c := by simpa using g3
            have g4' : n + 1 ∉ ghs c := by simpa using g4
            have clean : ∀ k ∈ (n :: (n + 1) :: ghs c), k ∉ I.lo.ghOf ∧ k ∉ I.hi.ghOf ∧ ∀ x ∈ RI, k ∉ x.2.ghOf := fun k hk => by
              have := List.any_eq_false.1 g2 k hk
              simp only [Bool.or_eq_true, not_or, Bool.not_eq_true] at this
              refine ⟨by simpa using this.1.1, by simpa using this.1.2, fun x hx => ?_⟩
              have := List.any_eq_false.1 this.2 x hx
              simpa using this
            have hgs : ghs (.loop c) = n :: (n + 1) :: ghs c := by simp [ghs, hn]
            rw [hgs] at hq
            obtain ⟨Kb, hKb0, hKbs⟩ := repeat_ok hG hst hrep
            generalize hM : (I.hi.den γ a - I.lo.den γ a).toNat = M0 at hKb0
            let J : Nat → Act → World → Prop := fun m a w => ∃ γ' K', (∀ k, k ∉ (n :: (n + 1) :: ghs c) → γ' k = γ k) ∧ Kb m K' ∧ StX lay nt B F w0 γ' K' (fun _ => True) ΓI RI a w ∧ (I.hi.den γ' a - I.lo.den γ' a).toNat = m
            refine wp_loopN J (n := M0) ⟨γ, K, fun _ _ => rfl, hKb0, goes_ok hst g1, hM⟩ fun m a w hJ => ?_
            obtain ⟨γ1, K', hag, hKm, hs1, hmm⟩ := hJ
            let γ2 : Nat → Int := fun k => if k = n then I.hi.den γ1 a else if k = n + 1 then I.lo.den γ1 a else γ1 k
            have e0 : γ2 n = I.hi.den γ1 a := if_pos rfl
            have e1 : γ2 (n + 1) = I.lo.den γ1 a := by show (if n + 1 = n then _ else if n + 1 = n + 1 then _ else _) = _; rw [if_neg (by omega), if_pos rfl]
            have e2 : ∀ k, k ≠ n → k ≠ n + 1 → γ2 k = γ1 k := fun k h1 h2 => by show (if k = n then _ else if k = n + 1 then _ else _) = _; rw [if_neg h1, if_neg h2]
            have hmem0 : n ∈ (n :: (n + 1) :: ghs c) := List.mem_cons_self ..
            have hmem1 : n + 1 ∈ (n :: (n + 1) :: ghs c) := List.mem_cons_of_mem _ (List.mem_cons_self ..)
            have tmI : ∀ s : Tm, n ∉ s.ghOf → n + 1 ∉ s.ghOf → s.den γ2 a = s.den γ1 a := fun s h1 h2 => tm_gh fun k hk => e2 k (fun h => h1 (h ▸ hk)) (fun h => h2 (h ▸ hk))
            have hs2 : StX lay nt B F w0 γ2 K' (fun _ => True) ΓI ((eqs (.gh n) I.hi 0 ++ eqs (.gh (n + 1)) I.lo 0).map (fun f => (([] : Gs), f)) ++ RI) a w := by
              refine ⟨hs1.st, rok_all fun x hx hgx => ?_, (e2 999 (by omega) (by omega)).trans hs1.own⟩
              rcases List.mem_append.1 hx with hx | hx
              · obtain ⟨f, hf, rfl⟩ := List.mem_map.1 hx
                have h1 : FsOK γ2 a w (eqs (.gh n) I.hi 0) := eqs_ok (by rw [tmI _ (clean n hmem0).2.1 (clean _ hmem1).2.1, Int.add_zero]; exact e0)
                have h2 : FsOK γ2 a w (eqs (.gh (n + 1)) I.lo 0) := eqs_ok (by rw [tmI _ (clean n hmem0).1 (clean _ hmem1).1, Int.add_zero]; exact e1)
                exact FsOK.app h1 h2 f hf
              · refine fa_gh (fun k hk => e2 k (fun h => ?_) (fun h => ?_)) (hs1.all x hx hgx)
                · exact (clean n hmem0).2.2 x hx (h ▸ hk)
                · exact (clean _ hmem1).2.2 x hx (h ▸ hk)
            have hKr := (hKbs m K' hKm).1
            have hK1 : ∀ x, den G grb K' x ≤ K1 x := fun x => by
              have h1 := hKr x
              rw [den_append] at h1
              exact Nat.le_trans (Nat.le_trans (den_up hG rz _ x) h1) (hK x)
            refine ih _ ΓI _ ws1 grb K' (den G grb K') _ γ2 a w hb (fun _ => Nat.le_refl _) (fun e => Nat.le_trans (hK1 e) (hfit e)) hs2 fun x hx γ3 a' w' hag3 hs3 => ?_
            have hag4 : ∀ k, k ∉ (n :: (n + 1) :: ghs c) → γ3 k = γ k := fun k hk => by
              simp only [List.mem_cons, not_or] at hk
              rw [hag3 k hk.2.2, e2 k hk.1 hk.2.1]
              exact hag k (by simp [hk.1, hk.2.1, hk.2.2])
            obtain ⟨ex, Γx, Rx⟩ := x
            cases ex with
            | norm =>
              have := List.all_eq_true.1 g5 _ hx
              simp only [if_true, Bool.and_eq_true] at this
              have hs4 := goes_ok (raise_ok hG rz hs3) this.1
              have hfs : FsOK γ3 a' w' (act Rx []) := act_ok hs3.all gsok_nil
              have hme := this.2
              unfold measured at hme
              simp only [Bool.and_eq_true] at hme
              have h1 := ent_ok hfs hme.1
              have d0 : (Tm.gh n).den γ3 a' = I.hi.den γ1 a := (hag3 n g3').trans e0
              have d1 : (Tm.gh (n + 1)).den γ3 a' = I.lo.den γ1 a := (hag3 _ g4').trans e1
              have hlt : (I.hi.den γ3 a' - I.lo.den γ3 a').toNat < m := by
                rcases of_or hme.2 with h2 | h2
                · simp only [Bool.and_eq_true] at h2
                  have h3 := ent_ok hfs h2.1
                  have h4 := ent_ok hfs h2.2
                  rw [d1] at h3
                  rw [d0] at h4
                  omega
                · simp only [Bool.and_eq_true] at h2
                  have h3 := ent_ok hfs h2.1
                  have h4 := ent_ok hfs h2.2
                  rw [d1] at h3
                  rw [d0] at h4
                  omega
              refine ⟨_, hlt, γ3, _, hag4, ?_, hs4, rfl⟩
              have h5 := (hKbs m K' hKm).2 _ hlt
              rwa [den_append] at h5
            | out id => exact hq _ (List.mem_filter.2 ⟨hx, by simp⟩) γ3 a' w' hag4 (hs3.le hK1)
            | ret => exact hq _ (List.mem_filter.2 ⟨hx, by simp⟩) γ3 a' w' hag4 (hs3.le hK1)
          · cases h
        · cases h
      · cases h
    · split at h
      · split at h
        · rename_i m _
          let J : Nat → Act → World → Prop := fun k a w => ∃ (Γ' : Env) (R' : Rs) (ws' : Ways) (gr' : List Gr) (K' : Bounds) (γ' : Nat → Int), unrollW (fun Γ' R' => chkW P lay els Fs Xs nt inv (usesC c ||| live) Γ' R' c) (usesC c ||| live) k Γ' R' = some (ws', gr') ∧ (∀ y ∈ ws', y ∈ ws) ∧ (∀ e, den G gr' K' e ≤ K1 e) ∧ (∀ k, k ∉ ghs (.loop c) → γ' k = γ k) ∧ StX lay nt B F w0 γ' K' (fun _ => True) Γ' R' a w
          refine wp_loopN J (n := m.toNat) ⟨Γ, R, ws, gr, K, γ, h, fun _ h => h, hK, fun _ _ => rfl, hst⟩ fun k a w hJ => ?_
          obtain ⟨Γ', R', ws', gr', K', γ', h1, h2, h3, h4, h5⟩ := hJ
          cases k with
          | zero => simp [unrollW] at h1
          | succ k =>
            unfold unrollW at h1
            split at h1
            · rename_i ws1 gr1 hb
              split at h1
              · rename_i ws2 gr2 hs
                simp only [Option.some.injEq, Prod.mk.injEq] at h1
                obtain ⟨rfl, rfl⟩ := h1
                rw [den_append] at h3
                have hm1 : ∀ e, den G gr1 K' e ≤ K1 e := fun e => Nat.le_trans (den_up hG gr2 _ e) (h3 e)
                refine ih _ Γ' R' ws1 gr1 K' (den G gr1 K') _ γ' a w hb (fun _ => Nat.le_refl _) (fun e => Nat.le_trans (hm1 e) (hfit e)) h5 fun x hx γ2 a2 w2 hag2 hs2 => ?_
                have hag3 : ∀ k, k ∉ ghs (.loop c) → γ2 k = γ k := fun k hk => by
                  simp only [ghs, List.mem_cons, not_or] at hk
                  rw [hag2 k hk.2.2]
                  exact h4 k (by simp [ghs, hk.1, hk.2.1, hk.2.2])
                obtain ⟨k1, k2⟩ := seqWays_ok hG hs x hx
                obtain ⟨ex, Γx, Rx⟩ := x
                cases ex with
                | norm =>
                  obtain ⟨ws3, gr3, q1, q2, q3⟩ := k1 rfl
                  exact ⟨k, Nat.lt_succ_self k, Γx, _, ws3, gr3, _, γ2, q1, fun y hy => h2 y (q2 y hy), fun e => Nat.le_trans (q3 _ e) (h3 e), hag3, ⟨hs2.st, rok_all (gc_ok hs2.all), hs2.own⟩⟩
                | out id => exact hq _ (h2 _ (k2 (by simp))) γ2 a2 w2 hag3 (hs2.le hm1)
                | ret => exact hq _ (h2 _ (k2 (by simp))) γ2 a2 w2 hag3 (hs2.le hm1)
              · cases h1
            · cases h1
        · cases h
      · cases h
  | _ => intro live Γ R ws gr K K1 Q γ a w h; simp [chkW] at h
end
end
end Go.Tz
