/-
  The walk of EndsMeets.
-/
import Derived.Test.YtgaomaaloaglpaaEndsW
namespace Go.Rp
/-- Who waits. -/
def waitE (st : ES) : List Nat := st.1 ++ st.2.2
theorem popE_wait (st : ES) : ((popE st).2.1 = -1 ∧ waitE (popE st).1 = waitE st) ∨ ∃ j : Nat, (popE st).2 = ((j : Int), 2) ∧ (waitE st).Perm (j :: waitE (popE st).1) := by
  obtain ⟨wl, b, wr⟩ := st
  rcases List.eq_nil_or_concat wl with rfl | ⟨l, i, hli⟩
  · rcases Nat.eq_zero_or_pos b with rfl | hb
    · rcases wr with _ | ⟨i, r⟩
      · rw [popE_no]; exact .inl ⟨rfl, rfl⟩
      · rw [popE_far]; exact .inr ⟨i, rfl, .refl _⟩
    · rw [popE_btw b wr hb]; exact .inl ⟨rfl, rfl⟩
  · rw [List.concat_eq_append] at hli
    subst hli
    rw [popE_near]
    refine .inr ⟨i, rfl, ?_⟩
    show ((l ++ [i]) ++ wr).Perm (i :: (l ++ wr))
    rw [List.append_assoc]
    exact List.perm_middle
theorem wait_flip (st : ES) : (waitE (flip st)).Perm (waitE st) := List.perm_append_comm
/-- What becomes of those who wait. -/
theorem step_wait (most k : Nat) (o : Int) (st : ES) : ((mStep most k o st).2.1 = -1 ∧ (waitE (mStep most k o st).1).Perm (waitE st)) ∨ ((mStep most k o st).2 = (-1, 1) ∧ (o = 1 ∨ o = 2) ∧ (waitE (mStep most k o st).1).Perm (k :: waitE st)) ∨
    ∃ j : Nat, (mStep most k o st).2 = ((j : Int), 2) ∧ (o = 3 ∨ o = 4) ∧ (waitE st).Perm (j :: waitE (mStep most k o st).1) := by
  unfold mStep
  split
  · rename_i h1
    unfold pushE
    split
    · refine .inr (.inl ⟨rfl, .inl h1, ?_⟩)
      show ((st.1 ++ [k]) ++ st.2.2).Perm (k :: (st.1 ++ st.2.2))
      rw [List.append_assoc]
      exact List.perm_middle
    · exact .inl ⟨rfl, .refl _⟩
  · split
    · rename_i h2
      unfold pushE
      split
      · refine .inr (.inl ⟨rfl, .inr h2, ?_⟩)
        show (st.1 ++ (st.2.2 ++ [k])).Perm (k :: (st.1 ++ st.2.2))
        rw [← List.append_assoc]
        exact (List.perm_append_comm (l₁ := st.1 ++ st.2.2) (l₂ := [k]))
      · exact .inl ⟨rfl, .refl _⟩
    · split
      · rename_i h3
        rcases popE_wait st with ⟨h, e⟩ | ⟨j, h, e⟩
        · exact .inl ⟨h, by rw [e]⟩
        · exact .inr (.inr ⟨j, h, .inl h3, e⟩)
      · split
        · rename_i h4
          rcases popE_wait (flip st) with ⟨h, e⟩ | ⟨j, h, e⟩
          · refine .inl ⟨h, ?_⟩
            have := (wait_flip (popE (flip st)).1)
            rw [e] at this
            exact this.trans (wait_flip st)
          · refine .inr (.inr ⟨j, h, .inr h4, ?_⟩)
            exact ((wait_flip st).symm.trans e).trans (List.Perm.cons j (wait_flip (popE (flip st)).1).symm)
        · exact .inl ⟨rfl, .refl _⟩
section
variable {most below : Nat} {ops : List (Int × Int)}
theorem pair_lt {k j : Nat} (h : mPair most below ops k = (j : Int)) : j < k := by
  have h2 : (mStep most k (kindAt ops k) (mAt most below ops k)).2 = ((j : Int), (mStep most k (kindAt ops k) (mAt most below ops k)).2.2) := Prod.ext h rfl
  rcases step_met h2 with h | h
  · exact (mAt_lt _ _ _ _).1 j h
  · exact (mAt_lt _ _ _ _).2 j h
/-- Those who wait: once each; pushes that were done, and that nobody has met yet. -/
theorem wait_inv (k : Nat) : (waitE (mAt most below ops k)).Nodup ∧ ∀ j ∈ waitE (mAt most below ops k), j < k ∧ j < ops.length ∧ (kindAt ops j = 1 ∨ kindAt ops j = 2) ∧ mCode most below ops j = 1 ∧ ∀ i, i < k → mPair most below ops i ≠ (j : Int) := by
  induction k with
  | zero => simp [mAt, waitE]
  | succ k ih =>
    obtain ⟨ihn, ihj⟩ := ih
    by_cases hk : k < ops.length
    · have hp : mPair most below ops k = (mStep most k (kindAt ops k) (mAt most below ops k)).2.1 := rfl
      have hc : mCode most below ops k = (mStep most k (kindAt ops k) (mAt most below ops k)).2.2 := rfl
      rw [mAt_succ hk]
      rcases step_wait most k (kindAt ops k) (mAt most below ops k) with ⟨h1, h2⟩ | ⟨h1, h2, h3⟩ | ⟨j, h1, h2, h3⟩
      · refine ⟨h2.nodup_iff.2 ihn, fun j hj => ?_⟩
        obtain ⟨a, b, c, d, e⟩ := ihj j (h2.mem_iff.1 hj)
        refine ⟨by omega, b, c, d, fun i hi => ?_⟩
        by_cases hik : i = k
        · rw [hik, hp, h1]; omega
        · exact e i (by omega)
      · rw [h1] at hp hc
        refine ⟨h3.nodup_iff.2 (List.nodup_cons.2 ⟨fun h => by have := (ihj k h).1; omega, ihn⟩), fun j hj => ?_⟩
        rcases List.mem_cons.1 (h3.mem_iff.1 hj) with rfl | hj
        · refine ⟨by omega, hk, h2, hc, fun i hi => ?_⟩
          intro he
          by_cases hik : i = j
          · rw [hik, hp] at he; simp at he <;> omega
          · have := pair_lt he; omega
        · obtain ⟨a, b, c, d, e⟩ := ihj j hj
          refine ⟨by omega, b, c, d, fun i hi => ?_⟩
          by_cases hik : i = k
          · rw [hik, hp]; show (-1 : Int) ≠ _; omega
          · exact e i (by omega)
      · rw [h1] at hp
        have hn := h3.nodup_iff.1 ihn
        obtain ⟨hnj, hn2⟩ := List.nodup_cons.1 hn
        refine ⟨hn2, fun x hx => ?_⟩
        obtain ⟨a, b, c, d, e⟩ := ihj x (h3.mem_iff.2 (List.mem_cons_of_mem _ hx))
        refine ⟨by omega, b, c, d, fun i hi => ?_⟩
        by_cases hik : i = k
        · rw [hik, hp]
          show ((j : Nat) : Int) ≠ _
          intro he
          have : j = x := by omega
          exact hnj (this ▸ hx)
        · exact e i (by omega)
    · have : ops[k]? = none := List.getElem?_eq_none (by omega)
      have e : mAt most below ops (k + 1) = mAt most below ops k := by simp [mAt, this]
      have hk0 : kindAt ops k = 0 := by simp [kindAt, this]
      have hp : mPair most below ops k = -1 := by unfold mPair; rw [hk0]; rfl
      rw [e]
      refine ⟨ihn, fun j hj => ?_⟩
      obtain ⟨a, b, c, d, e⟩ := ihj j hj
      refine ⟨by omega, b, c, d, fun i hi => ?_⟩
      by_cases hik : i = k
      · rw [hik, hp]; omega
      · exact e i (by omega)
/-- A pop that meets a push. -/
theorem pair_met {k j : Nat} (h : mPair most below ops k = (j : Int)) : (kindAt ops k = 3 ∨ kindAt ops k = 4) ∧ j < k ∧ j < ops.length ∧ (kindAt ops j = 1 ∨ kindAt ops j = 2) ∧ mCode most below ops j = 1 ∧ ∀ i, i < k → mPair most below ops i ≠ (j : Int) := by
  have hp : mPair most below ops k = (mStep most k (kindAt ops k) (mAt most below ops k)).2.1 := rfl
  rcases step_wait most k (kindAt ops k) (mAt most below ops k) with ⟨h1, h2⟩ | ⟨h1, h2, h3⟩ | ⟨x, h1, h2, h3⟩
  · rw [h, h1] at hp; omega
  · rw [h, h1] at hp; simp at hp <;> omega
  · rw [h, h1] at hp
    have : x = j := by simp at hp; omega
    subst this
    obtain ⟨a, b, c, d, e⟩ := (wait_inv (most := most) (below := below) (ops := ops) k).2 x (h3.mem_iff.2 (by simp))
    exact ⟨h2, a, b, c, d, e⟩
/-- How many are between. -/
theorem btw_step (k : Nat) (hk : k < ops.length) : ((mStep most k (kindAt ops k) (mAt most below ops k)).2 = (-1, 2) → 0 < (mAt most below ops k).2.1 ∧ (mAt most below ops (k + 1)).2.1 = (mAt most below ops k).2.1 - 1) ∧ ((mStep most k (kindAt ops k) (mAt most below ops k)).2 ≠ (-1, 2) → (mAt most below ops (k + 1)).2.1 = (mAt most below ops k).2.1) := by
  rw [mAt_succ hk]
  have hl : (List.replicate (mAt most below ops k).2.1 (0 : Int)).length = (mAt most below ops k).2.1 := by simp
  have h := (step_same' (fun _ => 0) most k (kindAt ops k) 0 (mAt most below ops k) _ hl rfl).2
  constructor
  · intro h12
    have hb := step_btw h12 hl
    unfold rgStep at h
    rw [if_pos h12] at h
    have hpos : 0 < (mAt most below ops k).2.1 := by
      rcases hb with ⟨_, x, t, e⟩ | ⟨_, t, x, e⟩
      · have := congrArg List.length e; simp at this; omega
      · have := congrArg List.length e; simp at this; omega
    refine ⟨hpos, ?_⟩
    rw [← h]
    split <;> simp
  · intro h12
    rw [rgStep_keep h12] at h
    rw [← h, hl]
theorem mPair_cases (k : Nat) : mPair most below ops k = -1 ∨ ∃ j : Nat, mPair most below ops k = (j : Int) := step_pr most k (kindAt ops k) (mAt most below ops k)
end
section
variable {most below : Nat} {ops : List (Int × Int)}
/-- Has a push been met ahead of a place? -/
def metB (f : Nat → Int) (m x : Nat) : Bool := (List.range m).any fun i => f i == (x : Int)
theorem metB_false {f : Nat → Int} {m x : Nat} (h : ∀ i, i < m → f i ≠ (x : Int)) : metB f m x = false := by
  unfold metB
  rw [List.any_eq_false]
  intro i hi
  have := h i (List.mem_range.1 hi)
  simpa using this
theorem metB_succ (f : Nat → Int) (m x : Nat) : metB f (m + 1) x = (metB f m x || f m == (x : Int)) := by
  unfold metB; rw [List.range_succ, List.any_append]; simp
def metL (n : Nat) (f : Nat → Int) (m : Nat) : List Value := (List.range n).map fun x => Value.bool (metB f m x)
theorem metL_len (n : Nat) (f : Nat → Int) (m : Nat) : (metL n f m).length = n := by simp [metL]
theorem metL_q {n : Nat} {f : Nat → Int} {m x : Nat} (h : x < n) : (metL n f m)[x]? = some (.bool (metB f m x)) := by simp [metL, h]
theorem metL_zero (n : Nat) (f : Nat → Int) : metL n f 0 = List.replicate n (.bool false) := by
  apply List.ext_getElem
  · simp [metL]
  · intro i h1 h2; simp [metL, metB]
theorem metL_set {n : Nat} {f : Nat → Int} {m j : Nat} (h : f m = (j : Int)) : (metL n f m).set j (.bool true) = metL n f (m + 1) := by
  apply List.ext_getElem
  · simp [metL]
  · intro i h1 h2
    simp [metL] at h1
    rw [List.getElem_set]
    simp only [metL, List.getElem_map, List.getElem_range, metB_succ, h]
    by_cases e : j = i
    · subst e; simp
    · rw [if_neg e]
      have : ((j : Int) == (i : Int)) = false := by simp; omega
      rw [this]; simp
theorem metL_keep {n : Nat} {f : Nat → Int} {m : Nat} (h : f m = -1) : metL n f (m + 1) = metL n f m := by
  unfold metL
  congr 1
  funext x
  rw [metB_succ, h]
  have : ((-1 : Int) == (x : Int)) = false := by first | (simp; done) | (simp; omega)
  rw [this]; simp
end
end Go.Rp
namespace Go.Proofs.Ytgaomaaloaglpaa
open Go.RowKit Go.Rp

theorem info_bool : (Try.prog.info? 4).map (fun i => (i.zero, i.size, i.bytes)) = some (some (.bool false), 1, 1) := by kernel_rfl

set_option maxRecDepth 100000 in
set_option maxHeartbeats 8000000 in
theorem EndsMeets_walk (w : World) (x : Int) (hx : (Lit.int .u8 x).wf = true) (a0 : Option Addr) (n0 c0 : Nat) (zs0 : List Int) (h00 : InInts .u8 w a0 n0 c0 zs0) (a' : Option Addr) (n' c' : Nat) (zs : List Int) (h1 : InInts .u8 w a' n' c' zs) :
    Calls Try.prog 8 #[.int .u8 x, .slice a0 n0 c0, .slice a' n' c'] w fun e w' => e = .returned (.bool true) ∧ Below w.heap.size w w' := by
  obtain ⟨i0, hi0, hz0, hz1, hz2⟩ := info_parts info_bool
  obtain ⟨bs, hbn, h256, hrb⟩ := h1.bytes
  obtain ⟨bs0, hbn0, h2560, hrb0⟩ := h00.bytes
  have hreach' := h1.reach
  have hreach0 := h00.reach
  have hlt : ∀ b, (fun x => x < w.heap.size) b → b < w.heap.size := fun _ h => h
  have s0 : At w.heap.size w [] := trivial
  clear h1 h00
  have hw0 : IntKind.i64.wrap ((n0 : Int) + (n' : Int)) = (n0 : Int) + (n' : Int) := IntWalk.i64_in _ (by omega)
  by_cases hbig : 150 < n0 + n'
  · have hL : (150 : Int) < (n0 : Int) + (n' : Int) := by omega
    go_enter Try.func8, Try.ntmps8
    go_wp2_with fail
    refine (known_any _).mono ?_
    rintro e w1 ⟨rfl, b1⟩
    go_wp2_with fail
    go_ret
    exact ⟨rfl, b1⟩
  have hL : ¬ (150 : Int) < (n0 : Int) + (n' : Int) := by omega
  obtain ⟨M, hM, mmod, hx0, hx1⟩ := u8_mod hx 9 (by omega)
  clear hx
  go_enter Try.func8, Try.ntmps8
  go_wp2_with fail
  refine (Ops_s (Nat.le_refl _) s0 hbn hrb h256 (by omega) 5 (by omega) (by omega)).mono ?_
  rintro e w1 ⟨A1, n, c, rfl, hn, h80, s1, b1⟩
  have h8 := opsOf_ok 5 (by omega) (by omega) bs
  generalize opsOf 5 bs = ops at *
  go_wp2_with fail
  refine (Filled_s (c := c0) b1.size s1 (M : Int) hbn0 (hrb0.below b1 hlt) hlt h2560 (by omega)).mono ?_
  rintro e w2 ⟨p, rfl, s2, b2⟩
  have b2 := b1.trans b2
  have hcut : cut (M : Int) = M := by unfold cut; omega
  rw [hcut] at s2
  obtain ⟨l0, hl0⟩ : ∃ l0, filled M bs0 = l0 := ⟨_, rfl⟩
  rw [hl0] at s2
  have hfl := (ring_len s2).1
  obtain ⟨be, hbe⟩ : ∃ be, l0.length = be := ⟨_, rfl⟩
  rw [hbe] at hfl
  have HBE := Lib.hid hbe
  have HN := Lib.hid hn
  clear hl0 hbe hn hcut s1 b1 hrb hrb0 h256 h2560 hbn hbn0
  go_wp2_with fail
  refine (rlen_s s2 HBE.out).mono ?_
  rintro e w3 ⟨rfl, rfl⟩
  go_wp2_with fail
  refine (Pairs_y (c := c) b2.size (be : Int) (M : Int) HN.out h8 (by omega) s2 (fun W L' hb hW => ⟨_, (Sep.drop hW).get⟩)).mono ?_
  rintro e w4 ⟨gp, gc, rfl, s4, b4⟩
  have b4 := b2.trans b4
  have hcap : capI (M : Int) = M := by unfold capI; omega
  have hbel : belI (be : Int) (M : Int) = be := by unfold belI; rw [hcap]; omega
  have hpq : ∀ (k : Nat), k < ops.length → (pairsL (be : Int) (M : Int) ops)[k]? = some (mPair M be ops k) := fun k h => by rw [pairsL_q h, hcap, hbel]
  have hcq : ∀ (k : Nat), k < ops.length → (codesL (be : Int) (M : Int) ops)[k]? = some (mCode M be ops k) := fun k h => by rw [codesL_q h, hcap, hbel]
  have HPQ := Lib.hid hpq
  have HCQ := Lib.hid hcq
  have HCAP := Lib.hid hcap
  have HBEL := Lib.hid hbel
  clear s2 b2 hpq hcq hcap hbel
  have ap := Apply_y (c := c) b4.size s4.rot3 HN.out h8 (by omega) (fun W L' hb hW => ⟨_, (Sep.drop (Sep.drop hW)).get⟩)
  rw [HBE.out] at ap
  go_wp2_with fail
  refine ap.mono ?_
  rintro e w5 ⟨g, rfl, s5, b5⟩
  have b5 := b4.trans b5
  clear ap s4 b4
  have hle5 := b5.size
  have hz3 : i0.bytes * n ≤ 281474976710656 := by rw [hz2]; omega
  have s6 := row_new hle5 (show n ≤ 100000 by omega) (z := .bool false) 4 s5
  have b6 := b5.alloc hle5 (.cells (madeCells #[.bool false] n) 4)
  have hle6 : w.heap.size ≤ (w5.alloc (.cells (madeCells #[.bool false] n) 4)).heap.size := by simp; omega
  rw [← metL_zero n (mPair M be ops)] at s6
  go_wp2_with (refine wpList_make_row _ rfl (.tmp 67) (.tmp 67) 47 rfl 4 i0 _ Try.underlying47 hi0 hz0 hz1 rfl .i64 .i64 n rfl rfl hz3 (by omega) ?_)
  generalize w5.alloc (.cells (madeCells #[.bool false] n) 4) = w6 at *
  generalize w5.heap.size = gm at *
  clear s5 b5
  go_loopg [15, 16] n (fun g' v k wr => ∃ m : Nat, m + g' = n ∧ k = .int .i64 (m : Int) ∧ v = .int .i64 (((mAt M be ops m).2.1 : Nat) : Int) ∧ At w.heap.size wr (slRes 4 1 (some ⟨gm, 0, none⟩) n n (metL n (mPair M be ops) m) :: slRes 42 2 (some ⟨g, 0, none⟩) n n ((toldK n (mCode M be ops) (mVal l0 M ops) n).flatMap resIn) :: ringR p M (dqAt l0 M ops n) :: intsO gp n (pairsL (be : Int) (M : Int) ops) :: codesO gc n (codesL (be : Int) (M : Int) ops) :: opsR A1 n ops :: []) ∧ Below w.heap.size w wr ∧ w.heap.size ≤ wr.heap.size)
  case atStart => exact ⟨0, by omega, rfl, rfl, s6, b6, hle6⟩
  case round =>
    clear s6 b6 hle6
    obtain ⟨m, hm, rfl, rfl, s7, b7, hle7⟩ := hrel
    by_cases hltm : m < n
    · have hml : m < ops.length := by rw [HN.out]; exact hltm
      have hmn : (m : Int) < (n : Int) := by omega
      have htl : m < (toldK n (mCode M be ops) (mVal l0 M ops) n).length := by rw [toldK_len]; exact hltm
      obtain ⟨t0, t1⟩ := res_at _ m htl
      rw [toldK_get _ _ _ _ _ hltm, if_pos hltm] at t0 t1
      have r0 : wr.cell? ⟨g, m * 2, none⟩ = some (.int .u8 (mCode M be ops m)) := (s7.rot2.slat hle7 _ _ t0).1
      have r1 : wr.cell? ⟨g, m * 2 + 1, none⟩ = some (.int .i32 (mVal l0 M ops m)) := (s7.rot2.slat hle7 _ _ t1).1
      have g1 : wr.cell? ⟨gp, m, none⟩ = some (.int .i64 (mPair M be ops m)) := own_at s7.rot4 (HPQ.out _ hml)
      have g2 : wr.cell? ⟨gc, m, none⟩ = some (.int .u8 (mCode M be ops m)) := own_at s7.rot5 (HCQ.out _ hml)
      have hbs := btw_step (most := M) (below := be) m hml
      clear t0 t1 htl
      rcases mPair_cases (most := M) (below := be) (ops := ops) m with e | ⟨j, e⟩
      · have hmk := metL_keep (n := n) e
        rw [e] at g1
        by_cases hc2 : mCode M be ops m = 2
        · have h12 : (mStep M m (kindAt ops m) (mAt M be ops m)).2 = (-1, 2) := Prod.ext e hc2
          obtain ⟨hpos, hnx⟩ := hbs.1 h12
          rw [hc2] at g2 r0
          obtain ⟨bb, hbb⟩ : ∃ bb, (mAt M be ops m).2.1 = bb + 1 := ⟨(mAt M be ops m).2.1 - 1, by omega⟩
          have hble : (mAt M be ops m).2.1 ≤ 1000 := by have := mAt_len M be ops hfl m; unfold sizeE at this; omega
          rw [hbb] at hnx hble
          have HNX := Lib.hid hnx
          have HMK := Lib.hid hmk
          have hb0 : ((bb + 1 : Nat) : Int) - 1 = (bb : Int) := by omega
          rw [hbb]
          clear hbb hnx hmk h12 hbs hc2 e hpos
          go_wp2_with fail
          go_quiet (fail)
          go_wp2_with fail
          go_roundg (gk - 1)
          case measure => omega
          case rel => exact ⟨m + 1, by omega, by go_num, by rw [HNX.out]; first | rfl | go_num | (simp; omega), by rw [HMK.out]; exact s7.drewN _, below_drewN b7 _, hle7⟩
        · have hnx : (mAt M be ops (m + 1)).2.1 = (mAt M be ops m).2.1 := hbs.2 fun h => hc2 (by unfold mCode; rw [h])
          have HNX := Lib.hid hnx
          have HMK := Lib.hid hmk
          clear hbs e hnx hmk
          generalize mCode M be ops m = cd at *
          have hcd : (cd == 2) = false := by simpa using hc2
          have hcc : (cd != cd) = false := by simp
          go_wp2_with fail
          go_quiet (fail)
          go_wp2_with fail
          go_roundg (gk - 1)
          case measure => omega
          case rel => exact ⟨m + 1, by omega, by go_num, by rw [HNX.out], by rw [HMK.out]; exact s7.drewN _, below_drewN b7 _, hle7⟩
      · obtain ⟨hk2, hjlt, hjl, hjk, hjc, hun⟩ := pair_met e
        have hnx : (mAt M be ops (m + 1)).2.1 = (mAt M be ops m).2.1 := hbs.2 fun h => by
          have : mPair M be ops m = -1 := by unfold mPair; rw [h]
          omega
        have hvl : mVal l0 M ops m = valAt ops j := by
          have := HBE.out
          subst this
          exact mV_met (c := (mStep M m (kindAt ops m) (mAt M l0.length ops m)).2.2) (Prod.ext e rfl)
        have hmf : metB (mPair M be ops) m j = false := metB_false fun i hi => hun i hi
        have hms := metL_set (n := n) e
        obtain ⟨b, off, rfl, _, hcells⟩ := (s7.drop.drop.drop.drop.drop).get.at (by omega)
        obtain ⟨c0', c1'⟩ := op_at ops m hml
        obtain ⟨d0, d1⟩ := op_at ops j hjl
        have g0 : wr.cell? ⟨b, off + m * 2, none⟩ = some (.int .u8 (kindAt ops m)) := by rw [kindAt_lt hml]; exact hcells _ _ c0'
        have g3 : wr.cell? ⟨b, off + j * 2, none⟩ = some (.int .u8 (kindAt ops j)) := by rw [kindAt_lt hjl]; exact hcells _ _ d0
        have hka : decide (kindAt ops m < 3) = false := decide_eq_false (by omega)
        have hkb : decide (2 < kindAt ops j) = false := decide_eq_false (by omega)
        have g4 : wr.cell? ⟨b, off + j * 2 + 1, none⟩ = some (.int .i32 (valAt ops j)) := by rw [valAt_lt hjl]; exact hcells _ _ d1
        have g5 : wr.cell? ⟨gc, j, none⟩ = some (.int .u8 1) := own_at s7.rot5 ((HCQ.out _ hjl).trans (by rw [hjc]))
        have hmq := metL_q (f := mPair M be ops) (m := m) (show j < n by omega)
        rw [hmf] at hmq
        obtain ⟨g6, g7, _⟩ := s7.slat hle7 j _ hmq
        have hst := fun (W : World) (hW : At w.heap.size W (slRes 4 1 (some ⟨gm, 0, none⟩) n n (metL n (mPair M be ops) m) :: slRes 42 2 (some ⟨g, 0, none⟩) n n ((toldK n (mCode M be ops) (mVal l0 M ops) n).flatMap resIn) :: ringR p M (dqAt l0 M ops n) :: intsO gp n (pairsL (be : Int) (M : Int) ops) :: codesO gc n (codesL (be : Int) (M : Int) ops) :: opsR (some ⟨b, off, none⟩) n ops :: [])) (hB : w.heap.size ≤ W.heap.size) => (hW.slat hB j _ hmq).2.2 (.bool true)
        rw [e] at g1
        rw [hvl] at r1
        rw [hms] at hst
        have HNX := Lib.hid hnx
        have HST := Lib.hid hst
        have hjn : (j : Int) < (n : Int) := by omega
        have hjm' : (j : Int) < (m : Int) := by omega
        have hjd : decide ((m : Int) ≤ (j : Int)) = false := decide_eq_false (by omega)
        clear hst hms hmf hvl hnx hjk hjc hk2 hbs e hcells c0' c1' d0 d1 hmq hjl hun
        generalize kindAt ops m = ka at *
        generalize kindAt ops j = kb at *
        generalize valAt ops j = vl at *
        have hvv : (vl != vl) = false := by simp
        generalize mCode M be ops m = cd at *
        have hcc : (cd != cd) = false := by simp
        go_wp2_with fail
        go_quiet (fail)
        go_wp2_with fail
        go_quiet (fail)
        go_wp2_with fail
        go_roundg (gk - 1)
        case measure => omega
        case rel => exact ⟨m + 1, by omega, by go_num, by rw [HNX.out], (HST.out _ (s7.drewN _) hle7).1, (below_drewN b7 _).trans (HST.out _ (s7.drewN _) hle7).2, Nat.le_trans hle7 (HST.out _ (s7.drewN _) hle7).2.size⟩
    · obtain rfl : m = n := by omega
      have hk := known_s hle7 s7
      go_wp2_with fail
      refine hk.mono ?_
      rintro e w8 ⟨rfl, s8, b8⟩
      have hle8 := Nat.le_trans hle7 b8.size
      have b8 := b7.trans b8
      go_wp2_with fail
      go_ret
      exact ⟨rfl, b8⟩
end Go.Proofs.Ytgaomaaloaglpaa
