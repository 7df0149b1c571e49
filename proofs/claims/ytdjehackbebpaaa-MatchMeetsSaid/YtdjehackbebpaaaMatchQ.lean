/-
  More on pushes that meet pops, in plain Lean: who meets is nested; as many pushes as pops; what stands ahead alone. No program in sight.
-/
import Derived.Test.YtdjehackbebpaaaMatchP
namespace Go.Rp
open Go.RowKit

section
variable {most below : Nat} {ops : List (Int × Int)}
theorem mStep_push {most k : Nat} {st : List Nat × Nat} : mStep most k 1 st = if st.2 + st.1.length < most then ((st.1 ++ [k], st.2), -1, 1) else (st, -1, 3) := rfl
theorem mStep_pop {most k : Nat} {st : List Nat × Nat} : mStep most k 2 st = match st.1.getLast? with
    | some j => ((st.1.dropLast, st.2), (j : Int), 2)
    | none => if 0 < st.2 then ((st.1, st.2 - 1), -1, 2) else (st, -1, 4) := rfl
theorem mStep_other {most k : Nat} {o : Int} {st : List Nat × Nat} (h1 : o ≠ 1) (h2 : o ≠ 2) : mStep most k o st = (st, -1, 5) := by
  unfold mStep; rw [if_neg h1, if_neg h2]
theorem mStep_pop_some {most k j : Nat} {l : List Nat} {b : Nat} : mStep most k 2 (l ++ [j], b) = ((l, b), (j : Int), 2) := by simp [mStep]
/-- Who meets is told so: the last of those who wait. -/
theorem mStep_met {most k : Nat} {o : Int} {st : List Nat × Nat} {j : Nat} (h : (mStep most k o st).2.1 = (j : Int)) : o = 2 ∧ ∃ l, st.1 = l ++ [j] := by
  unfold mStep at h
  split at h
  · split at h <;> simp at h <;> omega
  · split at h
    · rename_i h2
      split at h
      · rename_i j' hj
        simp only at h
        have : j' = j := by omega
        subst this
        obtain ⟨l, hl⟩ := List.getLast?_eq_some_iff.1 hj
        exact ⟨h2, l, hl⟩
      · split at h <;> simp at h <;> omega
    · first | (simp at h; done) | (simp at h; omega)
theorem mStep_neg {most k : Nat} {o : Int} {st : List Nat × Nat} : (mStep most k o st).2.1 = -1 ∨ ∃ j : Nat, (mStep most k o st).2.1 = (j : Int) := by
  unfold mStep
  split
  · split <;> exact .inl rfl
  · split
    · split
      · exact .inr ⟨_, rfl⟩
      · split <;> exact .inl rfl
    · exact .inl rfl
theorem mPair_met {k j : Nat} (h : mPair most below ops k = (j : Int)) : kindAt ops k = 2 ∧ ∃ l, (mAt most below ops k).1 = l ++ [j] := mStep_met h
theorem mPair_cases (most below : Nat) (ops : List (Int × Int)) (k : Nat) : mPair most below ops k = -1 ∨ ∃ j : Nat, mPair most below ops k = (j : Int) := mStep_neg
/-- Those who wait, from step to step. -/
theorem wait_step (most k : Nat) (o : Int) (st : List Nat × Nat) : (mStep most k o st).1.1 = st.1 ∨ (o = 1 ∧ (mStep most k o st).2.2 = 1 ∧ (mStep most k o st).1.1 = st.1 ++ [k]) ∨ (o = 2 ∧ ∃ l j, st.1 = l ++ [j] ∧ (mStep most k o st).1.1 = l ∧ (mStep most k o st).2.1 = ((j : Nat) : Int)) := by
  unfold mStep
  split
  · rename_i h1
    split
    · exact .inr (.inl ⟨h1, rfl, rfl⟩)
    · exact .inl rfl
  · split
    · rename_i h2
      split
      · rename_i j hj
        obtain ⟨l, hl⟩ := List.getLast?_eq_some_iff.1 hj
        exact .inr (.inr ⟨h2, l, j, hl, by rw [hl]; simp, rfl⟩)
      · split <;> exact .inl rfl
    · exact .inl rfl
theorem mAt_next (k : Nat) : (mAt most below ops (k + 1)).1 = (mAt most below ops k).1 ∨ (kindAt ops k = 1 ∧ mCode most below ops k = 1 ∧ (mAt most below ops (k + 1)).1 = (mAt most below ops k).1 ++ [k]) ∨ (kindAt ops k = 2 ∧ ∃ l j, (mAt most below ops k).1 = l ++ [j] ∧ (mAt most below ops (k + 1)).1 = l ∧ mPair most below ops k = ((j : Nat) : Int)) := by
  by_cases h : k < ops.length
  · rw [mAt_succ h]; exact wait_step _ _ _ _
  · left
    have : ops[k]? = none := List.getElem?_eq_none (by omega)
    simp [mAt, this]
theorem mAt_sorted (k : Nat) : (mAt most below ops k).1.Pairwise (· < ·) := by
  induction k with
  | zero => simp [mAt]
  | succ k ih =>
    rcases mAt_next (most := most) (below := below) (ops := ops) k with h | ⟨_, _, h⟩ | ⟨_, l, j, h1, h2, _⟩
    · rw [h]; exact ih
    · rw [h, List.pairwise_append]
      refine ⟨ih, by simp, fun a ha b hb => ?_⟩
      rw [List.mem_singleton.1 hb]
      exact mAt_lt _ _ _ _ _ ha
    · rw [h2]
      rw [h1, List.pairwise_append] at ih
      exact ih.1
/-- Who does not wait any more never does again. -/
theorem gone {j i : Nat} (hi : j < i) (h : j ∉ (mAt most below ops i).1) : j ∉ (mAt most below ops (i + 1)).1 := by
  intro hm
  rcases mAt_next (most := most) (below := below) (ops := ops) i with e | ⟨_, _, e⟩ | ⟨_, l, k, h1, h2, _⟩
  · rw [e] at hm; exact h hm
  · rw [e] at hm
    rcases List.mem_append.1 hm with hm | hm
    · exact h hm
    · have := List.mem_singleton.1 hm; omega
  · rw [h2] at hm
    exact h (by rw [h1]; exact List.mem_append_left _ hm)
theorem gone_long {j i : Nat} (hi : j < i) (h : j ∉ (mAt most below ops i).1) (d : Nat) : j ∉ (mAt most below ops (i + d)).1 := by
  induction d with
  | zero => exact h
  | succ d ih => rw [← Nat.add_assoc]; exact gone (by omega) ih
theorem still {j i k : Nat} (hi : j < i) (hk : i ≤ k) (h : j ∈ (mAt most below ops k).1) : j ∈ (mAt most below ops i).1 := by
  by_cases hm : j ∈ (mAt most below ops i).1
  · exact hm
  · have := gone_long hi hm (k - i)
    rw [show i + (k - i) = k by omega] at this
    exact absurd h this
/-- Ahead of it nobody who waits at k had come in: how it came to wait. -/
theorem came {j k : Nat} (h : j ∈ (mAt most below ops k).1) : j < k ∧ kindAt ops j = 1 ∧ mCode most below ops j = 1 ∧ (mAt most below ops (j + 1)).1 = (mAt most below ops j).1 ++ [j] := by
  have hlt := mAt_lt _ _ _ _ _ h
  have h1 := still (i := j + 1) (by omega) (by omega) h
  have h0 : j ∉ (mAt most below ops j).1 := fun hm => by have := mAt_lt _ _ _ _ _ hm; omega
  rcases mAt_next (most := most) (below := below) (ops := ops) j with e | ⟨a, b, e⟩ | ⟨_, l, x, h2, h3, _⟩
  · rw [e] at h1; exact absurd h1 h0
  · exact ⟨hlt, a, b, e⟩
  · rw [h3] at h1
    exact absurd (by rw [h2]; exact List.mem_append_left _ h1) h0
/-- As long as one waits, those below it stay. -/
theorem prefix_of {j k i : Nat} (h : j ∈ (mAt most below ops k).1) (hi : j < i) (hk : i ≤ k) : ∃ m, (mAt most below ops i).1 = (mAt most below ops j).1 ++ [j] ++ m := by
  obtain ⟨d, rfl⟩ : ∃ d, i = j + 1 + d := ⟨i - (j + 1), by omega⟩
  clear hi
  induction d with
  | zero => exact ⟨[], by rw [Nat.add_zero, (came h).2.2.2, List.append_nil]⟩
  | succ d ih =>
    obtain ⟨m, hm⟩ := ih (by omega)
    rw [show j + 1 + (d + 1) = j + 1 + d + 1 by omega] at hk ⊢
    have hs := still (i := j + 1 + d + 1) (by omega) hk h
    rcases mAt_next (most := most) (below := below) (ops := ops) (j + 1 + d) with e | ⟨a, b, e⟩ | ⟨_, l, x, h2, h3, _⟩
    · exact ⟨m, by rw [e, hm]⟩
    · exact ⟨m ++ [j + 1 + d], by rw [e, hm, List.append_assoc _ m]⟩
    · rcases List.eq_nil_or_concat m with rfl | ⟨m', y, rfl⟩
      · rw [List.append_nil] at hm
        rw [hm] at h2
        have := List.append_inj_left' h2 rfl
        rw [h3, ← this] at hs
        have := mAt_lt _ _ _ _ _ hs
        omega
      · rw [hm, List.concat_eq_append, ← List.append_assoc] at h2
        have := List.append_inj_left' h2 rfl
        exact ⟨m', by rw [h3, ← this]⟩
/-- What was pushed between a push and the pop that meets it is met between them. -/
theorem nested {j k : Nat} (h : mPair most below ops k = (j : Int)) {i : Nat} (hi : j < i) (hk : i < k) (hkind : kindAt ops i = 1 ∨ kindAt ops i = 2) :
    ((j : Int) < mPair most below ops i ∨ kindAt ops i = 1) ∧ (kindAt ops i = 1 → mCode most below ops i = 1 → ∃ i', i' < k ∧ mPair most below ops i' = (i : Int)) := by
  obtain ⟨hkk, l, hl⟩ := mPair_met h
  clear hkk
  have hj : j ∈ (mAt most below ops k).1 := by rw [hl]; simp
  have hso := mAt_sorted (most := most) (below := below) (ops := ops)
  constructor
  · rcases hkind with h1 | h2
    · exact .inr h1
    · left
      obtain ⟨m, hm⟩ := prefix_of hj hi (by omega)
      obtain ⟨m', hm'⟩ := prefix_of hj (show j < i + 1 by omega) (by omega)
      rcases mAt_next (most := most) (below := below) (ops := ops) i with e | ⟨a, _⟩ | ⟨_, l', x, h3, h4, h5⟩
      · -- a pop that changes nobody who waits: then nobody waits
        exfalso
        have hlt : i < ops.length := by
          by_cases hlt : i < ops.length
          · exact hlt
          · have : kindAt ops i = 0 := by simp [kindAt, List.getElem?_eq_none (show ops.length ≤ i by omega)]
            omega
        rw [mAt_succ hlt, h2] at e
        rcases List.eq_nil_or_concat m with rfl | ⟨m'', y, rfl⟩
        · have hp : mAt most below ops i = ((mAt most below ops j).1 ++ [j], (mAt most below ops i).2) := Prod.ext (by rw [hm]; simp) rfl
          rw [hp, mStep_pop_some] at e
          have := congrArg List.length e
          simp at this
        · have hp : mAt most below ops i = (((mAt most below ops j).1 ++ [j] ++ m'') ++ [y], (mAt most below ops i).2) := Prod.ext (by rw [hm]; simp) rfl
          rw [hp, mStep_pop_some] at e
          have := congrArg List.length e
          simp at this
      · omega
      · rw [h5]
        have hs := hso i
        rw [hm] at h3 hs
        rcases List.eq_nil_or_concat m with rfl | ⟨m'', y, rfl⟩
        · rw [List.append_nil] at h3
          have e := List.append_inj_left' h3 rfl
          have hs' := still (i := i + 1) (by omega) (by omega) hj
          rw [h4, ← e] at hs'
          have := mAt_lt _ _ _ _ _ hs'
          omega
        · rw [List.concat_eq_append, ← List.append_assoc] at h3
          have hxy := List.append_inj_right' h3 rfl
          simp only [List.cons.injEq, and_true] at hxy
          subst hxy
          rw [List.pairwise_append] at hs
          have := hs.2.2 j (by simp) y (by simp)
          omega
  · intro _ hc1
    have hin : i ∈ (mAt most below ops (i + 1)).1 := by
      rcases mAt_next (most := most) (below := below) (ops := ops) i with e | ⟨_, _, e⟩ | ⟨h2, _⟩
      · exfalso
        have hlt : i < ops.length := by
          by_cases hlt : i < ops.length
          · exact hlt
          · exfalso
            have : kindAt ops i = 0 := by simp [kindAt, List.getElem?_eq_none (show ops.length ≤ i by omega)]
            omega
        have hcc : mCode most below ops i = (mStep most i 1 (mAt most below ops i)).2.2 := by unfold mCode; rw [‹kindAt ops i = 1›]
        rw [mAt_succ hlt, ‹kindAt ops i = 1›] at e
        rw [hcc] at hc1
        rw [mStep_push] at e hc1
        split at e
        · simp at e
        · rename_i hno
          rw [if_neg hno] at hc1
          simp at hc1
      · rw [e]; simp
      · omega
    have hout : i ∉ (mAt most below ops k).1 := by
      obtain ⟨m, hm⟩ := prefix_of hj (show j < k by omega) (Nat.le_refl _)
      have hs := hso k
      rw [hl] at hm
      rcases List.eq_nil_or_concat m with rfl | ⟨m'', y, rfl⟩
      · rw [List.append_nil] at hm
        intro hmem
        rw [hl, hm] at hmem
        rcases List.mem_append.1 hmem with hmem | hmem
        · have := mAt_lt _ _ _ _ _ hmem; omega
        · have := List.mem_singleton.1 hmem; omega
      · exfalso
        rw [hl, hm] at hs
        rw [List.concat_eq_append, ← List.append_assoc] at hm
        have hxy := List.append_inj_right' hm rfl
        simp only [List.cons.injEq, and_true] at hxy
        subst hxy
        rw [List.pairwise_append] at hs
        have := hs.2.2 j (by simp) j (by simp)
        omega
    -- the step at which it goes
    obtain ⟨d, rfl⟩ : ∃ d, k = i + 1 + d := ⟨k - (i + 1), by omega⟩
    clear hl hj h hk
    induction d with
    | zero => exact absurd hin hout
    | succ d ih =>
      by_cases hm : i ∈ (mAt most below ops (i + 1 + d)).1
      · rcases mAt_next (most := most) (below := below) (ops := ops) (i + 1 + d) with e | ⟨_, _, e⟩ | ⟨_, l', x, h3, h4, h5⟩
        · exact absurd (by rw [show i + 1 + (d + 1) = i + 1 + d + 1 by omega, e]; exact hm) hout
        · exact absurd (by rw [show i + 1 + (d + 1) = i + 1 + d + 1 by omega, e]; exact List.mem_append_left _ hm) hout
        · refine ⟨i + 1 + d, by omega, ?_⟩
          rw [h5]
          rw [h3] at hm
          rcases List.mem_append.1 hm with hm | hm
          · exact absurd (by rw [show i + 1 + (d + 1) = i + 1 + d + 1 by omega, h4]; exact hm) hout
          · rw [List.mem_singleton.1 hm]
      · obtain ⟨i', h1, h2⟩ := ih hm
        exact ⟨i', by omega, h2⟩

/-! ### What stands ahead alone -/
theorem kindAt_take {ops : List (Int × Int)} {n k : Nat} (h : k < n) : kindAt (ops.take n) k = kindAt ops k := by
  simp [kindAt, List.getElem?_take, h]
theorem mAt_take {most below : Nat} {ops : List (Int × Int)} {n k : Nat} (h : k ≤ n) : mAt most below (ops.take n) k = mAt most below ops k := by
  induction k with
  | zero => rfl
  | succ k ih =>
    simp only [mAt]
    rw [List.getElem?_take, if_pos (by omega), ih (by omega)]
theorem mPair_take {most below : Nat} {ops : List (Int × Int)} {n k : Nat} (h : k < n) : mPair most below (ops.take n) k = mPair most below ops k := by
  unfold mPair; rw [kindAt_take h, mAt_take (by omega)]
theorem mCode_take {most below : Nat} {ops : List (Int × Int)} {n k : Nat} (h : k < n) : mCode most below (ops.take n) k = mCode most below ops k := by
  unfold mCode; rw [kindAt_take h, mAt_take (by omega)]
end

/-- How many of the first k meet. -/
def metN (f : Nat → Int) : Nat → Nat
  | 0 => 0
  | k + 1 => metN f k + if 0 ≤ f k then 1 else 0
theorem metN_le (f : Nat → Int) (k : Nat) : metN f k ≤ k := by
  induction k with
  | zero => simp [metN]
  | succ k ih => simp only [metN]; split <;> omega
theorem metN_mono (f : Nat → Int) {k n : Nat} (h : k ≤ n) : metN f k ≤ metN f n := by
  induction n with
  | zero => have : k = 0 := by omega
            subst this; exact Nat.le_refl _
  | succ n ih =>
    rcases Nat.lt_or_ge k (n + 1) with h1 | h1
    · have := ih (by omega); simp only [metN]; omega
    · have : k = n + 1 := by omega
      subst this; exact Nat.le_refl _
theorem metN_congr {f g : Nat → Int} {n : Nat} (h : ∀ i, i < n → f i = g i) : metN f n = metN g n := by
  induction n with
  | zero => rfl
  | succ n ih => simp only [metN]; rw [ih fun i hi => h i (by omega), h n (by omega)]

/-! ### As many pushes as pops -/
def allOps (k : Nat) : List (Int × Int) := (List.range k).map (fun (j : Nat) => ((1 : Int), (j : Int))) ++ List.replicate k (2, 0)
theorem allOps_length (k : Nat) : (allOps k).length = 2 * k := by simp [allOps]; omega
theorem allOps_kind1 {k j : Nat} (h : j < k) : kindAt (allOps k) j = 1 := by
  simp [kindAt, allOps, List.getElem?_append, h]
theorem allOps_kind2 {k j : Nat} (h : k ≤ j) (h2 : j < 2 * k) : kindAt (allOps k) j = 2 := by
  have h3 : j - k < k := by omega
  simp [kindAt, allOps, List.getElem?_append, show ¬ j < k by omega, List.getElem?_replicate, h3]
theorem all_at1 (h k j : Nat) (hj : j ≤ k) : mAt (h + k) h (allOps k) j = (List.range j, h) := by
  induction j with
  | zero => rfl
  | succ j ih =>
    rw [mAt_succ (by rw [allOps_length]; omega), allOps_kind1 (by omega), ih (by omega), mStep_push, if_pos (by simp; omega), List.range_succ]
theorem all_at2 (h k j : Nat) (hj : j ≤ k) : mAt (h + k) h (allOps k) (k + j) = (List.range (k - j), h) := by
  induction j with
  | zero => exact all_at1 h k k (Nat.le_refl _)
  | succ j ih =>
    rw [← Nat.add_assoc, mAt_succ (by rw [allOps_length]; omega), allOps_kind2 (by omega) (by omega), ih (by omega), show k - j = (k - (j + 1)) + 1 by omega, List.range_succ, mStep_pop_some]
theorem all_pair1 (h k j : Nat) (hj : j < k) : mPair (h + k) h (allOps k) j = -1 := by
  unfold mPair
  rw [allOps_kind1 hj, all_at1 h k j (by omega), mStep_push, if_pos (by simp; omega)]
theorem all_pair2 (h k j : Nat) (hj : j < k) : mPair (h + k) h (allOps k) (k + j) = ((k - 1 - j : Nat) : Int) := by
  unfold mPair
  rw [allOps_kind2 (by omega) (by omega), all_at2 h k j (by omega), show k - j = (k - 1 - j) + 1 by omega, List.range_succ, mStep_pop_some]
theorem all_met (h k : Nat) : metN (mPair (h + k) h (allOps k)) (2 * k) = k := by
  have h1 : ∀ j, j ≤ k → metN (mPair (h + k) h (allOps k)) j = 0 := by
    intro j hj
    induction j with
    | zero => rfl
    | succ j ih => simp only [metN]; rw [ih (by omega), all_pair1 h k j (by omega)]; simp
  have h2 : ∀ j, j ≤ k → metN (mPair (h + k) h (allOps k)) (k + j) = j := by
    intro j hj
    induction j with
    | zero => exact h1 k (Nat.le_refl _)
    | succ j ih => rw [← Nat.add_assoc]; simp only [metN]; rw [ih (by omega), all_pair2 h k j (by omega), if_pos (by omega)]
  rw [show 2 * k = k + k by omega]
  exact h2 k (Nat.le_refl _)
theorem pair_none {most below : Nat} {ops : List (Int × Int)} {k : Nat} (h : (mAt most below ops k).1 = []) : mPair most below ops k = -1 := by
  rcases mPair_cases most below ops k with e | ⟨j, e⟩
  · exact e
  · obtain ⟨_, l, hl⟩ := mPair_met e
    rw [h] at hl
    simp at hl
theorem full_at1 (h k j : Nat) (hj : j ≤ k) : mAt h h (allOps k) j = ([], h) := by
  induction j with
  | zero => rfl
  | succ j ih =>
    rw [mAt_succ (by rw [allOps_length]; omega), allOps_kind1 (by omega), ih (by omega), mStep_push, if_neg (by simp)]
theorem full_at2 (h k j : Nat) (hj : j ≤ k) : (mAt h h (allOps k) (k + j)).1 = [] := by
  induction j with
  | zero => rw [Nat.add_zero, full_at1 h k k (Nat.le_refl _)]
  | succ j ih =>
    rcases mAt_next (most := h) (below := h) (ops := allOps k) (k + j) with e | ⟨e, _⟩ | ⟨_, l, x, h3, h4, _⟩
    · rw [← Nat.add_assoc, e]; exact ih (by omega)
    · rw [allOps_kind2 (by omega) (by omega)] at e; omega
    · rw [ih (by omega)] at h3; simp at h3
theorem none_met (h k : Nat) : metN (mPair h h (allOps k)) (2 * k) = 0 := by
  have h0 : ∀ j, j < 2 * k → mPair h h (allOps k) j = -1 := fun j hj => pair_none (by
    by_cases hjk : j ≤ k
    · rw [full_at1 h k j hjk]
    · obtain ⟨d, rfl⟩ : ∃ d, j = k + d := ⟨j - k, by omega⟩
      exact full_at2 h k d (by omega))
  have : ∀ n, n ≤ 2 * k → metN (mPair h h (allOps k)) n = 0 := by
    intro n hn
    induction n with
    | zero => rfl
    | succ n ih => simp only [metN]; rw [ih (by omega), h0 n (by omega)]; simp
  exact this _ (Nat.le_refl _)
end Go.Rp
