/-
  More on ends that meet, in plain Lean: the other way round; the document's deque of places; what stands ahead alone; a queue. No program in sight.
-/
import Derived.Test.YtgaomaaloaglpaaEndsP
namespace Go.Rp
open Go.RowKit

/-! ### What stands ahead alone -/
theorem kindAt_take {ops : List (Int × Int)} {n k : Nat} (h : k < n) : kindAt (ops.take n) k = kindAt ops k := by
  simp [kindAt, List.getElem?_take, h]
theorem mAt_take {most below : Nat} {ops : List (Int × Int)} {n k : Nat} (h : k ≤ n) : mAt most below (ops.take n) k = mAt most below ops k := by
  induction k with
  | zero => rfl
  | succ k ih =>
    simp only [mAt]
    rw [List.getElem?_take, if_pos (by omega), ih (by omega)]
theorem mPair_take {most below : Nat} {ops : List (Int × Int)} {n k : Nat} (h : k < n) : mPair most below (ops.take n) k = mPair most below ops k := by
  unfold mPair; rw [kindAt_take h, mAt_take (by omega)]
theorem mCode_take {most below : Nat} {ops : List (Int × Int)} {n k : Nat} (h : k < n) : mCode most below (ops.take n) k = mCode most below ops k := by
  unfold mCode; rw [kindAt_take h, mAt_take (by omega)]

/-- How many of the first k meet. -/
def metN (f : Nat → Int) : Nat → Nat
  | 0 => 0
  | k + 1 => metN f k + if 0 ≤ f k then 1 else 0
theorem metN_le (f : Nat → Int) (k : Nat) : metN f k ≤ k := by
  induction k with
  | zero => simp [metN]
  | succ k ih => simp only [metN]; split <;> omega
theorem metN_mono (f : Nat → Int) {k n : Nat} (h : k ≤ n) : metN f k ≤ metN f n := by
  induction n with
  | zero => have : k = 0 := by omega
            subst this; exact Nat.le_refl _
  | succ n ih =>
    rcases Nat.lt_or_ge k (n + 1) with h1 | h1
    · have := ih (by omega); simp only [metN]; omega
    · have : k = n + 1 := by omega
      subst this; exact Nat.le_refl _
theorem metN_congr {f g : Nat → Int} {n : Nat} (h : ∀ i, i < n → f i = g i) : metN f n = metN g n := by
  induction n with
  | zero => rfl
  | succ n ih => simp only [metN]; rw [ih fun i hi => h i (by omega), h n (by omega)]


/-! ### The other way round -/
def oth (k : Int) : Int := if k = 1 then 2 else if k = 2 then 1 else if k = 3 then 4 else if k = 4 then 3 else k
theorem back_back (r : ES × Int × Int) : back (back r) = r := rfl
theorem mStep_oth (most k : Nat) (o : Int) (st : ES) : mStep most k (oth o) (flip st) = back (mStep most k o st) := by
  by_cases h1 : o = 1
  · subst h1; rfl
  · by_cases h2 : o = 2
    · subst h2; rfl
    · by_cases h3 : o = 3
      · subst h3; rfl
      · by_cases h4 : o = 4
        · subst h4; rfl
        · have e : oth o = o := by simp [oth, h1, h2, h3, h4]
          rw [e]
          simp [mStep, h1, h2, h3, h4, back]
def othOps (ops : List (Int × Int)) : List (Int × Int) := ops.map fun o => (oth o.1, o.2)
theorem othOps_len (ops : List (Int × Int)) : (othOps ops).length = ops.length := by simp [othOps]
theorem kindAt_oth (ops : List (Int × Int)) (k : Nat) (h : k < ops.length) : kindAt (othOps ops) k = oth (kindAt ops k) := by
  simp [kindAt, othOps, h]
theorem mAt_oth (most below : Nat) (ops : List (Int × Int)) (k : Nat) : mAt most below (othOps ops) k = flip (mAt most below ops k) := by
  induction k with
  | zero => rfl
  | succ k ih =>
    by_cases h : k < ops.length
    · rw [mAt_succ (by rw [othOps_len]; exact h), mAt_succ h, kindAt_oth ops k h, ih, mStep_oth]
      rfl
    · have e1 : ops[k]? = none := List.getElem?_eq_none (by omega)
      have e2 : (othOps ops)[k]? = none := List.getElem?_eq_none (by rw [othOps_len]; omega)
      simp only [mAt, e1, e2, ih]
theorem mPair_oth {most below : Nat} {ops : List (Int × Int)} {k : Nat} (h : k < ops.length) : mPair most below (othOps ops) k = mPair most below ops k := by
  unfold mPair; rw [kindAt_oth ops k h, mAt_oth, mStep_oth]; rfl
theorem mCode_oth {most below : Nat} {ops : List (Int × Int)} {k : Nat} (h : k < ops.length) : mCode most below (othOps ops) k = mCode most below ops k := by
  unfold mCode; rw [kindAt_oth ops k h, mAt_oth, mStep_oth]; rfl

/-! ### The document's deque of places -/
def rS (st : ES) : List Int := (st.1.map fun (j : Nat) => (j : Int)).reverse ++ List.replicate st.2.1 (-1) ++ st.2.2.map fun (j : Nat) => (j : Int)
theorem rS_len (st : ES) : (rS st).length = sizeE st := by unfold rS sizeE; simp; omega
theorem rS_flip (st : ES) : rS (flip st) = (rS st).reverse := by
  unfold rS flip
  simp
theorem rS_pushL {most k : Nat} {st : ES} (h : sizeE st < most) : rS (pushE most k st).1 = (k : Int) :: rS st ∧ (pushE most k st).2 = (-1, 1) := by
  unfold pushE
  rw [if_pos h]
  exact ⟨by simp [rS], rfl⟩
theorem pushE_full {most k : Nat} {st : ES} (h : ¬ sizeE st < most) : pushE most k st = (st, -1, 3) := by unfold pushE; rw [if_neg h]
theorem rS_popL (st : ES) (h : 0 < sizeE st) : ∃ x T, rS st = x :: T ∧ rS (popE st).1 = T ∧ (popE st).2 = (x, 2) := by
  obtain ⟨l, b, r⟩ := st
  rcases List.eq_nil_or_concat l with rfl | ⟨l', j, rfl⟩
  · by_cases hb : 0 < b
    · obtain ⟨b, rfl⟩ : ∃ b', b = b' + 1 := ⟨b - 1, by omega⟩
      exact ⟨-1, rS ([], b, r), by simp [rS, List.replicate_succ], by simp [popE], by simp [popE]⟩
    · obtain rfl : b = 0 := by omega
      rcases r with _ | ⟨j, t⟩
      · simp [sizeE] at h
      · exact ⟨(j : Int), rS ([], 0, t), by simp [rS], by simp [popE], by simp [popE]⟩
  · rw [List.concat_eq_append]
    exact ⟨(j : Int), rS (l', b, r), by simp [rS], by simp [popE], by simp [popE]⟩
theorem popE_none (st : ES) (h : sizeE st = 0) : popE st = (st, -1, 4) := by
  obtain ⟨l, b, r⟩ := st
  unfold sizeE at h
  simp only at h
  obtain rfl : b = 0 := by omega
  obtain rfl : l = [] := List.length_eq_zero_iff.1 (by omega)
  obtain rfl : r = [] := List.length_eq_zero_iff.1 (by omega)
  rfl
theorem rS_pushR {most k : Nat} {st : ES} (h : sizeE st < most) : rS (mStep most k 2 st).1 = rS st ++ [(k : Int)] ∧ (mStep most k 2 st).2 = (-1, 1) := by
  have e : mStep most k 2 st = back (pushE most k (flip st)) := rfl
  obtain ⟨h1, h2⟩ := rS_pushL (k := k) (show sizeE (flip st) < most by rw [sizeE_flip]; exact h)
  rw [e]
  refine ⟨?_, h2⟩
  show rS (flip (pushE most k (flip st)).1) = _
  rw [rS_flip, h1, rS_flip]
  simp
theorem rS_popR {most k : Nat} (st : ES) (h : 0 < sizeE st) : ∃ T x, rS st = T ++ [x] ∧ rS (mStep most k 4 st).1 = T ∧ (mStep most k 4 st).2 = (x, 2) := by
  have e : mStep most k 4 st = back (popE (flip st)) := rfl
  obtain ⟨x, T, h1, h2, h3⟩ := rS_popL (flip st) (by rw [sizeE_flip]; exact h)
  rw [e]
  rw [rS_flip] at h1
  refine ⟨T.reverse, x, ?_, ?_, h3⟩
  · rw [← List.reverse_reverse (rS st), h1]; simp
  · show rS (flip (popE (flip st)).1) = _
    rw [rS_flip, h2]

/-! ### A queue -/
def queueOps (right : Bool) (k : Nat) : List (Int × Int) := List.replicate k (if right then (2, 0) else (1, 0)) ++ List.replicate (k + 1) (if right then (3, 0) else (4, 0))
theorem queue_len (right : Bool) (k : Nat) : (queueOps right k).length = 2 * k + 1 := by simp [queueOps]; omega
theorem queue_oth (k : Nat) : queueOps true k = othOps (queueOps false k) := by simp [queueOps, othOps, oth]
theorem queue_kind1 {k j : Nat} (h : j < k) : kindAt (queueOps false k) j = 1 := by
  simp [kindAt, queueOps, List.getElem?_append, h]
theorem queue_kind2 {k j : Nat} (h : k ≤ j) (h2 : j < 2 * k + 1) : kindAt (queueOps false k) j = 4 := by
  have h3 : j - k < k + 1 := by omega
  simp [kindAt, queueOps, List.getElem?_append, show ¬ j < k by omega, List.getElem?_replicate, h3]
theorem queue_at1 (k j : Nat) (hj : j ≤ k) : mAt k 0 (queueOps false k) j = (List.range j, 0, []) := by
  induction j with
  | zero => rfl
  | succ j ih =>
    rw [mAt_succ (by rw [queue_len]; omega), queue_kind1 (by omega), ih (by omega)]
    show (pushE k j _).1 = _
    unfold pushE
    rw [if_pos (by simp [sizeE]; omega), List.range_succ]
theorem queue_pop (k j : Nat) (hj : j < k) (i : Nat) : mStep k i 4 ((List.range k).drop j, 0, []) = (((List.range k).drop (j + 1), 0, []), (j : Int), 2) := by
  have e : (List.range k).drop j = j :: (List.range k).drop (j + 1) := by rw [List.drop_eq_getElem_cons (by simpa using hj)]; simp
  rw [e]
  rfl
theorem queue_at2 (k j : Nat) (hj : j ≤ k) : mAt k 0 (queueOps false k) (k + j) = ((List.range k).drop j, 0, []) := by
  induction j with
  | zero => exact queue_at1 k k (Nat.le_refl _)
  | succ j ih =>
    rw [← Nat.add_assoc, mAt_succ (by rw [queue_len]; omega), queue_kind2 (by omega) (by omega), ih (by omega), queue_pop k j (by omega)]
theorem queue_p1 (k j : Nat) (hj : j < k) : mPair k 0 (queueOps false k) j = -1 := by
  unfold mPair
  rw [queue_kind1 hj, queue_at1 k j (by omega)]
  show (pushE k j _).2.1 = _
  unfold pushE
  rw [if_pos (by simp [sizeE]; omega)]
theorem queue_p2 (k j : Nat) (hj : j < k) : mPair k 0 (queueOps false k) (k + j) = (j : Int) ∧ mCode k 0 (queueOps false k) (k + j) = 2 := by
  unfold mPair mCode
  rw [queue_kind2 (by omega) (by omega), queue_at2 k j (by omega), queue_pop k j hj]
  exact ⟨rfl, rfl⟩
theorem queue_p3 (k : Nat) : mPair k 0 (queueOps false k) (2 * k) = -1 ∧ mCode k 0 (queueOps false k) (2 * k) = 4 := by
  unfold mPair mCode
  rw [queue_kind2 (by omega) (by omega), show 2 * k = k + k by omega, queue_at2 k k (Nat.le_refl _)]
  rw [List.drop_of_length_le (by simp)]
  exact ⟨rfl, rfl⟩
theorem queue_met (k : Nat) : metN (mPair k 0 (queueOps false k)) (2 * k + 1) = k := by
  have h1 : ∀ j, j ≤ k → metN (mPair k 0 (queueOps false k)) j = 0 := by
    intro j hj
    induction j with
    | zero => rfl
    | succ j ih => simp only [metN]; rw [ih (by omega), queue_p1 k j (by omega)]; simp
  have h2 : ∀ j, j ≤ k → metN (mPair k 0 (queueOps false k)) (k + j) = j := by
    intro j hj
    induction j with
    | zero => exact h1 k (Nat.le_refl _)
    | succ j ih => rw [← Nat.add_assoc]; simp only [metN]; rw [ih (by omega), (queue_p2 k j (by omega)).1, if_pos (by omega)]
  simp only [metN]
  rw [show 2 * k = k + k by omega, h2 k (Nat.le_refl _), show k + k = 2 * k by omega, (queue_p3 k).1]
  simp
end Go.Rp
