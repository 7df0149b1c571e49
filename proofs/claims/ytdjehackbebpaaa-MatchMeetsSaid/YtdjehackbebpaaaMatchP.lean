/-
  Pushes that meet pops, in plain Lean: a stack of places is gone through. No program in sight.
-/
import Derived.Test.YtdjehackbebpaaaFields
namespace Go.Rp
open Go.RowKit

/-- What an operation of a kind comes to: who waits (the last one on top) and how many items are below; which push it meets; the code. -/
def mStep (most k : Nat) (o : Int) (st : List Nat × Nat) : (List Nat × Nat) × Int × Int :=
  if o = 1 then
    if st.2 + st.1.length < most then ((st.1 ++ [k], st.2), -1, 1) else (st, -1, 3)
  else if o = 2 then
    match st.1.getLast? with
    | some j => ((st.1.dropLast, st.2), (j : Int), 2)
    | none => if 0 < st.2 then ((st.1, st.2 - 1), -1, 2) else (st, -1, 4)
  else (st, -1, 5)

/-- The state ahead of operation k. -/
def mAt (most below : Nat) (ops : List (Int × Int)) : Nat → List Nat × Nat
  | 0 => ([], below)
  | k + 1 => match ops[k]? with
    | some o => (mStep most k o.1 (mAt most below ops k)).1
    | none => mAt most below ops k
def kindAt (ops : List (Int × Int)) (k : Nat) : Int := (ops[k]?.map Prod.fst).getD 0
/-- Which push operation k meets; its code. -/
def mPair (most below : Nat) (ops : List (Int × Int)) (k : Nat) : Int := (mStep most k (kindAt ops k) (mAt most below ops k)).2.1
def mCode (most below : Nat) (ops : List (Int × Int)) (k : Nat) : Int := (mStep most k (kindAt ops k) (mAt most below ops k)).2.2

theorem kindAt_lt {ops : List (Int × Int)} {k : Nat} (h : k < ops.length) : kindAt ops k = ops[k].1 := by simp [kindAt, h]
theorem mAt_succ {most below : Nat} {ops : List (Int × Int)} {k : Nat} (h : k < ops.length) : mAt most below ops (k + 1) = (mStep most k (kindAt ops k) (mAt most below ops k)).1 := by
  rw [kindAt_lt h]; simp [mAt, h]

theorem mStep_len (most k : Nat) (o : Int) (st : List Nat × Nat) (h : st.2 + st.1.length ≤ most) : (mStep most k o st).1.2 + (mStep most k o st).1.1.length ≤ most := by
  unfold mStep
  split
  · split
    · simp; omega
    · exact h
  · split
    · split
      · simp; omega
      · split
        · simp only; omega
        · exact h
    · exact h
theorem mAt_len (most below : Nat) (ops : List (Int × Int)) (h : below ≤ most) (k : Nat) : (mAt most below ops k).2 + (mAt most below ops k).1.length ≤ most := by
  induction k with
  | zero => simpa [mAt] using h
  | succ k ih =>
    simp only [mAt]
    split
    · exact mStep_len _ _ _ _ ih
    · exact ih
/-- Who waits stands ahead. -/
theorem mAt_lt (most below : Nat) (ops : List (Int × Int)) (k : Nat) : ∀ j ∈ (mAt most below ops k).1, j < k := by
  induction k with
  | zero => simp [mAt]
  | succ k ih =>
    intro j hj
    simp only [mAt] at hj
    split at hj
    · unfold mStep at hj
      split at hj
      · split at hj
        · rcases List.mem_append.1 hj with h | h
          · have := ih j h; omega
          · have := List.mem_singleton.1 h; omega
        · have := ih j hj; omega
      · split at hj
        · split at hj
          · have := ih j ((List.dropLast_sublist _).subset hj); omega
          · split at hj
            · have := ih j hj; omega
            · have := ih j hj; omega
        · have := ih j hj; omega
    · have := ih j hj; omega
end Go.Rp
