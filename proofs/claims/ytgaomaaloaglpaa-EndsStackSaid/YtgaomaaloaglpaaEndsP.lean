/-
  Ends of a deque that meet, in plain Lean: a deque of places is gone through. No program in sight.
-/
import Derived.Test.YtgaomaaloaglpaaFields
namespace Go.Rp
open Go.RowKit

/-- Who waits at the left end (the outermost last), how many items are between, who waits at the right end (the outermost last). -/
abbrev ES := List Nat × Nat × List Nat
def sizeE (st : ES) : Nat := st.2.1 + st.1.length + st.2.2.length
/-- The other way round. -/
def flip (st : ES) : ES := (st.2.2, st.2.1, st.1)
theorem flip_flip (st : ES) : flip (flip st) = st := rfl
theorem sizeE_flip (st : ES) : sizeE (flip st) = sizeE st := by unfold sizeE flip; simp only; omega
/-- A push, a pop at the left end. -/
def pushE (most k : Nat) (st : ES) : ES × Int × Int := if sizeE st < most then ((st.1 ++ [k], st.2), -1, 1) else (st, -1, 3)
def popE (st : ES) : ES × Int × Int :=
  match st.1.getLast? with
  | some j => ((st.1.dropLast, st.2), (j : Int), 2)
  | none => if 0 < st.2.1 then ((st.1, st.2.1 - 1, st.2.2), -1, 2)
    else match st.2.2 with
    | j :: t => ((st.1, st.2.1, t), (j : Int), 2)
    | [] => (st, -1, 4)
def back (r : ES × Int × Int) : ES × Int × Int := (flip r.1, r.2)
/-- What an operation of a kind comes to: the state behind it; which push it meets; the code. -/
def mStep (most k : Nat) (o : Int) (st : ES) : ES × Int × Int :=
  if o = 1 then pushE most k st
  else if o = 2 then back (pushE most k (flip st))
  else if o = 3 then popE st
  else if o = 4 then back (popE (flip st))
  else (st, -1, 5)

/-- The state ahead of operation k. -/
def mAt (most below : Nat) (ops : List (Int × Int)) : Nat → ES
  | 0 => ([], below, [])
  | k + 1 => match ops[k]? with
    | some o => (mStep most k o.1 (mAt most below ops k)).1
    | none => mAt most below ops k
def kindAt (ops : List (Int × Int)) (k : Nat) : Int := (ops[k]?.map Prod.fst).getD 0
/-- Which push operation k meets; its code. -/
def mPair (most below : Nat) (ops : List (Int × Int)) (k : Nat) : Int := (mStep most k (kindAt ops k) (mAt most below ops k)).2.1
def mCode (most below : Nat) (ops : List (Int × Int)) (k : Nat) : Int := (mStep most k (kindAt ops k) (mAt most below ops k)).2.2

theorem kindAt_lt {ops : List (Int × Int)} {k : Nat} (h : k < ops.length) : kindAt ops k = ops[k].1 := by simp [kindAt, h]
theorem mAt_succ {most below : Nat} {ops : List (Int × Int)} {k : Nat} (h : k < ops.length) : mAt most below ops (k + 1) = (mStep most k (kindAt ops k) (mAt most below ops k)).1 := by
  rw [kindAt_lt h]; simp [mAt, h]

theorem pushE_len (most k : Nat) (st : ES) (h : sizeE st ≤ most) : sizeE (pushE most k st).1 ≤ most := by
  unfold pushE
  split
  · rename_i h'; unfold sizeE at h' ⊢; simp; omega
  · exact h
theorem popE_len (most : Nat) (st : ES) (h : sizeE st ≤ most) : sizeE (popE st).1 ≤ most := by
  unfold popE sizeE at *
  split
  · simp; omega
  · split
    · simp only; omega
    · split
      · rename_i hj; rw [hj] at h; simp at h; simp only; omega
      · exact h
theorem mStep_len (most k : Nat) (o : Int) (st : ES) (h : sizeE st ≤ most) : sizeE (mStep most k o st).1 ≤ most := by
  unfold mStep
  split
  · exact pushE_len _ _ _ h
  · split
    · unfold back; rw [sizeE_flip]; exact pushE_len _ _ _ (by rw [sizeE_flip]; exact h)
    · split
      · exact popE_len _ _ h
      · split
        · unfold back; rw [sizeE_flip]; exact popE_len _ _ (by rw [sizeE_flip]; exact h)
        · exact h
theorem mAt_len (most below : Nat) (ops : List (Int × Int)) (h : below ≤ most) (k : Nat) : sizeE (mAt most below ops k) ≤ most := by
  induction k with
  | zero => simpa [mAt, sizeE] using h
  | succ k ih =>
    simp only [mAt]
    split
    · exact mStep_len _ _ _ _ ih
    · exact ih
theorem popE_code (st : ES) : (popE st).2.2 = 2 ∨ (popE st) = (st, -1, 4) := by
  unfold popE
  split
  · exact .inl rfl
  · split
    · exact .inl rfl
    · split
      · exact .inl rfl
      · exact .inr rfl
theorem pushE_pair (most k : Nat) (st : ES) : (pushE most k st).2.1 = -1 := by unfold pushE; split <;> rfl
/-- Only a pop that gets something meets somebody. -/
theorem step_code {most k : Nat} {o : Int} {st : ES} (h : (mStep most k o st).2.2 ≠ 2) : (mStep most k o st).2.1 = -1 := by
  by_cases h1 : o = 1
  · subst h1; exact pushE_pair most k st
  · by_cases h2 : o = 2
    · subst h2; exact pushE_pair most k (flip st)
    · by_cases h3 : o = 3
      · subst h3
        have e : mStep most k 3 st = popE st := rfl
        rw [e] at h ⊢
        rcases popE_code st with e | e
        · exact absurd e h
        · rw [e]
      · by_cases h4 : o = 4
        · subst h4
          have e : mStep most k 4 st = back (popE (flip st)) := rfl
          rw [e] at h ⊢
          rcases popE_code (flip st) with e | e
          · exact absurd e h
          · unfold back; rw [e]
        · simp [mStep, h1, h2, h3, h4]
theorem pair_code {most below : Nat} {ops : List (Int × Int)} {k : Nat} (h : mCode most below ops k ≠ 2) : mPair most below ops k = -1 := step_code h
end Go.Rp
