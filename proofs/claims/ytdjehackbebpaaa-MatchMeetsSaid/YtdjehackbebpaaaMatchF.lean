/-
  Apply of the program: what it tells, in plain Lean.
-/
import Derived.Test.YtdjehackbebpaaaMatchQ
import Derived.Test.YtdjehackbebpaaaMore
namespace Go.Rp
open Go.RowKit

def valAt (ops : List (Int × Int)) (k : Nat) : Int := (ops[k]?.map Prod.snd).getD 0
theorem valAt_lt {ops : List (Int × Int)} {k : Nat} (h : k < ops.length) : valAt ops k = ops[k].2 := by simp [valAt, h]
/-- What operation k is told, beside its code. -/
def mVal (l0 : List Int) (mo : Nat) (ops : List (Int × Int)) (k : Nat) : Int :=
  if 0 ≤ mPair mo l0.length ops k then valAt ops (mPair mo l0.length ops k).toNat
  else if mCode mo l0.length ops k = 2 then l0[(mAt mo l0.length ops k).2 - 1]?.getD 0 else 0
/-- What the stack holds below all that wait; what is on it at the end. -/
def mEnd (l0 : List Int) (ops : List (Int × Int)) (st : List Nat × Nat) : List Int := l0.take st.2 ++ st.1.map (valAt ops)
theorem mVal_met {l0 : List Int} {mo : Nat} {ops : List (Int × Int)} {k j : Nat} (h : mPair mo l0.length ops k = (j : Int)) : mVal l0 mo ops k = valAt ops j := by
  unfold mVal; rw [h, if_pos (by omega)]; simp
theorem mVal_taken {l0 : List Int} {mo : Nat} {ops : List (Int × Int)} {k : Nat} (h : mPair mo l0.length ops k = -1) (h2 : mCode mo l0.length ops k = 2) : mVal l0 mo ops k = l0[(mAt mo l0.length ops k).2 - 1]?.getD 0 := by
  unfold mVal; rw [h, if_neg (by omega), if_pos h2]
theorem mVal_none {l0 : List Int} {mo : Nat} {ops : List (Int × Int)} {k : Nat} (h2 : mCode mo l0.length ops k ≠ 2) (h : mPair mo l0.length ops k = -1) : mVal l0 mo ops k = 0 := by
  unfold mVal; rw [h, if_neg (by omega), if_neg h2]
/-- Below those who wait, from step to step. -/
theorem below_step (most k : Nat) (o : Int) (st : List Nat × Nat) : ((mStep most k o st).1.2 = st.2 ∧ (mStep most k o st).2 ≠ (-1, 2)) ∨ ((mStep most k o st).2 = (-1, 2) ∧ (mStep most k o st).1.2 = st.2 - 1 ∧ 0 < st.2 ∧ st.1 = [] ∧ o = 2 ∧ (mStep most k o st).1.1 = []) := by
  unfold mStep
  split
  · split
    · exact .inl ⟨rfl, by simp⟩
    · exact .inl ⟨rfl, by simp⟩
  · split
    · rename_i h1 h2
      split
      · rename_i j hj
        left
        refine ⟨rfl, fun h => ?_⟩
        simp only [Prod.mk.injEq] at h
        omega
      · rename_i hj
        have : st.1 = [] := List.getLast?_eq_none_iff.1 hj
        split
        · rename_i h
          exact .inr ⟨rfl, rfl, h, this, h2, this⟩
        · exact .inl ⟨rfl, by simp⟩
    · exact .inl ⟨rfl, by simp⟩
theorem mAt_below_le (most below : Nat) (ops : List (Int × Int)) (k : Nat) : (mAt most below ops k).2 ≤ below := by
  induction k with
  | zero => simp [mAt]
  | succ k ih =>
    by_cases h : k < ops.length
    · rw [mAt_succ h]
      rcases below_step most k (kindAt ops k) (mAt most below ops k) with ⟨e, _⟩ | ⟨_, e, _⟩ <;> omega
    · have : ops[k]? = none := List.getElem?_eq_none (by omega)
      simpa [mAt, this] using ih
/-- What is told, the values of the first k. -/
def toldK (n : Nat) (code val : Nat → Int) (k : Nat) : List (Int × Int) := (List.range n).map fun i => (code i, if i < k then val i else 0)
theorem toldK_len (n : Nat) (code val : Nat → Int) (k : Nat) : (toldK n code val k).length = n := by simp [toldK]
theorem toldK_get (n : Nat) (code val : Nat → Int) (k i : Nat) (h : i < n) : (toldK n code val k)[i]'(by rw [toldK_len]; exact h) = (code i, if i < k then val i else 0) := by simp [toldK]
theorem toldK_zero (n : Nat) (code val : Nat → Int) : toldK n code val 0 = fillL n n (fun i => (code i, 0)) (0, 0) := by
  apply List.ext_getElem
  · simp [toldK, fillL]
  · intro i h1 h2; simp [toldK] at h1; simp [toldK, fillL, h1]
theorem toldK_set (n : Nat) (code val : Nat → Int) (k : Nat) : (toldK n code val k).set k (code k, val k) = toldK n code val (k + 1) := by
  apply List.ext_getElem
  · simp [toldK]
  · intro i h1 h2
    simp only [toldK_len] at h2
    rw [List.getElem_set]
    split
    · rename_i h; subst h; rw [toldK_get _ _ _ _ _ h2, if_pos (by omega)]
    · rename_i h
      rw [toldK_get _ _ _ _ _ h2, toldK_get _ _ _ _ _ h2]
      by_cases hk : i < k
      · rw [if_pos hk, if_pos (by omega)]
      · rw [if_neg hk, if_neg (by omega)]
end Go.Rp
