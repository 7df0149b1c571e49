/-
  Scripts in plain Lean: entries, what four bytes say, which entries pick. No program in sight.
-/
import Derived.Test.YtefenbmchfbohaaFields
import Derived.Test.YtefenbmchfbohaaMore
namespace Go.Rp
open Go.RowKit

/-- An entry: kind, thread, the operation's kind and value, bits. -/
abbrev Ent := Int × Int × Int × Int × Int
def entIn (e : Ent) : List Value := [.int .u8 e.1, .int .i64 e.2.1, .int .u8 e.2.2.1, .int .i32 e.2.2.2.1, .int .u8 e.2.2.2.2]
def entOk (e : Ent) : Prop := (Lit.int .u8 e.1).wf = true ∧ (Lit.int .i64 e.2.1).wf = true ∧ (Lit.int .u8 e.2.2.1).wf = true ∧ (Lit.int .i32 e.2.2.2.1).wf = true ∧ (Lit.int .u8 e.2.2.2.2).wf = true
theorem ent_len (l : List Ent) : (l.flatMap entIn).length = l.length * 5 := by
  induction l with
  | nil => rfl
  | cons a l ih => simp only [List.flatMap_cons, List.length_append, ih, List.length_cons]; simp [entIn]; omega
theorem ent_at (l : List Ent) (k : Nat) (hk : k < l.length) : (l.flatMap entIn)[k * 5]? = some (.int .u8 l[k].1) ∧ (l.flatMap entIn)[k * 5 + 1]? = some (.int .i64 l[k].2.1) ∧ (l.flatMap entIn)[k * 5 + 2]? = some (.int .u8 l[k].2.2.1) ∧ (l.flatMap entIn)[k * 5 + 3]? = some (.int .i32 l[k].2.2.2.1) ∧ (l.flatMap entIn)[k * 5 + 4]? = some (.int .u8 l[k].2.2.2.2) := by
  induction l generalizing k with
  | nil => simp at hk
  | cons o l ih =>
    rcases k with _ | k
    · simp [entIn]
    · have := ih k (by simpa using hk)
      simp only [List.flatMap_cons, entIn, List.cons_append, List.nil_append, List.getElem_cons_succ]
      rw [show (k + 1) * 5 = k * 5 + 5 by omega]
      simpa [entIn] using this

/-- What four bytes say. -/
def entryOf (a b c d : Int) : Ent := if a = 1 then (1, b, c, d, 0) else if a = 2 then (2, b, 0, 0, 0) else if a = 3 then (3, 0, 0, 0, d) else (0, 0, 0, 0, 0)
/-- How many of the first k pick. -/
def pickN (l : List Ent) : Nat → Nat
  | 0 => 0
  | k + 1 => pickN l k + if (l[k]?.map fun e => e.1) = some 2 then 1 else 0
theorem pickN_le (l : List Ent) (k : Nat) : pickN l k ≤ k := by
  induction k with
  | zero => simp [pickN]
  | succ k ih => simp only [pickN]; split <;> omega
end Go.Rp
