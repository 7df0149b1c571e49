/-
  A deque in a ring of cells, in plain Lean. No program in sight.
-/
import Derived.Test.YtgaomaaloaglpaaFields
namespace Go.Rp
open Go.RowKit

/-- The items l lie in the cells cs, from f on, round and round. -/
structure Rg (cs : List Int) (N f : Nat) (l : List Int) : Prop where
  len : cs.length = N
  le : l.length ≤ N
  first : f < N ∨ (N = 0 ∧ f = 0)
  at_ : ∀ i, i < l.length → cs[(f + i) % N]? = l[i]?

section
variable {cs l : List Int} {N f : Nat} {v : Int}
theorem mod_ne {N f a b : Nat} (ha : a < N) (hb : b < N) (h : a ≠ b) : (f + a) % N ≠ (f + b) % N := by
  intro e
  have hN : 0 < N := by omega
  have h1 := Nat.div_add_mod (f + a) N
  have h2 := Nat.div_add_mod (f + b) N
  rw [e] at h1
  have : N * ((f + a) / N) = N * ((f + b) / N) + (f + a) - (f + b) ∨ N * ((f + b) / N) = N * ((f + a) / N) + (f + b) - (f + a) := by omega
  rcases Nat.lt_trichotomy ((f + a) / N) ((f + b) / N) with hl | he | hg
  · have := Nat.mul_le_mul_left N (show (f + a) / N + 1 ≤ (f + b) / N by omega)
    rw [Nat.mul_add, Nat.mul_one] at this
    omega
  · rw [he] at h1; omega
  · have := Nat.mul_le_mul_left N (show (f + b) / N + 1 ≤ (f + a) / N by omega)
    rw [Nat.mul_add, Nat.mul_one] at this
    omega
theorem Rg.pushR (h : Rg cs N f l) (hl : l.length < N) : Rg (cs.set ((f + l.length) % N) v) N f (l ++ [v]) := by
  refine ⟨by rw [List.length_set, h.len], by simp; omega, h.first, fun i hi => ?_⟩
  have hm : (f + l.length) % N < cs.length := by rw [h.len]; exact Nat.mod_lt _ (by omega)
  by_cases he : i = l.length
  · subst he
    rw [List.getElem?_set_self hm]
    simp
  · have hi' : i < l.length := by simp at hi; omega
    rw [List.getElem?_set_ne (mod_ne hl (by omega) (by omega)), h.at_ i hi', List.getElem?_append_left hi']
theorem Rg.pushL (h : Rg cs N f l) (hl : l.length < N) : Rg (cs.set ((f + (N - 1)) % N) v) N ((f + (N - 1)) % N) (v :: l) := by
  have hN : 0 < N := by omega
  have hm : (f + (N - 1)) % N < N := Nat.mod_lt _ hN
  refine ⟨by rw [List.length_set, h.len], by simp; omega, .inl hm, fun i hi => ?_⟩
  rcases i with _ | i
  · rw [Nat.add_zero, Nat.mod_eq_of_lt hm, List.getElem?_set_self (by rw [h.len]; exact hm)]
    simp
  · have hi' : i < l.length := by simpa using hi
    have e : ((f + (N - 1)) % N + (i + 1)) % N = (f + i) % N := by
      rw [Nat.mod_add_mod, show f + (N - 1) + (i + 1) = f + i + N by omega, Nat.add_mod_right]
    rw [e, List.getElem?_set_ne (mod_ne (by omega) (by omega) (by omega)), h.at_ i hi']
    simp
theorem Rg.popL (h : Rg cs N f (v :: l)) : cs[f]? = some v ∧ Rg cs N ((f + 1) % N) l := by
  have hle := h.le
  simp at hle
  have hN : 0 < N := by omega
  have hf : f < N := by rcases h.first with h | h <;> omega
  refine ⟨?_, h.len, by omega, .inl (Nat.mod_lt _ hN), fun i hi => ?_⟩
  · have := h.at_ 0 (by simp)
    rw [Nat.add_zero, Nat.mod_eq_of_lt hf] at this
    simpa using this
  · rw [Nat.mod_add_mod, show f + 1 + i = f + (i + 1) by omega, h.at_ (i + 1) (by simpa using hi)]
    simp
theorem Rg.popR (h : Rg cs N f (l ++ [v])) : cs[(f + l.length) % N]? = some v ∧ Rg cs N f l := by
  have hle := h.le
  simp at hle
  refine ⟨?_, h.len, by omega, h.first, fun i hi => ?_⟩
  · have := h.at_ l.length (by simp)
    simpa using this
  · rw [h.at_ i (by simp; omega), List.getElem?_append_left hi]
theorem Rg.nil (N : Nat) : Rg (List.replicate N 0) N 0 [] := ⟨by simp, by simp, by omega, fun i hi => by simp at hi⟩
theorem Rg.idx (h : Rg cs N f l) (hN : 0 < N) (i : Nat) : (f + i) % N < N := Nat.mod_lt _ hN
end

/-! ### The document's deque -/
/-- An operation of a deque of most items; the items behind it, the code, the value. -/
def rDo (most : Nat) (l : List Int) (k v : Int) : List Int × Int × Int :=
  if k = 1 then (if most ≤ l.length then (l, 3, 0) else (v :: l, 1, 0))
  else if k = 2 then (if most ≤ l.length then (l, 3, 0) else (l ++ [v], 1, 0))
  else if k = 3 then (match l with | [] => ([], 4, 0) | x :: t => (t, 2, x))
  else if k = 4 then (match l.getLast? with | none => (l, 4, 0) | some x => (l.dropLast, 2, x))
  else (l, 5, 0)
theorem rDo_popR (most : Nat) (l : List Int) (x v : Int) : rDo most (l ++ [x]) 4 v = (l, 2, x) := by simp [rDo]
theorem rDo_len {most : Nat} {l : List Int} (k v : Int) (h : l.length ≤ most) : (rDo most l k v).1.length ≤ most := by
  unfold rDo
  split
  · split
    · exact h
    · simp; omega
  · split
    · split
      · exact h
      · simp; omega
    · split
      · split
        · simp
        · simp at h; simp only; omega
      · split
        · split
          · exact h
          · simp; omega
        · exact h
def rRuns (most : Nat) (l : List Int) (ops : List (Int × Int)) : List Int := ops.foldl (fun l o => (rDo most l o.1 o.2).1) l
theorem rRuns_snoc (most : Nat) (l : List Int) (ops : List (Int × Int)) (m : Nat) (hm : m < ops.length) : rRuns most l (ops.take (m + 1)) = (rDo most (rRuns most l (ops.take m)) ops[m].1 ops[m].2).1 := by
  unfold rRuns
  rw [List.take_succ_eq_append_getElem hm, List.foldl_append]
  rfl
end Go.Rp
