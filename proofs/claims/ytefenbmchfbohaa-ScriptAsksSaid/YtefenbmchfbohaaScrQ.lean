/-
  What bytes say, and the way back, in plain Lean. No program in sight.
-/
import Derived.Test.YtefenbmchfbohaaScrP
namespace Go.Rp
open Go.RowKit

/-- Byte i, 0 beyond. -/
def bAt (bs : List Int) (i : Nat) : Int := (bs[i]?).getD 0
/-- What the k-th four bytes say. -/
def chunkE (bs : List Int) (k : Nat) : Ent := entryOf (bAt bs (4 * k)) (bAt bs (4 * k + 1)) (bAt bs (4 * k + 2)) (bAt bs (4 * k + 3))
/-- What bytes say. -/
def decL (bs : List Int) : List Ent := (List.range (bs.length / 4)).map (chunkE bs)
theorem decL_length (bs : List Int) : (decL bs).length = bs.length / 4 := by simp [decL]
theorem decL_get (bs : List Int) (k : Nat) (h : k < bs.length / 4) : (decL bs)[k]? = some (chunkE bs k) := by simp [decL, h]
/-- What the chunks of pre say. -/
def saidE (bs : List Int) (pre : List Nat) : List Ent := (pre.filter fun k => decide (4 * k + 4 ≤ bs.length)).map (chunkE bs)
theorem saidE_nil (bs : List Int) : saidE bs [] = [] := rfl
theorem saidE_yes (bs : List Int) (pre : List Nat) (k : Nat) (h : 4 * k + 4 ≤ bs.length) : saidE bs (pre ++ [k]) = saidE bs pre ++ [chunkE bs k] := by
  simp [saidE, h]
theorem saidE_no (bs : List Int) (pre : List Nat) (k : Nat) (h : ¬ 4 * k + 4 ≤ bs.length) : saidE bs (pre ++ [k]) = saidE bs pre := by
  simp [saidE, h]
theorem filter_range_lt (q m : Nat) : (List.range m).filter (fun k => decide (k < q)) = List.range (min m q) := by
  induction m with
  | zero => simp
  | succ m ih =>
    rw [List.range_succ, List.filter_append, ih]
    by_cases h : m < q
    · rw [Nat.min_eq_left (by omega), Nat.min_eq_left (by omega), List.range_succ]; simp [h]
    · rw [Nat.min_eq_right (by omega), Nat.min_eq_right (by omega)]; simp [h]
theorem saidE_all (bs : List Int) : saidE bs (List.range ((bs.length + 3) / 4)) = decL bs := by
  have h : (fun k => decide (4 * k + 4 ≤ bs.length)) = fun k => decide (k < bs.length / 4) := by
    funext k; by_cases hk : 4 * k + 4 ≤ bs.length
    · rw [decide_eq_true hk, decide_eq_true (by omega)]
    · rw [decide_eq_false hk, decide_eq_false (by omega)]
  unfold saidE decL
  rw [h, filter_range_lt, Nat.min_eq_right (by omega)]
theorem saidE_le (bs : List Int) (pre : List Nat) : (saidE bs pre).length ≤ pre.length := by
  unfold saidE; rw [List.length_map]; exact List.length_filter_le _ _

/-- The four bytes of an entry. -/
def encB (e : Ent) : List Int := [e.1, (e.2.1 % 256), e.2.2.1, if e.1 = 3 then e.2.2.2.2 else (e.2.2.2.1 % 256)]
def lastB (e : Ent) : Int := if e.1 = 3 then e.2.2.2.2 else (e.2.2.2.1 % 256)
def encE (e : Ent) : Ent := entryOf e.1 (e.2.1 % 256) e.2.2.1 (lastB e)
theorem encB_eq (e : Ent) : encB e = [e.1, (e.2.1 % 256), e.2.2.1, lastB e] := rfl
theorem encB_length (e : Ent) : (encB e).length = 4 := rfl
/-- Can it be written? -/
def encOk (e : Ent) : Bool := !decide (e.1 > 3) && decide (encE e = e)
theorem flat_encB_length (l : List Ent) : (l.flatMap encB).length = 4 * l.length := by
  induction l with
  | nil => rfl
  | cons a l ih => simp only [List.flatMap_cons, List.length_append, ih, List.length_cons, encB_length]; omega
theorem bAt_flat (l : List Ent) (k j : Nat) (hk : k < l.length) (hj : j < 4) : bAt (l.flatMap encB) (4 * k + j) = bAt (encB l[k]) j := by
  induction l generalizing k with
  | nil => simp at hk
  | cons a l ih =>
    rcases k with _ | k
    · unfold bAt
      rw [Nat.mul_zero, Nat.zero_add, List.flatMap_cons, List.getElem?_append_left (by rw [encB_length]; exact hj)]
      rfl
    · have := ih k (by simpa using hk)
      unfold bAt at this ⊢
      rw [List.flatMap_cons, List.getElem?_append_right (by rw [encB_length]; omega), encB_length, show 4 * (k + 1) + j - 4 = 4 * k + j by omega]
      simpa using this
theorem chunkE_flat (l : List Ent) (k : Nat) (hk : k < l.length) : chunkE (l.flatMap encB) k = encE l[k] := by
  have h0 := bAt_flat l k 0 hk (by omega)
  unfold chunkE
  rw [bAt_flat l k 1 hk (by omega), bAt_flat l k 2 hk (by omega), bAt_flat l k 3 hk (by omega), show 4 * k = 4 * k + 0 from rfl, h0]
  rfl
theorem decL_enc (l : List Ent) (h : ∀ e ∈ l, encOk e = true) : decL (l.flatMap encB) = l := by
  apply List.ext_getElem?
  intro k
  have hl := flat_encB_length l
  by_cases hk : k < l.length
  · rw [decL_get _ _ (by omega), chunkE_flat l k hk, List.getElem?_eq_getElem hk]
    have := h _ (List.getElem_mem hk)
    simp only [encOk, Bool.and_eq_true, decide_eq_true_eq] at this
    rw [this.2]
  · rw [List.getElem?_eq_none (by rw [decL_length]; omega), List.getElem?_eq_none (by omega)]
theorem byte_wrap (x : Int) (h : 0 ≤ x ∧ x ≤ 255) : x % 256 = x := by omega
theorem entryOf_ok (a b c d : Int) (hb : 0 ≤ b ∧ b ≤ 255) (hd : 0 ≤ d ∧ d ≤ 255) : encOk (entryOf a b c d) = true := by
  have wb := byte_wrap b hb
  have wd := byte_wrap d hd
  have w0 : (0 : Int) % 256 = 0 := rfl
  unfold entryOf
  split
  · simp [encOk, encE, lastB, wb, wd, entryOf]
  · split
    · simp [encOk, encE, lastB, wb, wd, w0, entryOf]
    · split
      · simp [encOk, encE, lastB, wb, wd, w0, entryOf]
      · simp [encOk, encE, lastB, wb, wd, w0, entryOf]
/-- Bytes are from 0 to 255. -/
def Byt (bs : List Int) : Prop := ∀ x ∈ bs, 0 ≤ x ∧ x ≤ 255
theorem Byt.at {bs : List Int} (h : Byt bs) (i : Nat) : 0 ≤ bAt bs i ∧ bAt bs i ≤ 255 := by
  unfold bAt
  cases hx : bs[i]? with
  | none => simp
  | some x => simpa using h x (List.mem_of_getElem? hx)
theorem decL_ok (bs : List Int) (h : Byt bs) : ∀ e ∈ decL bs, encOk e = true := by
  intro e he
  obtain ⟨k, _, rfl⟩ := List.mem_map.1 he
  exact entryOf_ok _ _ _ _ (h.at _) (h.at _)
/-- Two parts, the first of whole fours. -/
theorem decL_append (a b : List Int) (k : Nat) (ha : a.length = 4 * k) : decL (a ++ b) = decL a ++ decL b := by
  apply List.ext_getElem?
  intro i
  have hl : (a ++ b).length / 4 = k + b.length / 4 := by rw [List.length_append, ha]; omega
  have hla : a.length / 4 = k := by omega
  by_cases h1 : i < k
  · rw [decL_get _ _ (by omega), List.getElem?_append_left (by rw [decL_length]; omega), decL_get _ _ (by omega)]
    unfold chunkE bAt
    rw [List.getElem?_append_left (by omega), List.getElem?_append_left (by omega), List.getElem?_append_left (by omega), List.getElem?_append_left (by omega)]
  · rw [List.getElem?_append_right (by rw [decL_length]; omega), decL_length, hla]
    by_cases h2 : i < k + b.length / 4
    · rw [decL_get _ _ (by omega), decL_get _ _ (by omega)]
      unfold chunkE bAt
      rw [List.getElem?_append_right (by omega), List.getElem?_append_right (by omega), List.getElem?_append_right (by omega), List.getElem?_append_right (by omega), ha]
      rw [show 4 * (i - k) = 4 * i - 4 * k by omega, show 4 * i - 4 * k + 1 = 4 * i + 1 - 4 * k by omega, show 4 * i - 4 * k + 2 = 4 * i + 2 - 4 * k by omega, show 4 * i - 4 * k + 3 = 4 * i + 3 - 4 * k by omega]
    · rw [List.getElem?_eq_none (by rw [decL_length]; omega), List.getElem?_eq_none (by rw [decL_length]; omega)]
theorem pickN_append (a b : List Ent) : pickN (a ++ b) (a.length + b.length) = pickN a a.length + pickN b b.length := by
  have h1 : ∀ k, k ≤ a.length → pickN (a ++ b) k = pickN a k := by
    intro k
    induction k with
    | zero => intro _; rfl
    | succ k ih => intro hk; simp only [pickN]; rw [ih (by omega), List.getElem?_append_left (by omega)]
  have h2 : ∀ k, pickN (a ++ b) (a.length + k) = pickN a a.length + pickN b k := by
    intro k
    induction k with
    | zero => exact h1 _ (Nat.le_refl _)
    | succ k ih => rw [← Nat.add_assoc]; simp only [pickN]; rw [ih, List.getElem?_append_right (by omega), Nat.add_sub_cancel_left]; omega
  exact h2 _
/-- In rounds. -/
def roundE (t : Nat) (i : Nat) : Ent := (2, ((i % t : Nat) : Int), 0, 0, 0)
theorem pickN_all (l : List Ent) (k : Nat) (hk : k ≤ l.length) (h : ∀ e ∈ l, e.1 = 2) : pickN l k = k := by
  induction k with
  | zero => rfl
  | succ k ih => simp only [pickN]; rw [ih (by omega), List.getElem?_eq_getElem (by omega)]; simp [h _ (List.getElem_mem _)]
theorem pickN_none (l : List Ent) (k : Nat) (hk : k ≤ l.length) (h : ∀ e ∈ l, e.1 ≠ 2) : pickN l k = 0 := by
  induction k with
  | zero => rfl
  | succ k ih => simp only [pickN]; rw [ih (by omega), List.getElem?_eq_getElem (by omega)]; simp [h _ (List.getElem_mem _)]
theorem rep_round (t N : Nat) (ht : 0 < t) (L : List Ent) (hL : L = (List.range t).map fun (i : Nat) => ((2, (i : Int), 0, 0, 0) : Ent)) (f : Nat → Ent) (hf : ∀ i, f i = (L[i % L.length]?).getD (0, 0, 0, 0, 0)) : (List.range N).map f = (List.range N).map (roundE t) := by
  apply List.map_congr_left
  intro i _
  rw [hf]
  have hl : L.length = t := by rw [hL]; simp
  rw [hl, hL, List.getElem?_map, List.getElem?_range (Nat.mod_lt _ ht)]
  rfl
end Go.Rp
