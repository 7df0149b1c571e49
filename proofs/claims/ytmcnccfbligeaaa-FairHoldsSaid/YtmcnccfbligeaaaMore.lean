/-
  More on things that lie apart: turned lists, a store into the first one; slices of structs that are made; cells of what is told. No program in sight.
-/
import Derived.Test.YtmcnccfbligeaaaSep
import Derived.Test.YtmcnccfbligeaaaFields
import Derived.Laws.MakeOwn
namespace Go.Rp
open Go.RowKit

section
variable {w w' : World} {U : Nat → Prop} {a b : Res} {l l' : List Res} {B : Nat}
theorem Sep.snoc (h : Sep w U (a :: l)) : Sep w U (l ++ [a]) := by
  induction l generalizing U with
  | nil => exact h
  | cons x l ih => exact Sep.cons (fun V hV => ih hV) h.rot2
theorem Sep.unsnoc (h : Sep w U (l ++ [a])) : Sep w U (a :: l) := by
  induction l generalizing U with
  | nil => exact h
  | cons x l ih => exact (Sep.cons (l' := a :: l) (fun V hV => ih hV) h).rot2
/-- The first two behind all others, and back. -/
theorem Sep.back2 (h : Sep w U (a :: b :: l)) : Sep w U (l ++ [a, b]) := by
  have := h.snoc
  rw [List.cons_append] at this
  have := this.snoc
  simpa using this
theorem Sep.front2 (h : Sep w U (l ++ [a, b])) : Sep w U (a :: b :: l) := by
  have h1 : Sep w U ((l ++ [a]) ++ [b]) := by simpa using h
  have h2 := h1.unsnoc
  exact (Sep.cons (l' := a :: l) (fun V hV => Sep.unsnoc hV) h2).rot2
/-- A step at the first one, whatever stands there behind it. -/
theorem Sep.frontAny (h : Sep w U (a :: l)) (hU : ∀ x, w.heap.size ≤ x → U x) :
    ∃ S : Nat → Prop, a.Q w S ∧ (∀ x, S x → U x ∧ x < w.heap.size) ∧ ∀ (a' : Res) w', a'.Q w' (grow S w w') → Mod S w w' → Sep w' U (a' :: l) := by
  obtain ⟨S, h1, h2, h3⟩ := h
  refine ⟨_, a.st.lt h2, fun x hx => ⟨h1 x hx.1, hx.2⟩, fun a' w' hq hm => ⟨_, ?_, hq, (h3.lt.mod hm fun x hx hs => hx.1.2 hs.1).mono fun x hx => ⟨hx.1.1, ?_⟩⟩⟩
  · rintro x (hx | hx)
    · exact h1 x hx.1
    · exact hU x hx.1
  · rintro (hs | hs)
    · exact hx.1.2 hs.1
    · omega
theorem Sep.toRd {e sz n c : Nat} {A : Option Addr} {xs : List Value} (hsz : 0 < sz) (h : Sep w U (slRes e sz A n c xs :: l)) : Sep w U (rdRes sz hsz A n xs :: l) := by
  obtain ⟨S, h1, h2, h3⟩ := h
  exact ⟨S, h1, Sl.rd h2, h3⟩
theorem Sep.nilSl (h : Sep w U l) (e sz : Nat) : Sep w U (slRes e sz none 0 0 [] :: l) := ⟨fun _ => False, fun _ h => h.elim, Sl.nil _ _ _ _, h.mono fun _ h => ⟨h, fun h => h⟩⟩
theorem Sep.slat {e sz n c g : Nat} {xs : List Value} (h : Sep w (fun x => B ≤ x) (slRes e sz (some ⟨g, 0, none⟩) n c xs :: l)) (hB : B ≤ w.heap.size) (k : Nat) (u : Value) (hu : xs[k]? = some u) :
    w.cell? ⟨g, k, none⟩ = some u ∧ w.frozen? ⟨g, k, none⟩ = false ∧ ∀ v, Sep (w.setCell ⟨g, k, none⟩ v) (fun x => B ≤ x) (slRes e sz (some ⟨g, 0, none⟩) n c (xs.set k v) :: l) ∧ Below B w (w.setCell ⟨g, k, none⟩ v) := by
  have hk : k < xs.length := (List.getElem?_eq_some_iff.1 hu).1
  have hsl : Sl w e sz (some ⟨g, 0, none⟩) n c xs (fun x => B ≤ x) := h.get
  have hlen := hsl.1
  obtain ⟨g', off, hA, hg, hlt, hfz, hx⟩ := hsl.at (by
    rcases Nat.eq_zero_or_pos n with h0 | h0
    · subst h0; simp at hlen; subst hlen; simp at hk
    · exact h0)
  simp at hA
  obtain ⟨rfl, rfl⟩ := hA
  refine ⟨by simpa using hx k u hu, hfz _, fun v => ?_⟩
  obtain ⟨S, h1, h2, h3⟩ := h.front (a' := slRes e sz (some ⟨g, 0, none⟩) n c (xs.set k v)) fun x hx => Nat.le_trans hB hx
  have h1' : Sl w e sz (some ⟨g, 0, none⟩) n c xs S := h1
  obtain ⟨g'', off'', hA', hg', _⟩ := h1'.at (by
    rcases Nat.eq_zero_or_pos n with h0 | h0
    · subst h0; simp at hlen; subst hlen; simp at hk
    · exact h0)
  simp at hA'
  obtain ⟨rfl, rfl⟩ := hA'
  have hs := Sl.set h1' (g := g) (off := 0) rfl k (by rw [← hlen]; exact hk) v
  rw [Nat.zero_add] at hs
  exact ⟨h3 _ (hs.mono grow_left) ((Mod.refl S w).setCell (p := ⟨g, k, none⟩) (.inl hg') _), (Below.refl B w).setCell (h2 g hg').1 _⟩
end

/-! ### Slices of structs that are made -/
theorem flatten_rep (l : List Value) (hl : 0 < l.length) : ∀ (n i : Nat), i < n * l.length → ((List.replicate n l).flatten)[i]? = l[i % l.length]?
  | 0, i, h => by simp at h
  | n + 1, i, h => by
    rw [List.replicate_succ, List.flatten_cons, List.getElem?_append]
    split
    · rename_i h1; rw [Nat.mod_eq_of_lt h1]
    · rename_i h1
      rw [flatten_rep l hl n (i - l.length) (by rw [Nat.succ_mul] at h; omega)]
      congr 1
      rw [← Nat.mod_eq_sub_mod (by omega)]
theorem made_flat (z : Array Value) (hz : 0 < z.size) (n : Nat) : (madeCells z (n * z.size)).toList = (List.replicate n z.toList).flatten := by
  apply List.ext_getElem?
  intro i
  by_cases hi : i < n * z.size
  · rw [flatten_rep z.toList (by simpa using hz) n i (by simpa using hi)]
    have hm : i % z.size < z.size := Nat.mod_lt _ hz
    simp [madeCells, hi, hm]
  · rw [List.getElem?_eq_none (by simp [madeCells]; omega), List.getElem?_eq_none (by simp; omega)]

theorem wpList_make_any {P : Program} (w : World) {ops : Array Oper} {rest : List Oper} {o : Oper} {a : Act} {Q : Exit → Act → World → Prop}
    (hg : o.guard = none) (l c : Operand) (t : TypeId) (hop : o.op = Op.makeSlice t l c)
    (e : TypeId) (i : TypeInfo) (z : Value) (sz bytes : Nat) (ht : P.underlying t = some (.slice e)) (hi : P.info? e = some i) (hz : i.zero = some z) (hsize : i.size = sz) (hby : i.bytes = bytes) (hz1 : z.cells.size = sz) (hsz : 0 < sz)
    (kl kc : IntKind) (n : Nat) (hl : a.eval l = .int kl (n : Int)) (hc : a.eval c = .int kc (n : Int)) (hbytes : bytes * n ≤ 281474976710656) (h63 : n ≤ 9223372036854775807)
    (hK : ∀ arr : Array Value, arr.toList = (List.replicate n z.cells.toList).flatten → wpList P ops Q rest (a.put o.dst (.slice (some ⟨w.heap.size, 0, none⟩) n n)) (w.alloc (.cells arr e))) :
    wpList P ops Q (o :: rest) a w := by
  refine wpList_plain hg fun K hK' => ?_
  have hrun := run_make (P := P) w t e i z ht hi hz kl kc (n : Int) (n : Int) (by omega) (by omega) (by have e : ((bytes : Int) * (n : Int)) = ((bytes * n : Nat) : Int) := (Int.natCast_mul ..).symm; rw [hby]; omega) (by omega)
  rw [Int.toNat_natCast, hsize, ← hz1] at hrun
  unfold Oper.wp
  simp [execOp, hop, hl, hc, hrun, Result.andThen]
  exact hK' _ _ (hK _ (made_flat _ (by omega) n))

theorem Sl.of_made (w : World) (e sz n : Nat) (arr : Array Value) (xs : List Value) (hx : arr.toList = xs) (hl : xs.length = n * sz) (hn : n ≤ maxLen) {S : Nat → Prop} (hS : S w.heap.size) : Sl (w.alloc (.cells arr e)) e sz (some ⟨w.heap.size, 0, none⟩) n n xs S := by
  have h1 := Sl.of_blk (S := S) (sz := sz) (Blk.new w e arr) hS n n (Nat.le_refl _) hn (by rw [← Array.length_toList, hx, hl])
  rw [hx, List.take_of_length_le (by omega)] at h1
  exact h1

/-! ### What is told: codes and values -/
def resIn (r : Int × Int) : List Value := [.int .u8 r.1, .int .i32 r.2]
theorem res_len (xs : List (Int × Int)) : (xs.flatMap resIn).length = xs.length * 2 := by
  induction xs with
  | nil => rfl
  | cons a l ih => simp only [List.flatMap_cons, List.length_append, ih, List.length_cons]; simp [resIn]; omega
theorem res_at (xs : List (Int × Int)) (k : Nat) (hk : k < xs.length) : (xs.flatMap resIn)[k * 2]? = some (.int .u8 xs[k].1) ∧ (xs.flatMap resIn)[k * 2 + 1]? = some (.int .i32 xs[k].2) := by
  induction xs generalizing k with
  | nil => simp at hk
  | cons o l ih =>
    rcases k with _ | k
    · simp [resIn]
    · have := ih k (by simpa using hk)
      simp only [List.flatMap_cons, resIn, List.cons_append, List.nil_append, List.getElem_cons_succ]
      rw [show (k + 1) * 2 = k * 2 + 2 by omega]
      simpa [resIn] using this
theorem res_set1 (xs : List (Int × Int)) (k : Nat) (hk : k < xs.length) (c : Int) : (xs.flatMap resIn).set (k * 2) (.int .u8 c) = (xs.set k (c, xs[k].2)).flatMap resIn := by
  induction xs generalizing k with
  | nil => simp at hk
  | cons o l ih =>
    rcases k with _ | k
    · simp [resIn]
    · have := ih k (by simpa using hk)
      simp only [List.flatMap_cons, resIn, List.cons_append, List.nil_append, List.getElem_cons_succ, List.set_cons_succ]
      rw [show (k + 1) * 2 = k * 2 + 1 + 1 by omega]
      simpa [resIn] using this
theorem res_set2 (xs : List (Int × Int)) (k : Nat) (hk : k < xs.length) (v : Int) : (xs.flatMap resIn).set (k * 2 + 1) (.int .i32 v) = (xs.set k (xs[k].1, v)).flatMap resIn := by
  induction xs generalizing k with
  | nil => simp at hk
  | cons o l ih =>
    rcases k with _ | k
    · simp [resIn]
    · have := ih k (by simpa using hk)
      simp only [List.flatMap_cons, resIn, List.cons_append, List.nil_append, List.getElem_cons_succ, List.set_cons_succ]
      rw [show (k + 1) * 2 = k * 2 + 1 + 1 by omega]
      simpa [resIn] using this
/-- The first k filled by f, the rest by d. -/
def fillL {α : Type} (n k : Nat) (f : Nat → α) (d : α) : List α := (List.range n).map fun i => if i < k then f i else d
theorem fillL_length {α : Type} (n k : Nat) (f : Nat → α) (d : α) : (fillL n k f d).length = n := by simp [fillL]
theorem fillL_get {α : Type} (n k : Nat) (f : Nat → α) (d : α) (i : Nat) (h : i < n) : (fillL n k f d)[i]'(by rw [fillL_length]; exact h) = if i < k then f i else d := by simp [fillL]
theorem fillL_succ {α : Type} (n k : Nat) (f : Nat → α) (d x : α) (hx : f k = x) : (fillL n k f d).set k x = fillL n (k + 1) f d := by
  apply List.ext_getElem
  · simp [fillL]
  · intro i h1 h2
    simp only [fillL_length] at h2
    rw [List.getElem_set]
    split
    · rename_i h; subst h; rw [fillL_get _ _ _ _ _ h2, if_pos (by omega), hx]
    · rename_i h
      rw [fillL_get _ _ _ _ _ h2, fillL_get _ _ _ _ _ h2]
      by_cases hk : i < k
      · rw [if_pos hk, if_pos (by omega)]
      · rw [if_neg hk, if_neg (by omega)]
theorem fillL_zero {α : Type} (n : Nat) (f : Nat → α) (d : α) : fillL n 0 f d = List.replicate n d := by
  apply List.ext_getElem
  · simp [fillL]
  · intro i h1 h2; simp [fillL]
theorem fillL_full {α : Type} (n : Nat) (f : Nat → α) (d : α) : fillL n n f d = (List.range n).map f := by
  apply List.ext_getElem
  · simp [fillL]
  · intro i h1 h2
    simp [fillL] at h1
    simp [fillL, h1]
/-- A step that leaves what it was to be. -/
theorem fillL_keep {α : Type} (n k : Nat) (f : Nat → α) (d : α) (hd : f k = d) : fillL n (k + 1) f d = fillL n k f d := by
  apply List.ext_getElem
  · simp [fillL]
  · intro i h1 h2
    simp only [fillL_length] at h1
    rw [fillL_get _ _ _ _ _ h1, fillL_get _ _ _ _ _ h1]
    by_cases hk : i < k
    · rw [if_pos hk, if_pos (by omega)]
    · by_cases he : i = k
      · subst he; rw [if_pos (by omega), if_neg (by omega), hd]
      · rw [if_neg (by omega), if_neg hk]
end Go.Rp
