/-
  Push and pop of the meeting of both ends, by what a step of the plain law comes to; the table of asks among things apart.
-/
import Derived.Test.YtgaomaaloaglpaaEndsB
namespace Go.Rp
theorem Sep.back4 {w : World} {U : Nat → Prop} {a b c d : Res} {l : List Res} (h : Sep w U (a :: b :: c :: d :: l)) : Sep w U (l ++ [a, b, c, d]) := by
  have := h.snoc
  rw [List.cons_append] at this
  simpa using this.back3
theorem Sep.front3 {w : World} {U : Nat → Prop} {a b c : Res} {l : List Res} (h : Sep w U (l ++ [a, b, c])) : Sep w U (a :: b :: c :: l) := by
  have h1 : Sep w U ((l ++ [a]) ++ [b, c]) := by simpa using h
  have h2 := h1.front2
  exact ((Sep.cons (fun _ hV => Sep.cons (fun _ hV' => Sep.unsnoc hV') hV) h2).rot3)
theorem Sep.front4 {w : World} {U : Nat → Prop} {a b c d : Res} {l : List Res} (h : Sep w U (l ++ [a, b, c, d])) : Sep w U (a :: b :: c :: d :: l) := by
  have h1 : Sep w U ((l ++ [a]) ++ [b, c, d]) := by simpa using h
  have h2 := h1.front3
  exact ((Sep.cons (fun _ hV => Sep.cons (fun _ hV' => Sep.cons (fun _ hV'' => Sep.unsnoc hV'') hV') hV) h2).rot4)
end Go.Rp
namespace Go.Proofs.Ytgaomaaloaglpaa
open Go.RowKit Go.Rp

theorem step1_room {most k : Nat} {st : ES} (h : sizeE st < most) : mStep most k 1 st = ((st.1 ++ [k], st.2), -1, 1) := by show pushE most k st = _; unfold pushE; rw [if_pos h]
theorem step1_full {most k : Nat} {st : ES} (h : ¬ sizeE st < most) : mStep most k 1 st = (st, -1, 3) := by show pushE most k st = _; unfold pushE; rw [if_neg h]
theorem step2_room {most k : Nat} {st : ES} (h : sizeE st < most) : mStep most k 2 st = ((st.1, st.2.1, st.2.2 ++ [k]), -1, 1) := by show back (pushE most k (flip st)) = _; unfold pushE; rw [sizeE_flip, if_pos h]; rfl
theorem step2_full {most k : Nat} {st : ES} (h : ¬ sizeE st < most) : mStep most k 2 st = (st, -1, 3) := by show back (pushE most k (flip st)) = _; unfold pushE; rw [sizeE_flip, if_neg h]; rfl
theorem step_bad {most k : Nat} {o : Int} {st : ES} (h : o < 1 ∨ 4 < o) : mStep most k o st = (st, -1, 5) := by
  unfold mStep
  rw [if_neg (by omega), if_neg (by omega), if_neg (by omega), if_neg (by omega)]
theorem step3_or (most k : Nat) (st : ES) : (∃ st' pr, mStep most k 3 st = (st', pr, 2)) ∨ mStep most k 3 st = (st, -1, 4) := by
  show (∃ st' pr, popE st = (st', pr, 2)) ∨ popE st = (st, -1, 4)
  rcases popE_code st with h | h
  · exact .inl ⟨(popE st).1, (popE st).2.1, by rw [← h]⟩
  · exact .inr h
theorem step4_or (most k : Nat) (st : ES) : (∃ st' pr, mStep most k 4 st = (st', pr, 2)) ∨ mStep most k 4 st = (st, -1, 4) := by
  show (∃ st' pr, back (popE (flip st)) = (st', pr, 2)) ∨ back (popE (flip st)) = (st, -1, 4)
  rcases popE_code (flip st) with h | h
  · exact .inl ⟨flip (popE (flip st)).1, (popE (flip st)).2.1, by unfold back; rw [← h]⟩
  · exact .inr (by rw [h]; rfl)

section
variable {B : Nat} {w : World} {p most : Nat} {st st' : ES} {L : List Res}
theorem pop3_some (hB : B ≤ w.heap.size) {k : Nat} {pr : Int} (h : At B w (meetR p most st :: L)) (e : mStep most k 3 st = (st', pr, 2)) :
    Calls Try.prog 39 #[.pointer (some ⟨p, 0, none⟩), .int .i64 0] w fun e w' => e = .returned (.tuple #[.int .i64 pr, .bool true]) ∧ At B w' (meetR p most st' :: L) ∧ Below B w w' := by
  have e : popE st = (st', pr, 2) := e
  obtain ⟨l, b, r⟩ := st
  rcases List.eq_nil_or_concat l with rfl | ⟨l', j, rfl⟩
  · by_cases hb : 0 < b
    · have e2 : popE ([], b, r) = (([], b - 1, r), -1, 2) := by simp [popE, hb]
      rw [e2] at e
      cases e
      exact popB_0 hB hb h
    · obtain rfl : b = 0 := by omega
      rcases r with _ | ⟨j, t⟩
      · cases e
      · cases e
        exact popC_0 hB h
  · rw [List.concat_eq_append] at h e
    have e2 : popE (l' ++ [j], b, r) = ((l', b, r), (j : Int), 2) := by simp [popE]
    rw [e2] at e
    cases e
    exact popA_0 hB h
theorem pop3_none {k : Nat} (h : At B w (meetR p most st :: L)) (e : mStep most k 3 st = (st', -1, 4)) :
    Calls Try.prog 39 #[.pointer (some ⟨p, 0, none⟩), .int .i64 0] w fun e w' => e = .returned (.tuple #[.int .i64 0, .bool false]) ∧ At B w' (meetR p most st :: L) ∧ Below B w w' := by
  have e : popE st = (st', -1, 4) := e
  obtain ⟨l, b, r⟩ := st
  rcases List.eq_nil_or_concat l with rfl | ⟨l', j, rfl⟩
  · by_cases hb : 0 < b
    · simp [popE, hb] at e
    · obtain rfl : b = 0 := by omega
      rcases r with _ | ⟨j, t⟩
      · exact popD_0 h
      · simp [popE] at e
  · rw [List.concat_eq_append] at e
    simp [popE] at e
theorem pop4_some (hB : B ≤ w.heap.size) {k : Nat} {pr : Int} (h : At B w (meetR p most st :: L)) (e : mStep most k 4 st = (st', pr, 2)) :
    Calls Try.prog 39 #[.pointer (some ⟨p, 0, none⟩), .int .i64 1] w fun e w' => e = .returned (.tuple #[.int .i64 pr, .bool true]) ∧ At B w' (meetR p most st' :: L) ∧ Below B w w' := by
  have e : back (popE (flip st)) = (st', pr, 2) := e
  obtain ⟨l, b, r⟩ := st
  rcases List.eq_nil_or_concat r with rfl | ⟨r', j, rfl⟩
  · by_cases hb : 0 < b
    · have e2 : popE (flip (l, b, [])) = (([], b - 1, l), -1, 2) := by simp [popE, hb, Rp.flip]
      rw [e2] at e
      cases e
      exact popB_1 hB hb h
    · obtain rfl : b = 0 := by omega
      rcases l with _ | ⟨j, t⟩
      · cases e
      · cases e
        exact popC_1 hB h
  · rw [List.concat_eq_append] at h e
    have e2 : popE (flip (l, b, r' ++ [j])) = ((r', b, l), (j : Int), 2) := by simp [popE, Rp.flip]
    rw [e2] at e
    cases e
    exact popA_1 hB h
theorem pop4_none {k : Nat} (h : At B w (meetR p most st :: L)) (e : mStep most k 4 st = (st', -1, 4)) :
    Calls Try.prog 39 #[.pointer (some ⟨p, 0, none⟩), .int .i64 1] w fun e w' => e = .returned (.tuple #[.int .i64 0, .bool false]) ∧ At B w' (meetR p most st :: L) ∧ Below B w w' := by
  have e : back (popE (flip st)) = (st', -1, 4) := e
  obtain ⟨l, b, r⟩ := st
  rcases List.eq_nil_or_concat r with rfl | ⟨r', j, rfl⟩
  · by_cases hb : 0 < b
    · simp [popE, hb, Rp.flip, back] at e
    · obtain rfl : b = 0 := by omega
      rcases l with _ | ⟨j, t⟩
      · exact popD_1 h
      · simp [popE, Rp.flip, back] at e
  · rw [List.concat_eq_append] at e
    simp [popE, Rp.flip, back] at e

/-- The table of asks, among things apart. -/
theorem stable_map (q : Nat) (o : Obj) : Stable (fun w R => w.heap[q]? = some o ∧ q < w.heap.size ∧ R q) :=
  ⟨fun h hS => ⟨h.1, h.2.1, hS _ h.2.2⟩, fun h hm hd => ⟨(hm.block q h.2.1 (hd q h.2.2)).trans h.1, Nat.lt_of_lt_of_le h.2.1 hm.size, h.2.2⟩, fun h => ⟨h.1, h.2.1, h.2.2, h.2.1⟩⟩
def objR (q : Nat) (o : Obj) : Res := ⟨fun w R => w.heap[q]? = some o ∧ q < w.heap.size ∧ R q, stable_map q o⟩
theorem objR_new (hB : B ≤ w.heap.size) (h : At B w L) (o : Obj) : At B (w.alloc o) (objR w.heap.size o :: L) :=
  h.made (fun x hx => Nat.le_trans hB hx) ((Below.refl _ w).alloc (Nat.le_refl _) _) ⟨heap_alloc_new w _, by simp, Nat.le_refl _, by simp⟩
end
theorem info_res : (Try.prog.info? 42).map (fun i => (i.zero, i.size, i.bytes)) = some (some (.agg #[.int .u8 0, .int .i32 0]), 2, 8) := by kernel_rfl
theorem rep_res (n : Nat) : (List.replicate n ((#[Value.int .u8 0, Value.int .i32 0] : Array Value).toList)).flatten = (List.replicate n ((0, 0) : Int × Int)).flatMap resIn := by
  induction n with
  | zero => rfl
  | succ n ih => rw [List.replicate_succ, List.replicate_succ, List.flatten_cons, List.flatMap_cons, ih]; rfl
theorem op_at (ops : List (Int × Int)) (k : Nat) (hk : k < ops.length) : (ops.flatMap opIn)[k * 2]? = some (.int .u8 ops[k].1) ∧ (ops.flatMap opIn)[k * 2 + 1]? = some (.int .i32 ops[k].2) := by
  induction ops generalizing k with
  | nil => simp at hk
  | cons o l ih =>
    rcases k with _ | k
    · simp [opIn]
    · have := ih k (by simpa using hk)
      simp only [List.flatMap_cons, opIn, List.cons_append, List.nil_append, List.getElem_cons_succ]
      rw [show (k + 1) * 2 = k * 2 + 2 by omega]
      simpa [opIn] using this
end Go.Proofs.Ytgaomaaloaglpaa
