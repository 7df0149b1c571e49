/-
  Pairs of the program: which push each pop meets, and codes.
-/
import Derived.Test.YtgaomaaloaglpaaEndsD
import Derived.Deep.OwnRows
import Derived.RegionTactic
import Derived.ChangeAlike
namespace Go.Proofs.Ytgaomaaloaglpaa
open Go.RowKit Go.Rp

theorem info_u8 : (Try.prog.info? 5).map (fun i => (i.zero, i.size, i.bytes)) = some (some (.int .u8 0), 1, 1) := by kernel_rfl

theorem min_ii {k : IntKind} {x y z : Int} (h : min x y = z) (ats : Array TypeId) (ty : TypeId) : Go.Builtin.min_ ats ty #[.int k x, .int k y] = (pure (.int k z) : Sem Value) := by
  have e : (if y < x then y else x) = z := by rw [← h, Int.min_def]; split <;> split <;> omega
  show ([Value.int k y].foldlM Go.Builtin.min2 (.int k x) : Sem Value) = _
  simp only [List.foldlM, Go.Builtin.min2, e]
  rfl
theorem max_ii {k : IntKind} {x y z : Int} (h : max x y = z) (ats : Array TypeId) (ty : TypeId) : Go.Builtin.max_ ats ty #[.int k x, .int k y] = (pure (.int k z) : Sem Value) := by
  have e : (if y > x then y else x) = z := by rw [← h, Int.max_def]; split <;> split <;> omega
  show ([Value.int k y].foldlM Go.Builtin.max2 (.int k x) : Sem Value) = _
  simp only [List.foldlM, Go.Builtin.max2, e]
  rfl
theorem made_one (z : Value) (n : Nat) : (madeCells #[z] n).toList = List.replicate n z := by
  have := made_flat #[z] (by simp) n
  rw [show n * (#[z] : Array Value).size = n by simp] at this
  rw [this]
  simp
theorem row_new {B : Nat} {w : World} {n : Nat} {L : List Res} (hB : B ≤ w.heap.size) (hn : n ≤ 100000) {z : Value} (e : TypeId) (h : At B w L) : At B (w.alloc (.cells (madeCells #[z] n) e)) (slRes e 1 (some ⟨w.heap.size, 0, none⟩) n n (List.replicate n z) :: L) :=
  h.made (fun x hx => Nat.le_trans hB hx) ((Below.refl _ w).alloc (Nat.le_refl _) _) (Sl.of_made w e 1 n _ _ (made_one z n) (by simp) (by unfold maxLen; omega) ⟨Nat.le_refl _, by simp⟩)
theorem meet_new {B : Nat} {w : World} {be mo : Nat} {L : List Res} (hB : B ≤ w.heap.size) (hbm : be ≤ mo) (hm : mo ≤ 1000) (h : At B w L) : At B (w.alloc (.cells #[.slice none 0 0, .slice none 0 0, .int .i64 (be : Int), .int .i64 (mo : Int)] 57)) (meetR w.heap.size mo ([], be, []) :: L) :=
  h.made (fun x hx => Nat.le_trans hB hx) ((Below.refl _ w).alloc (Nat.le_refl _) _) ⟨none, 0, none, 0, ⟨fun x => x = w.heap.size, fun x hx => by subst hx; simp, ⟨Blk.new _ _ _, rfl⟩, (Sep.nilSl (Sep.nilSl (show Sep _ _ [] from trivial) _ _) _ _)⟩, by simpa [sizeE] using hbm, hm⟩

theorem ord1 {B : Nat} {w : World} {be mo n : Nat} {Y : List Res} (hB : B ≤ w.heap.size) (hbm : be ≤ mo) (hm : mo ≤ 1000) (hn : n ≤ 100000) (h : At B w Y) :
    At B (((((w.alloc (.cells #[.slice none 0 0, .slice none 0 0, .int .i64 (be : Int), .int .i64 (mo : Int)] 57)).alloc (.cells (madeCells #[Value.int .i64 0] n) 3)).alloc (.cells (madeCells #[Value.int .u8 0] n) 5)).alloc (.cells #[.slice (some ⟨w.heap.size + 1, 0, none⟩) n n] 30)).drew) (slRes 3 1 (some ⟨w.heap.size + 1, 0, none⟩) n n (List.replicate n (.int .i64 0)) :: slRes 5 1 (some ⟨w.heap.size + 1 + 1, 0, none⟩) n n (List.replicate n (.int .u8 0)) :: blkR (w.heap.size + 1 + 1 + 1) 30 #[.slice (some ⟨w.heap.size + 1, 0, none⟩) n n] :: meetR w.heap.size mo ([], be, []) :: Y) ∧ Below B w (((((w.alloc (.cells #[.slice none 0 0, .slice none 0 0, .int .i64 (be : Int), .int .i64 (mo : Int)] 57)).alloc (.cells (madeCells #[Value.int .i64 0] n) 3)).alloc (.cells (madeCells #[Value.int .u8 0] n) 5)).alloc (.cells #[.slice (some ⟨w.heap.size + 1, 0, none⟩) n n] 30)).drew) := by
  have s0 := meet_new hB hbm hm h
  have s0 := row_new (by simp; omega) hn (z := .int .i64 0) 3 s0
  have s0 := row_new (by simp; omega) hn (z := .int .u8 0) 5 s0
  have s0 := Sep.alloc s0 (by simp; omega) #[.slice (some ⟨w.heap.size + 1, 0, none⟩) n n] 30
  have s0 := s0.drew
  simp only [World.size_alloc] at s0
  refine ⟨s0.rot2.rot3, ?_⟩
  exact ((((((Below.refl B w).alloc hB _).alloc (by simp; try omega) _).alloc (by simp; try omega) _).alloc (by simp; try omega) _).drew)

theorem ord2 {B : Nat} {w : World} {be mo n : Nat} {Y : List Res} (hB : B ≤ w.heap.size) (hbm : be ≤ mo) (hm : mo ≤ 1000) (hn : n ≤ 100000) (h : At B w Y) :
    At B (((((w.alloc (.cells #[.slice none 0 0, .slice none 0 0, .int .i64 (be : Int), .int .i64 (mo : Int)] 57)).alloc (.cells (madeCells #[Value.int .i64 0] n) 3)).alloc (.cells #[.slice (some ⟨w.heap.size + 1, 0, none⟩) n n] 30)).alloc (.cells (madeCells #[Value.int .u8 0] n) 5)).drew) (slRes 3 1 (some ⟨w.heap.size + 1, 0, none⟩) n n (List.replicate n (.int .i64 0)) :: slRes 5 1 (some ⟨w.heap.size + 1 + 1 + 1, 0, none⟩) n n (List.replicate n (.int .u8 0)) :: blkR (w.heap.size + 1 + 1) 30 #[.slice (some ⟨w.heap.size + 1, 0, none⟩) n n] :: meetR w.heap.size mo ([], be, []) :: Y) ∧ Below B w (((((w.alloc (.cells #[.slice none 0 0, .slice none 0 0, .int .i64 (be : Int), .int .i64 (mo : Int)] 57)).alloc (.cells (madeCells #[Value.int .i64 0] n) 3)).alloc (.cells #[.slice (some ⟨w.heap.size + 1, 0, none⟩) n n] 30)).alloc (.cells (madeCells #[Value.int .u8 0] n) 5)).drew) := by
  have s0 := meet_new hB hbm hm h
  have s0 := row_new (by simp; omega) hn (z := .int .i64 0) 3 s0
  have s0 := Sep.alloc s0 (by simp; omega) #[.slice (some ⟨w.heap.size + 1, 0, none⟩) n n] 30
  have s0 := row_new (by simp; omega) hn (z := .int .u8 0) 5 s0
  have s0 := s0.drew
  simp only [World.size_alloc] at s0
  refine ⟨s0.rot2.rot2.rot3, ?_⟩
  exact ((((((Below.refl B w).alloc hB _).alloc (by simp; try omega) _).alloc (by simp; try omega) _).alloc (by simp; try omega) _).drew)

theorem ord3 {B : Nat} {w : World} {be mo n : Nat} {Y : List Res} (hB : B ≤ w.heap.size) (hbm : be ≤ mo) (hm : mo ≤ 1000) (hn : n ≤ 100000) (h : At B w Y) :
    At B (((((w.alloc (.cells #[.slice none 0 0, .slice none 0 0, .int .i64 (be : Int), .int .i64 (mo : Int)] 57)).alloc (.cells (madeCells #[Value.int .u8 0] n) 5)).alloc (.cells (madeCells #[Value.int .i64 0] n) 3)).alloc (.cells #[.slice (some ⟨w.heap.size + 1 + 1, 0, none⟩) n n] 30)).drew) (slRes 3 1 (some ⟨w.heap.size + 1 + 1, 0, none⟩) n n (List.replicate n (.int .i64 0)) :: slRes 5 1 (some ⟨w.heap.size + 1, 0, none⟩) n n (List.replicate n (.int .u8 0)) :: blkR (w.heap.size + 1 + 1 + 1) 30 #[.slice (some ⟨w.heap.size + 1 + 1, 0, none⟩) n n] :: meetR w.heap.size mo ([], be, []) :: Y) ∧ Below B w (((((w.alloc (.cells #[.slice none 0 0, .slice none 0 0, .int .i64 (be : Int), .int .i64 (mo : Int)] 57)).alloc (.cells (madeCells #[Value.int .u8 0] n) 5)).alloc (.cells (madeCells #[Value.int .i64 0] n) 3)).alloc (.cells #[.slice (some ⟨w.heap.size + 1 + 1, 0, none⟩) n n] 30)).drew) := by
  have s0 := meet_new hB hbm hm h
  have s0 := row_new (by simp; omega) hn (z := .int .u8 0) 5 s0
  have s0 := row_new (by simp; omega) hn (z := .int .i64 0) 3 s0
  have s0 := Sep.alloc s0 (by simp; omega) #[.slice (some ⟨w.heap.size + 1 + 1, 0, none⟩) n n] 30
  have s0 := s0.drew
  simp only [World.size_alloc] at s0
  refine ⟨s0.rot3.rot3, ?_⟩
  exact ((((((Below.refl B w).alloc hB _).alloc (by simp; try omega) _).alloc (by simp; try omega) _).alloc (by simp; try omega) _).drew)

theorem ord4 {B : Nat} {w : World} {be mo n : Nat} {Y : List Res} (hB : B ≤ w.heap.size) (hbm : be ≤ mo) (hm : mo ≤ 1000) (hn : n ≤ 100000) (h : At B w Y) :
    At B (((((w.alloc (.cells #[.slice none 0 0, .slice none 0 0, .int .i64 (be : Int), .int .i64 (mo : Int)] 57)).alloc (.cells (madeCells #[Value.int .u8 0] n) 5)).alloc (.cells #[.slice (some ⟨w.heap.size + 1 + 1 + 1, 0, none⟩) n n] 30)).alloc (.cells (madeCells #[Value.int .i64 0] n) 3)).drew) (slRes 3 1 (some ⟨w.heap.size + 1 + 1 + 1, 0, none⟩) n n (List.replicate n (.int .i64 0)) :: slRes 5 1 (some ⟨w.heap.size + 1, 0, none⟩) n n (List.replicate n (.int .u8 0)) :: blkR (w.heap.size + 1 + 1) 30 #[.slice (some ⟨w.heap.size + 1 + 1 + 1, 0, none⟩) n n] :: meetR w.heap.size mo ([], be, []) :: Y) ∧ Below B w (((((w.alloc (.cells #[.slice none 0 0, .slice none 0 0, .int .i64 (be : Int), .int .i64 (mo : Int)] 57)).alloc (.cells (madeCells #[Value.int .u8 0] n) 5)).alloc (.cells #[.slice (some ⟨w.heap.size + 1 + 1 + 1, 0, none⟩) n n] 30)).alloc (.cells (madeCells #[Value.int .i64 0] n) 3)).drew) := by
  have s0 := meet_new hB hbm hm h
  have s0 := row_new (by simp; omega) hn (z := .int .u8 0) 5 s0
  have s0 := Sep.alloc s0 (by simp; omega) #[.slice (some ⟨w.heap.size + 1 + 1 + 1, 0, none⟩) n n] 30
  have s0 := row_new (by simp; omega) hn (z := .int .i64 0) 3 s0
  have s0 := s0.drew
  simp only [World.size_alloc] at s0
  refine ⟨s0.rot2.rot3.rot3, ?_⟩
  exact ((((((Below.refl B w).alloc hB _).alloc (by simp; try omega) _).alloc (by simp; try omega) _).alloc (by simp; try omega) _).drew)

theorem ord5 {B : Nat} {w : World} {be mo n : Nat} {Y : List Res} (hB : B ≤ w.heap.size) (hbm : be ≤ mo) (hm : mo ≤ 1000) (hn : n ≤ 100000) (h : At B w Y) :
    At B (((((w.alloc (.cells #[.slice none 0 0, .slice none 0 0, .int .i64 (be : Int), .int .i64 (mo : Int)] 57)).alloc (.cells #[.slice (some ⟨w.heap.size + 1 + 1, 0, none⟩) n n] 30)).alloc (.cells (madeCells #[Value.int .i64 0] n) 3)).alloc (.cells (madeCells #[Value.int .u8 0] n) 5)).drew) (slRes 3 1 (some ⟨w.heap.size + 1 + 1, 0, none⟩) n n (List.replicate n (.int .i64 0)) :: slRes 5 1 (some ⟨w.heap.size + 1 + 1 + 1, 0, none⟩) n n (List.replicate n (.int .u8 0)) :: blkR (w.heap.size + 1) 30 #[.slice (some ⟨w.heap.size + 1 + 1, 0, none⟩) n n] :: meetR w.heap.size mo ([], be, []) :: Y) ∧ Below B w (((((w.alloc (.cells #[.slice none 0 0, .slice none 0 0, .int .i64 (be : Int), .int .i64 (mo : Int)] 57)).alloc (.cells #[.slice (some ⟨w.heap.size + 1 + 1, 0, none⟩) n n] 30)).alloc (.cells (madeCells #[Value.int .i64 0] n) 3)).alloc (.cells (madeCells #[Value.int .u8 0] n) 5)).drew) := by
  have s0 := meet_new hB hbm hm h
  have s0 := Sep.alloc s0 (by simp; omega) #[.slice (some ⟨w.heap.size + 1 + 1, 0, none⟩) n n] 30
  have s0 := row_new (by simp; omega) hn (z := .int .i64 0) 3 s0
  have s0 := row_new (by simp; omega) hn (z := .int .u8 0) 5 s0
  have s0 := s0.drew
  simp only [World.size_alloc] at s0
  refine ⟨s0.rot3.rot2.rot3, ?_⟩
  exact ((((((Below.refl B w).alloc hB _).alloc (by simp; try omega) _).alloc (by simp; try omega) _).alloc (by simp; try omega) _).drew)

theorem ord6 {B : Nat} {w : World} {be mo n : Nat} {Y : List Res} (hB : B ≤ w.heap.size) (hbm : be ≤ mo) (hm : mo ≤ 1000) (hn : n ≤ 100000) (h : At B w Y) :
    At B (((((w.alloc (.cells #[.slice none 0 0, .slice none 0 0, .int .i64 (be : Int), .int .i64 (mo : Int)] 57)).alloc (.cells #[.slice (some ⟨w.heap.size + 1 + 1 + 1, 0, none⟩) n n] 30)).alloc (.cells (madeCells #[Value.int .u8 0] n) 5)).alloc (.cells (madeCells #[Value.int .i64 0] n) 3)).drew) (slRes 3 1 (some ⟨w.heap.size + 1 + 1 + 1, 0, none⟩) n n (List.replicate n (.int .i64 0)) :: slRes 5 1 (some ⟨w.heap.size + 1 + 1, 0, none⟩) n n (List.replicate n (.int .u8 0)) :: blkR (w.heap.size + 1) 30 #[.slice (some ⟨w.heap.size + 1 + 1 + 1, 0, none⟩) n n] :: meetR w.heap.size mo ([], be, []) :: Y) ∧ Below B w (((((w.alloc (.cells #[.slice none 0 0, .slice none 0 0, .int .i64 (be : Int), .int .i64 (mo : Int)] 57)).alloc (.cells #[.slice (some ⟨w.heap.size + 1 + 1 + 1, 0, none⟩) n n] 30)).alloc (.cells (madeCells #[Value.int .u8 0] n) 5)).alloc (.cells (madeCells #[Value.int .i64 0] n) 3)).drew) := by
  have s0 := meet_new hB hbm hm h
  have s0 := Sep.alloc s0 (by simp; omega) #[.slice (some ⟨w.heap.size + 1 + 1 + 1, 0, none⟩) n n] 30
  have s0 := row_new (by simp; omega) hn (z := .int .u8 0) 5 s0
  have s0 := row_new (by simp; omega) hn (z := .int .i64 0) 3 s0
  have s0 := s0.drew
  simp only [World.size_alloc] at s0
  refine ⟨s0.rot3.rot3.rot3, ?_⟩
  exact ((((((Below.refl B w).alloc hB _).alloc (by simp; try omega) _).alloc (by simp; try omega) _).alloc (by simp; try omega) _).drew)

theorem fillL_const {α : Type} (n : Nat) (x d : α) (f : Nat → α) : fillL n n (fun _ => x) d = fillL n 0 f x := by
  apply List.ext_getElem
  · simp [fillL]
  · intro i h1 h2; simp [fillL] at h1; simp [fillL, h1]
/-- What a pop meets, as a cell. -/
def pV (mo be : Nat) (ops : List (Int × Int)) (i : Nat) : Value := .int .i64 (mPair mo be ops i)
def cV (mo be : Nat) (ops : List (Int × Int)) (i : Nat) : Value := .int .u8 (mCode mo be ops i)
theorem fill_pairs (n mo be : Nat) (ops : List (Int × Int)) (d : Value) : fillL n n (pV mo be ops) d = ((List.range n).map (mPair mo be ops)).map fun x => Value.int .i64 x := by rw [fillL_full, List.map_map]; rfl
theorem fill_codes (n mo be : Nat) (ops : List (Int × Int)) (d : Value) : fillL n n (cV mo be ops) d = ((List.range n).map (mCode mo be ops)).map fun x => Value.int .u8 x := by rw [fillL_full, List.map_map]; rfl
theorem got1_s {B : Nat} {w : World} (hB : B ≤ w.heap.size) {gp q n k : Nat} {xs : List Value} {C : Res} {L : List Res} (h : At B w (slRes 3 1 (some ⟨gp, 0, none⟩) n n xs :: C :: blkR q 30 #[.slice (some ⟨gp, 0, none⟩) n n] :: L)) (hk : k < n) (hn : n ≤ 100000) {u : Value} (hu : xs[k]? = some u) (e j : Int) :
    Calls Try.prog 25 #[.int .i64 (k : Int), .int .i64 e, .int .i64 j, .pointer (some ⟨q, 0, none⟩)] w fun e w' => e = .returned (.tuple #[]) ∧ At B w' (slRes 3 1 (some ⟨gp, 0, none⟩) n n (xs.set k (.int .i64 j)) :: C :: blkR q 30 #[.slice (some ⟨gp, 0, none⟩) n n] :: L) ∧ Below B w w' := by
  have kb : w.cell? ⟨q, 0, none⟩ = some (.slice (some ⟨gp, 0, none⟩) n n) := h.rot3.blk.cell 0
  obtain ⟨k1, k2, k3⟩ := h.slat hB k u hu
  obtain ⟨k4, k5⟩ := k3 (.int .i64 j)
  clear k3 h hu
  go_enter Try.func25, Try.ntmps25
  go_wp2_with fail
  go_end0
  exact ⟨rfl, k4, k5⟩
theorem got_x {B : Nat} {w W : World} {gp gc q n mo be : Nat} {ops : List (Int × Int)} {L : List Res} {k : Nat} {e j : Int} (hk : k < n) (hn : n ≤ 100000) (hj : (mStep mo k (kindAt ops k) (mAt mo be ops k)).2 = (j, 2)) (hle : B ≤ w.heap.size) (hb : Below B w W)
    (hW : At B W (slRes 3 1 (some ⟨gp, 0, none⟩) n n (fillL n k (pV mo be ops) (.int .i64 (-1))) :: slRes 5 1 (some ⟨gc, 0, none⟩) n n (List.replicate n (.int .u8 0)) :: blkR q 30 #[.slice (some ⟨gp, 0, none⟩) n n] :: L)) :
    Calls Try.prog 25 #[.int .i64 (k : Int), .int .i64 e, .int .i64 j, .pointer (some ⟨q, 0, none⟩)] W fun e w' => e = .returned (.tuple #[]) ∧ At B w' (slRes 3 1 (some ⟨gp, 0, none⟩) n n (fillL n (k + 1) (pV mo be ops) (.int .i64 (-1))) :: slRes 5 1 (some ⟨gc, 0, none⟩) n n (List.replicate n (.int .u8 0)) :: blkR q 30 #[.slice (some ⟨gp, 0, none⟩) n n] :: L) ∧ Below B W w' := by
  have := got1_s (Nat.le_trans hle hb.size) hW hk hn (u := .int .i64 (-1)) (by rw [List.getElem?_eq_getElem (by rw [fillL_length]; exact hk), fillL_get _ _ _ _ _ hk, if_neg (by omega)]) e j
  rwa [fillL_succ n k (pV mo be ops) _ _ (by unfold pV mPair; rw [hj])] at this

set_option maxRecDepth 100000 in
set_option maxHeartbeats 4000000 in
theorem Pairs_any (B : Nat) (w : World) (hB : B ≤ w.heap.size) (hv ms : Int) (A : Option Addr) (n c : Nat) (ops : List (Int × Int)) (mo be : Nat) (m1 m2 : Int) (h1 : min ms 1000 = m1) (h2 : max 0 m1 = (mo : Int)) (h3 : min hv (mo : Int) = m2) (h4 : max 0 m2 = (be : Int)) (HN : Hid (ops.length = n)) (h8 : ∀ o ∈ ops, 0 ≤ o.1 ∧ o.1 ≤ 255) (hn : n ≤ 100000) (Y : List Res) (hrd : ∀ W L, Below B w W → At B W (Y ++ L) → ∃ R, Rd W R 2 A n (ops.flatMap opIn)) (h : At B w Y) :
    Calls Try.prog 13 #[.int .i64 hv, .int .i64 ms, .slice A n c] w fun e w' =>
      ∃ gp gc, e = .returned (.tuple #[.slice (some ⟨gp, 0, none⟩) n n, .slice (some ⟨gc, 0, none⟩) n n]) ∧ At B w' (slRes 3 1 (some ⟨gp, 0, none⟩) n n (((List.range n).map (mPair mo be ops)).map fun x => Value.int .i64 x) :: slRes 5 1 (some ⟨gc, 0, none⟩) n n (((List.range n).map (mCode mo be ops)).map fun x => Value.int .u8 x) :: Y) ∧ Below B w w' := by
  have hmk := run_make_row' (P := Try.prog) 30 3 (.int .i64 0) 8 Try.underlying30 info_int rfl .i64 .i64 n (by omega) (by omega)
  have hmk2 := run_make_row' (P := Try.prog) 23 5 (.int .u8 0) 1 Try.underlying23 info_u8 rfl .i64 .i64 n (by omega) (by omega)
  have e1 := min_ii (k := .i64) h1
  have e2 := max_ii (k := .i64) h2
  have e3 := min_ii (k := .i64) h3
  have e4 := max_ii (k := .i64) h4
  have hm : mo ≤ 1000 := by omega
  have hbm : be ≤ mo := by omega
  clear h1 h2 h3 h4
  go_enter Try.func13, Try.ntmps13
  go_wp2
  go_region
  all_goals clear hmk hmk2 e1 e2 e3 e4
  · obtain ⟨s1, b1⟩ := ord1 hB hbm hm hn h
    have hBW := Nat.le_trans hB b1.size
    generalize (((((w.alloc (.cells #[.slice none 0 0, .slice none 0 0, .int .i64 (be : Int), .int .i64 (mo : Int)] 57)).alloc (.cells (madeCells #[Value.int .i64 0] n) 3)).alloc (.cells (madeCells #[Value.int .u8 0] n) 5)).alloc (.cells #[.slice (some ⟨w.heap.size + 1, 0, none⟩) n n] 30)).drew) = W at *
    generalize w.heap.size + 1 + 1 + 1 = g3 at *
    generalize w.heap.size + 1 + 1 = g2 at *
    generalize w.heap.size + 1 = g1 at *
    generalize w.heap.size = p at *
    have kb : W.cell? ⟨g3, 0, none⟩ = some (.slice (some ⟨g1, 0, none⟩) n n) := s1.rot3.blk.cell 0
    go_wp2_with fail
    go_loopg [32] n (fun g k wr => ∃ m : Nat, m + g = n ∧ k = .int .i64 (m : Int) ∧ At B wr (slRes 3 1 (some ⟨g1, 0, none⟩) n n (fillL n m (fun _ => .int .i64 (-1)) (.int .i64 0)) :: slRes 5 1 (some ⟨g2, 0, none⟩) n n (List.replicate n (.int .u8 0)) :: blkR g3 30 #[.slice (some ⟨g1, 0, none⟩) n n] :: meetR p mo ([], be, []) :: Y) ∧ Below B w wr ∧ B ≤ wr.heap.size)
    case atStart => exact ⟨0, by omega, rfl, by rw [fillL_zero]; exact s1, b1, hBW⟩
    case round =>
      clear s1 b1 kb hBW
      obtain ⟨m, hmg, rfl, s2, b2, hle⟩ := hrel
      have kb : wr.cell? ⟨g3, 0, none⟩ = some (.slice (some ⟨g1, 0, none⟩) n n) := s2.rot3.blk.cell 0
      by_cases hlt : m < n
      · obtain ⟨k1, k2, k3⟩ := s2.slat hle m (.int .i64 0) (by rw [List.getElem?_eq_getElem (by rw [fillL_length]; exact hlt), fillL_get _ _ _ _ _ hlt, if_neg (by omega)])
        obtain ⟨k4, k5⟩ := k3 (.int .i64 (-1))
        rw [fillL_succ _ _ _ _ _ rfl] at k4
        have b3 := b2.trans k5
        have hle3 : B ≤ (wr.setCell ⟨g1, m, none⟩ (.int .i64 (-1))).heap.size := Nat.le_trans hle k5.size
        clear k3 k5 s2
        go_wp2_with fail
        go_roundg (gk - 1)
        case measure => omega
        case rel => exact ⟨m + 1, by omega, by go_num, k4, b3, hle3⟩
      · obtain rfl : m = n := by omega
        rw [fillL_const _ _ _ (pV mo be ops)] at s2
        have hall := all_pairs g3 B wr hle p mo be hbm hm A m c ops HN.out h8 hn (fun k => slRes 3 1 (some ⟨g1, 0, none⟩) m m (fillL m k (pV mo be ops) (.int .i64 (-1))) :: slRes 5 1 (some ⟨g2, 0, none⟩) m m (List.replicate m (.int .u8 0)) :: blkR g3 30 #[.slice (some ⟨g1, 0, none⟩) m m] :: Y)
          (fun k W L hb hW => hrd W L (b2.trans hb) (Sep.drop (Sep.drop (Sep.drop hW))))
          (fun k e pr W L hk hst hkd hb hW => got_x hk hn hst hle hb hW) (fun k hk hc => by rw [fillL_keep _ _ _ _ (by unfold pV; rw [pair_code hc])]) s2.rot4
        have b9 := b2
        clear s2 hrd
        go_wp2_with fail
        refine hall.mono ?_
        rintro e w3 ⟨g, rfl, s3, b3⟩
        have hle3 : B ≤ w3.heap.size := Nat.le_trans hle b3.size
        have b3 := b9.trans b3
        clear hall b9
        have s3 := s3.rot2.drop
        have kb : w3.cell? ⟨g3, 0, none⟩ = some (.slice (some ⟨g1, 0, none⟩) m m) := s3.rot4.blk.cell 0
        go_wp2_with fail
        go_loopg [44] m (fun g' k wr => ∃ k' : Nat, k' + g' = m ∧ k = .int .i64 (k' : Int) ∧ At B wr (slRes 5 1 (some ⟨g2, 0, none⟩) m m (fillL m k' (cV mo be ops) (.int .u8 0)) :: slRes 42 2 (some ⟨g, 0, none⟩) m m ((fillL m m (fun i => (mCode mo be ops i, 0)) (0, 0)).flatMap resIn) :: slRes 3 1 (some ⟨g1, 0, none⟩) m m (fillL m m (pV mo be ops) (.int .i64 (-1))) :: blkR g3 30 #[.slice (some ⟨g1, 0, none⟩) m m] :: Y) ∧ Below B w wr ∧ B ≤ wr.heap.size)
        case atStart => exact ⟨0, by omega, rfl, by rw [fillL_zero]; exact s3.rot3, b3, hle3⟩
        case round =>
          clear s3 b3 kb hle3 hle b2
          obtain ⟨k, hk, rfl, s4, b4, hle4⟩ := hrel
          have kb : wr.cell? ⟨g3, 0, none⟩ = some (.slice (some ⟨g1, 0, none⟩) m m) := s4.rot4.blk.cell 0
          by_cases hlt2 : k < m
          · have hfl : k < (fillL m m (fun i => (mCode mo be ops i, 0)) ((0, 0) : Int × Int)).length := by rw [fillL_length]; exact hlt2
            obtain ⟨t0, t1⟩ := res_at _ k hfl
            rw [fillL_get _ _ _ _ _ hlt2, if_pos hlt2] at t0 t1
            have c0 : wr.cell? ⟨g, k * 2, none⟩ = some (.int .u8 (mCode mo be ops k)) := (s4.rot2.slat hle4 _ _ t0).1
            have c1 : wr.cell? ⟨g, k * 2 + 1, none⟩ = some (.int .i32 0) := (s4.rot2.slat hle4 _ _ t1).1
            have s5 : At B (wr.alloc (.cells #[.int .u8 (mCode mo be ops k), .int .i32 0] 42)) _ := s4.keep ((Below.refl _ wr).alloc (Nat.le_refl _) _)
            have b5 := b4.alloc hle4 (.cells #[.int .u8 (mCode mo be ops k), .int .i32 0] 42)
            have hle5 : B ≤ (wr.alloc (.cells #[.int .u8 (mCode mo be ops k), .int .i32 0] 42)).heap.size := by simp; omega
            obtain ⟨k1, k2, k3⟩ := s5.slat hle5 k (.int .u8 0) (by rw [List.getElem?_eq_getElem (by rw [fillL_length]; exact hlt2), fillL_get _ _ _ _ _ hlt2, if_neg (by omega)])
            obtain ⟨k4, k5⟩ := k3 (.int .u8 (mCode mo be ops k))
            rw [fillL_succ m k (cV mo be ops) (.int .u8 0) (.int .u8 (mCode mo be ops k)) rfl] at k4
            have b6 := b5.trans k5
            have hle6 := Nat.le_trans hle5 k5.size
            clear t0 t1 hfl s4 s5 b4 b5 k3 k5 kb
            generalize mCode mo be ops k = cc at *
            go_wp2_with fail
            go_roundg (gk - 1)
            case measure => omega
            case rel => exact ⟨k + 1, by omega, by go_num, k4, b6, hle6⟩
          · obtain rfl : k = m := by omega
            go_wp2_with fail
            go_ret2
            rw [fill_pairs, fill_codes] at s4
            exact ⟨g1, g2, rfl, (s4.rot3.cons fun _ h => (Sep.cons (fun _ h => Sep.drop (Sep.drop h)) h)), b4⟩
  · obtain ⟨s1, b1⟩ := ord2 hB hbm hm hn h
    have hBW := Nat.le_trans hB b1.size
    generalize (((((w.alloc (.cells #[.slice none 0 0, .slice none 0 0, .int .i64 (be : Int), .int .i64 (mo : Int)] 57)).alloc (.cells (madeCells #[Value.int .i64 0] n) 3)).alloc (.cells #[.slice (some ⟨w.heap.size + 1, 0, none⟩) n n] 30)).alloc (.cells (madeCells #[Value.int .u8 0] n) 5)).drew) = W at *
    generalize w.heap.size + 1 + 1 + 1 = g3 at *
    generalize w.heap.size + 1 + 1 = g2 at *
    generalize w.heap.size + 1 = g1 at *
    generalize w.heap.size = p at *
    have kb : W.cell? ⟨g2, 0, none⟩ = some (.slice (some ⟨g1, 0, none⟩) n n) := s1.rot3.blk.cell 0
    go_wp2_with fail
    go_loopg [32] n (fun g k wr => ∃ m : Nat, m + g = n ∧ k = .int .i64 (m : Int) ∧ At B wr (slRes 3 1 (some ⟨g1, 0, none⟩) n n (fillL n m (fun _ => .int .i64 (-1)) (.int .i64 0)) :: slRes 5 1 (some ⟨g3, 0, none⟩) n n (List.replicate n (.int .u8 0)) :: blkR g2 30 #[.slice (some ⟨g1, 0, none⟩) n n] :: meetR p mo ([], be, []) :: Y) ∧ Below B w wr ∧ B ≤ wr.heap.size)
    case atStart => exact ⟨0, by omega, rfl, by rw [fillL_zero]; exact s1, b1, hBW⟩
    case round =>
      clear s1 b1 kb hBW
      obtain ⟨m, hmg, rfl, s2, b2, hle⟩ := hrel
      have kb : wr.cell? ⟨g2, 0, none⟩ = some (.slice (some ⟨g1, 0, none⟩) n n) := s2.rot3.blk.cell 0
      by_cases hlt : m < n
      · obtain ⟨k1, k2, k3⟩ := s2.slat hle m (.int .i64 0) (by rw [List.getElem?_eq_getElem (by rw [fillL_length]; exact hlt), fillL_get _ _ _ _ _ hlt, if_neg (by omega)])
        obtain ⟨k4, k5⟩ := k3 (.int .i64 (-1))
        rw [fillL_succ _ _ _ _ _ rfl] at k4
        have b3 := b2.trans k5
        have hle3 : B ≤ (wr.setCell ⟨g1, m, none⟩ (.int .i64 (-1))).heap.size := Nat.le_trans hle k5.size
        clear k3 k5 s2
        go_wp2_with fail
        go_roundg (gk - 1)
        case measure => omega
        case rel => exact ⟨m + 1, by omega, by go_num, k4, b3, hle3⟩
      · obtain rfl : m = n := by omega
        rw [fillL_const _ _ _ (pV mo be ops)] at s2
        have hall := all_pairs g2 B wr hle p mo be hbm hm A m c ops HN.out h8 hn (fun k => slRes 3 1 (some ⟨g1, 0, none⟩) m m (fillL m k (pV mo be ops) (.int .i64 (-1))) :: slRes 5 1 (some ⟨g3, 0, none⟩) m m (List.replicate m (.int .u8 0)) :: blkR g2 30 #[.slice (some ⟨g1, 0, none⟩) m m] :: Y)
          (fun k W L hb hW => hrd W L (b2.trans hb) (Sep.drop (Sep.drop (Sep.drop hW))))
          (fun k e pr W L hk hst hkd hb hW => got_x hk hn hst hle hb hW) (fun k hk hc => by rw [fillL_keep _ _ _ _ (by unfold pV; rw [pair_code hc])]) s2.rot4
        have b9 := b2
        clear s2 hrd
        go_wp2_with fail
        refine hall.mono ?_
        rintro e w3 ⟨g, rfl, s3, b3⟩
        have hle3 : B ≤ w3.heap.size := Nat.le_trans hle b3.size
        have b3 := b9.trans b3
        clear hall b9
        have s3 := s3.rot2.drop
        have kb : w3.cell? ⟨g2, 0, none⟩ = some (.slice (some ⟨g1, 0, none⟩) m m) := s3.rot4.blk.cell 0
        go_wp2_with fail
        go_loopg [44] m (fun g' k wr => ∃ k' : Nat, k' + g' = m ∧ k = .int .i64 (k' : Int) ∧ At B wr (slRes 5 1 (some ⟨g3, 0, none⟩) m m (fillL m k' (cV mo be ops) (.int .u8 0)) :: slRes 42 2 (some ⟨g, 0, none⟩) m m ((fillL m m (fun i => (mCode mo be ops i, 0)) (0, 0)).flatMap resIn) :: slRes 3 1 (some ⟨g1, 0, none⟩) m m (fillL m m (pV mo be ops) (.int .i64 (-1))) :: blkR g2 30 #[.slice (some ⟨g1, 0, none⟩) m m] :: Y) ∧ Below B w wr ∧ B ≤ wr.heap.size)
        case atStart => exact ⟨0, by omega, rfl, by rw [fillL_zero]; exact s3.rot3, b3, hle3⟩
        case round =>
          clear s3 b3 kb hle3 hle b2
          obtain ⟨k, hk, rfl, s4, b4, hle4⟩ := hrel
          have kb : wr.cell? ⟨g2, 0, none⟩ = some (.slice (some ⟨g1, 0, none⟩) m m) := s4.rot4.blk.cell 0
          by_cases hlt2 : k < m
          · have hfl : k < (fillL m m (fun i => (mCode mo be ops i, 0)) ((0, 0) : Int × Int)).length := by rw [fillL_length]; exact hlt2
            obtain ⟨t0, t1⟩ := res_at _ k hfl
            rw [fillL_get _ _ _ _ _ hlt2, if_pos hlt2] at t0 t1
            have c0 : wr.cell? ⟨g, k * 2, none⟩ = some (.int .u8 (mCode mo be ops k)) := (s4.rot2.slat hle4 _ _ t0).1
            have c1 : wr.cell? ⟨g, k * 2 + 1, none⟩ = some (.int .i32 0) := (s4.rot2.slat hle4 _ _ t1).1
            have s5 : At B (wr.alloc (.cells #[.int .u8 (mCode mo be ops k), .int .i32 0] 42)) _ := s4.keep ((Below.refl _ wr).alloc (Nat.le_refl _) _)
            have b5 := b4.alloc hle4 (.cells #[.int .u8 (mCode mo be ops k), .int .i32 0] 42)
            have hle5 : B ≤ (wr.alloc (.cells #[.int .u8 (mCode mo be ops k), .int .i32 0] 42)).heap.size := by simp; omega
            obtain ⟨k1, k2, k3⟩ := s5.slat hle5 k (.int .u8 0) (by rw [List.getElem?_eq_getElem (by rw [fillL_length]; exact hlt2), fillL_get _ _ _ _ _ hlt2, if_neg (by omega)])
            obtain ⟨k4, k5⟩ := k3 (.int .u8 (mCode mo be ops k))
            rw [fillL_succ m k (cV mo be ops) (.int .u8 0) (.int .u8 (mCode mo be ops k)) rfl] at k4
            have b6 := b5.trans k5
            have hle6 := Nat.le_trans hle5 k5.size
            clear t0 t1 hfl s4 s5 b4 b5 k3 k5 kb
            generalize mCode mo be ops k = cc at *
            go_wp2_with fail
            go_roundg (gk - 1)
            case measure => omega
            case rel => exact ⟨k + 1, by omega, by go_num, k4, b6, hle6⟩
          · obtain rfl : k = m := by omega
            go_wp2_with fail
            go_ret2
            rw [fill_pairs, fill_codes] at s4
            exact ⟨g1, g3, rfl, (s4.rot3.cons fun _ h => (Sep.cons (fun _ h => Sep.drop (Sep.drop h)) h)), b4⟩
  · obtain ⟨s1, b1⟩ := ord3 hB hbm hm hn h
    have hBW := Nat.le_trans hB b1.size
    generalize (((((w.alloc (.cells #[.slice none 0 0, .slice none 0 0, .int .i64 (be : Int), .int .i64 (mo : Int)] 57)).alloc (.cells (madeCells #[Value.int .u8 0] n) 5)).alloc (.cells (madeCells #[Value.int .i64 0] n) 3)).alloc (.cells #[.slice (some ⟨w.heap.size + 1 + 1, 0, none⟩) n n] 30)).drew) = W at *
    generalize w.heap.size + 1 + 1 + 1 = g3 at *
    generalize w.heap.size + 1 + 1 = g2 at *
    generalize w.heap.size + 1 = g1 at *
    generalize w.heap.size = p at *
    have kb : W.cell? ⟨g3, 0, none⟩ = some (.slice (some ⟨g2, 0, none⟩) n n) := s1.rot3.blk.cell 0
    go_wp2_with fail
    go_loopg [32] n (fun g k wr => ∃ m : Nat, m + g = n ∧ k = .int .i64 (m : Int) ∧ At B wr (slRes 3 1 (some ⟨g2, 0, none⟩) n n (fillL n m (fun _ => .int .i64 (-1)) (.int .i64 0)) :: slRes 5 1 (some ⟨g1, 0, none⟩) n n (List.replicate n (.int .u8 0)) :: blkR g3 30 #[.slice (some ⟨g2, 0, none⟩) n n] :: meetR p mo ([], be, []) :: Y) ∧ Below B w wr ∧ B ≤ wr.heap.size)
    case atStart => exact ⟨0, by omega, rfl, by rw [fillL_zero]; exact s1, b1, hBW⟩
    case round =>
      clear s1 b1 kb hBW
      obtain ⟨m, hmg, rfl, s2, b2, hle⟩ := hrel
      have kb : wr.cell? ⟨g3, 0, none⟩ = some (.slice (some ⟨g2, 0, none⟩) n n) := s2.rot3.blk.cell 0
      by_cases hlt : m < n
      · obtain ⟨k1, k2, k3⟩ := s2.slat hle m (.int .i64 0) (by rw [List.getElem?_eq_getElem (by rw [fillL_length]; exact hlt), fillL_get _ _ _ _ _ hlt, if_neg (by omega)])
        obtain ⟨k4, k5⟩ := k3 (.int .i64 (-1))
        rw [fillL_succ _ _ _ _ _ rfl] at k4
        have b3 := b2.trans k5
        have hle3 : B ≤ (wr.setCell ⟨g2, m, none⟩ (.int .i64 (-1))).heap.size := Nat.le_trans hle k5.size
        clear k3 k5 s2
        go_wp2_with fail
        go_roundg (gk - 1)
        case measure => omega
        case rel => exact ⟨m + 1, by omega, by go_num, k4, b3, hle3⟩
      · obtain rfl : m = n := by omega
        rw [fillL_const _ _ _ (pV mo be ops)] at s2
        have hall := all_pairs g3 B wr hle p mo be hbm hm A m c ops HN.out h8 hn (fun k => slRes 3 1 (some ⟨g2, 0, none⟩) m m (fillL m k (pV mo be ops) (.int .i64 (-1))) :: slRes 5 1 (some ⟨g1, 0, none⟩) m m (List.replicate m (.int .u8 0)) :: blkR g3 30 #[.slice (some ⟨g2, 0, none⟩) m m] :: Y)
          (fun k W L hb hW => hrd W L (b2.trans hb) (Sep.drop (Sep.drop (Sep.drop hW))))
          (fun k e pr W L hk hst hkd hb hW => got_x hk hn hst hle hb hW) (fun k hk hc => by rw [fillL_keep _ _ _ _ (by unfold pV; rw [pair_code hc])]) s2.rot4
        have b9 := b2
        clear s2 hrd
        go_wp2_with fail
        refine hall.mono ?_
        rintro e w3 ⟨g, rfl, s3, b3⟩
        have hle3 : B ≤ w3.heap.size := Nat.le_trans hle b3.size
        have b3 := b9.trans b3
        clear hall b9
        have s3 := s3.rot2.drop
        have kb : w3.cell? ⟨g3, 0, none⟩ = some (.slice (some ⟨g2, 0, none⟩) m m) := s3.rot4.blk.cell 0
        go_wp2_with fail
        go_loopg [44] m (fun g' k wr => ∃ k' : Nat, k' + g' = m ∧ k = .int .i64 (k' : Int) ∧ At B wr (slRes 5 1 (some ⟨g1, 0, none⟩) m m (fillL m k' (cV mo be ops) (.int .u8 0)) :: slRes 42 2 (some ⟨g, 0, none⟩) m m ((fillL m m (fun i => (mCode mo be ops i, 0)) (0, 0)).flatMap resIn) :: slRes 3 1 (some ⟨g2, 0, none⟩) m m (fillL m m (pV mo be ops) (.int .i64 (-1))) :: blkR g3 30 #[.slice (some ⟨g2, 0, none⟩) m m] :: Y) ∧ Below B w wr ∧ B ≤ wr.heap.size)
        case atStart => exact ⟨0, by omega, rfl, by rw [fillL_zero]; exact s3.rot3, b3, hle3⟩
        case round =>
          clear s3 b3 kb hle3 hle b2
          obtain ⟨k, hk, rfl, s4, b4, hle4⟩ := hrel
          have kb : wr.cell? ⟨g3, 0, none⟩ = some (.slice (some ⟨g2, 0, none⟩) m m) := s4.rot4.blk.cell 0
          by_cases hlt2 : k < m
          · have hfl : k < (fillL m m (fun i => (mCode mo be ops i, 0)) ((0, 0) : Int × Int)).length := by rw [fillL_length]; exact hlt2
            obtain ⟨t0, t1⟩ := res_at _ k hfl
            rw [fillL_get _ _ _ _ _ hlt2, if_pos hlt2] at t0 t1
            have c0 : wr.cell? ⟨g, k * 2, none⟩ = some (.int .u8 (mCode mo be ops k)) := (s4.rot2.slat hle4 _ _ t0).1
            have c1 : wr.cell? ⟨g, k * 2 + 1, none⟩ = some (.int .i32 0) := (s4.rot2.slat hle4 _ _ t1).1
            have s5 : At B (wr.alloc (.cells #[.int .u8 (mCode mo be ops k), .int .i32 0] 42)) _ := s4.keep ((Below.refl _ wr).alloc (Nat.le_refl _) _)
            have b5 := b4.alloc hle4 (.cells #[.int .u8 (mCode mo be ops k), .int .i32 0] 42)
            have hle5 : B ≤ (wr.alloc (.cells #[.int .u8 (mCode mo be ops k), .int .i32 0] 42)).heap.size := by simp; omega
            obtain ⟨k1, k2, k3⟩ := s5.slat hle5 k (.int .u8 0) (by rw [List.getElem?_eq_getElem (by rw [fillL_length]; exact hlt2), fillL_get _ _ _ _ _ hlt2, if_neg (by omega)])
            obtain ⟨k4, k5⟩ := k3 (.int .u8 (mCode mo be ops k))
            rw [fillL_succ m k (cV mo be ops) (.int .u8 0) (.int .u8 (mCode mo be ops k)) rfl] at k4
            have b6 := b5.trans k5
            have hle6 := Nat.le_trans hle5 k5.size
            clear t0 t1 hfl s4 s5 b4 b5 k3 k5 kb
            generalize mCode mo be ops k = cc at *
            go_wp2_with fail
            go_roundg (gk - 1)
            case measure => omega
            case rel => exact ⟨k + 1, by omega, by go_num, k4, b6, hle6⟩
          · obtain rfl : k = m := by omega
            go_wp2_with fail
            go_ret2
            rw [fill_pairs, fill_codes] at s4
            exact ⟨g2, g1, rfl, (s4.rot3.cons fun _ h => (Sep.cons (fun _ h => Sep.drop (Sep.drop h)) h)), b4⟩
  · obtain ⟨s1, b1⟩ := ord4 hB hbm hm hn h
    have hBW := Nat.le_trans hB b1.size
    generalize (((((w.alloc (.cells #[.slice none 0 0, .slice none 0 0, .int .i64 (be : Int), .int .i64 (mo : Int)] 57)).alloc (.cells (madeCells #[Value.int .u8 0] n) 5)).alloc (.cells #[.slice (some ⟨w.heap.size + 1 + 1 + 1, 0, none⟩) n n] 30)).alloc (.cells (madeCells #[Value.int .i64 0] n) 3)).drew) = W at *
    generalize w.heap.size + 1 + 1 + 1 = g3 at *
    generalize w.heap.size + 1 + 1 = g2 at *
    generalize w.heap.size + 1 = g1 at *
    generalize w.heap.size = p at *
    have kb : W.cell? ⟨g2, 0, none⟩ = some (.slice (some ⟨g3, 0, none⟩) n n) := s1.rot3.blk.cell 0
    go_wp2_with fail
    go_loopg [32] n (fun g k wr => ∃ m : Nat, m + g = n ∧ k = .int .i64 (m : Int) ∧ At B wr (slRes 3 1 (some ⟨g3, 0, none⟩) n n (fillL n m (fun _ => .int .i64 (-1)) (.int .i64 0)) :: slRes 5 1 (some ⟨g1, 0, none⟩) n n (List.replicate n (.int .u8 0)) :: blkR g2 30 #[.slice (some ⟨g3, 0, none⟩) n n] :: meetR p mo ([], be, []) :: Y) ∧ Below B w wr ∧ B ≤ wr.heap.size)
    case atStart => exact ⟨0, by omega, rfl, by rw [fillL_zero]; exact s1, b1, hBW⟩
    case round =>
      clear s1 b1 kb hBW
      obtain ⟨m, hmg, rfl, s2, b2, hle⟩ := hrel
      have kb : wr.cell? ⟨g2, 0, none⟩ = some (.slice (some ⟨g3, 0, none⟩) n n) := s2.rot3.blk.cell 0
      by_cases hlt : m < n
      · obtain ⟨k1, k2, k3⟩ := s2.slat hle m (.int .i64 0) (by rw [List.getElem?_eq_getElem (by rw [fillL_length]; exact hlt), fillL_get _ _ _ _ _ hlt, if_neg (by omega)])
        obtain ⟨k4, k5⟩ := k3 (.int .i64 (-1))
        rw [fillL_succ _ _ _ _ _ rfl] at k4
        have b3 := b2.trans k5
        have hle3 : B ≤ (wr.setCell ⟨g3, m, none⟩ (.int .i64 (-1))).heap.size := Nat.le_trans hle k5.size
        clear k3 k5 s2
        go_wp2_with fail
        go_roundg (gk - 1)
        case measure => omega
        case rel => exact ⟨m + 1, by omega, by go_num, k4, b3, hle3⟩
      · obtain rfl : m = n := by omega
        rw [fillL_const _ _ _ (pV mo be ops)] at s2
        have hall := all_pairs g2 B wr hle p mo be hbm hm A m c ops HN.out h8 hn (fun k => slRes 3 1 (some ⟨g3, 0, none⟩) m m (fillL m k (pV mo be ops) (.int .i64 (-1))) :: slRes 5 1 (some ⟨g1, 0, none⟩) m m (List.replicate m (.int .u8 0)) :: blkR g2 30 #[.slice (some ⟨g3, 0, none⟩) m m] :: Y)
          (fun k W L hb hW => hrd W L (b2.trans hb) (Sep.drop (Sep.drop (Sep.drop hW))))
          (fun k e pr W L hk hst hkd hb hW => got_x hk hn hst hle hb hW) (fun k hk hc => by rw [fillL_keep _ _ _ _ (by unfold pV; rw [pair_code hc])]) s2.rot4
        have b9 := b2
        clear s2 hrd
        go_wp2_with fail
        refine hall.mono ?_
        rintro e w3 ⟨g, rfl, s3, b3⟩
        have hle3 : B ≤ w3.heap.size := Nat.le_trans hle b3.size
        have b3 := b9.trans b3
        clear hall b9
        have s3 := s3.rot2.drop
        have kb : w3.cell? ⟨g2, 0, none⟩ = some (.slice (some ⟨g3, 0, none⟩) m m) := s3.rot4.blk.cell 0
        go_wp2_with fail
        go_loopg [44] m (fun g' k wr => ∃ k' : Nat, k' + g' = m ∧ k = .int .i64 (k' : Int) ∧ At B wr (slRes 5 1 (some ⟨g1, 0, none⟩) m m (fillL m k' (cV mo be ops) (.int .u8 0)) :: slRes 42 2 (some ⟨g, 0, none⟩) m m ((fillL m m (fun i => (mCode mo be ops i, 0)) (0, 0)).flatMap resIn) :: slRes 3 1 (some ⟨g3, 0, none⟩) m m (fillL m m (pV mo be ops) (.int .i64 (-1))) :: blkR g2 30 #[.slice (some ⟨g3, 0, none⟩) m m] :: Y) ∧ Below B w wr ∧ B ≤ wr.heap.size)
        case atStart => exact ⟨0, by omega, rfl, by rw [fillL_zero]; exact s3.rot3, b3, hle3⟩
        case round =>
          clear s3 b3 kb hle3 hle b2
          obtain ⟨k, hk, rfl, s4, b4, hle4⟩ := hrel
          have kb : wr.cell? ⟨g2, 0, none⟩ = some (.slice (some ⟨g3, 0, none⟩) m m) := s4.rot4.blk.cell 0
          by_cases hlt2 : k < m
          · have hfl : k < (fillL m m (fun i => (mCode mo be ops i, 0)) ((0, 0) : Int × Int)).length := by rw [fillL_length]; exact hlt2
            obtain ⟨t0, t1⟩ := res_at _ k hfl
            rw [fillL_get _ _ _ _ _ hlt2, if_pos hlt2] at t0 t1
            have c0 : wr.cell? ⟨g, k * 2, none⟩ = some (.int .u8 (mCode mo be ops k)) := (s4.rot2.slat hle4 _ _ t0).1
            have c1 : wr.cell? ⟨g, k * 2 + 1, none⟩ = some (.int .i32 0) := (s4.rot2.slat hle4 _ _ t1).1
            have s5 : At B (wr.alloc (.cells #[.int .u8 (mCode mo be ops k), .int .i32 0] 42)) _ := s4.keep ((Below.refl _ wr).alloc (Nat.le_refl _) _)
            have b5 := b4.alloc hle4 (.cells #[.int .u8 (mCode mo be ops k), .int .i32 0] 42)
            have hle5 : B ≤ (wr.alloc (.cells #[.int .u8 (mCode mo be ops k), .int .i32 0] 42)).heap.size := by simp; omega
            obtain ⟨k1, k2, k3⟩ := s5.slat hle5 k (.int .u8 0) (by rw [List.getElem?_eq_getElem (by rw [fillL_length]; exact hlt2), fillL_get _ _ _ _ _ hlt2, if_neg (by omega)])
            obtain ⟨k4, k5⟩ := k3 (.int .u8 (mCode mo be ops k))
            rw [fillL_succ m k (cV mo be ops) (.int .u8 0) (.int .u8 (mCode mo be ops k)) rfl] at k4
            have b6 := b5.trans k5
            have hle6 := Nat.le_trans hle5 k5.size
            clear t0 t1 hfl s4 s5 b4 b5 k3 k5 kb
            generalize mCode mo be ops k = cc at *
            go_wp2_with fail
            go_roundg (gk - 1)
            case measure => omega
            case rel => exact ⟨k + 1, by omega, by go_num, k4, b6, hle6⟩
          · obtain rfl : k = m := by omega
            go_wp2_with fail
            go_ret2
            rw [fill_pairs, fill_codes] at s4
            exact ⟨g3, g1, rfl, (s4.rot3.cons fun _ h => (Sep.cons (fun _ h => Sep.drop (Sep.drop h)) h)), b4⟩
  · obtain ⟨s1, b1⟩ := ord5 hB hbm hm hn h
    have hBW := Nat.le_trans hB b1.size
    generalize (((((w.alloc (.cells #[.slice none 0 0, .slice none 0 0, .int .i64 (be : Int), .int .i64 (mo : Int)] 57)).alloc (.cells #[.slice (some ⟨w.heap.size + 1 + 1, 0, none⟩) n n] 30)).alloc (.cells (madeCells #[Value.int .i64 0] n) 3)).alloc (.cells (madeCells #[Value.int .u8 0] n) 5)).drew) = W at *
    generalize w.heap.size + 1 + 1 + 1 = g3 at *
    generalize w.heap.size + 1 + 1 = g2 at *
    generalize w.heap.size + 1 = g1 at *
    generalize w.heap.size = p at *
    have kb : W.cell? ⟨g1, 0, none⟩ = some (.slice (some ⟨g2, 0, none⟩) n n) := s1.rot3.blk.cell 0
    go_wp2_with fail
    go_loopg [32] n (fun g k wr => ∃ m : Nat, m + g = n ∧ k = .int .i64 (m : Int) ∧ At B wr (slRes 3 1 (some ⟨g2, 0, none⟩) n n (fillL n m (fun _ => .int .i64 (-1)) (.int .i64 0)) :: slRes 5 1 (some ⟨g3, 0, none⟩) n n (List.replicate n (.int .u8 0)) :: blkR g1 30 #[.slice (some ⟨g2, 0, none⟩) n n] :: meetR p mo ([], be, []) :: Y) ∧ Below B w wr ∧ B ≤ wr.heap.size)
    case atStart => exact ⟨0, by omega, rfl, by rw [fillL_zero]; exact s1, b1, hBW⟩
    case round =>
      clear s1 b1 kb hBW
      obtain ⟨m, hmg, rfl, s2, b2, hle⟩ := hrel
      have kb : wr.cell? ⟨g1, 0, none⟩ = some (.slice (some ⟨g2, 0, none⟩) n n) := s2.rot3.blk.cell 0
      by_cases hlt : m < n
      · obtain ⟨k1, k2, k3⟩ := s2.slat hle m (.int .i64 0) (by rw [List.getElem?_eq_getElem (by rw [fillL_length]; exact hlt), fillL_get _ _ _ _ _ hlt, if_neg (by omega)])
        obtain ⟨k4, k5⟩ := k3 (.int .i64 (-1))
        rw [fillL_succ _ _ _ _ _ rfl] at k4
        have b3 := b2.trans k5
        have hle3 : B ≤ (wr.setCell ⟨g2, m, none⟩ (.int .i64 (-1))).heap.size := Nat.le_trans hle k5.size
        clear k3 k5 s2
        go_wp2_with fail
        go_roundg (gk - 1)
        case measure => omega
        case rel => exact ⟨m + 1, by omega, by go_num, k4, b3, hle3⟩
      · obtain rfl : m = n := by omega
        rw [fillL_const _ _ _ (pV mo be ops)] at s2
        have hall := all_pairs g1 B wr hle p mo be hbm hm A m c ops HN.out h8 hn (fun k => slRes 3 1 (some ⟨g2, 0, none⟩) m m (fillL m k (pV mo be ops) (.int .i64 (-1))) :: slRes 5 1 (some ⟨g3, 0, none⟩) m m (List.replicate m (.int .u8 0)) :: blkR g1 30 #[.slice (some ⟨g2, 0, none⟩) m m] :: Y)
          (fun k W L hb hW => hrd W L (b2.trans hb) (Sep.drop (Sep.drop (Sep.drop hW))))
          (fun k e pr W L hk hst hkd hb hW => got_x hk hn hst hle hb hW) (fun k hk hc => by rw [fillL_keep _ _ _ _ (by unfold pV; rw [pair_code hc])]) s2.rot4
        have b9 := b2
        clear s2 hrd
        go_wp2_with fail
        refine hall.mono ?_
        rintro e w3 ⟨g, rfl, s3, b3⟩
        have hle3 : B ≤ w3.heap.size := Nat.le_trans hle b3.size
        have b3 := b9.trans b3
        clear hall b9
        have s3 := s3.rot2.drop
        have kb : w3.cell? ⟨g1, 0, none⟩ = some (.slice (some ⟨g2, 0, none⟩) m m) := s3.rot4.blk.cell 0
        go_wp2_with fail
        go_loopg [44] m (fun g' k wr => ∃ k' : Nat, k' + g' = m ∧ k = .int .i64 (k' : Int) ∧ At B wr (slRes 5 1 (some ⟨g3, 0, none⟩) m m (fillL m k' (cV mo be ops) (.int .u8 0)) :: slRes 42 2 (some ⟨g, 0, none⟩) m m ((fillL m m (fun i => (mCode mo be ops i, 0)) (0, 0)).flatMap resIn) :: slRes 3 1 (some ⟨g2, 0, none⟩) m m (fillL m m (pV mo be ops) (.int .i64 (-1))) :: blkR g1 30 #[.slice (some ⟨g2, 0, none⟩) m m] :: Y) ∧ Below B w wr ∧ B ≤ wr.heap.size)
        case atStart => exact ⟨0, by omega, rfl, by rw [fillL_zero]; exact s3.rot3, b3, hle3⟩
        case round =>
          clear s3 b3 kb hle3 hle b2
          obtain ⟨k, hk, rfl, s4, b4, hle4⟩ := hrel
          have kb : wr.cell? ⟨g1, 0, none⟩ = some (.slice (some ⟨g2, 0, none⟩) m m) := s4.rot4.blk.cell 0
          by_cases hlt2 : k < m
          · have hfl : k < (fillL m m (fun i => (mCode mo be ops i, 0)) ((0, 0) : Int × Int)).length := by rw [fillL_length]; exact hlt2
            obtain ⟨t0, t1⟩ := res_at _ k hfl
            rw [fillL_get _ _ _ _ _ hlt2, if_pos hlt2] at t0 t1
            have c0 : wr.cell? ⟨g, k * 2, none⟩ = some (.int .u8 (mCode mo be ops k)) := (s4.rot2.slat hle4 _ _ t0).1
            have c1 : wr.cell? ⟨g, k * 2 + 1, none⟩ = some (.int .i32 0) := (s4.rot2.slat hle4 _ _ t1).1
            have s5 : At B (wr.alloc (.cells #[.int .u8 (mCode mo be ops k), .int .i32 0] 42)) _ := s4.keep ((Below.refl _ wr).alloc (Nat.le_refl _) _)
            have b5 := b4.alloc hle4 (.cells #[.int .u8 (mCode mo be ops k), .int .i32 0] 42)
            have hle5 : B ≤ (wr.alloc (.cells #[.int .u8 (mCode mo be ops k), .int .i32 0] 42)).heap.size := by simp; omega
            obtain ⟨k1, k2, k3⟩ := s5.slat hle5 k (.int .u8 0) (by rw [List.getElem?_eq_getElem (by rw [fillL_length]; exact hlt2), fillL_get _ _ _ _ _ hlt2, if_neg (by omega)])
            obtain ⟨k4, k5⟩ := k3 (.int .u8 (mCode mo be ops k))
            rw [fillL_succ m k (cV mo be ops) (.int .u8 0) (.int .u8 (mCode mo be ops k)) rfl] at k4
            have b6 := b5.trans k5
            have hle6 := Nat.le_trans hle5 k5.size
            clear t0 t1 hfl s4 s5 b4 b5 k3 k5 kb
            generalize mCode mo be ops k = cc at *
            go_wp2_with fail
            go_roundg (gk - 1)
            case measure => omega
            case rel => exact ⟨k + 1, by omega, by go_num, k4, b6, hle6⟩
          · obtain rfl : k = m := by omega
            go_wp2_with fail
            go_ret2
            rw [fill_pairs, fill_codes] at s4
            exact ⟨g2, g3, rfl, (s4.rot3.cons fun _ h => (Sep.cons (fun _ h => Sep.drop (Sep.drop h)) h)), b4⟩
  · obtain ⟨s1, b1⟩ := ord6 hB hbm hm hn h
    have hBW := Nat.le_trans hB b1.size
    generalize (((((w.alloc (.cells #[.slice none 0 0, .slice none 0 0, .int .i64 (be : Int), .int .i64 (mo : Int)] 57)).alloc (.cells #[.slice (some ⟨w.heap.size + 1 + 1 + 1, 0, none⟩) n n] 30)).alloc (.cells (madeCells #[Value.int .u8 0] n) 5)).alloc (.cells (madeCells #[Value.int .i64 0] n) 3)).drew) = W at *
    generalize w.heap.size + 1 + 1 + 1 = g3 at *
    generalize w.heap.size + 1 + 1 = g2 at *
    generalize w.heap.size + 1 = g1 at *
    generalize w.heap.size = p at *
    have kb : W.cell? ⟨g1, 0, none⟩ = some (.slice (some ⟨g3, 0, none⟩) n n) := s1.rot3.blk.cell 0
    go_wp2_with fail
    go_loopg [32] n (fun g k wr => ∃ m : Nat, m + g = n ∧ k = .int .i64 (m : Int) ∧ At B wr (slRes 3 1 (some ⟨g3, 0, none⟩) n n (fillL n m (fun _ => .int .i64 (-1)) (.int .i64 0)) :: slRes 5 1 (some ⟨g2, 0, none⟩) n n (List.replicate n (.int .u8 0)) :: blkR g1 30 #[.slice (some ⟨g3, 0, none⟩) n n] :: meetR p mo ([], be, []) :: Y) ∧ Below B w wr ∧ B ≤ wr.heap.size)
    case atStart => exact ⟨0, by omega, rfl, by rw [fillL_zero]; exact s1, b1, hBW⟩
    case round =>
      clear s1 b1 kb hBW
      obtain ⟨m, hmg, rfl, s2, b2, hle⟩ := hrel
      have kb : wr.cell? ⟨g1, 0, none⟩ = some (.slice (some ⟨g3, 0, none⟩) n n) := s2.rot3.blk.cell 0
      by_cases hlt : m < n
      · obtain ⟨k1, k2, k3⟩ := s2.slat hle m (.int .i64 0) (by rw [List.getElem?_eq_getElem (by rw [fillL_length]; exact hlt), fillL_get _ _ _ _ _ hlt, if_neg (by omega)])
        obtain ⟨k4, k5⟩ := k3 (.int .i64 (-1))
        rw [fillL_succ _ _ _ _ _ rfl] at k4
        have b3 := b2.trans k5
        have hle3 : B ≤ (wr.setCell ⟨g3, m, none⟩ (.int .i64 (-1))).heap.size := Nat.le_trans hle k5.size
        clear k3 k5 s2
        go_wp2_with fail
        go_roundg (gk - 1)
        case measure => omega
        case rel => exact ⟨m + 1, by omega, by go_num, k4, b3, hle3⟩
      · obtain rfl : m = n := by omega
        rw [fillL_const _ _ _ (pV mo be ops)] at s2
        have hall := all_pairs g1 B wr hle p mo be hbm hm A m c ops HN.out h8 hn (fun k => slRes 3 1 (some ⟨g3, 0, none⟩) m m (fillL m k (pV mo be ops) (.int .i64 (-1))) :: slRes 5 1 (some ⟨g2, 0, none⟩) m m (List.replicate m (.int .u8 0)) :: blkR g1 30 #[.slice (some ⟨g3, 0, none⟩) m m] :: Y)
          (fun k W L hb hW => hrd W L (b2.trans hb) (Sep.drop (Sep.drop (Sep.drop hW))))
          (fun k e pr W L hk hst hkd hb hW => got_x hk hn hst hle hb hW) (fun k hk hc => by rw [fillL_keep _ _ _ _ (by unfold pV; rw [pair_code hc])]) s2.rot4
        have b9 := b2
        clear s2 hrd
        go_wp2_with fail
        refine hall.mono ?_
        rintro e w3 ⟨g, rfl, s3, b3⟩
        have hle3 : B ≤ w3.heap.size := Nat.le_trans hle b3.size
        have b3 := b9.trans b3
        clear hall b9
        have s3 := s3.rot2.drop
        have kb : w3.cell? ⟨g1, 0, none⟩ = some (.slice (some ⟨g3, 0, none⟩) m m) := s3.rot4.blk.cell 0
        go_wp2_with fail
        go_loopg [44] m (fun g' k wr => ∃ k' : Nat, k' + g' = m ∧ k = .int .i64 (k' : Int) ∧ At B wr (slRes 5 1 (some ⟨g2, 0, none⟩) m m (fillL m k' (cV mo be ops) (.int .u8 0)) :: slRes 42 2 (some ⟨g, 0, none⟩) m m ((fillL m m (fun i => (mCode mo be ops i, 0)) (0, 0)).flatMap resIn) :: slRes 3 1 (some ⟨g3, 0, none⟩) m m (fillL m m (pV mo be ops) (.int .i64 (-1))) :: blkR g1 30 #[.slice (some ⟨g3, 0, none⟩) m m] :: Y) ∧ Below B w wr ∧ B ≤ wr.heap.size)
        case atStart => exact ⟨0, by omega, rfl, by rw [fillL_zero]; exact s3.rot3, b3, hle3⟩
        case round =>
          clear s3 b3 kb hle3 hle b2
          obtain ⟨k, hk, rfl, s4, b4, hle4⟩ := hrel
          have kb : wr.cell? ⟨g1, 0, none⟩ = some (.slice (some ⟨g3, 0, none⟩) m m) := s4.rot4.blk.cell 0
          by_cases hlt2 : k < m
          · have hfl : k < (fillL m m (fun i => (mCode mo be ops i, 0)) ((0, 0) : Int × Int)).length := by rw [fillL_length]; exact hlt2
            obtain ⟨t0, t1⟩ := res_at _ k hfl
            rw [fillL_get _ _ _ _ _ hlt2, if_pos hlt2] at t0 t1
            have c0 : wr.cell? ⟨g, k * 2, none⟩ = some (.int .u8 (mCode mo be ops k)) := (s4.rot2.slat hle4 _ _ t0).1
            have c1 : wr.cell? ⟨g, k * 2 + 1, none⟩ = some (.int .i32 0) := (s4.rot2.slat hle4 _ _ t1).1
            have s5 : At B (wr.alloc (.cells #[.int .u8 (mCode mo be ops k), .int .i32 0] 42)) _ := s4.keep ((Below.refl _ wr).alloc (Nat.le_refl _) _)
            have b5 := b4.alloc hle4 (.cells #[.int .u8 (mCode mo be ops k), .int .i32 0] 42)
            have hle5 : B ≤ (wr.alloc (.cells #[.int .u8 (mCode mo be ops k), .int .i32 0] 42)).heap.size := by simp; omega
            obtain ⟨k1, k2, k3⟩ := s5.slat hle5 k (.int .u8 0) (by rw [List.getElem?_eq_getElem (by rw [fillL_length]; exact hlt2), fillL_get _ _ _ _ _ hlt2, if_neg (by omega)])
            obtain ⟨k4, k5⟩ := k3 (.int .u8 (mCode mo be ops k))
            rw [fillL_succ m k (cV mo be ops) (.int .u8 0) (.int .u8 (mCode mo be ops k)) rfl] at k4
            have b6 := b5.trans k5
            have hle6 := Nat.le_trans hle5 k5.size
            clear t0 t1 hfl s4 s5 b4 b5 k3 k5 kb
            generalize mCode mo be ops k = cc at *
            go_wp2_with fail
            go_roundg (gk - 1)
            case measure => omega
            case rel => exact ⟨k + 1, by omega, by go_num, k4, b6, hle6⟩
          · obtain rfl : k = m := by omega
            go_wp2_with fail
            go_ret2
            rw [fill_pairs, fill_codes] at s4
            exact ⟨g3, g2, rfl, (s4.rot3.cons fun _ h => (Sep.cons (fun _ h => Sep.drop (Sep.drop h)) h)), b4⟩
end Go.Proofs.Ytgaomaaloaglpaa
