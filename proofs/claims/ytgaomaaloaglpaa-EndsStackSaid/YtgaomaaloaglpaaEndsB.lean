/-
  The meeting of both ends: pop, with outer and inner.
-/
import Derived.Test.YtgaomaaloaglpaaEndsA
import Derived.StillTailTactics
namespace Go.Proofs.Ytgaomaaloaglpaa
open Go.RowKit Go.Rp

theorem outer_raw (w : World) (p i g off n c : Nat) (j : Int) (hc : w.cell? ⟨p, i, none⟩ = some (.slice (some ⟨g, off, none⟩) (n + 1) c)) (hf : w.frozen? ⟨p, i, none⟩ = false) (hx : w.cell? ⟨g, off + n, none⟩ = some (.int .i64 j)) (hle : n + 1 ≤ c) (hcm : c ≤ 9223372036854775807) :
    Calls Try.prog 45 #[.pointer (some ⟨p, i, none⟩)] w fun e w' => e = .returned (.int .i64 j) ∧ ∃ m, w' = (w.drewN m).setCell ⟨p, i, none⟩ (.slice (some ⟨g, off, none⟩) n c) := by
  have e1 : IntKind.i64.wrap (((n + 1 : Nat) : Int) - 1) = (n : Int) := by rw [IntWalk.i64_in _ (by omega)]; omega
  have e2 : IntKind.i64.wrap (n : Int) = (n : Int) := IntWalk.i64_in _ (by omega)
  have e4 : (n : Int) ≤ (c : Int) := by omega
  go_enter Try.func45, Try.ntmps45
  go_wp2
  go_quiet (fail)
  go_wp2
  have hc1 : (w.drewN nq).cell? ⟨p, i, none⟩ = some (.slice (some ⟨g, off, none⟩) (n + 1) c) := hc
  have hf1 : (w.drewN nq).frozen? ⟨p, i, none⟩ = false := hf
  have hw1 : Hid (∀ v, (w.drewN nq).drew.setCell ⟨p, i, none⟩ v = (w.drewN (nq + 1)).setCell ⟨p, i, none⟩ v) := Lib.hid fun _ => rfl
  generalize w.drewN nq = w1 at *
  go_still_tail 14, (by kernel_rfl)
  change wpList _ _ _ _ _ w1.drew
  have hc' : w1.drew.cell? ⟨p, i, none⟩ = some (.slice (some ⟨g, off, none⟩) (n + 1) c) := hc1
  have hf' : w1.drew.frozen? ⟨p, i, none⟩ = false := hf1
  go_wp2
  go_ret
  exact ⟨rfl, _, hw1.out _⟩
theorem inner_raw (w : World) (p i g off n c : Nat) (j : Int) (hc : w.cell? ⟨p, i, none⟩ = some (.slice (some ⟨g, off, none⟩) (n + 1) c)) (hf : w.frozen? ⟨p, i, none⟩ = false) (hx : w.cell? ⟨g, off, none⟩ = some (.int .i64 j)) (hle : n + 1 ≤ c) (hcm : c ≤ 9223372036854775807) :
    Calls Try.prog 46 #[.pointer (some ⟨p, i, none⟩)] w fun e w' => e = .returned (.int .i64 j) ∧ w' = w.setCell ⟨p, i, none⟩ (.slice (if c = 1 then some ⟨g, off, none⟩ else some ⟨g, off + 1, none⟩) n (c - 1)) := by
  by_cases h1 : c = 1
  · subst h1
    obtain rfl : n = 0 := by omega
    go_enter Try.func46, Try.ntmps46
    go_wp2
    go_ret
    exact ⟨rfl, rfl⟩
  · rw [if_neg h1]
    go_enter Try.func46, Try.ntmps46
    go_wp2
    go_ret
    exact ⟨rfl, rfl⟩

section
variable {B : Nat} {w : World} {p most : Nat} {L : List Res}
/-- The heads of a meeting that is open. -/
theorem head_cells {A1 A2 : Option Addr} {n1 c1 n2 c2 b : Nat} (h : At B w (headR p most A1 n1 c1 A2 n2 c2 b :: L)) (m : Nat) :
    (w.drewN m).cell? ⟨p, 0, none⟩ = some (.slice A1 n1 c1) ∧ (w.drewN m).cell? ⟨p, 1, none⟩ = some (.slice A2 n2 c2) ∧ (w.drewN m).cell? ⟨p, 2, none⟩ = some (.int .i64 (b : Int)) ∧ ∀ i, (w.drewN m).frozen? ⟨p, i, none⟩ = false :=
  ⟨h.blk.cell 0, h.blk.cell 1, h.blk.cell 2, h.blk.frozen⟩
/-- The last one of a side goes. -/
theorem side_last {A : Option Addr} {n c : Nat} {l : List Nat} {j : Nat} (hB : B ≤ w.heap.size) (h : At B w (slRes 3 1 A (n + 1) c (il (l ++ [j])) :: L)) (hn : l.length = n) :
    ∃ g off, A = some ⟨g, off, none⟩ ∧ n + 1 ≤ c ∧ c ≤ 9223372036854775807 ∧ w.cell? ⟨g, off + n, none⟩ = some (.int .i64 (j : Int)) ∧ ∀ m, At B (w.drewN m) (slRes 3 1 A n c (il l) :: L) := by
  subst hn
  obtain ⟨S, hS, hSU, hnext⟩ := h.frontAny (fun x hx => Nat.le_trans hB hx)
  have hS : Sl w 3 1 A (l.length + 1) c (il (l ++ [j])) S := hS
  have hcm := hS.cap_le
  obtain ⟨g, off, rfl, _, _, _, hx⟩ := hS.at (by omega)
  refine ⟨g, off, rfl, hS.le, hcm, hx l.length _ (by simp), fun m => (hnext (slRes 3 1 _ l.length c (il l)) w ?_ (Mod.refl _ _)).drewN m⟩
  have ht := hS.take (k := l.length) (by omega)
  have e : (il (l ++ [j])).take (l.length * 1) = il l := by rw [Nat.mul_one, il, List.map_append]; exact List.take_left' (by simp)
  rw [e] at ht
  exact ht.mono grow_left
/-- The first one of a side goes. -/
theorem side_first {A : Option Addr} {n c : Nat} {l : List Nat} {j : Nat} (hB : B ≤ w.heap.size) (h : At B w (slRes 3 1 A (n + 1) c (il (j :: l)) :: L)) (hn : l.length = n) :
    ∃ g off, A = some ⟨g, off, none⟩ ∧ n + 1 ≤ c ∧ c ≤ 9223372036854775807 ∧ w.cell? ⟨g, off, none⟩ = some (.int .i64 (j : Int)) ∧ At B w (slRes 3 1 (if c = 1 then some ⟨g, off, none⟩ else some ⟨g, off + 1, none⟩) n (c - 1) (il l) :: L) := by
  subst hn
  obtain ⟨S, hS, hSU, hnext⟩ := h.frontAny (fun x hx => Nat.le_trans hB hx)
  have hS : Sl w 3 1 A (l.length + 1) c (il (j :: l)) S := hS
  have hcm := hS.cap_le
  obtain ⟨g, off, rfl, _, _, _, hx⟩ := hS.at (by omega)
  refine ⟨g, off, rfl, hS.le, hcm, by simpa using hx 0 (.int .i64 (j : Int)) (by simp), hnext (slRes 3 1 _ l.length (c - 1) (il l)) w ?_ (Mod.refl _ _)⟩
  have ht := hS.drop (k := 1) (by omega)
  have e : (il (j :: l)).drop (1 * 1) = il l := by simp
  rw [e] at ht
  exact ht.mono grow_left

theorem head_set0 {A1 A2 A' : Option Addr} {n1 c1 n2 c2 b n' c' : Nat} (hB : B ≤ w.heap.size) (h : At B w (headR p most A1 n1 c1 A2 n2 c2 b :: L)) : At B (w.setCell ⟨p, 0, none⟩ (.slice A' n' c')) (headR p most A' n' c' A2 n2 c2 b :: L) ∧ Below B w (w.setCell ⟨p, 0, none⟩ (.slice A' n' c')) := blk_set hB h 0 _
theorem head_set1 {A1 A2 A' : Option Addr} {n1 c1 n2 c2 b n' c' : Nat} (hB : B ≤ w.heap.size) (h : At B w (headR p most A1 n1 c1 A2 n2 c2 b :: L)) : At B (w.setCell ⟨p, 1, none⟩ (.slice A' n' c')) (headR p most A1 n1 c1 A' n' c' b :: L) ∧ Below B w (w.setCell ⟨p, 1, none⟩ (.slice A' n' c')) := blk_set hB h 1 _
theorem head_set2 {A1 A2 : Option Addr} {n1 c1 n2 c2 b b' : Nat} (hB : B ≤ w.heap.size) (h : At B w (headR p most A1 n1 c1 A2 n2 c2 b :: L)) : At B (w.setCell ⟨p, 2, none⟩ (.int .i64 (b' : Int))) (headR p most A1 n1 c1 A2 n2 c2 b' :: L) ∧ Below B w (w.setCell ⟨p, 2, none⟩ (.int .i64 (b' : Int))) := blk_set hB h 2 _

theorem popA_0 (hB : B ≤ w.heap.size) {l r : List Nat} {j b : Nat} (h : At B w (meetR p most (l ++ [j], b, r) :: L)) :
    Calls Try.prog 39 #[.pointer (some ⟨p, 0, none⟩), .int .i64 0] w fun e w' => e = .returned (.tuple #[.int .i64 (j : Int), .bool true]) ∧ At B w' (meetR p most (l, b, r) :: L) ∧ Below B w w' := by
  obtain ⟨A1, c1, A2, c2, h, h1, h2⟩ := meet_open h
  obtain ⟨n1, hn1⟩ : ∃ n, l.length = n := ⟨_, rfl⟩
  obtain ⟨n2, hn2⟩ : ∃ n, r.length = n := ⟨_, rfl⟩
  simp only [sideR, sizeE, List.length_append, List.length_cons, List.length_nil, Nat.zero_add, hn1, hn2] at h h1
  obtain ⟨g, off, rfl, hle, hcm, hx, hnx⟩ := side_last hB h.rot2 hn1
  have hcs := head_cells h
  obtain ⟨hc0, hc1, hc2, hcf⟩ := hcs 0
  simp only [World.drewN_zero] at hc0 hc1 hc2 hcf
  have hcl : ∀ m, At B ((w.drewN m).setCell ⟨p, 0, none⟩ (.slice (some ⟨g, off, none⟩) n1 c1)) (meetR p most (l, b, r) :: L) ∧ Below B w ((w.drewN m).setCell ⟨p, 0, none⟩ (.slice (some ⟨g, off, none⟩) n1 c1)) := fun m => by
    obtain ⟨s2, b2⟩ := head_set0 (A' := some ⟨g, off, none⟩) (n' := n1) (c' := c1) (w := w.drewN m) hB (hnx m).rot2
    refine ⟨meet_close (A1 := some ⟨g, off, none⟩) (c1 := c1) (A2 := A2) (c2 := c2) ?_ (by simp only [sizeE]; omega) h2, (below_drewN (Below.refl _ _) _).trans b2⟩
    simp only [hn1, hn2, sideR]
    exact id s2
  have HCL := Lib.hid hcl
  clear hn1 hn2 h1 hnx hcl h hcs
  go_enter Try.func39, Try.ntmps39
  go_wp2
  go_quiet (fail)
  go_wp2_with fail
  have ho := outer_raw (w.drewN nq) p 0 g off n1 c1 (j : Int) hc0 (hcf 0) hx hle hcm
  refine ho.mono ?_
  rintro e w' ⟨rfl, m, rfl⟩
  obtain ⟨q1, q2⟩ := HCL.out (nq + m)
  go_wp2_with fail
  go_ret2
  exact ⟨rfl, q1, q2⟩
theorem popA_1 (hB : B ≤ w.heap.size) {l r : List Nat} {j b : Nat} (h : At B w (meetR p most (l, b, r ++ [j]) :: L)) :
    Calls Try.prog 39 #[.pointer (some ⟨p, 0, none⟩), .int .i64 1] w fun e w' => e = .returned (.tuple #[.int .i64 (j : Int), .bool true]) ∧ At B w' (meetR p most (l, b, r) :: L) ∧ Below B w w' := by
  obtain ⟨A1, c1, A2, c2, h, h1, h2⟩ := meet_open h
  obtain ⟨n1, hn1⟩ : ∃ n, l.length = n := ⟨_, rfl⟩
  obtain ⟨n2, hn2⟩ : ∃ n, r.length = n := ⟨_, rfl⟩
  simp only [sideR, sizeE, List.length_append, List.length_cons, List.length_nil, Nat.zero_add, hn1, hn2] at h h1
  obtain ⟨g, off, rfl, hle, hcm, hx, hnx⟩ := side_last hB h.rot3 hn2
  have hcs := head_cells h
  obtain ⟨hc0, hc1, hc2, hcf⟩ := hcs 0
  simp only [World.drewN_zero] at hc0 hc1 hc2 hcf
  have hcl : ∀ m, At B ((w.drewN m).setCell ⟨p, 1, none⟩ (.slice (some ⟨g, off, none⟩) n2 c2)) (meetR p most (l, b, r) :: L) ∧ Below B w ((w.drewN m).setCell ⟨p, 1, none⟩ (.slice (some ⟨g, off, none⟩) n2 c2)) := fun m => by
    obtain ⟨s2, b2⟩ := head_set1 (A' := some ⟨g, off, none⟩) (n' := n2) (c' := c2) (w := w.drewN m) hB (hnx m).rot2
    refine ⟨meet_close (A1 := A1) (c1 := c1) (A2 := some ⟨g, off, none⟩) (c2 := c2) ?_ (by simp only [sizeE]; omega) h2, (below_drewN (Below.refl _ _) _).trans b2⟩
    simp only [hn1, hn2, sideR]
    exact Sep.cons (fun _ h => Sep.rot2 h) s2
  have HCL := Lib.hid hcl
  clear hn1 hn2 h1 hnx hcl h hcs
  go_enter Try.func39, Try.ntmps39
  go_wp2
  go_quiet (fail)
  go_wp2_with fail
  have ho := outer_raw (w.drewN nq) p 1 g off n2 c2 (j : Int) hc1 (hcf 1) hx hle hcm
  refine ho.mono ?_
  rintro e w' ⟨rfl, m, rfl⟩
  obtain ⟨q1, q2⟩ := HCL.out (nq + m)
  go_wp2_with fail
  go_ret2
  exact ⟨rfl, q1, q2⟩
theorem popB_0 (hB : B ≤ w.heap.size) {r : List Nat} {b : Nat} (hb : 0 < b) (h : At B w (meetR p most ([], b, r) :: L)) :
    Calls Try.prog 39 #[.pointer (some ⟨p, 0, none⟩), .int .i64 0] w fun e w' => e = .returned (.tuple #[.int .i64 (-1), .bool true]) ∧ At B w' (meetR p most ([], b - 1, r) :: L) ∧ Below B w w' := by
  obtain ⟨A1, c1, A2, c2, h, h1, h2⟩ := meet_open h
  obtain ⟨n, hn⟩ : ∃ n, r.length = n := ⟨_, rfl⟩
  simp only [sideR, sizeE, List.length_nil, hn] at h h1
  obtain ⟨hc0, hc1, hc2, hcf⟩ := head_cells h 0
  simp only [World.drewN_zero] at hc0 hc1 hc2 hcf
  have hf2 := hcf 2
  have he : (b : Int) - 1 = ((b - 1 : Nat) : Int) := by omega
  have hcl : ∀ m, At B ((w.drewN m).setCell ⟨p, 2, none⟩ (.int .i64 ((b : Int) - 1))) (meetR p most ([], b - 1, r) :: L) ∧ Below B w ((w.drewN m).setCell ⟨p, 2, none⟩ (.int .i64 ((b : Int) - 1))) := fun m => by
    rw [he]
    obtain ⟨s2, b2⟩ := head_set2 (b' := b - 1) (w := w.drewN m) hB (h.drewN m)
    refine ⟨meet_close (A1 := A1) (c1 := c1) (A2 := A2) (c2 := c2) ?_ (by simp only [sizeE, List.length_nil]; omega) h2, (below_drewN (Below.refl _ _) _).trans b2⟩
    simp only [hn, sideR, List.length_nil]
    exact s2
  have hpos : (0 : Int) < (b : Int) := by omega
  have hbd : (b : Int) ≤ 1000 := by omega
  have HCL := Lib.hid hcl
  clear hn h1 hcl h he hcf hb
  go_enter Try.func39, Try.ntmps39
  go_wp2
  go_quiet (fail)
  obtain ⟨q1, q2⟩ := HCL.out nq
  go_wp2_with fail
  go_ret2
  exact ⟨rfl, q1, q2⟩
theorem popB_1 (hB : B ≤ w.heap.size) {l : List Nat} {b : Nat} (hb : 0 < b) (h : At B w (meetR p most (l, b, []) :: L)) :
    Calls Try.prog 39 #[.pointer (some ⟨p, 0, none⟩), .int .i64 1] w fun e w' => e = .returned (.tuple #[.int .i64 (-1), .bool true]) ∧ At B w' (meetR p most (l, b - 1, []) :: L) ∧ Below B w w' := by
  obtain ⟨A1, c1, A2, c2, h, h1, h2⟩ := meet_open h
  obtain ⟨n, hn⟩ : ∃ n, l.length = n := ⟨_, rfl⟩
  simp only [sideR, sizeE, List.length_nil, hn] at h h1
  obtain ⟨hc0, hc1, hc2, hcf⟩ := head_cells h 0
  simp only [World.drewN_zero] at hc0 hc1 hc2 hcf
  have hf2 := hcf 2
  have he : (b : Int) - 1 = ((b - 1 : Nat) : Int) := by omega
  have hcl : ∀ m, At B ((w.drewN m).setCell ⟨p, 2, none⟩ (.int .i64 ((b : Int) - 1))) (meetR p most (l, b - 1, []) :: L) ∧ Below B w ((w.drewN m).setCell ⟨p, 2, none⟩ (.int .i64 ((b : Int) - 1))) := fun m => by
    rw [he]
    obtain ⟨s2, b2⟩ := head_set2 (b' := b - 1) (w := w.drewN m) hB (h.drewN m)
    refine ⟨meet_close (A1 := A1) (c1 := c1) (A2 := A2) (c2 := c2) ?_ (by simp only [sizeE, List.length_nil]; omega) h2, (below_drewN (Below.refl _ _) _).trans b2⟩
    simp only [hn, sideR, List.length_nil]
    exact s2
  have hpos : (0 : Int) < (b : Int) := by omega
  have hbd : (b : Int) ≤ 1000 := by omega
  have HCL := Lib.hid hcl
  clear hn h1 hcl h he hcf hb
  go_enter Try.func39, Try.ntmps39
  go_wp2
  go_quiet (fail)
  obtain ⟨q1, q2⟩ := HCL.out nq
  go_wp2_with fail
  go_ret2
  exact ⟨rfl, q1, q2⟩
theorem popC_0 (hB : B ≤ w.heap.size) {t : List Nat} {j : Nat} (h : At B w (meetR p most ([], 0, j :: t) :: L)) :
    Calls Try.prog 39 #[.pointer (some ⟨p, 0, none⟩), .int .i64 0] w fun e w' => e = .returned (.tuple #[.int .i64 (j : Int), .bool true]) ∧ At B w' (meetR p most ([], 0, t) :: L) ∧ Below B w w' := by
  obtain ⟨A1, c1, A2, c2, h, h1, h2⟩ := meet_open h
  obtain ⟨n, hn⟩ : ∃ n, t.length = n := ⟨_, rfl⟩
  simp only [sideR, sizeE, List.length_cons, List.length_nil, hn] at h h1
  obtain ⟨g, off, rfl, hle, hcm, hx, hnx⟩ := side_first hB h.rot3 hn
  obtain ⟨A', hA'⟩ : ∃ A', (if c2 = 1 then some ⟨g, off, none⟩ else some ⟨g, off + 1, none⟩ : Option Addr) = A' := ⟨_, rfl⟩
  rw [hA'] at hnx
  have HA := Lib.hid hA'
  clear hA'
  obtain ⟨hc0, hc1, hc2, hcf⟩ := head_cells h 0
  simp only [World.drewN_zero] at hc0 hc1 hc2 hcf
  have hcl : ∀ m, At B ((w.drewN m).setCell ⟨p, 1, none⟩ (.slice A' n (c2 - 1))) (meetR p most ([], 0, t) :: L) ∧ Below B w ((w.drewN m).setCell ⟨p, 1, none⟩ (.slice A' n (c2 - 1))) := fun m => by
    obtain ⟨s2, b2⟩ := head_set1 (A' := A') (n' := n) (c' := c2 - 1) (w := w.drewN m) hB (hnx.drewN m).rot2
    refine ⟨meet_close (A1 := A1) (c1 := c1) (A2 := A') (c2 := c2 - 1) ?_ (by simp only [sizeE, List.length_nil]; omega) h2, (below_drewN (Below.refl _ _) _).trans b2⟩
    simp only [hn, sideR, List.length_nil]
    exact Sep.cons (fun _ h => Sep.rot2 h) s2
  have HCL := Lib.hid hcl
  clear hn h1 hnx hcl h
  go_enter Try.func39, Try.ntmps39
  go_wp2
  go_quiet (fail)
  go_wp2_with fail
  have ho := inner_raw (w.drewN nq) p 1 g off n c2 (j : Int) hc1 (hcf 1) hx hle hcm
  rw [HA.out] at ho
  refine ho.mono ?_
  rintro e w' ⟨rfl, rfl⟩
  obtain ⟨q1, q2⟩ := HCL.out nq
  go_wp2_with fail
  go_ret2
  exact ⟨rfl, q1, q2⟩
theorem popC_1 (hB : B ≤ w.heap.size) {t : List Nat} {j : Nat} (h : At B w (meetR p most (j :: t, 0, []) :: L)) :
    Calls Try.prog 39 #[.pointer (some ⟨p, 0, none⟩), .int .i64 1] w fun e w' => e = .returned (.tuple #[.int .i64 (j : Int), .bool true]) ∧ At B w' (meetR p most (t, 0, []) :: L) ∧ Below B w w' := by
  obtain ⟨A1, c1, A2, c2, h, h1, h2⟩ := meet_open h
  obtain ⟨n, hn⟩ : ∃ n, t.length = n := ⟨_, rfl⟩
  simp only [sideR, sizeE, List.length_cons, List.length_nil, hn] at h h1
  obtain ⟨g, off, rfl, hle, hcm, hx, hnx⟩ := side_first hB h.rot2 hn
  obtain ⟨A', hA'⟩ : ∃ A', (if c1 = 1 then some ⟨g, off, none⟩ else some ⟨g, off + 1, none⟩ : Option Addr) = A' := ⟨_, rfl⟩
  rw [hA'] at hnx
  have HA := Lib.hid hA'
  clear hA'
  obtain ⟨hc0, hc1, hc2, hcf⟩ := head_cells h 0
  simp only [World.drewN_zero] at hc0 hc1 hc2 hcf
  have hcl : ∀ m, At B ((w.drewN m).setCell ⟨p, 0, none⟩ (.slice A' n (c1 - 1))) (meetR p most (t, 0, []) :: L) ∧ Below B w ((w.drewN m).setCell ⟨p, 0, none⟩ (.slice A' n (c1 - 1))) := fun m => by
    obtain ⟨s2, b2⟩ := head_set0 (A' := A') (n' := n) (c' := c1 - 1) (w := w.drewN m) hB (hnx.drewN m).rot2
    refine ⟨meet_close (A1 := A') (c1 := c1 - 1) (A2 := A2) (c2 := c2) ?_ (by simp only [sizeE, List.length_nil]; omega) h2, (below_drewN (Below.refl _ _) _).trans b2⟩
    simp only [hn, sideR, List.length_nil]
    exact id s2
  have HCL := Lib.hid hcl
  clear hn h1 hnx hcl h
  go_enter Try.func39, Try.ntmps39
  go_wp2
  go_quiet (fail)
  go_wp2_with fail
  have ho := inner_raw (w.drewN nq) p 0 g off n c1 (j : Int) hc0 (hcf 0) hx hle hcm
  rw [HA.out] at ho
  refine ho.mono ?_
  rintro e w' ⟨rfl, rfl⟩
  obtain ⟨q1, q2⟩ := HCL.out nq
  go_wp2_with fail
  go_ret2
  exact ⟨rfl, q1, q2⟩
theorem popD_0 (h : At B w (meetR p most ([], 0, []) :: L)) :
    Calls Try.prog 39 #[.pointer (some ⟨p, 0, none⟩), .int .i64 0] w fun e w' => e = .returned (.tuple #[.int .i64 0, .bool false]) ∧ At B w' (meetR p most ([], 0, []) :: L) ∧ Below B w w' := by
  have h0 := h
  obtain ⟨A1, c1, A2, c2, h, h1, h2⟩ := meet_open h
  obtain ⟨hc0, hc1, hc2, hcf⟩ := head_cells h 0
  simp only [World.drewN_zero, List.length_nil] at hc0 hc1 hc2 hcf
  clear h1 h
  go_enter Try.func39, Try.ntmps39
  go_wp2
  go_quiet (fail)
  go_wp2_with fail
  go_ret2
  exact ⟨rfl, h0.drewN _, below_drewN (Below.refl _ _) _⟩
theorem popD_1 (h : At B w (meetR p most ([], 0, []) :: L)) :
    Calls Try.prog 39 #[.pointer (some ⟨p, 0, none⟩), .int .i64 1] w fun e w' => e = .returned (.tuple #[.int .i64 0, .bool false]) ∧ At B w' (meetR p most ([], 0, []) :: L) ∧ Below B w w' := by
  have h0 := h
  obtain ⟨A1, c1, A2, c2, h, h1, h2⟩ := meet_open h
  obtain ⟨hc0, hc1, hc2, hcf⟩ := head_cells h 0
  simp only [World.drewN_zero, List.length_nil] at hc0 hc1 hc2 hcf
  clear h1 h
  go_enter Try.func39, Try.ntmps39
  go_wp2
  go_quiet (fail)
  go_wp2_with fail
  go_ret2
  exact ⟨rfl, h0.drewN _, below_drewN (Below.refl _ _) _⟩
end
end Go.Proofs.Ytgaomaaloaglpaa
