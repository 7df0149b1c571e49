/-
  The document's deque: an operation; what it tells.
-/
import Derived.Test.YtehmnhdmkjdghaaRingI
namespace Go.Proofs.Ytehmnhdmkjdghaa
open Go.RowKit Go.Rp

theorem size_i32 (W : World) : (sizeOf 21).run Try.prog W = .ok 1 W := by kernel_rfl
/-- 's[k:]'. -/
theorem slice_from (A : Option Addr) (n c k m : Nat) (hn : n = k + m) (hc : n ≤ c) : ∃ A', (∀ W, (Instr.slice 27 (.slice A n c) (some (.int .i64 (k : Int))) none none).run Try.prog W = .ok (.slice A' m (c - k)) W) ∧ ∀ (W : World) (R : Nat → Prop) (xs : List Value), Rd W R 1 A n xs → Rd W R 1 A' m (xs.drop k) := by
  refine ⟨if c = k then A else A.map (·.add k), fun W => ?_, fun W R xs h => ?_⟩
  · rw [run_slice_l W 27 A n c (by kernel_rfl) .i64 (k : Int) (by omega) (by omega)]
    rw [show Try.prog.elem 27 = 21 by kernel_rfl, size_i32 W]
    simp only [Result.andThen, sliced, Int.toNat_natCast, Nat.mul_one]
    rw [show n - k = m by omega]
  · refine ⟨by rw [List.length_drop, h.1]; omega, fun hm => ?_⟩
    obtain ⟨b, off, rfl, hb, hx⟩ := h.at (by omega)
    rw [if_neg (by omega)]
    refine ⟨b, off + k, by simp [Addr.add], hb, fun j u hu => ?_⟩
    rw [List.getElem?_drop] at hu
    have := hx _ _ hu
    rwa [← Nat.add_assoc] at this

theorem rrDo_same (w : World) (most : Int) (A : Option Addr) (n c : Nat) (xs : List Int) (hx : xs.length = n) (hc : n ≤ c) (k v code : Int) (h : ((k < 1 ∨ 4 < k) ∧ code = 5) ∨ ((k = 1 ∨ k = 2) ∧ cut most ≤ n ∧ code = 3) ∨ ((k = 3 ∨ k = 4) ∧ n = 0 ∧ code = 4)) :
    Calls Try.prog 32 #[.int .i64 most, .slice A n c, .agg #[.int .u8 k, .int .i32 v]] w (RDone w A n xs xs code 0) := by
  have HX := Lib.hid hx
  clear hx
  rcases h with ⟨h, rfl⟩ | ⟨h, hm, rfl⟩ | ⟨h, rfl, rfl⟩
  · rcases h with h | h
    · go_enter Try.func32, Try.ntmps32
      go_wp2_with fail
      refine (rMost_any _ _).mono ?_
      rintro e w1 ⟨rfl, rfl⟩
      go_wp2_with fail
      refine bodyPost_ret (v := .tuple #[.slice A n c, res 5 0]) (by simp [results, Try.results32, go_sem]) rfl ?_
      exact rdone_same HX.out hc (((Below.refl _ w).alloc (Nat.le_refl _) _).alloc (by simp) _)
    · have h' : ¬ k < 1 := by omega
      go_enter Try.func32, Try.ntmps32
      go_wp2_with fail
      refine (rMost_any _ _).mono ?_
      rintro e w1 ⟨rfl, rfl⟩
      go_wp2_with fail
      refine bodyPost_ret (v := .tuple #[.slice A n c, res 5 0]) (by simp [results, Try.results32, go_sem]) rfl ?_
      exact rdone_same HX.out hc (((Below.refl _ w).alloc (Nat.le_refl _) _).alloc (by simp) _)
  · have hge : ((cut most : Nat) : Int) ≤ (n : Int) := by omega
    rcases h with rfl | rfl
    all_goals
      go_enter Try.func32, Try.ntmps32
      go_wp2_with fail
      refine (rMost_any _ _).mono ?_
      rintro e w1 ⟨rfl, rfl⟩
      go_wp2_with fail
      refine bodyPost_ret (v := .tuple #[.slice A n c, res 3 0]) (by simp [results, Try.results32, go_sem]) rfl ?_
      exact rdone_same HX.out hc (((Below.refl _ w).alloc (Nat.le_refl _) _).alloc (by simp) _)
  · rcases h with rfl | rfl
    all_goals
      go_enter Try.func32, Try.ntmps32
      go_wp2_with fail
      refine (rMost_any _ _).mono ?_
      rintro e w1 ⟨rfl, rfl⟩
      go_wp2_with fail
      refine bodyPost_ret (v := .tuple #[.slice A 0 c, res 4 0]) (by simp [results, Try.results32, go_sem]) rfl ?_
      exact rdone_same HX.out hc (((Below.refl _ w).alloc (Nat.le_refl _) _).alloc (by simp) _)

theorem rrDo_pushR (w : World) (most : Int) (A : Option Addr) (n c : Nat) (R : Nat → Prop) (xs : List Int) (hr : Rd w R 1 A n (xs.map fun x => Value.int .i32 x)) (v : Int) (h : n < cut most) :
    Calls Try.prog 32 #[.int .i64 most, .slice A n c, .agg #[.int .u8 2, .int .i32 v]] w (RDone w A n xs (xs ++ [v]) 1 0) := by
  obtain ⟨i0, hi0, hz0, hz1, hz2⟩ := info_parts info_i32
  have hx : xs.length = n := by simpa using hr.1
  have HX := Lib.hid hx
  clear hx
  have hc1000 : cut most ≤ 1000 := by unfold cut; omega
  have hge : ¬ ((cut most : Nat) : Int) ≤ (n : Int) := by omega
  have h1 : ∀ u ∈ xs.map fun x => Value.int .i32 x, u.oneCell' = true := by intro u hu; obtain ⟨x, _, rfl⟩ := List.mem_map.1 hu; rfl
  go_enter Try.func32, Try.ntmps32
  go_wp2_with fail
  refine (rMost_any _ _).mono ?_
  rintro e w1 ⟨rfl, rfl⟩
  go_wp2_with (first
    | (at_builtin; refine wpList_append_sl _ rfl (.tmp 64) (.tmp 65) _ rfl 21 i0 _ 1 4 Try.underlying27 hi0 hz0 hz1 hz2 rfl (by omega) none 0 0 [] (fun _ => False) rfl (Sl.nil _ _ _ _) R A n c _ rfl (by exact (hr.alloc _).alloc _) h1 (by simp only [maxLen]; omega) (by omega) ?_; intro A1 c1 w1 hown1 hmod1; rw [Nat.zero_add, List.nil_append] at hown1; have hO := ((Blk.new w 29 #[.int .u8 2, .int .i32 v]).alloc (.cells #[.int .u8 0, .int .i32 0] 31)).mod hmod1 (by simp); have o1 : w1.cell? ⟨w.heap.size, 1, none⟩ = some (.int .i32 v) := hO.cell 1; have z1 := hmod1.size; simp only [World.size_alloc] at z1)
    | (at_builtin; refine wpList_append_sl _ rfl (.tmp 67) (.tmp 70) _ rfl 21 i0 _ 1 4 Try.underlying27 hi0 hz0 hz1 hz2 rfl (by omega) A1 n c1 _ _ rfl (by exact hown1.alloc _) (· = w1.heap.size) (some ⟨w1.heap.size, 0, none⟩) 1 1 [.int .i32 v] rfl (by exact Rd.lit (sz := 1) w1 _ #[.int .i32 v] 1 rfl) (by simp [Value.oneCell']) (by simp only [maxLen]; omega) (by omega) ?_; intro A2 c2 w2 hown2 hmod2; have hR := (((Blk.new (w.alloc (.cells #[.int .u8 2, .int .i32 v] 29)) 31 #[.int .u8 0, .int .i32 0]).mod hmod1 (by simp)).alloc (.cells #[.int .i32 v] 21)).mod hmod2 (by simp [grow]; omega); rw [World.size_alloc] at hR; have r0 : w2.cell? ⟨w.heap.size + 1, 0, none⟩ = some (.int .u8 0) := hR.cell 0; have r1 : w2.cell? ⟨w.heap.size + 1, 1, none⟩ = some (.int .i32 0) := hR.cell 1; have f0 := hR.frozen 0; have f1 := hR.frozen 1))
  obtain ⟨q0, q1, m3⟩ := two_cells (.int .u8 1) (.int .i32 0) hR
  have z2 := hmod2.size
  try simp only [World.size_alloc] at z2
  refine bodyPost_ret (v := .tuple #[.slice A2 (n + 1) c2, res 1 0]) (by simp [results, Try.results32, go_sem, q0, q1]) rfl ?_
  have hs3 := (hown2.farT (p := ⟨w.heap.size + 1, 0, none⟩) hR (by decide) (.int .u8 1)).farT (p := ⟨w.heap.size + 1, 1, none⟩) (hR.set 0 (.int .u8 1)) (by decide) (.int .i32 0)
  refine rdone_new (by simp [HX.out]) (by simpa using hs3) ?_ ?_
  · rintro b ((hb | hb) | hb)
    · exact hb.elim
    · simp at hb; omega
    · simp at hb; omega
  · refine ((((Below.refl _ w).alloc (Nat.le_refl _) _).alloc (by simp) _).trans (hmod1.below (by simp; omega) (fun b hb => hb.elim)) |>.alloc (by omega) _).trans (hmod2.below (by simp; omega) ?_) |>.trans (m3.below (by omega) fun b hb => by omega)
    rintro b (hb | hb)
    · exact hb.elim
    · simp at hb; omega
theorem rrDo_pushL (w : World) (most : Int) (A : Option Addr) (n c : Nat) (R : Nat → Prop) (xs : List Int) (hr : Rd w R 1 A n (xs.map fun x => Value.int .i32 x)) (v : Int) (h : n < cut most) :
    Calls Try.prog 32 #[.int .i64 most, .slice A n c, .agg #[.int .u8 1, .int .i32 v]] w (RDone w A n xs (v :: xs) 1 0) := by
  obtain ⟨i0, hi0, hz0, hz1, hz2⟩ := info_parts info_i32
  have hx : xs.length = n := by simpa using hr.1
  have HX := Lib.hid hx
  clear hx
  have hc1000 : cut most ≤ 1000 := by unfold cut; omega
  have hge : ¬ ((cut most : Nat) : Int) ≤ (n : Int) := by omega
  have h1 : ∀ u ∈ xs.map fun x => Value.int .i32 x, u.oneCell' = true := by intro u hu; obtain ⟨x, _, rfl⟩ := List.mem_map.1 hu; rfl
  go_enter Try.func32, Try.ntmps32
  go_wp2_with fail
  refine (rMost_any _ _).mono ?_
  rintro e w1 ⟨rfl, rfl⟩
  go_wp2_with (first
    | (at_builtin; refine wpList_append_sl _ rfl (.tmp 50) (.tmp 53) _ rfl 21 i0 _ 1 4 Try.underlying27 hi0 hz0 hz1 hz2 rfl (by omega) none 0 0 [] (fun _ => False) rfl (Sl.nil _ _ _ _) (· = w.heap.size + 1 + 1) (some ⟨w.heap.size + 1 + 1, 0, none⟩) 1 1 [.int .i32 v] rfl (by have q := Rd.lit (sz := 1) ((w.alloc (.cells #[.int .u8 1, .int .i32 v] 29)).alloc (.cells #[.int .u8 0, .int .i32 0] 31)) 21 #[.int .i32 v] 1 rfl; simp only [World.size_alloc] at q; exact q) (by simp [Value.oneCell']) (by simp only [maxLen]; omega) (by omega) ?_; intro A1 c1 w1 hown1 hmod1; rw [Nat.zero_add, List.nil_append] at hown1; have hr1 := ((((hr.alloc (.cells #[.int .u8 1, .int .i32 v] 29)).alloc (.cells #[.int .u8 0, .int .i32 0] 31)).alloc (.cells #[.int .i32 v] 21)).mod hmod1 (fun _ _ h => h)); have z1 := hmod1.size; simp only [World.size_alloc] at z1)
    | (at_builtin; refine wpList_append_sl _ rfl (.tmp 55) (.tmp 56) _ rfl 21 i0 _ 1 4 Try.underlying27 hi0 hz0 hz1 hz2 rfl (by omega) A1 1 c1 _ _ rfl hown1 R A n c _ rfl hr1 h1 (by simp only [maxLen]; omega) (by omega) ?_; intro A2 c2 w2 hown2 hmod2; have hR := ((((Blk.new (w.alloc (.cells #[.int .u8 1, .int .i32 v] 29)) 31 #[.int .u8 0, .int .i32 0])).alloc (.cells #[.int .i32 v] 21)).mod hmod1 (by simp)).mod hmod2 (by simp [grow]; omega); rw [World.size_alloc] at hR; have r0 : w2.cell? ⟨w.heap.size + 1, 0, none⟩ = some (.int .u8 0) := hR.cell 0; have r1 : w2.cell? ⟨w.heap.size + 1, 1, none⟩ = some (.int .i32 0) := hR.cell 1; have f0 := hR.frozen 0; have f1 := hR.frozen 1))
  rw [Nat.add_comm 1 n] at *
  obtain ⟨q0, q1, m3⟩ := two_cells (.int .u8 1) (.int .i32 0) hR
  have z2 := hmod2.size
  try simp only [World.size_alloc] at z2
  refine bodyPost_ret (v := .tuple #[.slice A2 (n + 1) c2, res 1 0]) (by simp [results, Try.results32, go_sem, q0, q1]) rfl ?_
  have hs3 := (hown2.farT (p := ⟨w.heap.size + 1, 0, none⟩) hR (by decide) (.int .u8 1)).farT (p := ⟨w.heap.size + 1, 1, none⟩) (hR.set 0 (.int .u8 1)) (by decide) (.int .i32 0)
  refine rdone_new (by simp [HX.out]) (by simpa using hs3) ?_ ?_
  · rintro b ((hb | hb) | hb)
    · exact hb.elim
    · (try simp at hb); omega
    · (try simp at hb); omega
  · refine (((((Below.refl _ w).alloc (Nat.le_refl _) _).alloc (by simp) _).alloc (by simp; omega) _).trans (hmod1.below (by simp; omega) (fun b hb => hb.elim))).trans (hmod2.below (by first | omega | (simp; omega)) ?_) |>.trans (m3.below (by omega) fun b hb => by omega)
    rintro b (hb | hb)
    · exact hb.elim
    · (try simp at hb); omega
theorem rrDo_popR (w : World) (most : Int) (A : Option Addr) (n c : Nat) (R : Nat → Prop) (xs : List Int) (x : Int) (hx : xs.length = n) (hc : n + 1 ≤ c) (hr : Rd w R 1 A (n + 1) ((xs ++ [x]).map fun x => Value.int .i32 x)) (v : Int) (hn : n ≤ 100000) :
    Calls Try.prog 32 #[.int .i64 most, .slice A (n + 1) c, .agg #[.int .u8 4, .int .i32 v]] w (RDone w A (n + 1) (xs ++ [x]) xs 2 x) := by
  obtain ⟨i0, hi0, hz0, hz1, hz2⟩ := info_parts info_i32
  have HX := Lib.hid hx
  obtain ⟨b, off, rfl, hbR, hcells⟩ := hr.at (by omega)
  have hx0 : w.cell? ⟨b, off + n, none⟩ = some (.int .i32 x) := hcells n _ (by simp [← hx])
  have hlt := World.block_lt_of_cell? w _ hx0
  simp only at hlt
  have hr2 : Rd w R 1 (some ⟨b, off, none⟩) n (xs.map fun x => Value.int .i32 x) := ⟨by simpa using hx, fun _ => ⟨b, off, rfl, hbR, fun j u hu => hcells j u (by
    have hj : j < xs.length := by simpa using (List.getElem?_eq_some_iff.1 hu).1
    rw [List.map_append, List.getElem?_append_left (by simpa using hj)]
    exact hu)⟩⟩
  clear hx hcells
  have h1 : ∀ u ∈ xs.map fun x => Value.int .i32 x, u.oneCell' = true := by intro u hu; obtain ⟨x, _, rfl⟩ := List.mem_map.1 hu; rfl
  have hw : IntKind.i64.wrap ((n : Int) + 1 - 1) = (n : Int) := by rw [Int.add_sub_cancel]; exact IntWalk.i64_in _ (by omega)
  have hd0 : (((n : Int) + 1) == 0) = false := by simp; omega
  go_enter Try.func32, Try.ntmps32
  go_wp2_with fail
  refine (rMost_any _ _).mono ?_
  rintro e w1 ⟨rfl, rfl⟩
  go_wp2_with (
    (at_builtin; refine wpList_append_sl _ rfl (.tmp 87) (.tmp 92) _ rfl 21 i0 _ 1 4 Try.underlying27 hi0 hz0 hz1 hz2 rfl (by omega) none 0 0 [] (fun _ => False) rfl (Sl.nil _ _ _ _) R (some ⟨b, off, none⟩) n c _ rfl (by exact (hr2.alloc _).alloc _) h1 (by simp only [maxLen]; omega) (by omega) ?_; intro A1 c1 w1 hown1 hmod1; rw [Nat.zero_add, List.nil_append] at hown1; have hx1 := ((hmod1.cell (p := ⟨b, off + n, none⟩) (by simp; omega) (fun h => h)).trans (((World.cell?_alloc_lt _ _ _ (by simp; omega)).trans (World.cell?_alloc_lt _ _ _ hlt)).trans hx0)); have hR := (Blk.new (w.alloc (.cells #[.int .u8 4, .int .i32 v] 29)) 31 #[.int .u8 0, .int .i32 0]).mod hmod1 (by simp); rw [World.size_alloc] at hR; have r0 : w1.cell? ⟨w.heap.size + 1, 0, none⟩ = some (.int .u8 0) := hR.cell 0; have r1 : w1.cell? ⟨w.heap.size + 1, 1, none⟩ = some (.int .i32 0) := hR.cell 1; have f0 := hR.frozen 0; have f1 := hR.frozen 1)
    )
  have hw1 : (0 : Int) ≤ (n : Int) := by omega
  have hw2 : (n : Int) < (n : Int) + 1 := by omega
  go_region
  all_goals go_wp2
  all_goals
    obtain ⟨q0, q1, m3⟩ := two_cells (.int .u8 2) (.int .i32 x) hR
    refine bodyPost_ret (v := .tuple #[.slice A1 n c1, res 2 x]) (by simp [results, Try.results32, go_sem, q0, q1]) rfl ?_
    have hs3 := (hown1.farT (p := ⟨w.heap.size + 1, 0, none⟩) hR (by decide) (.int .u8 2)).farT (p := ⟨w.heap.size + 1, 1, none⟩) (hR.set 0 (.int .u8 2)) (by decide) (.int .i32 x)
    have z1 := hmod1.size
    simp only [World.size_alloc] at z1
    refine rdone_new HX.out hs3.drew ?_ ?_
    · rintro b (hb | hb)
      · exact hb.elim
      · simp at hb; omega
    · exact ((((Below.refl _ w).alloc (Nat.le_refl _) _).alloc (by simp) _).trans (hmod1.below (by simp; omega) (fun b hb => hb.elim)) |>.trans (m3.below (by omega) fun b hb => by omega)).drew
theorem rrDo_popL (w : World) (most : Int) (A : Option Addr) (n c : Nat) (R : Nat → Prop) (xs : List Int) (x : Int) (hx : xs.length = n) (hc : n + 1 ≤ c) (hr : Rd w R 1 A (n + 1) ((x :: xs).map fun x => Value.int .i32 x)) (v : Int) (hn : n ≤ 100000) :
    Calls Try.prog 32 #[.int .i64 most, .slice A (n + 1) c, .agg #[.int .u8 3, .int .i32 v]] w (RDone w A (n + 1) (x :: xs) xs 2 x) := by
  obtain ⟨i0, hi0, hz0, hz1, hz2⟩ := info_parts info_i32
  have HX := Lib.hid hx
  obtain ⟨A3, hsl, hrd⟩ := slice_from A (n + 1) c 1 n (by omega) hc
  have hr2 : Rd w R 1 A3 n (xs.map fun x => Value.int .i32 x) := hrd w R _ hr
  rw [show ((1 : Nat) : Int) = 1 from rfl] at hsl
  obtain ⟨b, off, rfl, hbR, hcells⟩ := hr.at (by omega)
  have hx0 : w.cell? ⟨b, off, none⟩ = some (.int .i32 x) := hcells 0 _ (by simp)
  have hlt := World.block_lt_of_cell? w _ hx0
  simp only at hlt
  clear hx hcells hrd
  have h1 : ∀ u ∈ xs.map fun x => Value.int .i32 x, u.oneCell' = true := by intro u hu; obtain ⟨x, _, rfl⟩ := List.mem_map.1 hu; rfl
  have hd0 : (((n : Int) + 1) == 0) = false := by simp; omega
  go_enter Try.func32, Try.ntmps32
  go_wp2_with fail
  refine (rMost_any _ _).mono ?_
  rintro e w1 ⟨rfl, rfl⟩
  go_wp2_with (
    (at_builtin; refine wpList_append_sl _ rfl (.tmp 78) (.tmp 80) _ rfl 21 i0 _ 1 4 Try.underlying27 hi0 hz0 hz1 hz2 rfl (by omega) none 0 0 [] (fun _ => False) rfl (Sl.nil _ _ _ _) R A3 n (c - 1) _ rfl (by exact (hr2.alloc _).alloc _) h1 (by simp only [maxLen]; omega) (by omega) ?_; intro A1 c1 w1 hown1 hmod1; rw [Nat.zero_add, List.nil_append] at hown1; have hx1 := ((hmod1.cell (p := ⟨b, off, none⟩) (by simp; omega) (fun h => h)).trans (((World.cell?_alloc_lt _ _ _ (by simp; omega)).trans (World.cell?_alloc_lt _ _ _ hlt)).trans hx0)); have hR := (Blk.new (w.alloc (.cells #[.int .u8 3, .int .i32 v] 29)) 31 #[.int .u8 0, .int .i32 0]).mod hmod1 (by simp); rw [World.size_alloc] at hR; have r0 : w1.cell? ⟨w.heap.size + 1, 0, none⟩ = some (.int .u8 0) := hR.cell 0; have r1 : w1.cell? ⟨w.heap.size + 1, 1, none⟩ = some (.int .i32 0) := hR.cell 1; have f0 := hR.frozen 0; have f1 := hR.frozen 1)
    )
  have hw2 : (0 : Int) < (n : Int) + 1 := by omega
  go_region
  all_goals go_wp2
  all_goals
    obtain ⟨q0, q1, m3⟩ := two_cells (.int .u8 2) (.int .i32 x) hR
    refine bodyPost_ret (v := .tuple #[.slice A1 n c1, res 2 x]) (by simp [results, Try.results32, go_sem, q0, q1]) rfl ?_
    have hs3 := (hown1.farT (p := ⟨w.heap.size + 1, 0, none⟩) hR (by decide) (.int .u8 2)).farT (p := ⟨w.heap.size + 1, 1, none⟩) (hR.set 0 (.int .u8 2)) (by decide) (.int .i32 x)
    have z1 := hmod1.size
    simp only [World.size_alloc] at z1
    refine rdone_new HX.out hs3.drew ?_ ?_
    · rintro b (hb | hb)
      · exact hb.elim
      · simp at hb; omega
    · exact ((((Below.refl _ w).alloc (Nat.le_refl _) _).alloc (by simp) _).trans (hmod1.below (by simp; omega) (fun b hb => hb.elim)) |>.trans (m3.below (by omega) fun b hb => by omega)).drew
/-- An operation of the document's deque. -/
theorem rrDo_any (w : World) (most : Int) (A : Option Addr) (n c : Nat) (R : Nat → Prop) (xs : List Int) (hx : xs.length = n) (hc : n ≤ c) (hr : Rd w R 1 A n (xs.map fun x => Value.int .i32 x)) (hn : n ≤ cut most) (k v : Int) :
    Calls Try.prog 32 #[.int .i64 most, .slice A n c, .agg #[.int .u8 k, .int .i32 v]] w (RDone w A n xs (rDo (cut most) xs k v).1 (rDo (cut most) xs k v).2.1 (rDo (cut most) xs k v).2.2) := by
  have hc1000 : cut most ≤ 1000 := by unfold cut; omega
  by_cases h1 : k = 1
  · subst h1
    by_cases h : n < cut most
    · have e : rDo (cut most) xs 1 v = (v :: xs, 1, 0) := by unfold rDo; rw [if_pos rfl, if_neg (by omega)]
      rw [e]
      exact rrDo_pushL w most A n c R xs hr v h
    · have e : rDo (cut most) xs 1 v = (xs, 3, 0) := by unfold rDo; rw [if_pos rfl, if_pos (by omega)]
      rw [e]
      exact rrDo_same w most A n c xs hx hc 1 v 3 (.inr (.inl ⟨.inl rfl, by omega, rfl⟩))
  · by_cases h2 : k = 2
    · subst h2
      by_cases h : n < cut most
      · have e : rDo (cut most) xs 2 v = (xs ++ [v], 1, 0) := by unfold rDo; rw [if_neg (by omega), if_pos rfl, if_neg (by omega)]
        rw [e]
        exact rrDo_pushR w most A n c R xs hr v h
      · have e : rDo (cut most) xs 2 v = (xs, 3, 0) := by unfold rDo; rw [if_neg (by omega), if_pos rfl, if_pos (by omega)]
        rw [e]
        exact rrDo_same w most A n c xs hx hc 2 v 3 (.inr (.inl ⟨.inr rfl, by omega, rfl⟩))
    · by_cases h3 : k = 3
      · subst h3
        rcases xs with _ | ⟨x, xs⟩
        · exact rrDo_same w most A n c [] hx hc 3 v 4 (.inr (.inr ⟨.inl rfl, by simpa using hx.symm, rfl⟩))
        · obtain ⟨n, rfl⟩ : ∃ m, n = m + 1 := ⟨n - 1, by simp at hx; omega⟩
          exact rrDo_popL w most A n c R xs x (by simpa using hx) hc hr v (by omega)
      · by_cases h4 : k = 4
        · subst h4
          rcases List.eq_nil_or_concat xs with rfl | ⟨xs, x, rfl⟩
          · exact rrDo_same w most A n c [] hx hc 4 v 4 (.inr (.inr ⟨.inr rfl, by simpa using hx.symm, rfl⟩))
          · rw [List.concat_eq_append] at hx hr ⊢
            rw [rDo_popR]
            obtain ⟨n, rfl⟩ : ∃ m, n = m + 1 := ⟨n - 1, by simp at hx; omega⟩
            exact rrDo_popR w most A n c R xs x (by simpa using hx) hc hr v (by omega)
        · have e : rDo (cut most) xs k v = (xs, 5, 0) := by simp [rDo, h1, h2, h3, h4]
          rw [e]
          exact rrDo_same w most A n c xs hx hc k v 5 (.inl ⟨by omega, rfl⟩)
end Go.Proofs.Ytehmnhdmkjdghaa
