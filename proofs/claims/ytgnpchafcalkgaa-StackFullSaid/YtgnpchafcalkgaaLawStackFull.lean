/-
  The walk of StackFull.
-/
import Derived.Test.YtgnpchafcalkgaaLawStackBack
namespace Go.Proofs.Ytgnpchafcalkgaa
open Go.RowKit Go.Rp

set_option maxHeartbeats 1000000 in
theorem StackFull_walk (w : World) (x : Int) (hx : (Lit.int .u8 x).wf = true) (v : Int) (hv : (Lit.int .i32 v).wf = true) (u : Int) (hu : (Lit.int .i32 u).wf = true) :
    Calls Try.prog 5 #[.int .u8 x, .int .i32 v, .int .i32 u] w fun e w' => e = .returned (.bool true) ∧ Below w.heap.size w w' := by
  obtain ⟨N, hN, hmod, hx0, hx1⟩ := u8_mod hx 20 (by omega)
  have hcut : cut (N : Int) = N := by unfold cut; omega
  have h1 := new_s (B := w.heap.size) (w := w) (L := []) (Nat.le_refl _) trivial (N : Int)
  rw [hcut] at h1
  clear hcut
  go_enter Try.func5, Try.ntmps5
  go_wp2_with fail
  refine (h1).mono ?_
  rintro e w1 ⟨rfl, s1, b1⟩
  clear h1
  go_wp2_with fail
  refine (do_s b1.size s1 2 u (by omega) (by omega) (show sDo N [] 2 u = ([], 4, 0) from rfl)).mono ?_
  rintro e w2 ⟨rfl, s2, b2⟩
  have b2 := b1.trans b2
  go_wp2_with fail
  have s3 := s2.alloc b2.size #[.int .u8 4, .int .i32 0] 34
  have b3 : Below w.heap.size w (w2.alloc (.cells #[.int .u8 4, .int .i32 0] 34)) := b2.alloc b2.size _
  have hz : w2.heap.size < (w2.alloc (.cells #[.int .u8 4, .int .i32 0] 34)).heap.size := by simp
  generalize w2.alloc (.cells #[.int .u8 4, .int .i32 0] 34) = w3 at *
  generalize w2.heap.size = q at *
  go_loopw [10] (fun k wr => ∃ m : Nat, m ≤ N ∧ k = .int .i64 (m : Int) ∧ At w.heap.size wr (stk w.heap.size N (List.replicate m v) :: blkR q 34 #[.int .u8 4, .int .i32 0] :: []) ∧ Below w.heap.size w wr) (fun k _ => N - (intOf k).toNat)
  case atStart => exact ⟨0, by omega, rfl, s3.rot2, b3⟩
  case round =>
    clear s1 s2 s3 b1 b2 b3 hz
    obtain ⟨m, hm, rfl, s2, b2⟩ := hrel
    by_cases hlt : m < N
    · have hp := push_s b2.size s2 v
      rw [List.length_replicate] at hp
      simp only [hlt, decide_true, if_true] at hp
      rw [← List.replicate_succ'] at hp
      go_wp2_with fail
      refine (hp).mono ?_
      rintro e w3 ⟨rfl, s3, b3⟩
      go_wp2_with fail
      go_roundw
      case rel => exact ⟨m + 1, by omega, by go_num, s3, b2.trans b3⟩
      case measure => simp [intOf]; omega
    · obtain rfl : m = N := by omega
      have hll : (List.replicate m v).length = m := by simp
      have hd : sDo m (List.replicate m v) 1 u = (List.replicate m v, 3, 0) := by simp [sDo]
      have hd2 : sDo m (List.replicate m v) 3 u = (List.replicate m v, 5, 0) := by simp [sDo]
      generalize List.replicate m v = l at *
      go_wp2_with fail
      refine (items_s b2.size s2 hll).mono ?_
      rintro e w4 ⟨A4, c4, rfl, s4, b4⟩
      have b4 := b2.trans b4
      go_wp2_with fail
      refine (do_s b4.size s4.rot2 1 u (by omega) (by omega) hd).mono ?_
      rintro e w5 ⟨rfl, s5, b5⟩
      have b5 := b4.trans b5
      have s6 := s5.alloc b5.size #[.int .u8 3, .int .i32 0] 34
      have b6 : Below w.heap.size w (w5.alloc (.cells #[.int .u8 3, .int .i32 0] 34)) := b5.alloc b5.size _
      go_wp2_with fail
      refine (do_s b6.size s6.rot2 3 u (by omega) (by omega) hd2).mono ?_
      rintro e w7 ⟨rfl, s7, b7⟩
      have b7 := b6.trans b7
      have s8 := s7.alloc b7.size #[.int .u8 5, .int .i32 0] 34
      have b8 : Below w.heap.size w (w7.alloc (.cells #[.int .u8 5, .int .i32 0] 34)) := b7.alloc b7.size _
      go_wp2_with fail
      refine (known_s b8.size s8).mono ?_
      rintro e w9 ⟨rfl, s9, b9⟩
      have b9 := b8.trans b9
      have g1 : w9.cell? ⟨w7.heap.size, 0, none⟩ = some (.int .u8 5) := s9.blk.cell 0
      have g2 : w9.cell? ⟨w7.heap.size, 1, none⟩ = some (.int .i32 0) := s9.blk.cell 1
      have g3 : w9.cell? ⟨w5.heap.size, 0, none⟩ = some (.int .u8 3) := s9.rot3.blk.cell 0
      have g4 : w9.cell? ⟨w5.heap.size, 1, none⟩ = some (.int .i32 0) := s9.rot3.blk.cell 1
      have g5 : w9.cell? ⟨q, 0, none⟩ = some (.int .u8 4) := s9.rot5.blk.cell 0
      have g6 : w9.cell? ⟨q, 1, none⟩ = some (.int .i32 0) := s9.rot5.blk.cell 1
      go_wp2_with fail
      refine (items_s b9.size s9.rot2 hll).mono ?_
      rintro e w10 ⟨A10, c10, rfl, s10, b10⟩
      have b10 := b9.trans b10
      go_wp2_with fail
      refine (Same_s b10.size s10 (Sl.read s10.rot5.get) (Sl.read s10.get) (by omega) (by omega)).mono ?_
      rintro e w11 ⟨rfl, s11, b11⟩
      rw [decide_eq_true rfl]
      go_wp2_with fail
      go_ret
      exact ⟨rfl, b10.trans b11⟩
end Go.Proofs.Ytgnpchafcalkgaa
