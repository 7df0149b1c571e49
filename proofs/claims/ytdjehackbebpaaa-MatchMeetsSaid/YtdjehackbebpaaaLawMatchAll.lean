/-
  The walk of MatchAll.
-/
import Derived.Test.YtdjehackbebpaaaLawMatchFront
namespace Go.Proofs.Ytdjehackbebpaaa
open Go.RowKit Go.Rp

def upTo (m : Nat) : List (Int × Int) := (List.range m).map fun (j : Nat) => ((1 : Int), (j : Int))
theorem upTo_succ (m : Nat) : (upTo (m + 1)).flatMap opIn = (upTo m).flatMap opIn ++ [.int .u8 1, .int .i32 (m : Int)] := by
  unfold upTo
  rw [List.range_succ, List.map_append, List.flatMap_append]
  rfl
theorem down_succ (k m : Nat) : (upTo k ++ List.replicate (m + 1) (2, 0)).flatMap opIn = (upTo k ++ List.replicate m (2, 0)).flatMap opIn ++ [.int .u8 2, .int .i32 0] := by
  rw [List.replicate_succ', ← List.append_assoc, List.flatMap_append]
  rfl

set_option maxRecDepth 100000 in
theorem MatchAll_walk (w : World) (hv : Int) (hhv : (Lit.int .u8 hv).wf = true) (x : Int) (hx : (Lit.int .u8 x).wf = true) :
    Calls Try.prog 5 #[.int .u8 hv, .int .u8 x] w fun e w' => e = .returned (.bool true) ∧ Below w.heap.size w w' := by
  obtain ⟨i0, hi0, hz0, hz1, hz2⟩ := info_parts info_op
  obtain ⟨K, hK, kmod, hx0, hx1⟩ := u8_mod hx 20 (by omega)
  obtain ⟨H, hH, hmod, hv0, hv1⟩ := u8_mod hhv 9 (by omega)
  clear hx hhv
  have s0 : At w.heap.size w [slRes 32 2 none 0 0 []] := Sep.nilSl (show Sep w _ [] from trivial) _ _
  go_enter Try.func5, Try.ntmps5
  go_wp2_with fail
  simp only [kmod, hmod]
  go_loopg [7, 8] K (fun g v k wr => ∃ (m : Nat) (A : Option Addr) (c : Nat), m + g = K ∧ k = .int .i64 (m : Int) ∧ v = .slice A m c ∧ At w.heap.size wr [slRes 32 2 A m c ((upTo m).flatMap opIn)] ∧ Below w.heap.size w wr)
  case atStart => exact ⟨0, none, 0, by omega, rfl, rfl, s0, Below.refl _ _⟩
  case round =>
    obtain ⟨m, A, c, hm, rfl, rfl, s2, b2⟩ := hrel
    by_cases hlt : m < K
    · have e3 : IntKind.i32.wrap (m : Int) = (m : Int) := IntWalk.i32_in _ (by omega)
      have HSC := Lib.hid (upTo_succ m)
      have s5 : At w.heap.size (wr.alloc (.cells #[.int .u8 1, .int .i32 (m : Int)] 32)) _ := s2.keep ((Below.refl _ wr).alloc (Nat.le_refl _) _)
      have b5 := b2.alloc b2.size (.cells #[.int .u8 1, .int .i32 (m : Int)] 32)
      obtain ⟨S, hS, hSU, hnext⟩ := s5.frontAny (fun x hx => Nat.le_trans b5.size hx)
      go_wp2_with (at_builtin; refine wpList_append_sl _ rfl (.tmp 24) (.tmp 28) _ rfl 32 i0 _ 2 8 Try.underlying22 hi0 hz0 hz1 hz2 rfl (by omega) A m c _ _ rfl (by exact hS) (· = wr.heap.size) (some ⟨wr.heap.size, 0, none⟩) 1 1 [.int .u8 1, .int .i32 (m : Int)] rfl (by exact Rd.lit (sz := 2) wr _ #[.int .u8 1, .int .i32 (m : Int)] 1 rfl) (by simp [Value.oneCell']) (by simp only [maxLen]; omega) (by omega) ?_; intro A3 c3 w3 hown3 hmod3)
      have b6 := b5.trans (hmod3.below (Nat.le_trans b2.size (by simp)) fun b hb => (hSU b hb).1)
      have s6 := hnext (slRes 32 2 A3 (m + 1) c3 ((upTo (m + 1)).flatMap opIn)) w3 (by rw [HSC.out]; exact hown3) hmod3
      clear hS hSU hnext hown3 hmod3 s5 b5
      go_wp2_with fail
      go_roundg (gk - 1)
      case measure => omega
      case rel => exact ⟨m + 1, A3, c3, by omega, by go_num, rfl, s6, b6⟩
    · obtain rfl : m = K := by omega
      go_wp2_with fail
      go_loopg [7, 9] m (fun g v k wr => ∃ (j : Nat) (A : Option Addr) (c : Nat), j + g = m ∧ k = .int .i64 (j : Int) ∧ v = .slice A (m + j) c ∧ At w.heap.size wr [slRes 32 2 A (m + j) c ((upTo m ++ List.replicate j (2, 0)).flatMap opIn)] ∧ Below w.heap.size w wr)
      case atStart => exact ⟨0, A, c, by omega, rfl, rfl, by simpa using s2, b2⟩
      case round =>
        clear s2 b2
        obtain ⟨j, A, c, hj, rfl, rfl, s2, b2⟩ := hrel
        by_cases hlt2 : j < m
        · have HSC := Lib.hid (down_succ m j)
          have s5 : At w.heap.size (wr.alloc (.cells #[.int .u8 2, .int .i32 0] 32)) _ := s2.keep ((Below.refl _ wr).alloc (Nat.le_refl _) _)
          have b5 := b2.alloc b2.size (.cells #[.int .u8 2, .int .i32 0] 32)
          obtain ⟨S, hS, hSU, hnext⟩ := s5.frontAny (fun x hx => Nat.le_trans b5.size hx)
          go_wp2_with (at_builtin; refine wpList_append_sl _ rfl (.tmp 35) (.tmp 37) _ rfl 32 i0 _ 2 8 Try.underlying22 hi0 hz0 hz1 hz2 rfl (by omega) A (m + j) c _ _ rfl (by exact hS) (· = wr.heap.size) (some ⟨wr.heap.size, 0, none⟩) 1 1 [.int .u8 2, .int .i32 0] rfl (by exact Rd.lit (sz := 2) wr _ #[.int .u8 2, .int .i32 0] 1 rfl) (by simp [Value.oneCell']) (by simp only [maxLen]; omega) (by omega) ?_; intro A3 c3 w3 hown3 hmod3)
          have b6 := b5.trans (hmod3.below (Nat.le_trans b2.size (by simp)) fun b hb => (hSU b hb).1)
          have s6 := hnext (slRes 32 2 A3 ((m + j) + 1) c3 ((upTo m ++ List.replicate (j + 1) (2, 0)).flatMap opIn)) w3 (by rw [HSC.out]; exact hown3) hmod3
          clear hS hSU hnext hown3 hmod3 s5 b5
          go_wp2_with fail
          go_roundg (gk - 1)
          case measure => omega
          case rel => exact ⟨j + 1, A3, c3, by omega, by go_num, rfl, s6, b6⟩
        · obtain rfl : j = m := by omega
          have s3 : At w.heap.size wr [opsR A (j + j) (allOps j)] := s2.toRd (by omega)
          clear s2
          have hln : (allOps j).length = j + j := by rw [allOps_length]; omega
          have h8 : ∀ o ∈ allOps j, 0 ≤ o.1 ∧ o.1 ≤ 255 := by
            intro o ho
            unfold allOps at ho
            rcases List.mem_append.1 ho with ho | ho
            · obtain ⟨i, _, rfl⟩ := List.mem_map.1 ho
              exact ⟨by simp, by simp⟩
            · rw [(List.mem_replicate.1 ho).2]; exact ⟨by simp, by simp⟩
          have hc : capI ((H : Int) + (j : Int)) = H + j := by unfold capI; omega
          have hb : belI (H : Int) ((H : Int) + (j : Int)) = H := by unfold belI; rw [hc]; omega
          have hc2 : capI (H : Int) = H := by unfold capI; omega
          have hb2 : belI (H : Int) (H : Int) = H := by unfold belI; rw [hc2]; omega
          have HLN := Lib.hid hln
          have HC := Lib.hid hc
          have HBB := Lib.hid hb
          have HC2 := Lib.hid hc2
          have HBB2 := Lib.hid hb2
          clear hln hc hb hc2 hb2
          have p1 := Pairs_o (c := c) b2.size (H : Int) ((H : Int) + (j : Int)) HLN.out h8 (by omega) s3
          go_wp2_with fail
          refine p1.mono ?_
          rintro e w4 ⟨gp, gc, rfl, s4, b4⟩
          have b4 := b2.trans b4
          clear p1 s3 b2
          go_wp2_with fail
          go_loopg [12] j (fun g k wr => ∃ i : Nat, i + g = j ∧ k = .int .i64 (i : Int) ∧ w4 = wr)
          case atStart => exact ⟨0, by omega, rfl, rfl⟩
          case round =>
            obtain ⟨i, hi, rfl, rfl⟩ := hrel
            by_cases hlt3 : i < j
            · have g1 : w4.cell? ⟨gp, i, none⟩ = some (.int .i64 (-1)) := own_at s4 ((pairsL_q (by rw [HLN.out]; omega)).trans (by rw [HC.out, HBB.out, all_pair1 H j i hlt3]))
              have g2 : w4.cell? ⟨gp, j + i, none⟩ = some (.int .i64 ((j : Int) - 1 - (i : Int))) := own_at s4 ((pairsL_q (by rw [HLN.out]; omega)).trans (by rw [HC.out, HBB.out, all_pair2 H j i hlt3]; congr 1; omega))
              have q1 : ((j : Int) + (i : Int)).toNat = j + i := by omega
              have q2 : (j : Int) + (i : Int) < ((j + j : Nat) : Int) := by omega
              have q3 : (i : Int) < ((j + j : Nat) : Int) := by omega
              go_wp2_with fail
              go_roundg (gk - 1)
              case measure => omega
              case rel => exact ⟨i + 1, by omega, by go_num, rfl⟩
            · obtain rfl : i = j := by omega
              have hk := known_s b4.size s4
              go_wp2_with fail
              refine hk.mono ?_
              rintro e w5 ⟨rfl, s5, b5⟩
              have b5 := b4.trans b5
              clear hk s4 b4
              have hs := Spared_o (c := c) b5.size (H : Int) ((H : Int) + (i : Int)) HLN.out h8 (by omega) s5.rot3 (v := i) (by rw [HC.out, HBB.out]; have := all_met H i; rwa [show 2 * i = i + i by omega] at this)
              go_wp2_with fail
              refine hs.mono ?_
              rintro e w6 ⟨rfl, s6, b6⟩
              have b6 := b5.trans b6
              clear hs s5 b5
              have hs := Spared_o (c := c) b6.size (H : Int) (H : Int) HLN.out h8 (by omega) s6 (v := 0) (by rw [HC2.out, HBB2.out]; have := none_met H i; rwa [show 2 * i = i + i by omega] at this)
              go_wp2_with fail
              refine hs.mono ?_
              rintro e w7 ⟨rfl, s7, b7⟩
              have b7 := b6.trans b7
              clear hs s6 b6
              go_wp2_with fail
              go_ret
              exact ⟨by simp, b7⟩
end Go.Proofs.Ytdjehackbebpaaa
