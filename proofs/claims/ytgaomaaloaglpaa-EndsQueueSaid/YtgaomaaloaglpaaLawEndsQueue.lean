/-
  The walk of EndsQueue.
-/
import Derived.Test.YtgaomaaloaglpaaLawEndsFront
namespace Go.Proofs.Ytgaomaaloaglpaa
open Go.RowKit Go.Rp

theorem rep_succ (m : Nat) (o : Int × Int) : (List.replicate (m + 1) o).flatMap opIn = (List.replicate m o).flatMap opIn ++ [.int .u8 o.1, .int .i32 o.2] := by
  rw [List.replicate_succ', List.flatMap_append]
  rfl
theorem reps_succ (k m : Nat) (p o : Int × Int) : (List.replicate k p ++ List.replicate (m + 1) o).flatMap opIn = (List.replicate k p ++ List.replicate m o).flatMap opIn ++ [.int .u8 o.1, .int .i32 o.2] := by
  rw [List.replicate_succ', ← List.append_assoc, List.flatMap_append]
  rfl
theorem queue_ok (r : Bool) (k : Nat) : ∀ o ∈ queueOps r k, 0 ≤ o.1 ∧ o.1 ≤ 255 := by
  intro o ho
  unfold queueOps at ho
  rcases List.mem_append.1 ho with ho | ho
  · rw [(List.mem_replicate.1 ho).2]; cases r <;> exact ⟨by simp, by simp⟩
  · rw [(List.mem_replicate.1 ho).2]; cases r <;> exact ⟨by simp, by simp⟩
theorem queueR (r : Bool) (k j : Nat) (h : j < 2 * k + 1) : mPair k 0 (queueOps r k) j = mPair k 0 (queueOps false k) j ∧ mCode k 0 (queueOps r k) j = mCode k 0 (queueOps false k) j := by
  cases r
  · exact ⟨rfl, rfl⟩
  · rw [queue_oth]
    exact ⟨mPair_oth (by rw [queue_len]; exact h), mCode_oth (by rw [queue_len]; exact h)⟩
theorem queue_metR (r : Bool) (k : Nat) : metN (mPair k 0 (queueOps r k)) (k + (k + 1)) = k := by
  rw [show k + (k + 1) = 2 * k + 1 by omega, metN_congr fun i hi => (queueR r k i hi).1]
  exact queue_met k

set_option maxRecDepth 100000 in
set_option maxHeartbeats 2000000 in
theorem EndsQueue_walk (w : World) (x : Int) (hx : (Lit.int .u8 x).wf = true) (r : Bool) :
    Calls Try.prog 5 #[.int .u8 x, .bool r] w fun e w' => e = .returned (.bool true) ∧ Below w.heap.size w w' := by
  obtain ⟨i0, hi0, hz0, hz1, hz2⟩ := info_parts info_op
  obtain ⟨K, hK, kmod, hx0, hx1⟩ := u8_mod hx 20 (by omega)
  clear hx
  have hmk : ∀ p q : Int, At w.heap.size ((w.alloc (.cells #[.int .u8 p, .int .i32 0] 29)).alloc (.cells #[.int .u8 q, .int .i32 0] 29)) [slRes 29 2 none 0 0 [], blkR w.heap.size 29 #[.int .u8 p, .int .i32 0], blkR (w.heap.size + 1) 29 #[.int .u8 q, .int .i32 0]] := fun p q => by
    have s0 : At w.heap.size w [] := trivial
    have s1 := s0.alloc (Nat.le_refl _) #[.int .u8 p, .int .i32 0] 29
    have s2 := s1.alloc (by simp) #[.int .u8 q, .int .i32 0] 29
    simp only [World.size_alloc] at s2
    exact Sep.nilSl s2.rot2 _ _
  have hmb : ∀ p q : Int, Below w.heap.size w ((w.alloc (.cells #[.int .u8 p, .int .i32 0] 29)).alloc (.cells #[.int .u8 q, .int .i32 0] 29)) := fun p q => ((Below.refl _ w).alloc (Nat.le_refl _) _).alloc (by simp) _
  have HMK := Lib.hid hmk
  have HMB := Lib.hid hmb
  clear hmk hmb
  cases r
  all_goals
    go_enter Try.func5, Try.ntmps5
    go_wp2_with fail
    simp only [kmod]
  ·
    have s1 : At w.heap.size ((w.alloc (.cells #[.int .u8 1, .int .i32 0] 29)).alloc (.cells #[.int .u8 4, .int .i32 0] 29)) [slRes 29 2 none 0 0 [], blkR w.heap.size 29 #[.int .u8 1, .int .i32 0], blkR (w.heap.size + 1) 29 #[.int .u8 4, .int .i32 0]] := HMK.out 1 4
    have b1 : Below w.heap.size w ((w.alloc (.cells #[.int .u8 1, .int .i32 0] 29)).alloc (.cells #[.int .u8 4, .int .i32 0] 29)) := HMB.out 1 4
    generalize ((w.alloc (.cells #[.int .u8 1, .int .i32 0] 29)).alloc (.cells #[.int .u8 4, .int .i32 0] 29)) = W at *
    go_loopg [8, 9] K (fun g v k wr => ∃ (m : Nat) (A : Option Addr) (c : Nat), m + g = K ∧ k = .int .i64 (m : Int) ∧ v = .slice A m c ∧ At w.heap.size wr [slRes 29 2 A m c ((List.replicate m ((1, 0) : Int × Int)).flatMap opIn), blkR w.heap.size 29 #[.int .u8 1, .int .i32 0], blkR (w.heap.size + 1) 29 #[.int .u8 4, .int .i32 0]] ∧ Below w.heap.size w wr)
    case atStart => exact ⟨0, none, 0, by omega, rfl, rfl, s1, b1⟩
    case round =>
      clear s1 b1
      obtain ⟨m, A, c, hm, rfl, rfl, s2, b2⟩ := hrel
      have q0 : wr.cell? ⟨w.heap.size, 0, none⟩ = some (.int .u8 1) := s2.rot2.blk.cell 0
      have q1 : wr.cell? ⟨w.heap.size, 1, none⟩ = some (.int .i32 0) := s2.rot2.blk.cell 1
      by_cases hlt : m < K
      · have HSC := Lib.hid (rep_succ m ((1, 0) : Int × Int))
        have s5 : At w.heap.size (wr.alloc (.cells #[.int .u8 1, .int .i32 0] 29)) _ := s2.keep ((Below.refl _ wr).alloc (Nat.le_refl _) _)
        have b5 := b2.alloc b2.size (.cells #[.int .u8 1, .int .i32 0] 29)
        obtain ⟨S, hS, hSU, hnext⟩ := s5.frontAny (fun x hx => Nat.le_trans b5.size hx)
        go_wp2_with (at_builtin; refine wpList_append_sl _ rfl (.tmp 27) (.tmp 29) _ rfl 29 i0 _ 2 8 Try.underlying22 hi0 hz0 hz1 hz2 rfl (by omega) A m c _ _ rfl (by exact hS) (· = wr.heap.size) (some ⟨wr.heap.size, 0, none⟩) 1 1 [.int .u8 1, .int .i32 0] rfl (by exact Rd.lit (sz := 2) wr _ #[.int .u8 1, .int .i32 0] 1 rfl) (by simp [Value.oneCell']) (by simp only [maxLen]; omega) (by omega) ?_; intro A3 c3 w3 hown3 hmod3)
        have b6 := b5.trans (hmod3.below (Nat.le_trans b2.size (by simp)) fun b hb => (hSU b hb).1)
        have s6 := hnext (slRes 29 2 A3 (m + 1) c3 ((List.replicate (m + 1) ((1, 0) : Int × Int)).flatMap opIn)) w3 (by rw [HSC.out]; exact hown3) hmod3
        clear hS hSU hnext hown3 hmod3 s5 b5
        go_wp2_with fail
        go_roundg (gk - 1)
        case measure => omega
        case rel => exact ⟨m + 1, A3, c3, by omega, by go_num, rfl, s6, b6⟩
      · obtain rfl : m = K := by omega
        clear q0 q1
        go_wp2_with fail
        go_loopg [8, 10] (m + 1) (fun g v k wr => ∃ (j : Nat) (A : Option Addr) (c : Nat), j + g = m + 1 ∧ k = .int .i64 (j : Int) ∧ v = .slice A (m + j) c ∧ At w.heap.size wr [slRes 29 2 A (m + j) c ((List.replicate m ((1, 0) : Int × Int) ++ List.replicate j ((4, 0) : Int × Int)).flatMap opIn), blkR w.heap.size 29 #[.int .u8 1, .int .i32 0], blkR (w.heap.size + 1) 29 #[.int .u8 4, .int .i32 0]] ∧ Below w.heap.size w wr)
        case atStart => exact ⟨0, A, c, by omega, rfl, rfl, by simpa using s2, b2⟩
        case round =>
          clear s2 b2
          obtain ⟨j, A, c, hj, rfl, rfl, s2, b2⟩ := hrel
          have q0 : wr.cell? ⟨w.heap.size + 1, 0, none⟩ = some (.int .u8 4) := s2.rot3.blk.cell 0
          have q1 : wr.cell? ⟨w.heap.size + 1, 1, none⟩ = some (.int .i32 0) := s2.rot3.blk.cell 1
          by_cases hlt2 : j ≤ m
          · have HSC := Lib.hid (reps_succ m j ((1, 0) : Int × Int) ((4, 0) : Int × Int))
            have s5 : At w.heap.size (wr.alloc (.cells #[.int .u8 4, .int .i32 0] 29)) _ := s2.keep ((Below.refl _ wr).alloc (Nat.le_refl _) _)
            have b5 := b2.alloc b2.size (.cells #[.int .u8 4, .int .i32 0] 29)
            obtain ⟨S, hS, hSU, hnext⟩ := s5.frontAny (fun x hx => Nat.le_trans b5.size hx)
            go_wp2_with (at_builtin; refine wpList_append_sl _ rfl (.tmp 36) (.tmp 38) _ rfl 29 i0 _ 2 8 Try.underlying22 hi0 hz0 hz1 hz2 rfl (by omega) A (m + j) c _ _ rfl (by exact hS) (· = wr.heap.size) (some ⟨wr.heap.size, 0, none⟩) 1 1 [.int .u8 4, .int .i32 0] rfl (by exact Rd.lit (sz := 2) wr _ #[.int .u8 4, .int .i32 0] 1 rfl) (by simp [Value.oneCell']) (by simp only [maxLen]; omega) (by omega) ?_; intro A3 c3 w3 hown3 hmod3)
            have b6 := b5.trans (hmod3.below (Nat.le_trans b2.size (by simp)) fun b hb => (hSU b hb).1)
            have s6 := hnext (slRes 29 2 A3 ((m + j) + 1) c3 ((List.replicate m ((1, 0) : Int × Int) ++ List.replicate (j + 1) ((4, 0) : Int × Int)).flatMap opIn)) w3 (by rw [HSC.out]; exact hown3) hmod3
            clear hS hSU hnext hown3 hmod3 s5 b5
            go_wp2_with fail
            go_roundg (gk - 1)
            case measure => omega
            case rel => exact ⟨j + 1, A3, c3, by omega, by go_num, rfl, s6, b6⟩
          · obtain rfl : j = m + 1 := by omega
            have s3 : At w.heap.size wr (opsR A (m + (m + 1)) (queueOps false m) :: _) := s2.toRd (by omega)
            clear s2 q0 q1
            have hln : (queueOps false m).length = m + (m + 1) := by rw [queue_len]; omega
            have h8 : ∀ o ∈ queueOps false m, 0 ≤ o.1 ∧ o.1 ≤ 255 := queue_ok false m
            have hc : capI (m : Int) = m := by unfold capI; omega
            have hb : belI 0 (m : Int) = 0 := by unfold belI; rw [hc]; omega
            have HLN := Lib.hid hln
            have HC := Lib.hid hc
            have HBB := Lib.hid hb
            clear hln hc hb
            have p1 := Pairs_o (c := c) b2.size 0 (m : Int) HLN.out h8 (by omega) s3
            have hm20 : m < 20 := by omega
            have hnn : (((m + (m + 1) : Nat) : Int) != 2 * (m : Int) + 1) = false := by simp; omega
            have hnn2 : (((m : Int) + ((m : Int) + 1)) != 2 * (m : Int) + 1) = false := by simp; omega
            clear hm hj hlt hlt2
            generalize hNN : m + (m + 1) = N at *
            have HNN := Lib.hid hNN
            clear hNN
            go_wp2_with fail
            refine p1.mono ?_
            rintro e w4 ⟨gp, gc, rfl, s4, b4⟩
            have b4 := b2.trans b4
            clear p1 s3 b2
            go_wp2_with fail
            go_loopg [13] m (fun g k wr => ∃ i : Nat, i + g = m ∧ k = .int .i64 (i : Int) ∧ w4 = wr)
            case atStart => exact ⟨0, by omega, rfl, rfl⟩
            case round =>
              obtain ⟨i, hi, rfl, rfl⟩ := hrel
              by_cases hlt3 : i < m
              · have g1 : w4.cell? ⟨gp, i, none⟩ = some (.int .i64 (-1)) := own_at s4 ((pairsL_q (by rw [HLN.out, ← HNN.out]; omega)).trans (by rw [HC.out, HBB.out, (queueR false m i (by omega)).1, queue_p1 m i hlt3]))
                have g2 : w4.cell? ⟨gp, m + i, none⟩ = some (.int .i64 (i : Int)) := own_at s4 ((pairsL_q (by rw [HLN.out, ← HNN.out]; omega)).trans (by rw [HC.out, HBB.out, (queueR false m (m + i) (by omega)).1, (queue_p2 m i hlt3).1]))
                have g3 : w4.cell? ⟨gc, m + i, none⟩ = some (.int .u8 2) := own_at s4.rot2 ((codesL_q (by rw [HLN.out, ← HNN.out]; omega)).trans (by rw [HC.out, HBB.out, (queueR false m (m + i) (by omega)).2, (queue_p2 m i hlt3).2]))
                have q1 : ((m : Int) + (i : Int)).toNat = m + i := by omega
                have q2 : (m : Int) + (i : Int) < (N : Int) := by have := HNN.out; omega
                have q3 : (i : Int) < (N : Int) := by have := HNN.out; omega
                go_wp2_with fail
                go_roundg (gk - 1)
                case measure => omega
                case rel => exact ⟨i + 1, by omega, by go_num, rfl⟩
              · obtain rfl : i = m := by omega
                have hk := known_s b4.size s4
                go_wp2_with fail
                refine hk.mono ?_
                rintro e w5 ⟨rfl, s5, b5⟩
                have b5 := b4.trans b5
                clear hk s4 b4
                have g1 : w5.cell? ⟨gp, 2 * i, none⟩ = some (.int .i64 (-1)) := own_at s5 ((pairsL_q (by rw [HLN.out, ← HNN.out]; omega)).trans (by rw [HC.out, HBB.out, (queueR false i (2 * i) (by omega)).1, (queue_p3 i).1]))
                have g3 : w5.cell? ⟨gc, 2 * i, none⟩ = some (.int .u8 4) := own_at s5.rot2 ((codesL_q (by rw [HLN.out, ← HNN.out]; omega)).trans (by rw [HC.out, HBB.out, (queueR false i (2 * i) (by omega)).2, (queue_p3 i).2]))
                have hs := Spared_o (c := c) b5.size 0 (i : Int) HLN.out h8 (by have := HNN.out; omega) s5.rot3 (v := i) (by rw [HC.out, HBB.out, ← HNN.out]; exact queue_metR false i)
                have q1 : ((2 : Int) * (i : Int)).toNat = 2 * i := by omega
                have q2 : (2 : Int) * (i : Int) < (N : Int) := by have := HNN.out; omega
                go_wp2_with fail
                refine hs.mono ?_
                rintro e w6 ⟨rfl, s6, b6⟩
                have b6 := b5.trans b6
                clear hs s5 b5
                go_wp2_with fail
                go_ret
                exact ⟨by simp, b6⟩
  ·
    have s1 : At w.heap.size ((w.alloc (.cells #[.int .u8 2, .int .i32 0] 29)).alloc (.cells #[.int .u8 3, .int .i32 0] 29)) [slRes 29 2 none 0 0 [], blkR w.heap.size 29 #[.int .u8 2, .int .i32 0], blkR (w.heap.size + 1) 29 #[.int .u8 3, .int .i32 0]] := HMK.out 2 3
    have b1 : Below w.heap.size w ((w.alloc (.cells #[.int .u8 2, .int .i32 0] 29)).alloc (.cells #[.int .u8 3, .int .i32 0] 29)) := HMB.out 2 3
    generalize ((w.alloc (.cells #[.int .u8 2, .int .i32 0] 29)).alloc (.cells #[.int .u8 3, .int .i32 0] 29)) = W at *
    go_loopg [8, 9] K (fun g v k wr => ∃ (m : Nat) (A : Option Addr) (c : Nat), m + g = K ∧ k = .int .i64 (m : Int) ∧ v = .slice A m c ∧ At w.heap.size wr [slRes 29 2 A m c ((List.replicate m ((2, 0) : Int × Int)).flatMap opIn), blkR w.heap.size 29 #[.int .u8 2, .int .i32 0], blkR (w.heap.size + 1) 29 #[.int .u8 3, .int .i32 0]] ∧ Below w.heap.size w wr)
    case atStart => exact ⟨0, none, 0, by omega, rfl, rfl, s1, b1⟩
    case round =>
      clear s1 b1
      obtain ⟨m, A, c, hm, rfl, rfl, s2, b2⟩ := hrel
      have q0 : wr.cell? ⟨w.heap.size, 0, none⟩ = some (.int .u8 2) := s2.rot2.blk.cell 0
      have q1 : wr.cell? ⟨w.heap.size, 1, none⟩ = some (.int .i32 0) := s2.rot2.blk.cell 1
      by_cases hlt : m < K
      · have HSC := Lib.hid (rep_succ m ((2, 0) : Int × Int))
        have s5 : At w.heap.size (wr.alloc (.cells #[.int .u8 2, .int .i32 0] 29)) _ := s2.keep ((Below.refl _ wr).alloc (Nat.le_refl _) _)
        have b5 := b2.alloc b2.size (.cells #[.int .u8 2, .int .i32 0] 29)
        obtain ⟨S, hS, hSU, hnext⟩ := s5.frontAny (fun x hx => Nat.le_trans b5.size hx)
        go_wp2_with (at_builtin; refine wpList_append_sl _ rfl (.tmp 27) (.tmp 29) _ rfl 29 i0 _ 2 8 Try.underlying22 hi0 hz0 hz1 hz2 rfl (by omega) A m c _ _ rfl (by exact hS) (· = wr.heap.size) (some ⟨wr.heap.size, 0, none⟩) 1 1 [.int .u8 2, .int .i32 0] rfl (by exact Rd.lit (sz := 2) wr _ #[.int .u8 2, .int .i32 0] 1 rfl) (by simp [Value.oneCell']) (by simp only [maxLen]; omega) (by omega) ?_; intro A3 c3 w3 hown3 hmod3)
        have b6 := b5.trans (hmod3.below (Nat.le_trans b2.size (by simp)) fun b hb => (hSU b hb).1)
        have s6 := hnext (slRes 29 2 A3 (m + 1) c3 ((List.replicate (m + 1) ((2, 0) : Int × Int)).flatMap opIn)) w3 (by rw [HSC.out]; exact hown3) hmod3
        clear hS hSU hnext hown3 hmod3 s5 b5
        go_wp2_with fail
        go_roundg (gk - 1)
        case measure => omega
        case rel => exact ⟨m + 1, A3, c3, by omega, by go_num, rfl, s6, b6⟩
      · obtain rfl : m = K := by omega
        clear q0 q1
        go_wp2_with fail
        go_loopg [8, 10] (m + 1) (fun g v k wr => ∃ (j : Nat) (A : Option Addr) (c : Nat), j + g = m + 1 ∧ k = .int .i64 (j : Int) ∧ v = .slice A (m + j) c ∧ At w.heap.size wr [slRes 29 2 A (m + j) c ((List.replicate m ((2, 0) : Int × Int) ++ List.replicate j ((3, 0) : Int × Int)).flatMap opIn), blkR w.heap.size 29 #[.int .u8 2, .int .i32 0], blkR (w.heap.size + 1) 29 #[.int .u8 3, .int .i32 0]] ∧ Below w.heap.size w wr)
        case atStart => exact ⟨0, A, c, by omega, rfl, rfl, by simpa using s2, b2⟩
        case round =>
          clear s2 b2
          obtain ⟨j, A, c, hj, rfl, rfl, s2, b2⟩ := hrel
          have q0 : wr.cell? ⟨w.heap.size + 1, 0, none⟩ = some (.int .u8 3) := s2.rot3.blk.cell 0
          have q1 : wr.cell? ⟨w.heap.size + 1, 1, none⟩ = some (.int .i32 0) := s2.rot3.blk.cell 1
          by_cases hlt2 : j ≤ m
          · have HSC := Lib.hid (reps_succ m j ((2, 0) : Int × Int) ((3, 0) : Int × Int))
            have s5 : At w.heap.size (wr.alloc (.cells #[.int .u8 3, .int .i32 0] 29)) _ := s2.keep ((Below.refl _ wr).alloc (Nat.le_refl _) _)
            have b5 := b2.alloc b2.size (.cells #[.int .u8 3, .int .i32 0] 29)
            obtain ⟨S, hS, hSU, hnext⟩ := s5.frontAny (fun x hx => Nat.le_trans b5.size hx)
            go_wp2_with (at_builtin; refine wpList_append_sl _ rfl (.tmp 36) (.tmp 38) _ rfl 29 i0 _ 2 8 Try.underlying22 hi0 hz0 hz1 hz2 rfl (by omega) A (m + j) c _ _ rfl (by exact hS) (· = wr.heap.size) (some ⟨wr.heap.size, 0, none⟩) 1 1 [.int .u8 3, .int .i32 0] rfl (by exact Rd.lit (sz := 2) wr _ #[.int .u8 3, .int .i32 0] 1 rfl) (by simp [Value.oneCell']) (by simp only [maxLen]; omega) (by omega) ?_; intro A3 c3 w3 hown3 hmod3)
            have b6 := b5.trans (hmod3.below (Nat.le_trans b2.size (by simp)) fun b hb => (hSU b hb).1)
            have s6 := hnext (slRes 29 2 A3 ((m + j) + 1) c3 ((List.replicate m ((2, 0) : Int × Int) ++ List.replicate (j + 1) ((3, 0) : Int × Int)).flatMap opIn)) w3 (by rw [HSC.out]; exact hown3) hmod3
            clear hS hSU hnext hown3 hmod3 s5 b5
            go_wp2_with fail
            go_roundg (gk - 1)
            case measure => omega
            case rel => exact ⟨j + 1, A3, c3, by omega, by go_num, rfl, s6, b6⟩
          · obtain rfl : j = m + 1 := by omega
            have s3 : At w.heap.size wr (opsR A (m + (m + 1)) (queueOps true m) :: _) := s2.toRd (by omega)
            clear s2 q0 q1
            have hln : (queueOps true m).length = m + (m + 1) := by rw [queue_len]; omega
            have h8 : ∀ o ∈ queueOps true m, 0 ≤ o.1 ∧ o.1 ≤ 255 := queue_ok true m
            have hc : capI (m : Int) = m := by unfold capI; omega
            have hb : belI 0 (m : Int) = 0 := by unfold belI; rw [hc]; omega
            have HLN := Lib.hid hln
            have HC := Lib.hid hc
            have HBB := Lib.hid hb
            clear hln hc hb
            have p1 := Pairs_o (c := c) b2.size 0 (m : Int) HLN.out h8 (by omega) s3
            have hm20 : m < 20 := by omega
            have hnn : (((m + (m + 1) : Nat) : Int) != 2 * (m : Int) + 1) = false := by simp; omega
            have hnn2 : (((m : Int) + ((m : Int) + 1)) != 2 * (m : Int) + 1) = false := by simp; omega
            clear hm hj hlt hlt2
            generalize hNN : m + (m + 1) = N at *
            have HNN := Lib.hid hNN
            clear hNN
            go_wp2_with fail
            refine p1.mono ?_
            rintro e w4 ⟨gp, gc, rfl, s4, b4⟩
            have b4 := b2.trans b4
            clear p1 s3 b2
            go_wp2_with fail
            go_loopg [13] m (fun g k wr => ∃ i : Nat, i + g = m ∧ k = .int .i64 (i : Int) ∧ w4 = wr)
            case atStart => exact ⟨0, by omega, rfl, rfl⟩
            case round =>
              obtain ⟨i, hi, rfl, rfl⟩ := hrel
              by_cases hlt3 : i < m
              · have g1 : w4.cell? ⟨gp, i, none⟩ = some (.int .i64 (-1)) := own_at s4 ((pairsL_q (by rw [HLN.out, ← HNN.out]; omega)).trans (by rw [HC.out, HBB.out, (queueR true m i (by omega)).1, queue_p1 m i hlt3]))
                have g2 : w4.cell? ⟨gp, m + i, none⟩ = some (.int .i64 (i : Int)) := own_at s4 ((pairsL_q (by rw [HLN.out, ← HNN.out]; omega)).trans (by rw [HC.out, HBB.out, (queueR true m (m + i) (by omega)).1, (queue_p2 m i hlt3).1]))
                have g3 : w4.cell? ⟨gc, m + i, none⟩ = some (.int .u8 2) := own_at s4.rot2 ((codesL_q (by rw [HLN.out, ← HNN.out]; omega)).trans (by rw [HC.out, HBB.out, (queueR true m (m + i) (by omega)).2, (queue_p2 m i hlt3).2]))
                have q1 : ((m : Int) + (i : Int)).toNat = m + i := by omega
                have q2 : (m : Int) + (i : Int) < (N : Int) := by have := HNN.out; omega
                have q3 : (i : Int) < (N : Int) := by have := HNN.out; omega
                go_wp2_with fail
                go_roundg (gk - 1)
                case measure => omega
                case rel => exact ⟨i + 1, by omega, by go_num, rfl⟩
              · obtain rfl : i = m := by omega
                have hk := known_s b4.size s4
                go_wp2_with fail
                refine hk.mono ?_
                rintro e w5 ⟨rfl, s5, b5⟩
                have b5 := b4.trans b5
                clear hk s4 b4
                have g1 : w5.cell? ⟨gp, 2 * i, none⟩ = some (.int .i64 (-1)) := own_at s5 ((pairsL_q (by rw [HLN.out, ← HNN.out]; omega)).trans (by rw [HC.out, HBB.out, (queueR true i (2 * i) (by omega)).1, (queue_p3 i).1]))
                have g3 : w5.cell? ⟨gc, 2 * i, none⟩ = some (.int .u8 4) := own_at s5.rot2 ((codesL_q (by rw [HLN.out, ← HNN.out]; omega)).trans (by rw [HC.out, HBB.out, (queueR true i (2 * i) (by omega)).2, (queue_p3 i).2]))
                have hs := Spared_o (c := c) b5.size 0 (i : Int) HLN.out h8 (by have := HNN.out; omega) s5.rot3 (v := i) (by rw [HC.out, HBB.out, ← HNN.out]; exact queue_metR true i)
                have q1 : ((2 : Int) * (i : Int)).toNat = 2 * i := by omega
                have q2 : (2 : Int) * (i : Int) < (N : Int) := by have := HNN.out; omega
                go_wp2_with fail
                refine hs.mono ?_
                rintro e w6 ⟨rfl, s6, b6⟩
                have b6 := b5.trans b6
                clear hs s5 b5
                go_wp2_with fail
                go_ret
                exact ⟨by simp, b6⟩
end Go.Proofs.Ytgaomaaloaglpaa
