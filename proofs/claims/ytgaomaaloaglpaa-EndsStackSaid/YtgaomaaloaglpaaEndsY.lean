/-
  Apply without a deque: the walk.
-/
import Derived.Test.YtgaomaaloaglpaaEndsX
import Derived.Test.YtgaomaaloaglpaaEndsW
namespace Go.Proofs.Ytgaomaaloaglpaa
open Go.RowKit Go.Rp

theorem apply_start0 {B : Nat} {w : World} {L : List Res} {A : Option Addr} {n c : Nat} (hB : B ≤ w.heap.size) (hn : n ≤ 100000) (h : At B w L) :
    At B ((((((w.alloc (.cells #[.slice A n c] 22)).alloc (.cells #[.slice none 0 0, .slice none 0 0, .int .i64 0, .int .i64 0] 57)).alloc (.cells #[bound 28 none, bound 29 none] 62)).alloc (.cells #[bound 30 none, bound 31 none] 64)).alloc (.cells (madeCells #[.int .i32 0] n) 21)).alloc (.cells #[.slice (some ⟨w.heap.size + 1 + 1 + 1 + 1, 0, none⟩) n n] 65))
      (meetR (w.heap.size + 1) 0 ([], 0, []) :: valsR (w.heap.size + 1 + 1 + 1 + 1) n (List.replicate n (.int .i32 0)) :: vboxR (w.heap.size + 1 + 1 + 1 + 1 + 1) (w.heap.size + 1 + 1 + 1 + 1) n :: oboxR w.heap.size A n c :: L) ∧
    Below B w ((((((w.alloc (.cells #[.slice A n c] 22)).alloc (.cells #[.slice none 0 0, .slice none 0 0, .int .i64 0, .int .i64 0] 57)).alloc (.cells #[bound 28 none, bound 29 none] 62)).alloc (.cells #[bound 30 none, bound 31 none] 64)).alloc (.cells (madeCells #[.int .i32 0] n) 21)).alloc (.cells #[.slice (some ⟨w.heap.size + 1 + 1 + 1 + 1, 0, none⟩) n n] 65)) := by
  have s1 := h.alloc hB #[.slice A n c] 22
  have b1 := (Below.refl B w).alloc hB (.cells #[.slice A n c] 22)
  have s2 := meet_new (be := 0) (mo := 0) (Nat.le_trans hB b1.size) (Nat.le_refl _) (by omega) s1
  have b2 := b1.alloc (Nat.le_trans hB b1.size) (.cells #[.slice none 0 0, .slice none 0 0, .int .i64 0, .int .i64 0] 57)
  have s3 := s2.alloc (Nat.le_trans hB b2.size) #[bound 28 none, bound 29 none] 62
  have b3 := b2.alloc (Nat.le_trans hB b2.size) (.cells #[bound 28 none, bound 29 none] 62)
  have s4 := s3.drop.alloc (Nat.le_trans hB b3.size) #[bound 30 none, bound 31 none] 64
  have b4 := b3.alloc (Nat.le_trans hB b3.size) (.cells #[bound 30 none, bound 31 none] 64)
  have s5 := row_new (Nat.le_trans hB b4.size) hn (z := .int .i32 0) 21 s4.drop
  have b5 := b4.alloc (Nat.le_trans hB b4.size) (.cells (madeCells #[.int .i32 0] n) 21)
  have s6 := s5.alloc (Nat.le_trans hB b5.size) #[.slice (some ⟨w.heap.size + 1 + 1 + 1 + 1, 0, none⟩) n n] 65
  have b6 := b5.alloc (Nat.le_trans hB b5.size) (.cells #[.slice (some ⟨w.heap.size + 1 + 1 + 1 + 1, 0, none⟩) n n] 65)
  simp only [World.size_alloc] at s6
  exact ⟨Sep.cons (fun _ h => h.rot2) s6.rot3, b6⟩

set_option maxRecDepth 100000 in
set_option maxHeartbeats 4000000 in
theorem Apply_0 {B : Nat} {w : World} {L : List Res} {A : Option Addr} {n c : Nat} {ops : List (Int × Int)} (hB : B ≤ w.heap.size) (h : At B w L) (hn : ops.length = n) (h8 : ∀ o ∈ ops, 0 ≤ o.1 ∧ o.1 ≤ 255) (hlen : n ≤ 100000) (hrd : ∀ W L', Below B w W → At B W (L ++ L') → ∃ R, Rd W R 2 A n (ops.flatMap opIn)) :
    Calls Try.prog 18 #[.pointer none, .slice A n c] w fun e w' =>
      ∃ g, e = .returned (.slice (some ⟨g, 0, none⟩) n n) ∧ At B w' (slRes 42 2 (some ⟨g, 0, none⟩) n n ((toldK n (mCode 0 0 ops) (fun _ => 0) n).flatMap resIn) :: L) ∧ Below B w w' := by
  have hmf : ∀ (fn : Fn) (first cap : Array Value) (w : World), (Instr.makeFunc fn first cap).run Try.prog w = .ok (.func fn first cap) w := fun _ _ _ _ => rfl
  obtain ⟨i0, hi0, hz0, hz1, hz2⟩ := info_parts info_i32
  have hz3 : i0.bytes * n ≤ 281474976710656 := by rw [hz2]; omega
  have HN := Lib.hid hn
  have hl1 := rlen_nil (w.alloc (.cells #[.slice A n c] 22))
  have hm1 := rmost_nil (w.alloc (.cells #[.slice A n c] 22))
  have h0 := Lib.hid h
  clear hn h
  go_enter Try.func18, Try.ntmps18
  go_wp2_with fail
  refine hl1.mono ?_
  rintro e w1 ⟨rfl, rfl⟩
  go_wp2_with fail
  refine hm1.mono ?_
  rintro e w1 ⟨rfl, rfl⟩
  clear hl1 hm1
  go_wp2_with (refine wpList_make_row _ rfl (.tmp 33) (.tmp 33) 65 rfl 21 i0 _ Try.underlying65 hi0 hz0 hz1 rfl .i64 .i64 n rfl rfl hz3 (by omega) ?_)
  obtain ⟨s6, b5⟩ := apply_start0 (A := A) (n := n) (c := c) hB hlen (show At B w L from h0.out)
  generalize hW5 : ((((((w.alloc (.cells #[.slice A n c] 22)).alloc (.cells #[.slice none 0 0, .slice none 0 0, .int .i64 0, .int .i64 0] 57)).alloc (.cells #[bound 28 none, bound 29 none] 62)).alloc (.cells #[bound 30 none, bound 31 none] 64)).alloc (.cells (madeCells #[.int .i32 0] n) 21)).alloc (.cells #[.slice (some ⟨w.heap.size + 1 + 1 + 1 + 1, 0, none⟩) n n] 65)) = W5 at *
  generalize w.heap.size + 1 + 1 + 1 + 1 + 1 = bv at *
  generalize w.heap.size + 1 + 1 + 1 + 1 = gv at *
  generalize w.heap.size + 1 + 1 + 1 = bp at *
  generalize w.heap.size + 1 + 1 = bt at *
  generalize w.heap.size + 1 = pm at *
  obtain ⟨bo, hbo⟩ : ∃ bo, w.heap.size = bo := ⟨_, rfl⟩
  rw [hbo] at s6 ⊢
  have hle5 : B ≤ W5.heap.size := Nat.le_trans hB b5.size
  clear hW5
  have hall := all_apply bt bv bo B W5 hle5 pm 0 0 (Nat.le_refl _) (by omega) A n c ops HN.out h8 hlen (fun _ => valsR gv n (List.replicate n (.int .i32 0)) :: vboxR bv gv n :: oboxR bo A n c :: L)
    (fun k W L' hb hW => hrd W L' (b5.trans hb) (Sep.drop (Sep.drop (Sep.drop hW))))
    (fun k e pr W L' hk hj _ _ _ => by
      have := (code_none ops k)
      unfold mCode at this
      rw [hj] at this
      omega)
    (fun _ _ _ => rfl)
    s6
  refine hall.mono ?_
  rintro e w6 ⟨g, rfl, s7, b7⟩
  have hle7 := Nat.le_trans hle5 b7.size
  have b7 := b5.trans b7
  clear hall s6 b5
  rw [← toldK_zero n (mCode 0 0 ops) (fun _ => 0), at_none] at s7
  obtain ⟨A1, c1, A2, c2, s8, _, _⟩ := meet_open s7.rot2
  dsimp only [List.length_nil] at s8
  have k0 : w6.cell? ⟨pm, 0, none⟩ = some (.slice A1 0 c1) := s8.blk.cell 0
  have k1 : w6.cell? ⟨pm, 1, none⟩ = some (.slice A2 0 c2) := s8.blk.cell 1
  have s9 := s8.drop.drop.drop
  clear s7 s8
  go_wp2_with fail
  go_loopg [43] 2 (fun g' v wr => ∃ i : Nat, i + g' = 2 ∧ v = .int .i64 (i : Int) ∧ At B wr (slRes 42 2 (some ⟨g, 0, none⟩) n n ((toldK n (mCode 0 0 ops) (fun _ => 0) 0).flatMap resIn) :: valsR gv n (List.replicate n (.int .i32 0)) :: vboxR bv gv n :: oboxR bo A n c :: L) ∧ Below B w wr ∧ B ≤ wr.heap.size)
  case atStart => exact ⟨0, by omega, rfl, s9, b7, hle7⟩
  case round =>
    clear s9 b7 hle7 k0 k1
    obtain ⟨i, hi, rfl, s2, b2, hle2⟩ := hrel
    rcases (show i = 0 ∨ i = 1 ∨ i = 2 by omega) with rfl | rfl | rfl
    · have hi2 : (((0 : Nat) : Int) < 2) := by decide
      have hsd := side0 A1 A2 0 c1 0 c2
      have s3 := s2.keep ((Below.refl _ wr).alloc (Nat.le_refl _) (.cells #[.slice A1 0 c1] 54))
      have b3 := b2.alloc hle2 (.cells #[.slice A1 0 c1] 54)
      have hle3 : B ≤ (wr.alloc (.cells #[.slice A1 0 c1] 54)).heap.size := by simp; omega
      go_wp2_with fail
      generalize hW3 : wr.alloc (.cells #[.slice A1 0 c1] 54) = W3 at *
      go_loopg [50] 0 (fun g2 v wr => g2 = 0 ∧ v = .int .i64 0 ∧ wr = W3)
      case atStart => exact ⟨rfl, rfl, rfl⟩
      case round =>
        obtain ⟨rfl, rfl, rfl⟩ := hrel
        go_wp2_with fail
        go_roundg 1
        case measure => omega
        case rel => exact ⟨1, by omega, rfl, s3, b3, hle3⟩
    · have hi2 : (((1 : Nat) : Int) < 2) := by decide
      have hsd := side1 A1 A2 0 c1 0 c2
      have s3 := s2.keep ((Below.refl _ wr).alloc (Nat.le_refl _) (.cells #[.slice A2 0 c2] 54))
      have b3 := b2.alloc hle2 (.cells #[.slice A2 0 c2] 54)
      have hle3 : B ≤ (wr.alloc (.cells #[.slice A2 0 c2] 54)).heap.size := by simp; omega
      go_wp2_with fail
      generalize hW3 : wr.alloc (.cells #[.slice A2 0 c2] 54) = W3 at *
      go_loopg [50] 0 (fun g2 v wr => g2 = 0 ∧ v = .int .i64 0 ∧ wr = W3)
      case atStart => exact ⟨rfl, rfl, rfl⟩
      case round =>
        obtain ⟨rfl, rfl, rfl⟩ := hrel
        go_wp2_with fail
        go_roundg 0
        case measure => omega
        case rel => exact ⟨2, by omega, rfl, s3, b3, hle3⟩
    · have hi2 : ¬ (((2 : Nat) : Int) < 2) := by decide
      have kv : wr.cell? ⟨bv, 0, none⟩ = some (.slice (some ⟨gv, 0, none⟩) n n) := s2.rot3.blk.cell 0
      go_wp2_with fail
      go_loopg [67] n (fun g' k wr => ∃ k' : Nat, k' + g' = n ∧ k = .int .i64 (k' : Int) ∧ At B wr (slRes 42 2 (some ⟨g, 0, none⟩) n n ((toldK n (mCode 0 0 ops) (fun _ => 0) k').flatMap resIn) :: valsR gv n (List.replicate n (.int .i32 0)) :: vboxR bv gv n :: oboxR bo A n c :: L) ∧ Below B w wr ∧ B ≤ wr.heap.size)
      case atStart => exact ⟨0, by omega, rfl, s2, b2, hle2⟩
      case round =>
        clear s2 b2 kv hle2
        obtain ⟨k, hk, rfl, s8, b8, hle8⟩ := hrel
        by_cases hlt : k < n
        · have hfl : k < (toldK n (mCode 0 0 ops) (fun _ => 0) k).length := by rw [toldK_len]; exact hlt
          obtain ⟨t0, t1⟩ := res_at _ k hfl
          have hst := res_set2 _ k hfl 0
          rw [toldK_get _ _ _ _ _ hlt, if_neg (by omega)] at t0 t1 hst
          dsimp only at t0 t1 hst
          rw [toldK_set n (mCode 0 0 ops) (fun _ => 0) k] at hst
          have gvv : wr.cell? ⟨gv, k, none⟩ = some (.int .i32 0) := (s8.rot2.slat hle8 k (.int .i32 0) (by simp [hlt])).1
          obtain ⟨k1, k2, k3⟩ := s8.slat hle8 (k * 2 + 1) _ t1
          obtain ⟨k4, k5⟩ := k3 (.int .i32 0)
          rw [hst] at k4
          have b9 := b8.trans k5
          have hle9 := Nat.le_trans hle8 k5.size
          clear k3 k5 t0 t1 hst hfl s8 b8
          go_wp2_with fail
          go_roundg (gk - 1)
          case measure => omega
          case rel => exact ⟨k + 1, by omega, by go_num, k4, b9, hle9⟩
        · obtain rfl : k = n := by omega
          go_wp2_with fail
          go_ret
          exact ⟨g, rfl, Sep.cons (fun _ h => Sep.drop (Sep.drop (Sep.drop h))) s8, b8⟩
end Go.Proofs.Ytgaomaaloaglpaa
