/-
  The walk of EndsTurned.
-/
import Derived.Test.YtgaomaaloaglpaaLawEndsQueue
namespace Go.Proofs.Ytgaomaaloaglpaa
open Go.RowKit Go.Rp

theorem opsOf_kinds5 (bs : List Nat) : ∀ o ∈ opsOf 5 bs, o.1 = 1 ∨ o.1 = 2 ∨ o.1 = 3 ∨ o.1 = 4 ∨ o.1 = 5 := by
  intro o ho
  unfold opsOf at ho
  obtain ⟨c, _, rfl⟩ := List.mem_map.1 ho
  simp only
  omega
theorem oth_ok {ops : List (Int × Int)} (h : ∀ o ∈ ops, 0 ≤ o.1 ∧ o.1 ≤ 255) : ∀ o ∈ othOps ops, 0 ≤ o.1 ∧ o.1 ≤ 255 := by
  intro o ho
  unfold othOps at ho
  obtain ⟨p, hp, rfl⟩ := List.mem_map.1 ho
  have := h p hp
  simp only [oth]
  split
  · omega
  · split
    · omega
    · split
      · omega
      · split <;> omega
theorem pairsL_oth (hv ms : Int) (ops : List (Int × Int)) : pairsL hv ms (othOps ops) = pairsL hv ms ops := by
  unfold pairsL
  rw [othOps_len]
  exact List.map_congr_left fun k hk => mPair_oth (List.mem_range.1 hk)
theorem codesL_oth (hv ms : Int) (ops : List (Int × Int)) : codesL hv ms (othOps ops) = codesL hv ms ops := by
  unfold codesL
  rw [othOps_len]
  exact List.map_congr_left fun k hk => mCode_oth (List.mem_range.1 hk)
theorem oth_snoc (ops : List (Int × Int)) (m : Nat) (h : m < ops.length) : (othOps (ops.take (m + 1))).flatMap opIn = (othOps (ops.take m)).flatMap opIn ++ [.int .u8 (oth ops[m].1), .int .i32 ops[m].2] := by
  unfold othOps
  rw [List.take_succ_eq_append_getElem h, List.map_append, List.flatMap_append]
  rfl

set_option maxRecDepth 100000 in
set_option maxHeartbeats 2000000 in
theorem EndsTurned_walk (w : World) (x : Int) (hx : (Lit.int .u8 x).wf = true) (y : Int) (hy : (Lit.int .u8 y).wf = true) (a' : Option Addr) (n' c' : Nat) (zs : List Int) (h1 : InInts .u8 w a' n' c' zs) :
    Calls Try.prog 4 #[.int .u8 x, .int .u8 y, .slice a' n' c'] w fun e w' => e = .returned (.bool true) ∧ Below w.heap.size w w' := by
  obtain ⟨i0, hi0, hz0, hz1, hz2⟩ := info_parts info_op
  obtain ⟨bs, hbn, h256, hrb⟩ := h1.bytes
  have hreach' := h1.reach
  have s0 : At w.heap.size w [] := trivial
  obtain ⟨H, hH, hmod, hx0, hx1⟩ := u8_mod hx 5 (by omega)
  obtain ⟨M, hM, mmod, hy0, hy1⟩ := u8_mod hy 12 (by omega)
  clear h1 hx hy
  go_enter Try.func4, Try.ntmps4
  go_wp2_with fail
  refine (Ops_s (Nat.le_refl _) s0 hbn hrb h256 (by omega) 5 (by omega) (by omega)).mono ?_
  rintro e w1 ⟨A1, n, c, rfl, hn, h80, s1, b1⟩
  have hkinds := opsOf_kinds5 bs
  have h8 := opsOf_ok 5 (by omega) (by omega) bs
  generalize opsOf 5 bs = ops at *
  have HN := Lib.hid hn
  have HK := Lib.hid hkinds
  have H8 := Lib.hid h8
  clear hn hkinds hrb h256 hbn h8
  go_wp2_with fail
  have s2 : At w.heap.size w1 (slRes 29 2 none 0 0 ((othOps (ops.take 0)).flatMap opIn) :: opsR A1 n ops :: []) := Sep.nilSl s1 _ _
  go_loopg [8, 9] n (fun g v k wr => ∃ (m : Nat) (A : Option Addr) (c : Nat), m + g = n ∧ k = .int .i64 (m : Int) ∧ v = .slice A m c ∧ At w.heap.size wr [slRes 29 2 A m c ((othOps (ops.take m)).flatMap opIn), opsR A1 n ops] ∧ Below w.heap.size w wr)
  case atStart => exact ⟨0, none, 0, by omega, rfl, rfl, s2, b1⟩
  case round =>
    clear s1 s2 b1
    obtain ⟨m, A, c2, hm, rfl, rfl, s2, b2⟩ := hrel
    by_cases hlt : m < n
    · have hml : m < ops.length := by rw [HN.out]; exact hlt
      obtain ⟨b, off, rfl, hbR, hcells⟩ := (show Rd wr _ 2 A1 n (ops.flatMap opIn) from s2.rot2.get).at (by omega)
      obtain ⟨c0, c1⟩ := op_at ops m hml
      have g0 : wr.cell? ⟨b, off + m * 2, none⟩ = some (.int .u8 ops[m].1) := hcells _ _ c0
      have g1 : wr.cell? ⟨b, off + m * 2 + 1, none⟩ = some (.int .i32 ops[m].2) := hcells _ _ c1
      have hkk := HK.out _ (List.getElem_mem hml)
      have hsn := Lib.hid (oth_snoc ops m hml)
      generalize ops[m].1 = kd at *
      generalize ops[m].2 = vv at *
      clear hcells c0 c1 hml
      rcases hkk with rfl | rfl | rfl | rfl | rfl
      ·
        have s3 : At w.heap.size (((wr.alloc (.cells #[.int .u8 2, .int .i32 vv] 29)).alloc (.cells #[.int .u8 0, .int .u8 2, .int .u8 1, .int .u8 4, .int .u8 3, .int .u8 5] 5)).alloc (.cells #[.int .u8 2, .int .i32 vv] 29)) _ := s2.keep ((((Below.refl _ wr).alloc (Nat.le_refl _) _).alloc (by simp) _).alloc (by simp; omega) _)
        have b3 : Below w.heap.size w (((wr.alloc (.cells #[.int .u8 2, .int .i32 vv] 29)).alloc (.cells #[.int .u8 0, .int .u8 2, .int .u8 1, .int .u8 4, .int .u8 3, .int .u8 5] 5)).alloc (.cells #[.int .u8 2, .int .i32 vv] 29)) := ((b2.alloc b2.size _).alloc (Nat.le_trans b2.size (by simp)) _).alloc (Nat.le_trans b2.size (by simp; omega)) _
        have hr := Rd.lit (sz := 2) ((wr.alloc (.cells #[.int .u8 2, .int .i32 vv] 29)).alloc (.cells #[.int .u8 0, .int .u8 2, .int .u8 1, .int .u8 4, .int .u8 3, .int .u8 5] 5)) 29 #[.int .u8 2, .int .i32 vv] 1 rfl
        simp only [World.size_alloc] at hr
        have h2 : oth 1 = 2 := by decide
        have hsn2 := Lib.hid (hsn.out.trans (by rw [h2]))
        clear hsn h2
        go_wp2_with (at_builtin; refine wpList_append_at rfl (.tmp 33) (.tmp 35) _ rfl 29 i0 _ 2 8 Try.underlying22 hi0 hz0 hz1 hz2 rfl (by omega) rfl s3 b3.size (· = wr.heap.size + 1 + 1) (some ⟨wr.heap.size + 1 + 1, 0, none⟩) 1 1 [.int .u8 2, .int .i32 vv] rfl (by exact hr) (by simp [Value.oneCell']) (by simp only [maxLen]; omega) (by omega) ?_; intro A3 c3 w3 s6 b6)
        have b6 := b3.trans b6
        clear s3 b3 hr s2 b2
        go_wp2_with fail
        go_roundg (gk - 1)
        case measure => omega
        case rel => exact ⟨m + 1, A3, c3, by omega, by go_num, rfl, by rw [hsn2.out]; exact s6, b6⟩
      ·
        have s3 : At w.heap.size (((wr.alloc (.cells #[.int .u8 1, .int .i32 vv] 29)).alloc (.cells #[.int .u8 0, .int .u8 2, .int .u8 1, .int .u8 4, .int .u8 3, .int .u8 5] 5)).alloc (.cells #[.int .u8 1, .int .i32 vv] 29)) _ := s2.keep ((((Below.refl _ wr).alloc (Nat.le_refl _) _).alloc (by simp) _).alloc (by simp; omega) _)
        have b3 : Below w.heap.size w (((wr.alloc (.cells #[.int .u8 1, .int .i32 vv] 29)).alloc (.cells #[.int .u8 0, .int .u8 2, .int .u8 1, .int .u8 4, .int .u8 3, .int .u8 5] 5)).alloc (.cells #[.int .u8 1, .int .i32 vv] 29)) := ((b2.alloc b2.size _).alloc (Nat.le_trans b2.size (by simp)) _).alloc (Nat.le_trans b2.size (by simp; omega)) _
        have hr := Rd.lit (sz := 2) ((wr.alloc (.cells #[.int .u8 1, .int .i32 vv] 29)).alloc (.cells #[.int .u8 0, .int .u8 2, .int .u8 1, .int .u8 4, .int .u8 3, .int .u8 5] 5)) 29 #[.int .u8 1, .int .i32 vv] 1 rfl
        simp only [World.size_alloc] at hr
        have h2 : oth 2 = 1 := by decide
        have hsn2 := Lib.hid (hsn.out.trans (by rw [h2]))
        clear hsn h2
        go_wp2_with (at_builtin; refine wpList_append_at rfl (.tmp 33) (.tmp 35) _ rfl 29 i0 _ 2 8 Try.underlying22 hi0 hz0 hz1 hz2 rfl (by omega) rfl s3 b3.size (· = wr.heap.size + 1 + 1) (some ⟨wr.heap.size + 1 + 1, 0, none⟩) 1 1 [.int .u8 1, .int .i32 vv] rfl (by exact hr) (by simp [Value.oneCell']) (by simp only [maxLen]; omega) (by omega) ?_; intro A3 c3 w3 s6 b6)
        have b6 := b3.trans b6
        clear s3 b3 hr s2 b2
        go_wp2_with fail
        go_roundg (gk - 1)
        case measure => omega
        case rel => exact ⟨m + 1, A3, c3, by omega, by go_num, rfl, by rw [hsn2.out]; exact s6, b6⟩
      ·
        have s3 : At w.heap.size (((wr.alloc (.cells #[.int .u8 4, .int .i32 vv] 29)).alloc (.cells #[.int .u8 0, .int .u8 2, .int .u8 1, .int .u8 4, .int .u8 3, .int .u8 5] 5)).alloc (.cells #[.int .u8 4, .int .i32 vv] 29)) _ := s2.keep ((((Below.refl _ wr).alloc (Nat.le_refl _) _).alloc (by simp) _).alloc (by simp; omega) _)
        have b3 : Below w.heap.size w (((wr.alloc (.cells #[.int .u8 4, .int .i32 vv] 29)).alloc (.cells #[.int .u8 0, .int .u8 2, .int .u8 1, .int .u8 4, .int .u8 3, .int .u8 5] 5)).alloc (.cells #[.int .u8 4, .int .i32 vv] 29)) := ((b2.alloc b2.size _).alloc (Nat.le_trans b2.size (by simp)) _).alloc (Nat.le_trans b2.size (by simp; omega)) _
        have hr := Rd.lit (sz := 2) ((wr.alloc (.cells #[.int .u8 4, .int .i32 vv] 29)).alloc (.cells #[.int .u8 0, .int .u8 2, .int .u8 1, .int .u8 4, .int .u8 3, .int .u8 5] 5)) 29 #[.int .u8 4, .int .i32 vv] 1 rfl
        simp only [World.size_alloc] at hr
        have h2 : oth 3 = 4 := by decide
        have hsn2 := Lib.hid (hsn.out.trans (by rw [h2]))
        clear hsn h2
        go_wp2_with (at_builtin; refine wpList_append_at rfl (.tmp 33) (.tmp 35) _ rfl 29 i0 _ 2 8 Try.underlying22 hi0 hz0 hz1 hz2 rfl (by omega) rfl s3 b3.size (· = wr.heap.size + 1 + 1) (some ⟨wr.heap.size + 1 + 1, 0, none⟩) 1 1 [.int .u8 4, .int .i32 vv] rfl (by exact hr) (by simp [Value.oneCell']) (by simp only [maxLen]; omega) (by omega) ?_; intro A3 c3 w3 s6 b6)
        have b6 := b3.trans b6
        clear s3 b3 hr s2 b2
        go_wp2_with fail
        go_roundg (gk - 1)
        case measure => omega
        case rel => exact ⟨m + 1, A3, c3, by omega, by go_num, rfl, by rw [hsn2.out]; exact s6, b6⟩
      ·
        have s3 : At w.heap.size (((wr.alloc (.cells #[.int .u8 3, .int .i32 vv] 29)).alloc (.cells #[.int .u8 0, .int .u8 2, .int .u8 1, .int .u8 4, .int .u8 3, .int .u8 5] 5)).alloc (.cells #[.int .u8 3, .int .i32 vv] 29)) _ := s2.keep ((((Below.refl _ wr).alloc (Nat.le_refl _) _).alloc (by simp) _).alloc (by simp; omega) _)
        have b3 : Below w.heap.size w (((wr.alloc (.cells #[.int .u8 3, .int .i32 vv] 29)).alloc (.cells #[.int .u8 0, .int .u8 2, .int .u8 1, .int .u8 4, .int .u8 3, .int .u8 5] 5)).alloc (.cells #[.int .u8 3, .int .i32 vv] 29)) := ((b2.alloc b2.size _).alloc (Nat.le_trans b2.size (by simp)) _).alloc (Nat.le_trans b2.size (by simp; omega)) _
        have hr := Rd.lit (sz := 2) ((wr.alloc (.cells #[.int .u8 3, .int .i32 vv] 29)).alloc (.cells #[.int .u8 0, .int .u8 2, .int .u8 1, .int .u8 4, .int .u8 3, .int .u8 5] 5)) 29 #[.int .u8 3, .int .i32 vv] 1 rfl
        simp only [World.size_alloc] at hr
        have h2 : oth 4 = 3 := by decide
        have hsn2 := Lib.hid (hsn.out.trans (by rw [h2]))
        clear hsn h2
        go_wp2_with (at_builtin; refine wpList_append_at rfl (.tmp 33) (.tmp 35) _ rfl 29 i0 _ 2 8 Try.underlying22 hi0 hz0 hz1 hz2 rfl (by omega) rfl s3 b3.size (· = wr.heap.size + 1 + 1) (some ⟨wr.heap.size + 1 + 1, 0, none⟩) 1 1 [.int .u8 3, .int .i32 vv] rfl (by exact hr) (by simp [Value.oneCell']) (by simp only [maxLen]; omega) (by omega) ?_; intro A3 c3 w3 s6 b6)
        have b6 := b3.trans b6
        clear s3 b3 hr s2 b2
        go_wp2_with fail
        go_roundg (gk - 1)
        case measure => omega
        case rel => exact ⟨m + 1, A3, c3, by omega, by go_num, rfl, by rw [hsn2.out]; exact s6, b6⟩
      ·
        have s3 : At w.heap.size (((wr.alloc (.cells #[.int .u8 5, .int .i32 vv] 29)).alloc (.cells #[.int .u8 0, .int .u8 2, .int .u8 1, .int .u8 4, .int .u8 3, .int .u8 5] 5)).alloc (.cells #[.int .u8 5, .int .i32 vv] 29)) _ := s2.keep ((((Below.refl _ wr).alloc (Nat.le_refl _) _).alloc (by simp) _).alloc (by simp; omega) _)
        have b3 : Below w.heap.size w (((wr.alloc (.cells #[.int .u8 5, .int .i32 vv] 29)).alloc (.cells #[.int .u8 0, .int .u8 2, .int .u8 1, .int .u8 4, .int .u8 3, .int .u8 5] 5)).alloc (.cells #[.int .u8 5, .int .i32 vv] 29)) := ((b2.alloc b2.size _).alloc (Nat.le_trans b2.size (by simp)) _).alloc (Nat.le_trans b2.size (by simp; omega)) _
        have hr := Rd.lit (sz := 2) ((wr.alloc (.cells #[.int .u8 5, .int .i32 vv] 29)).alloc (.cells #[.int .u8 0, .int .u8 2, .int .u8 1, .int .u8 4, .int .u8 3, .int .u8 5] 5)) 29 #[.int .u8 5, .int .i32 vv] 1 rfl
        simp only [World.size_alloc] at hr
        have h2 : oth 5 = 5 := by decide
        have hsn2 := Lib.hid (hsn.out.trans (by rw [h2]))
        clear hsn h2
        go_wp2_with (at_builtin; refine wpList_append_at rfl (.tmp 33) (.tmp 35) _ rfl 29 i0 _ 2 8 Try.underlying22 hi0 hz0 hz1 hz2 rfl (by omega) rfl s3 b3.size (· = wr.heap.size + 1 + 1) (some ⟨wr.heap.size + 1 + 1, 0, none⟩) 1 1 [.int .u8 5, .int .i32 vv] rfl (by exact hr) (by simp [Value.oneCell']) (by simp only [maxLen]; omega) (by omega) ?_; intro A3 c3 w3 s6 b6)
        have b6 := b3.trans b6
        clear s3 b3 hr s2 b2
        go_wp2_with fail
        go_roundg (gk - 1)
        case measure => omega
        case rel => exact ⟨m + 1, A3, c3, by omega, by go_num, rfl, by rw [hsn2.out]; exact s6, b6⟩
    · obtain rfl : m = n := by omega
      have s3 : At w.heap.size wr (opsR A m (othOps ops) :: opsR A1 m ops :: []) := by
        have := s2.toRd (by omega)
        rwa [List.take_of_length_le (by rw [HN.out]; omega)] at this
      have hln : (othOps ops).length = m := by rw [othOps_len]; exact HN.out
      have h8o : ∀ o ∈ othOps ops, 0 ≤ o.1 ∧ o.1 ≤ 255 := oth_ok H8.out
      have HLO := Lib.hid hln
      have H8O := Lib.hid h8o
      have hpe : pairsL (H : Int) (M : Int) (othOps ops) = pairsL (H : Int) (M : Int) ops := pairsL_oth _ _ _
      have hce : codesL (H : Int) (M : Int) (othOps ops) = codesL (H : Int) (M : Int) ops := codesL_oth _ _ _
      have p1 := Pairs_o (c := c) b2.size (H : Int) (M : Int) HN.out H8.out (by omega) s3.rot2
      clear s2 hln h8o
      go_wp2_with fail
      refine p1.mono ?_
      rintro e w4 ⟨gp, gc, rfl, s4, b4⟩
      have b4 := b2.trans b4
      have p2 := Pairs_o (c := c2) b4.size (H : Int) (M : Int) HLO.out H8O.out (by omega) s4.rot4
      rw [hpe, hce] at p2
      have HPE := Lib.hid hpe
      clear p1 s3 b2 hpe hce
      go_wp2_with fail
      refine p2.mono ?_
      rintro e w5 ⟨gq, gd, rfl, s5, b5⟩
      have b5 := b4.trans b5
      clear p2 s4 b4
      have hk := known_s b5.size s5
      go_wp2_with fail
      refine hk.mono ?_
      rintro e w6 ⟨rfl, s6, b6⟩
      have b6 := b5.trans b6
      clear hk s5 b5
      have hi := Ints_s (c := m) (c' := m) b6.size s6 (Sl.rd s6.rot4.get) (Sl.rd s6.get) (by omega) (by omega) (decide_eq_true rfl)
      go_wp2_with fail
      refine hi.mono ?_
      rintro e w7 ⟨rfl, s7, b7⟩
      have b7 := b6.trans b7
      clear hi s6 b6
      have hi := Codes_s (c := m) (c' := m) b7.size s7 (Sl.rd s7.rot5.get) (Sl.rd s7.rot2.get) (by omega) (by omega) (decide_eq_true rfl)
      go_wp2_with fail
      refine hi.mono ?_
      rintro e w8 ⟨rfl, s8, b8⟩
      have b8 := b7.trans b8
      clear hi s7 b7
      go_wp2_with fail
      go_ret
      exact ⟨rfl, b8⟩
end Go.Proofs.Ytgaomaaloaglpaa
