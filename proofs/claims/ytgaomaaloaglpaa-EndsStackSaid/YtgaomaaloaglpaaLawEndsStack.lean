/-
  The walk of EndsStack.
-/
import Derived.Test.YtgaomaaloaglpaaEndsY
namespace Go.Proofs.Ytgaomaaloaglpaa
open Go.RowKit Go.Rp

theorem opsOf_kinds (bs : List Nat) : ∀ o ∈ opsOf 2 bs, o.1 = 1 ∨ o.1 = 2 := by
  intro o ho
  unfold opsOf at ho
  obtain ⟨c, _, rfl⟩ := List.mem_map.1 ho
  simp only
  omega
/-- The kind at one end. -/
def endKind (right : Bool) (k : Int) : Int := if right then oth (2 * k - 1) else 2 * k - 1
theorem one_snoc (right : Bool) (ops : List (Int × Int)) (m : Nat) (h : m < ops.length) : (oneEnd right (ops.take (m + 1))).flatMap opIn = (oneEnd right (ops.take m)).flatMap opIn ++ [.int .u8 (endKind right ops[m].1), .int .i32 ops[m].2] := by
  rw [List.take_succ_eq_append_getElem h]
  cases right
  · simp only [oneEnd, leftOps, List.map_append, Bool.false_eq_true, if_false, List.flatMap_append]; rfl
  · simp only [oneEnd, leftOps, othOps, List.map_append, if_true, List.flatMap_append]; rfl
theorem one_ok {right : Bool} {ops : List (Int × Int)} (h : ∀ o ∈ ops, o.1 = 1 ∨ o.1 = 2) : ∀ o ∈ oneEnd right ops, 0 ≤ o.1 ∧ o.1 ≤ 255 := by
  intro o ho
  cases right
  · obtain ⟨p, hp, rfl⟩ := List.mem_map.1 ho
    rcases h p hp with e | e <;> simp [e]
  · obtain ⟨q, hq, rfl⟩ := List.mem_map.1 ho
    obtain ⟨p, hp, rfl⟩ := List.mem_map.1 hq
    rcases h p hp with e | e <;> simp [e, oth]
theorem pairsL_one (hv ms : Int) (right : Bool) {ops : List (Int × Int)} (h : ∀ o ∈ ops, o.1 = 1 ∨ o.1 = 2) : pairsL hv ms (oneEnd right ops) = (List.range ops.length).map (tPair (capI ms) (belI hv ms) ops) := by
  unfold pairsL
  rw [oneEnd_len]
  exact List.map_congr_left fun k hk => (pair_one right h (List.mem_range.1 hk)).1
theorem codesL_one (hv ms : Int) (right : Bool) {ops : List (Int × Int)} (h : ∀ o ∈ ops, o.1 = 1 ∨ o.1 = 2) : codesL hv ms (oneEnd right ops) = (List.range ops.length).map (tCode (capI ms) (belI hv ms) ops) := by
  unfold codesL
  rw [oneEnd_len]
  exact List.map_congr_left fun k hk => (pair_one right h (List.mem_range.1 hk)).2

set_option maxRecDepth 100000 in
set_option maxHeartbeats 4000000 in
theorem EndsStack_walk (w : World) (x : Int) (hx : (Lit.int .u8 x).wf = true) (y : Int) (hy : (Lit.int .u8 y).wf = true) (a' : Option Addr) (n' c' : Nat) (zs : List Int) (h1 : InInts .u8 w a' n' c' zs) (right : Bool) :
    Calls Try.prog 7 #[.int .u8 x, .int .u8 y, .slice a' n' c', .bool right] w fun e w' => e = .returned (.bool true) ∧ Below w.heap.size w w' := by
  obtain ⟨i0, hi0, hz0, hz1, hz2⟩ := info_parts info_op
  obtain ⟨bs, hbn, h256, hrb⟩ := h1.bytes
  have hreach' := h1.reach
  have s0 : At w.heap.size w [] := trivial
  obtain ⟨H, hH, hmod, hx0, hx1⟩ := u8_mod hx 5 (by omega)
  obtain ⟨M, hM, mmod, hy0, hy1⟩ := u8_mod hy 12 (by omega)
  clear h1 hx hy
  go_enter Try.func7, Try.ntmps7
  go_wp2_with fail
  refine (Ops_s (Nat.le_refl _) s0 hbn hrb h256 (by omega) 2 (by omega) (by omega)).mono ?_
  rintro e w1 ⟨A1, n, c, rfl, hn, h80, s1, b1⟩
  have hkinds := opsOf_kinds bs
  have h8 := opsOf_ok 2 (by omega) (by omega) bs
  generalize opsOf 2 bs = ops at *
  have HN := Lib.hid hn
  have HK := Lib.hid hkinds
  have H8 := Lib.hid h8
  clear hn hkinds hrb h256 hbn h8
  go_wp2_with fail
  have s2 : At w.heap.size w1 (slRes 29 2 none 0 0 ((oneEnd right (ops.take 0)).flatMap opIn) :: opsR A1 n ops :: []) := by
    have e : (oneEnd right (ops.take 0)).flatMap opIn = [] := by cases right <;> rfl
    rw [e]
    exact Sep.nilSl s1 _ _
  go_loopg [10, 11] n (fun g v k wr => ∃ (m : Nat) (A : Option Addr) (c : Nat), m + g = n ∧ k = .int .i64 (m : Int) ∧ v = .slice A m c ∧ At w.heap.size wr [slRes 29 2 A m c ((oneEnd right (ops.take m)).flatMap opIn), opsR A1 n ops] ∧ Below w.heap.size w wr)
  case atStart => exact ⟨0, none, 0, by omega, rfl, rfl, s2, b1⟩
  case round =>
    clear s1 s2 b1
    obtain ⟨m, A, c2, hm, rfl, rfl, s2, b2⟩ := hrel
    by_cases hlt : m < n
    · have hml : m < ops.length := by rw [HN.out]; exact hlt
      obtain ⟨b, off, rfl, hbR, hcells⟩ := (show Rd wr _ 2 A1 n (ops.flatMap opIn) from s2.rot2.get).at (by omega)
      obtain ⟨c0, c1⟩ := op_at ops m hml
      have g0 : wr.cell? ⟨b, off + m * 2, none⟩ = some (.int .u8 ops[m].1) := hcells _ _ c0
      have g1 : wr.cell? ⟨b, off + m * 2 + 1, none⟩ = some (.int .i32 ops[m].2) := hcells _ _ c1
      have hkk := HK.out _ (List.getElem_mem hml)
      have hsn := Lib.hid (one_snoc right ops m hml)
      generalize ops[m].1 = kd at *
      generalize ops[m].2 = vv at *
      clear hcells c0 c1 hml
      have hA0 := fun (o : Obj) => (World.cell?_alloc_lt wr o ⟨b, off + m * 2, none⟩ (World.block_lt_of_cell? wr _ g0)).trans g0
      have hA1 := fun (o : Obj) => (World.cell?_alloc_lt wr o ⟨b, off + m * 2 + 1, none⟩ (World.block_lt_of_cell? wr _ g1)).trans g1
      cases right <;> rcases hkk with rfl | rfl
      · have hC : At w.heap.size ((wr.alloc (.cells #[.int .u8 1, .int .i32 vv] 29)).alloc (.cells #[.int .u8 1, .int .i32 vv] 29)).drew _ := (s2.keep (((Below.refl _ wr).alloc (Nat.le_refl _) _).alloc (by simp) _)).drew
        have b3 : Below w.heap.size w ((wr.alloc (.cells #[.int .u8 1, .int .i32 vv] 29)).alloc (.cells #[.int .u8 1, .int .i32 vv] 29)).drew := ((b2.alloc b2.size _).alloc (Nat.le_trans b2.size (by simp)) _).drew
        have hr := Rd.lit (sz := 2) (wr.alloc (.cells #[.int .u8 1, .int .i32 vv] 29)) 29 #[.int .u8 1, .int .i32 vv] 1 rfl
        simp only [World.size_alloc] at hr
        have h2 : endKind false 1 = 1 := by decide
        have hsn2 := Lib.hid (hsn.out.trans (by rw [h2]))
        clear hsn h2
        go_wp2_with fail
        go_region
        all_goals
          clear hA0 hA1 g0 g1
          go_wp2_with (at_builtin; refine wpList_append_at rfl (.tmp 46) (.tmp 48) _ rfl 29 i0 _ 2 8 Try.underlying22 hi0 hz0 hz1 hz2 rfl (by omega) rfl hC b3.size (· = wr.heap.size + 1) (some ⟨wr.heap.size + 1, 0, none⟩) 1 1 [.int .u8 1, .int .i32 vv] rfl (by exact hr.drew) (by simp [Value.oneCell']) (by simp only [maxLen]; omega) (by omega) ?_; intro A3 c3 w3 s6 b6)
          have b6 := b3.trans b6
          clear b3 hr s2 b2 hC
          go_wp2_with fail
          go_roundg (gk - 1)
          case measure => omega
          case rel => exact ⟨m + 1, A3, c3, by omega, by go_num, rfl, by rw [hsn2.out]; exact s6, b6⟩
      · have hC : At w.heap.size ((wr.alloc (.cells #[.int .u8 3, .int .i32 vv] 29)).alloc (.cells #[.int .u8 3, .int .i32 vv] 29)).drew _ := (s2.keep (((Below.refl _ wr).alloc (Nat.le_refl _) _).alloc (by simp) _)).drew
        have b3 : Below w.heap.size w ((wr.alloc (.cells #[.int .u8 3, .int .i32 vv] 29)).alloc (.cells #[.int .u8 3, .int .i32 vv] 29)).drew := ((b2.alloc b2.size _).alloc (Nat.le_trans b2.size (by simp)) _).drew
        have hr := Rd.lit (sz := 2) (wr.alloc (.cells #[.int .u8 3, .int .i32 vv] 29)) 29 #[.int .u8 3, .int .i32 vv] 1 rfl
        simp only [World.size_alloc] at hr
        have h2 : endKind false 2 = 3 := by decide
        have hsn2 := Lib.hid (hsn.out.trans (by rw [h2]))
        clear hsn h2
        go_wp2_with fail
        go_region
        all_goals
          clear hA0 hA1 g0 g1
          go_wp2_with (at_builtin; refine wpList_append_at rfl (.tmp 46) (.tmp 48) _ rfl 29 i0 _ 2 8 Try.underlying22 hi0 hz0 hz1 hz2 rfl (by omega) rfl hC b3.size (· = wr.heap.size + 1) (some ⟨wr.heap.size + 1, 0, none⟩) 1 1 [.int .u8 3, .int .i32 vv] rfl (by exact hr.drew) (by simp [Value.oneCell']) (by simp only [maxLen]; omega) (by omega) ?_; intro A3 c3 w3 s6 b6)
          have b6 := b3.trans b6
          clear b3 hr s2 b2 hC
          go_wp2_with fail
          go_roundg (gk - 1)
          case measure => omega
          case rel => exact ⟨m + 1, A3, c3, by omega, by go_num, rfl, by rw [hsn2.out]; exact s6, b6⟩
      · have hC : At w.heap.size ((wr.alloc (.cells #[.int .u8 2, .int .i32 vv] 29)).alloc (.cells #[.int .u8 2, .int .i32 vv] 29)).drew _ := (s2.keep (((Below.refl _ wr).alloc (Nat.le_refl _) _).alloc (by simp) _)).drew
        have b3 : Below w.heap.size w ((wr.alloc (.cells #[.int .u8 2, .int .i32 vv] 29)).alloc (.cells #[.int .u8 2, .int .i32 vv] 29)).drew := ((b2.alloc b2.size _).alloc (Nat.le_trans b2.size (by simp)) _).drew
        have hr := Rd.lit (sz := 2) (wr.alloc (.cells #[.int .u8 2, .int .i32 vv] 29)) 29 #[.int .u8 2, .int .i32 vv] 1 rfl
        simp only [World.size_alloc] at hr
        have h2 : endKind true 1 = 2 := by decide
        have hsn2 := Lib.hid (hsn.out.trans (by rw [h2]))
        clear hsn h2
        go_wp2_with fail
        go_region
        all_goals
          clear hA0 hA1 g0 g1
          go_wp2_with (at_builtin; refine wpList_append_at rfl (.tmp 46) (.tmp 48) _ rfl 29 i0 _ 2 8 Try.underlying22 hi0 hz0 hz1 hz2 rfl (by omega) rfl hC b3.size (· = wr.heap.size + 1) (some ⟨wr.heap.size + 1, 0, none⟩) 1 1 [.int .u8 2, .int .i32 vv] rfl (by exact hr.drew) (by simp [Value.oneCell']) (by simp only [maxLen]; omega) (by omega) ?_; intro A3 c3 w3 s6 b6)
          have b6 := b3.trans b6
          clear b3 hr s2 b2 hC
          go_wp2_with fail
          go_roundg (gk - 1)
          case measure => omega
          case rel => exact ⟨m + 1, A3, c3, by omega, by go_num, rfl, by rw [hsn2.out]; exact s6, b6⟩
      · have hC : At w.heap.size ((wr.alloc (.cells #[.int .u8 4, .int .i32 vv] 29)).alloc (.cells #[.int .u8 4, .int .i32 vv] 29)).drew _ := (s2.keep (((Below.refl _ wr).alloc (Nat.le_refl _) _).alloc (by simp) _)).drew
        have b3 : Below w.heap.size w ((wr.alloc (.cells #[.int .u8 4, .int .i32 vv] 29)).alloc (.cells #[.int .u8 4, .int .i32 vv] 29)).drew := ((b2.alloc b2.size _).alloc (Nat.le_trans b2.size (by simp)) _).drew
        have hr := Rd.lit (sz := 2) (wr.alloc (.cells #[.int .u8 4, .int .i32 vv] 29)) 29 #[.int .u8 4, .int .i32 vv] 1 rfl
        simp only [World.size_alloc] at hr
        have h2 : endKind true 2 = 4 := by decide
        have hsn2 := Lib.hid (hsn.out.trans (by rw [h2]))
        clear hsn h2
        go_wp2_with fail
        go_region
        all_goals
          clear hA0 hA1 g0 g1
          go_wp2_with (at_builtin; refine wpList_append_at rfl (.tmp 46) (.tmp 48) _ rfl 29 i0 _ 2 8 Try.underlying22 hi0 hz0 hz1 hz2 rfl (by omega) rfl hC b3.size (· = wr.heap.size + 1) (some ⟨wr.heap.size + 1, 0, none⟩) 1 1 [.int .u8 4, .int .i32 vv] rfl (by exact hr.drew) (by simp [Value.oneCell']) (by simp only [maxLen]; omega) (by omega) ?_; intro A3 c3 w3 s6 b6)
          have b6 := b3.trans b6
          clear b3 hr s2 b2 hC
          go_wp2_with fail
          go_roundg (gk - 1)
          case measure => omega
          case rel => exact ⟨m + 1, A3, c3, by omega, by go_num, rfl, by rw [hsn2.out]; exact s6, b6⟩
    · obtain rfl : m = n := by omega
      have s3 : At w.heap.size wr (opsR A m (oneEnd right ops) :: opsR A1 m ops :: []) := by
        have := s2.toRd (by omega)
        rwa [List.take_of_length_le (by rw [HN.out]; omega)] at this
      have HLO : Hid ((oneEnd right ops).length = m) := Lib.hid (by rw [oneEnd_len]; exact HN.out)
      have H8O := Lib.hid (one_ok (right := right) HK.out)
      have hpe := pairsL_one (H : Int) (M : Int) right HK.out
      have hce := codesL_one (H : Int) (M : Int) right HK.out
      rw [HN.out] at hpe hce
      have p1 := Pairs_o (c := c2) b2.size (H : Int) (M : Int) HLO.out H8O.out (by omega) s3
      rw [hpe, hce] at p1
      clear s2 hpe hce
      go_wp2_with fail
      refine p1.mono ?_
      rintro e w4 ⟨gp, gc, rfl, s4, b4⟩
      have b4 := b2.trans b4
      clear p1 s3 b2
      have p2 := tPairs_y (c := c) b4.size (H : Int) (M : Int) HN.out H8.out (by omega) s4.rot4 (fun W L' hb hW => ⟨_, hW.get⟩)
      go_wp2_with fail
      refine p2.mono ?_
      rintro e w5 ⟨A5, c5, A6, c6, rfl, s5, b5⟩
      have b5 := b4.trans b5
      clear p2 s4 b4
      have ap := Apply_0 (c := c2) b5.size s5 HLO.out H8O.out (by omega) (fun W L' hb hW => ⟨_, hW.drop.drop.drop.drop.drop.get⟩)
      go_wp2_with fail
      refine ap.mono ?_
      rintro e w6 ⟨g, rfl, s6, b6⟩
      have b6 := b5.trans b6
      clear ap s5 b5
      go_wp2_with fail
      go_loopg [18, 19] m (fun g' v k wr' => ∃ k' : Nat, k' + g' = m ∧ k = .int .i64 (k' : Int) ∧ v = .bool true ∧ wr' = w6)
      case atStart => exact ⟨0, by omega, rfl, rfl, rfl⟩
      case round =>
        obtain ⟨k, hk, rfl, rfl, rfl⟩ := hrel
        by_cases hlk : k < m
        · have htl : k < (toldK m (mCode 0 0 (oneEnd right ops)) (fun _ => 0) m).length := by rw [toldK_len]; exact hlk
          obtain ⟨t0, t1⟩ := res_at _ k htl
          rw [toldK_get _ _ _ _ _ hlk, if_pos hlk] at t0 t1
          have r0 := (s6.slat b6.size _ _ t0).1
          have r1 := (s6.slat b6.size _ _ t1).1
          have hcn := code_none (oneEnd right ops) k
          generalize mCode 0 0 (oneEnd right ops) k = cd at *
          have hc3 : decide (3 ≤ cd) = true := decide_eq_true hcn.1
          clear t0 t1 htl
          go_wp2_with fail
          go_roundg (gk - 1)
          case measure => omega
          case rel => exact ⟨k + 1, by omega, by go_num, rfl, rfl⟩
        · obtain rfl : k = m := by omega
          have hkn := known_s b6.size s6
          go_wp2_with fail
          refine hkn.mono ?_
          rintro e w7 ⟨rfl, s7, b7⟩
          have b7 := b6.trans b7
          clear hkn s6 b6
          have rq : Rd w7 _ 1 A5 k (((List.range k).map (tPair (capI (M : Int)) (belI (H : Int) (M : Int)) ops)).map fun x => Value.int .i64 x) := Sl.rd s7.rot2.get
          have hi := Ints_s (c := k) (c' := c5) b7.size s7 (Sl.rd s7.rot5.get) rq (by omega) (by omega) (decide_eq_true rfl)
          go_wp2_with fail
          refine hi.mono ?_
          rintro e w8 ⟨rfl, s8, b8⟩
          have b8 := b7.trans b8
          clear hi s7 b7 rq
          have rq : Rd w8 _ 1 A6 k (((List.range k).map (tCode (capI (M : Int)) (belI (H : Int) (M : Int)) ops)).map fun x => Value.int .u8 x) := Sl.rd s8.rot3.get
          have hi := Codes_s (c := k) (c' := c6) b8.size s8 (Sl.rd s8.rot5.drop.rot5.get) rq (by omega) (by omega) (decide_eq_true rfl)
          go_wp2_with fail
          refine hi.mono ?_
          rintro e w9 ⟨rfl, s9, b9⟩
          have b9 := b8.trans b9
          clear hi s8 b8 rq
          go_wp2_with fail
          go_ret
          exact ⟨rfl, b9⟩
end Go.Proofs.Ytgaomaaloaglpaa
