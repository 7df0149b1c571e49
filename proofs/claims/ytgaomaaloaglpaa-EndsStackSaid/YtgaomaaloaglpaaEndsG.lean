/-
  The document's Pairs of a deque.
-/
import Derived.Test.YtgaomaaloaglpaaEndsF
namespace Go.Proofs.Ytgaomaaloaglpaa
open Go.RowKit Go.Rp

theorem rMost_any (w : World) (m : Int) : Calls Try.prog 26 #[.int .i64 m] w fun e w' => e = .returned (.int .i64 (capI m : Int)) ∧ w = w' := by
  have e1 := min_ii (k := .i64) (x := m) (y := 1000) rfl
  have e2 := max_ii (k := .i64) (capI_is m)
  go_enter Try.func26, Try.ntmps26
  go_wp2
  go_ret
  exact ⟨rfl, rfl⟩

/-- The first k, as values. -/
def pN (mo be : Nat) (ops : List (Int × Int)) (k : Nat) : List Value := ((List.range k).map (mPair mo be ops)).map fun x => Value.int .i64 x
def cN (mo be : Nat) (ops : List (Int × Int)) (k : Nat) : List Value := ((List.range k).map (mCode mo be ops)).map fun x => Value.int .u8 x
theorem pN_succ (mo be : Nat) (ops : List (Int × Int)) (k : Nat) {p : Int} (h : mPair mo be ops k = p) : pN mo be ops (k + 1) = pN mo be ops k ++ [.int .i64 p] := by unfold pN; rw [List.range_succ, List.map_append, List.map_append]; simp [h]
theorem cN_succ (mo be : Nat) (ops : List (Int × Int)) (k : Nat) {p : Int} (h : mCode mo be ops k = p) : cN mo be ops (k + 1) = cN mo be ops k ++ [.int .u8 p] := by unfold cN; rw [List.range_succ, List.map_append, List.map_append]; simp [h]
def sN (st : ES) : List Value := (rS st).map fun x => Value.int .i64 x

theorem lit_sl {B : Nat} {w : World} {L : List Res} {t : TypeId} {sz m : Nat} (hB : B ≤ w.heap.size) (h : At B w L) (hm : m ≤ 1000) (cs : Array Value) (hc : cs.size = m * sz) : At B (w.alloc (.cells cs t)) (slRes t sz (some ⟨w.heap.size, 0, none⟩) m m cs.toList :: L) :=
  h.made (fun x hx => Nat.le_trans hB hx) ((Below.refl _ w).alloc (Nat.le_refl _) _) (Sl.of_made w t sz m cs cs.toList rfl (by simpa using hc) (by unfold maxLen; omega) ⟨Nat.le_refl _, by simp⟩)
theorem sN_pushL {most k : Nat} {st : ES} (h : sizeE st < most) : sN (mStep most k 1 st).1 = [Value.int .i64 (k : Int)] ++ sN st := by
  have e : rS (mStep most k 1 st).1 = (k : Int) :: rS st := (rS_pushL (k := k) h).1
  unfold sN; rw [e]; rfl
theorem sN_pushR {most k : Nat} {st : ES} (h : sizeE st < most) : sN (mStep most k 2 st).1 = sN st ++ [Value.int .i64 (k : Int)] := by
  unfold sN; rw [(rS_pushR (k := k) h).1]; simp
theorem step3_none (most k : Nat) (st : ES) (h : sizeE st = 0) : mStep most k 3 st = (st, -1, 4) := popE_none st h
theorem step4_none (most k : Nat) (st : ES) (h : sizeE st = 0) : mStep most k 4 st = (st, -1, 4) := by
  show back (popE (Rp.flip st)) = _
  rw [popE_none (Rp.flip st) (by rw [sizeE_flip]; exact h)]; rfl

set_option maxRecDepth 100000 in
set_option maxHeartbeats 40000000 in
theorem rPairs_y {B : Nat} {w : World} {L : List Res} {A : Option Addr} {n c : Nat} {ops : List (Int × Int)} (hB : B ≤ w.heap.size) (hv ms : Int) (hn : ops.length = n) (h8 : ∀ o ∈ ops, 0 ≤ o.1 ∧ o.1 ≤ 255) (hlen : n ≤ 100000) (h : At B w L) (hrd : ∀ W L', Below B w W → At B W (L ++ L') → ∃ R, Rd W R 2 A n (ops.flatMap opIn)) :
    Calls Try.prog 22 #[.int .i64 hv, .int .i64 ms, .slice A n c] w fun e w' =>
      ∃ A1 c1 A2 c2, e = .returned (.tuple #[.slice A1 n c1, .slice A2 n c2]) ∧ At B w' (slRes 3 1 A1 n c1 (pN (capI ms) (belI hv ms) ops n) :: slRes 5 1 A2 n c2 (cN (capI ms) (belI hv ms) ops n) :: L) ∧ Below B w w' := by
  obtain ⟨i0, hi0, hz0, hz1, hz2⟩ := info_parts info_int
  obtain ⟨j0, hj0, hy0, hy1, hy2⟩ := info_parts info_u8
  have HN := Lib.hid hn
  clear hn
  have e3 := min_ii (k := .i64) (x := hv) (y := (capI ms : Int)) rfl
  have e4 := max_ii (k := .i64) (belI_is hv ms)
  have hmo := capI_le ms
  have hbm := belI_le hv ms
  have hmst := rMost_any w ms
  generalize capI ms = mo at *
  generalize belI hv ms = be at *
  go_enter Try.func22, Try.ntmps22
  go_wp2_with fail
  refine hmst.mono ?_
  rintro e w1 ⟨rfl, rfl⟩
  go_wp2_with fail
  go_loopg [9, 10] be (fun g v k wr => ∃ (m : Nat) (A : Option Addr) (c : Nat), m + g = be ∧ k = .int .i64 (m : Int) ∧ v = .slice A m c ∧ At B wr (slRes 3 1 A m c (List.replicate m (.int .i64 (-1))) :: L) ∧ Below B w wr ∧ B ≤ wr.heap.size)
  case atStart => exact ⟨0, none, 0, by omega, rfl, rfl, Sep.nilSl h _ _, Below.refl _ _, hB⟩
  case round =>
    obtain ⟨m, A9, c9, hm, rfl, rfl, s4, b4, hle4⟩ := hrel
    by_cases hlt : m < be
    · have s5 := (s4.alloc hle4 #[.int .i64 (-1)] 3).drop
      have b5 := b4.alloc hle4 (.cells #[.int .i64 (-1)] 3)
      have hle5 : B ≤ (wr.alloc (.cells #[.int .i64 (-1)] 3)).heap.size := by simp; omega
      go_wp2_with (at_builtin; refine wpList_append_at rfl (.tmp 28) (.tmp 29) _ rfl 3 i0 _ 1 8 Try.underlying30 hi0 hz0 hz1 hz2 rfl (by omega) rfl s5 hle5 (· = wr.heap.size) (some ⟨wr.heap.size, 0, none⟩) 1 1 [.int .i64 (-1)] rfl (by exact Rd.lit (sz := 1) wr 3 #[.int .i64 (-1)] 1 rfl) (by simp [Value.oneCell']) (by simp only [maxLen]; omega) (by omega) ?_; intro A6 c6 w6 s6 b6)
      have b6 := b5.trans b6
      rw [← List.replicate_succ'] at s6
      clear s4 s5 b4 b5 hle5
      go_wp2_with fail
      go_roundg (gk - 1)
      case measure => omega
      case rel => exact ⟨m + 1, A6, c6, by omega, by go_num, rfl, s6, b6, Nat.le_trans hB b6.size⟩
    · obtain rfl : m = be := by omega
      have hs0 : List.replicate m (Value.int .i64 (-1)) = sN ([], m, []) := by simp [sN, rS]
      rw [hs0] at s4
      have s5 := ((s4.nilSl 5 1).nilSl 3 1).rot3
      have hlen0 : (rS ([], m, [])).length = m := by simp [rS]
      clear s4 hs0 hmst
      go_wp2_with fail
      clear e3 e4
      go_loopg [9, 11, 12, 13] n (fun g v p q k wr => ∃ (t : Nat) (l : Nat) (A1 A2 A3 : Option Addr) (c1 c2 c3 : Nat), t + g = n ∧ k = .int .i64 (t : Int) ∧ v = .slice A1 l c1 ∧ p = .slice A2 t c2 ∧ q = .slice A3 t c3 ∧ sizeE (mAt mo m ops t) = l ∧ At B wr (slRes 3 1 A1 l c1 (sN (mAt mo m ops t)) :: slRes 3 1 A2 t c2 (pN mo m ops t) :: slRes 5 1 A3 t c3 (cN mo m ops t) :: L) ∧ Below B w wr ∧ B ≤ wr.heap.size)
      case atStart => exact ⟨0, m, A9, none, none, c9, 0, 0, by omega, rfl, rfl, rfl, rfl, by simp [mAt, sizeE], s5, b4, hle4⟩
      case round =>
        clear s5 b4 hle4 hlen0
        obtain ⟨t, l, A1, A2, A3, c1, c2, c3, ht, rfl, rfl, rfl, rfl, hl, s4, b4, hle4⟩ := hrel
        by_cases hltn : t < n
        · have hlt' : t < ops.length := by rw [HN.out]; exact hltn
          obtain ⟨R, hr⟩ := hrd wr _ b4 (show At B wr (L ++ [slRes 3 1 A1 l c1 (sN (mAt mo m ops t)), slRes 3 1 A2 t c2 (pN mo m ops t), slRes 5 1 A3 t c3 (cN mo m ops t)]) from s4.back3)
          obtain ⟨b, off, rfl, hbR, hcells⟩ := hr.at (by omega)
          obtain ⟨g0, g1⟩ := op_at ops t hlt'
          obtain ⟨k0, k1⟩ := h8 _ (List.getElem_mem hlt')
          have g0 : wr.cell? ⟨b, off + t * 2, none⟩ = some (.int .u8 ops[t].1) := hcells _ _ g0
          have hkd := kindAt_lt hlt'
          rw [← hkd] at g0 k0 k1
          have hsu := mAt_succ (most := mo) (below := m) hlt'
          have hmp : mPair mo m ops t = (mStep mo t (kindAt ops t) (mAt mo m ops t)).2.1 := rfl
          have hmc : mCode mo m ops t = (mStep mo t (kindAt ops t) (mAt mo m ops t)).2.2 := rfl
          have hml := mAt_len mo m ops hbm t
          have hps := fun {p : Int} (h : mPair mo m ops t = p) => pN_succ mo m ops t h
          have hcs := fun {p : Int} (h : mCode mo m ops t = p) => cN_succ mo m ops t h
          rw [hl] at hml
          generalize mAt mo m ops t = st at *
          generalize kindAt ops t = kd at *
          clear hkd hcells g1 hr hbR
          by_cases hk1 : kd = 1
          ·
            subst hk1
            by_cases hroom : l < mo
            · have hroom' : sizeE st < mo := by rw [hl]; exact hroom
              have e := step1_room (k := t) hroom'
              rw [e] at hsu hmp hmc
              have hl2 : sizeE (mStep mo t 1 st).1 = l + 1 := by rw [e, ← hl]; simp [sizeE]; omega
              rw [e] at hl2
              have hss := sN_pushL (k := t) hroom'
              rw [e] at hss
              have HSS := Lib.hid hss
              have HP := Lib.hid (hps hmp)
              have HC := Lib.hid (hcs hmc)
              have HS := Lib.hid hsu
              have HL := Lib.hid hl2
              clear hps hcs hmp hmc hsu hl hl2 hss e hroom'
              have hge : ¬ (mo : Int) ≤ (l : Int) := by omega
              have s5 := lit_sl hle4 s4 (t := 3) (sz := 1) (m := 1) (by omega) #[.int .i64 (t : Int)] rfl
              have b5 := b4.alloc hle4 (.cells #[.int .i64 (t : Int)] 3)
              have hle5 : B ≤ (wr.alloc (.cells #[.int .i64 (t : Int)] 3)).heap.size := by simp; omega
              go_wp2_with (first
                | (at_builtin; refine wpList_append_at rfl (.tmp 74) (.tmp 75) _ rfl 3 i0 _ 1 8 Try.underlying30 hi0 hz0 hz1 hz2 rfl (by omega) rfl s5 hle5 (fun x => B ≤ x) A1 l c1 (sN st) rfl (by exact Sl.rd s5.rot2.get) (by intro u hu; unfold sN at hu; obtain ⟨x, _, rfl⟩ := List.mem_map.1 hu; simp [Value.oneCell']) (by simp only [maxLen]; omega) (by omega) ?_; intro A5 c5 w5 s6 b6; have s6 := s6.rot2.drop; have b4 := b5.trans b6; have hle4 := Nat.le_trans hB b4.size; have s5 := (s6.alloc hle4 #[.int .i64 (-1)] 3).drop.rot2; have b5 := b4.alloc hle4 (.cells #[.int .i64 (-1)] 3); have hle5 := Nat.le_trans hle4 (((Below.refl _ w5).alloc (Nat.le_refl _) (.cells #[.int .i64 (-1)] 3)).size))
                | (at_builtin; refine wpList_append_at rfl (.tmp 97) (.tmp 99) _ rfl 3 i0 _ 1 8 Try.underlying30 hi0 hz0 hz1 hz2 rfl (by omega) rfl s5 hle5 (· = (w5).heap.size) (some ⟨(w5).heap.size, 0, none⟩) 1 1 [.int .i64 (-1)] rfl (by exact Rd.lit (sz := 1) (w5) 3 #[.int .i64 (-1)] 1 rfl) (by simp [Value.oneCell']) (by simp only [maxLen]; omega) (by omega) ?_; intro A6 c6 w6 s6 b6; have b6 := b5.trans b6; have hle6 := Nat.le_trans hB b6.size; have s7 := (s6.alloc hle6 #[.int .u8 1] 5).drop.rot3; have b7 := b6.alloc hle6 (.cells #[.int .u8 1] 5); have hle7 : B ≤ (w6.alloc (.cells #[.int .u8 1] 5)).heap.size := Nat.le_trans hle6 (by simp))
                | (at_builtin; refine wpList_append_at rfl (.tmp 101) (.tmp 103) _ rfl 5 j0 _ 1 1 Try.underlying23 hj0 hy0 hy1 hy2 rfl (by omega) rfl s7 hle7 (· = w6.heap.size) (some ⟨w6.heap.size, 0, none⟩) 1 1 [.int .u8 1] rfl (by exact Rd.lit (sz := 1) w6 5 #[.int .u8 1] 1 rfl) (by simp [Value.oneCell']) (by simp only [maxLen]; omega) (by omega) ?_; intro A8 c8 w8 s8 b8; have b8 := b7.trans b8; have s9 := s8.rot3.cons fun _ => Sep.rot2))
              go_roundg (gk - 1)
              case measure => omega
              case rel => exact ⟨t + 1, 1 + l, A5, A6, A8, c5, c6, c8, by omega, by go_num, rfl, rfl, rfl, by rw [HS.out, Nat.add_comm]; exact HL.out, by rw [HS.out, HSS.out, HP.out, HC.out]; exact s9, b8, Nat.le_trans hB b8.size⟩
            · have hroom' : ¬ sizeE st < mo := by rw [hl]; exact hroom
              have e := step1_full (k := t) hroom'
              rw [e] at hsu hmp hmc
              have HP := Lib.hid (hps hmp)
              have HC := Lib.hid (hcs hmc)
              have HS := Lib.hid hsu
              have HL := Lib.hid hl
              clear hps hcs hmp hmc hsu hl e hroom'
              have hge : (mo : Int) ≤ (l : Int) := by omega
              have s5 := (s4.alloc hle4 #[.int .i64 (-1)] 3).drop.rot2
              have b5 := b4.alloc hle4 (.cells #[.int .i64 (-1)] 3)
              have hle5 := Nat.le_trans hle4 (((Below.refl _ wr).alloc (Nat.le_refl _) (.cells #[.int .i64 (-1)] 3)).size)
              go_wp2_with (first
                | (at_builtin; refine wpList_append_at rfl (.tmp 97) (.tmp 99) _ rfl 3 i0 _ 1 8 Try.underlying30 hi0 hz0 hz1 hz2 rfl (by omega) rfl s5 hle5 (· = (wr).heap.size) (some ⟨(wr).heap.size, 0, none⟩) 1 1 [.int .i64 (-1)] rfl (by exact Rd.lit (sz := 1) (wr) 3 #[.int .i64 (-1)] 1 rfl) (by simp [Value.oneCell']) (by simp only [maxLen]; omega) (by omega) ?_; intro A6 c6 w6 s6 b6; have b6 := b5.trans b6; have hle6 := Nat.le_trans hB b6.size; have s7 := (s6.alloc hle6 #[.int .u8 3] 5).drop.rot3; have b7 := b6.alloc hle6 (.cells #[.int .u8 3] 5); have hle7 : B ≤ (w6.alloc (.cells #[.int .u8 3] 5)).heap.size := Nat.le_trans hle6 (by simp))
                | (at_builtin; refine wpList_append_at rfl (.tmp 101) (.tmp 103) _ rfl 5 j0 _ 1 1 Try.underlying23 hj0 hy0 hy1 hy2 rfl (by omega) rfl s7 hle7 (· = w6.heap.size) (some ⟨w6.heap.size, 0, none⟩) 1 1 [.int .u8 3] rfl (by exact Rd.lit (sz := 1) w6 5 #[.int .u8 3] 1 rfl) (by simp [Value.oneCell']) (by simp only [maxLen]; omega) (by omega) ?_; intro A8 c8 w8 s8 b8; have b8 := b7.trans b8; have s9 := s8.rot3.cons fun _ => Sep.rot2))
              clear s7 b7 s6 b6 hle6 hle7 s4 b4 hle4 s8 s5 b5 hle5
              go_roundg (gk - 1)
              case measure => omega
              case rel => exact ⟨t + 1, l, A1, A6, A8, c1, c6, c8, by omega, by go_num, rfl, rfl, rfl, by rw [HS.out]; exact HL.out, by rw [HS.out, HP.out, HC.out]; exact s9, b8, Nat.le_trans hB b8.size⟩
          by_cases hk2 : kd = 2
          ·
            subst hk2
            by_cases hroom : l < mo
            · have hroom' : sizeE st < mo := by rw [hl]; exact hroom
              have e := step2_room (k := t) hroom'
              rw [e] at hsu hmp hmc
              have hl2 : sizeE (mStep mo t 2 st).1 = l + 1 := by rw [e, ← hl]; simp [sizeE]; omega
              rw [e] at hl2
              have hss := sN_pushR (k := t) hroom'
              rw [e] at hss
              have HSS := Lib.hid hss
              have HP := Lib.hid (hps hmp)
              have HC := Lib.hid (hcs hmc)
              have HS := Lib.hid hsu
              have HL := Lib.hid hl2
              clear hps hcs hmp hmc hsu hl hl2 hss e hroom'
              have hge : ¬ (mo : Int) ≤ (l : Int) := by omega
              have s5 := (s4.alloc hle4 #[.int .i64 (t : Int)] 3).drop
              have b5 := b4.alloc hle4 (.cells #[.int .i64 (t : Int)] 3)
              have hle5 : B ≤ (wr.alloc (.cells #[.int .i64 (t : Int)] 3)).heap.size := by simp; omega
              go_wp2_with (first
                | (at_builtin; refine wpList_append_at rfl (.tmp 81) (.tmp 83) _ rfl 3 i0 _ 1 8 Try.underlying30 hi0 hz0 hz1 hz2 rfl (by omega) rfl s5 hle5 (· = wr.heap.size) (some ⟨wr.heap.size, 0, none⟩) 1 1 [.int .i64 (t : Int)] rfl (by exact Rd.lit (sz := 1) wr 3 #[.int .i64 (t : Int)] 1 rfl) (by simp [Value.oneCell']) (by simp only [maxLen]; omega) (by omega) ?_; intro A5 c5 w5 s6 b6; have b4 := b5.trans b6; have hle4 := Nat.le_trans hB b4.size; have s5 := (s6.alloc hle4 #[.int .i64 (-1)] 3).drop.rot2; have b5 := b4.alloc hle4 (.cells #[.int .i64 (-1)] 3); have hle5 := Nat.le_trans hle4 (((Below.refl _ w5).alloc (Nat.le_refl _) (.cells #[.int .i64 (-1)] 3)).size))
                | (at_builtin; refine wpList_append_at rfl (.tmp 97) (.tmp 99) _ rfl 3 i0 _ 1 8 Try.underlying30 hi0 hz0 hz1 hz2 rfl (by omega) rfl s5 hle5 (· = (w5).heap.size) (some ⟨(w5).heap.size, 0, none⟩) 1 1 [.int .i64 (-1)] rfl (by exact Rd.lit (sz := 1) (w5) 3 #[.int .i64 (-1)] 1 rfl) (by simp [Value.oneCell']) (by simp only [maxLen]; omega) (by omega) ?_; intro A6 c6 w6 s6 b6; have b6 := b5.trans b6; have hle6 := Nat.le_trans hB b6.size; have s7 := (s6.alloc hle6 #[.int .u8 1] 5).drop.rot3; have b7 := b6.alloc hle6 (.cells #[.int .u8 1] 5); have hle7 : B ≤ (w6.alloc (.cells #[.int .u8 1] 5)).heap.size := Nat.le_trans hle6 (by simp))
                | (at_builtin; refine wpList_append_at rfl (.tmp 101) (.tmp 103) _ rfl 5 j0 _ 1 1 Try.underlying23 hj0 hy0 hy1 hy2 rfl (by omega) rfl s7 hle7 (· = w6.heap.size) (some ⟨w6.heap.size, 0, none⟩) 1 1 [.int .u8 1] rfl (by exact Rd.lit (sz := 1) w6 5 #[.int .u8 1] 1 rfl) (by simp [Value.oneCell']) (by simp only [maxLen]; omega) (by omega) ?_; intro A8 c8 w8 s8 b8; have b8 := b7.trans b8; have s9 := s8.rot3.cons fun _ => Sep.rot2))
              go_roundg (gk - 1)
              case measure => omega
              case rel => exact ⟨t + 1, l + 1, A5, A6, A8, c5, c6, c8, by omega, by go_num, rfl, rfl, rfl, by rw [HS.out]; exact HL.out, by rw [HS.out, HSS.out, HP.out, HC.out]; exact s9, b8, Nat.le_trans hB b8.size⟩
            · have hroom' : ¬ sizeE st < mo := by rw [hl]; exact hroom
              have e := step2_full (k := t) hroom'
              rw [e] at hsu hmp hmc
              have HP := Lib.hid (hps hmp)
              have HC := Lib.hid (hcs hmc)
              have HS := Lib.hid hsu
              have HL := Lib.hid hl
              clear hps hcs hmp hmc hsu hl e hroom'
              have hge : (mo : Int) ≤ (l : Int) := by omega
              have s5 := (s4.alloc hle4 #[.int .i64 (-1)] 3).drop.rot2
              have b5 := b4.alloc hle4 (.cells #[.int .i64 (-1)] 3)
              have hle5 := Nat.le_trans hle4 (((Below.refl _ wr).alloc (Nat.le_refl _) (.cells #[.int .i64 (-1)] 3)).size)
              go_wp2_with (first
                | (at_builtin; refine wpList_append_at rfl (.tmp 97) (.tmp 99) _ rfl 3 i0 _ 1 8 Try.underlying30 hi0 hz0 hz1 hz2 rfl (by omega) rfl s5 hle5 (· = (wr).heap.size) (some ⟨(wr).heap.size, 0, none⟩) 1 1 [.int .i64 (-1)] rfl (by exact Rd.lit (sz := 1) (wr) 3 #[.int .i64 (-1)] 1 rfl) (by simp [Value.oneCell']) (by simp only [maxLen]; omega) (by omega) ?_; intro A6 c6 w6 s6 b6; have b6 := b5.trans b6; have hle6 := Nat.le_trans hB b6.size; have s7 := (s6.alloc hle6 #[.int .u8 3] 5).drop.rot3; have b7 := b6.alloc hle6 (.cells #[.int .u8 3] 5); have hle7 : B ≤ (w6.alloc (.cells #[.int .u8 3] 5)).heap.size := Nat.le_trans hle6 (by simp))
                | (at_builtin; refine wpList_append_at rfl (.tmp 101) (.tmp 103) _ rfl 5 j0 _ 1 1 Try.underlying23 hj0 hy0 hy1 hy2 rfl (by omega) rfl s7 hle7 (· = w6.heap.size) (some ⟨w6.heap.size, 0, none⟩) 1 1 [.int .u8 3] rfl (by exact Rd.lit (sz := 1) w6 5 #[.int .u8 3] 1 rfl) (by simp [Value.oneCell']) (by simp only [maxLen]; omega) (by omega) ?_; intro A8 c8 w8 s8 b8; have b8 := b7.trans b8; have s9 := s8.rot3.cons fun _ => Sep.rot2))
              clear s7 b7 s6 b6 hle6 hle7 s4 b4 hle4 s8 s5 b5 hle5
              go_roundg (gk - 1)
              case measure => omega
              case rel => exact ⟨t + 1, l, A1, A6, A8, c1, c6, c8, by omega, by go_num, rfl, rfl, rfl, by rw [HS.out]; exact HL.out, by rw [HS.out, HP.out, HC.out]; exact s9, b8, Nat.le_trans hB b8.size⟩
          by_cases hk3 : kd = 3
          ·
            subst hk3
            by_cases hz : l = 0
            · subst hz
              have e := step3_none mo t st hl
              rw [e] at hsu hmp hmc
              have HP := Lib.hid (hps hmp)
              have HC := Lib.hid (hcs hmc)
              have HS := Lib.hid hsu
              have HL := Lib.hid hl
              clear hps hcs hmp hmc hsu hl e
              have s5 := (s4.alloc hle4 #[.int .i64 (-1)] 3).drop.rot2
              have b5 := b4.alloc hle4 (.cells #[.int .i64 (-1)] 3)
              have hle5 := Nat.le_trans hle4 (((Below.refl _ wr).alloc (Nat.le_refl _) (.cells #[.int .i64 (-1)] 3)).size)
              go_wp2_with (first
                | (at_builtin; refine wpList_append_at rfl (.tmp 97) (.tmp 99) _ rfl 3 i0 _ 1 8 Try.underlying30 hi0 hz0 hz1 hz2 rfl (by omega) rfl s5 hle5 (· = (wr).heap.size) (some ⟨(wr).heap.size, 0, none⟩) 1 1 [.int .i64 (-1)] rfl (by exact Rd.lit (sz := 1) (wr) 3 #[.int .i64 (-1)] 1 rfl) (by simp [Value.oneCell']) (by simp only [maxLen]; omega) (by omega) ?_; intro A6 c6 w6 s6 b6; have b6 := b5.trans b6; have hle6 := Nat.le_trans hB b6.size; have s7 := (s6.alloc hle6 #[.int .u8 4] 5).drop.rot3; have b7 := b6.alloc hle6 (.cells #[.int .u8 4] 5); have hle7 : B ≤ (w6.alloc (.cells #[.int .u8 4] 5)).heap.size := Nat.le_trans hle6 (by simp))
                | (at_builtin; refine wpList_append_at rfl (.tmp 101) (.tmp 103) _ rfl 5 j0 _ 1 1 Try.underlying23 hj0 hy0 hy1 hy2 rfl (by omega) rfl s7 hle7 (· = w6.heap.size) (some ⟨w6.heap.size, 0, none⟩) 1 1 [.int .u8 4] rfl (by exact Rd.lit (sz := 1) w6 5 #[.int .u8 4] 1 rfl) (by simp [Value.oneCell']) (by simp only [maxLen]; omega) (by omega) ?_; intro A8 c8 w8 s8 b8; have b8 := b7.trans b8; have s9 := s8.rot3.cons fun _ => Sep.rot2))
              clear s7 b7 s6 b6 hle6 hle7 s4 b4 hle4 s8 s5 b5 hle5
              go_roundg (gk - 1)
              case measure => omega
              case rel => exact ⟨t + 1, 0, A1, A6, A8, c1, c6, c8, by omega, by go_num, rfl, rfl, rfl, by rw [HS.out]; exact HL.out, by rw [HS.out, HP.out, HC.out]; exact s9, b8, Nat.le_trans hB b8.size⟩
            ·
              obtain ⟨l', rfl⟩ : ∃ l', l = l' + 1 := ⟨l - 1, by omega⟩
              have hz' : ((((l' + 1 : Nat) : Int)) == 0) = false := by simp; omega
              obtain ⟨x, T, e1, e2, e3⟩ := rS_popL st (by omega)
              have e2 : rS (mStep mo t 3 st).1 = T := e2
              have e3 : (mStep mo t 3 st).2 = (x, 2) := e3
              rw [e3] at hmp hmc
              have hTl : T.length = l' := by have := congrArg List.length e1; rw [rS_len, hl] at this; simpa using this.symm
              have hst2 : sizeE (mAt mo m ops (t + 1)) = l' := by rw [← rS_len, hsu, e2, hTl]
              have hsn : sN (mAt mo m ops (t + 1)) = T.map fun x => Value.int .i64 x := by unfold sN; rw [hsu, e2]
              have hsl : sN st = (x :: T).map fun x => Value.int .i64 x := by unfold sN; rw [e1]
              rw [hsl] at s4
              have HS := Lib.hid hsn
              have HP := Lib.hid (hps hmp)
              have HC := Lib.hid (hcs hmc)
              have HL := Lib.hid hst2
              have HT := Lib.hid hTl
              clear hps hcs hmp hmc hsu hl e1 e2 e3 hsl hsn hst2 hTl hz
              obtain ⟨S, hS, hSU, hnext⟩ := s4.frontAny (fun x hx => Nat.le_trans hle4 hx)
              have hS' : Sl wr 3 1 A1 (l' + 1) c1 ((x :: T).map fun x => Value.int .i64 x) S := hS
              have hlc := hS'.le
              obtain ⟨g, o2, rfl, _, _, _, hx⟩ := hS'.at (by omega)
              have hgx : wr.cell? ⟨g, o2, none⟩ = some (.int .i64 x) := by simpa using hx 0 (.int .i64 x) (by simp)
              have htk := hS'.drop (k := 1) (by omega)
              have hcap := hS'.cap_le
              unfold maxLen at hcap
              have s4 : At B wr (slRes 3 1 (if c1 = 1 then some ⟨g, o2, none⟩ else some ⟨g, o2 + 1, none⟩) l' (c1 - 1) (T.map fun x => Value.int .i64 x) :: slRes 3 1 A2 t c2 (pN mo m ops t) :: slRes 5 1 A3 t c3 (cN mo m ops t) :: L) := hnext _ wr (Sl.mono (by simpa [Addr.add] using htk) grow_left) (Mod.refl _ _)
              clear hx hS hS' hSU hnext htk
              have hlc' : (1 : Int) ≤ (c1 : Int) := by omega
              by_cases hc1 : c1 = 1
              ·
                subst hc1
                obtain rfl : l' = 0 := by omega
                rw [if_pos rfl] at s4
                have s5 := (s4.alloc hle4 #[.int .i64 x] 3).drop.rot2
                have b5 := b4.alloc hle4 (.cells #[.int .i64 x] 3)
                have hle5 := Nat.le_trans hle4 (((Below.refl _ wr).alloc (Nat.le_refl _) (.cells #[.int .i64 x] 3)).size)
                go_wp2_with (first
                  | (at_builtin; refine wpList_append_at rfl (.tmp 97) (.tmp 99) _ rfl 3 i0 _ 1 8 Try.underlying30 hi0 hz0 hz1 hz2 rfl (by omega) rfl s5 hle5 (· = (wr).heap.size) (some ⟨(wr).heap.size, 0, none⟩) 1 1 [.int .i64 x] rfl (by exact Rd.lit (sz := 1) (wr) 3 #[.int .i64 x] 1 rfl) (by simp [Value.oneCell']) (by simp only [maxLen]; omega) (by omega) ?_; intro A6 c6 w6 s6 b6; have b6 := b5.trans b6; have hle6 := Nat.le_trans hB b6.size; have s7 := (s6.alloc hle6 #[.int .u8 2] 5).drop.rot3; have b7 := b6.alloc hle6 (.cells #[.int .u8 2] 5); have hle7 : B ≤ (w6.alloc (.cells #[.int .u8 2] 5)).heap.size := Nat.le_trans hle6 (by simp))
                  | (at_builtin; refine wpList_append_at rfl (.tmp 101) (.tmp 103) _ rfl 5 j0 _ 1 1 Try.underlying23 hj0 hy0 hy1 hy2 rfl (by omega) rfl s7 hle7 (· = w6.heap.size) (some ⟨w6.heap.size, 0, none⟩) 1 1 [.int .u8 2] rfl (by exact Rd.lit (sz := 1) w6 5 #[.int .u8 2] 1 rfl) (by simp [Value.oneCell']) (by simp only [maxLen]; omega) (by omega) ?_; intro A8 c8 w8 s8 b8; have b8 := b7.trans b8; have s9 := s8.rot3.cons fun _ => Sep.rot2))
                clear s7 b7 s6 b6 hle6 hle7 s4 b4 hle4 s8 s5 b5 hle5
                go_roundg (gk - 1)
                case measure => omega
                case rel => exact ⟨t + 1, 0, some ⟨g, o2, none⟩, A6, A8, 0, c6, c8, by omega, by go_num, rfl, rfl, rfl, HL.out, by rw [HS.out, HP.out, HC.out]; exact s9, b8, Nat.le_trans hB b8.size⟩
              ·
                rw [if_neg hc1] at s4
                have s5 := (s4.alloc hle4 #[.int .i64 x] 3).drop.rot2
                have b5 := b4.alloc hle4 (.cells #[.int .i64 x] 3)
                have hle5 := Nat.le_trans hle4 (((Below.refl _ wr).alloc (Nat.le_refl _) (.cells #[.int .i64 x] 3)).size)
                go_wp2_with (first
                  | (at_builtin; refine wpList_append_at rfl (.tmp 97) (.tmp 99) _ rfl 3 i0 _ 1 8 Try.underlying30 hi0 hz0 hz1 hz2 rfl (by omega) rfl s5 hle5 (· = (wr).heap.size) (some ⟨(wr).heap.size, 0, none⟩) 1 1 [.int .i64 x] rfl (by exact Rd.lit (sz := 1) (wr) 3 #[.int .i64 x] 1 rfl) (by simp [Value.oneCell']) (by simp only [maxLen]; omega) (by omega) ?_; intro A6 c6 w6 s6 b6; have b6 := b5.trans b6; have hle6 := Nat.le_trans hB b6.size; have s7 := (s6.alloc hle6 #[.int .u8 2] 5).drop.rot3; have b7 := b6.alloc hle6 (.cells #[.int .u8 2] 5); have hle7 : B ≤ (w6.alloc (.cells #[.int .u8 2] 5)).heap.size := Nat.le_trans hle6 (by simp))
                  | (at_builtin; refine wpList_append_at rfl (.tmp 101) (.tmp 103) _ rfl 5 j0 _ 1 1 Try.underlying23 hj0 hy0 hy1 hy2 rfl (by omega) rfl s7 hle7 (· = w6.heap.size) (some ⟨w6.heap.size, 0, none⟩) 1 1 [.int .u8 2] rfl (by exact Rd.lit (sz := 1) w6 5 #[.int .u8 2] 1 rfl) (by simp [Value.oneCell']) (by simp only [maxLen]; omega) (by omega) ?_; intro A8 c8 w8 s8 b8; have b8 := b7.trans b8; have s9 := s8.rot3.cons fun _ => Sep.rot2))
                clear s7 b7 s6 b6 hle6 hle7 s4 b4 hle4 s8 s5 b5 hle5
                go_roundg (gk - 1)
                case measure => omega
                case rel => exact ⟨t + 1, l', some ⟨g, o2 + 1, none⟩, A6, A8, c1 - 1, c6, c8, by omega, by go_num, rfl, rfl, rfl, HL.out, by rw [HS.out, HP.out, HC.out]; exact s9, b8, Nat.le_trans hB b8.size⟩
          by_cases hk4 : kd = 4
          ·
            subst hk4
            by_cases hz : l = 0
            · subst hz
              have e := step4_none mo t st hl
              rw [e] at hsu hmp hmc
              have HP := Lib.hid (hps hmp)
              have HC := Lib.hid (hcs hmc)
              have HS := Lib.hid hsu
              have HL := Lib.hid hl
              clear hps hcs hmp hmc hsu hl e
              have s5 := (s4.alloc hle4 #[.int .i64 (-1)] 3).drop.rot2
              have b5 := b4.alloc hle4 (.cells #[.int .i64 (-1)] 3)
              have hle5 := Nat.le_trans hle4 (((Below.refl _ wr).alloc (Nat.le_refl _) (.cells #[.int .i64 (-1)] 3)).size)
              go_wp2_with (first
                | (at_builtin; refine wpList_append_at rfl (.tmp 97) (.tmp 99) _ rfl 3 i0 _ 1 8 Try.underlying30 hi0 hz0 hz1 hz2 rfl (by omega) rfl s5 hle5 (· = (wr).heap.size) (some ⟨(wr).heap.size, 0, none⟩) 1 1 [.int .i64 (-1)] rfl (by exact Rd.lit (sz := 1) (wr) 3 #[.int .i64 (-1)] 1 rfl) (by simp [Value.oneCell']) (by simp only [maxLen]; omega) (by omega) ?_; intro A6 c6 w6 s6 b6; have b6 := b5.trans b6; have hle6 := Nat.le_trans hB b6.size; have s7 := (s6.alloc hle6 #[.int .u8 4] 5).drop.rot3; have b7 := b6.alloc hle6 (.cells #[.int .u8 4] 5); have hle7 : B ≤ (w6.alloc (.cells #[.int .u8 4] 5)).heap.size := Nat.le_trans hle6 (by simp))
                | (at_builtin; refine wpList_append_at rfl (.tmp 101) (.tmp 103) _ rfl 5 j0 _ 1 1 Try.underlying23 hj0 hy0 hy1 hy2 rfl (by omega) rfl s7 hle7 (· = w6.heap.size) (some ⟨w6.heap.size, 0, none⟩) 1 1 [.int .u8 4] rfl (by exact Rd.lit (sz := 1) w6 5 #[.int .u8 4] 1 rfl) (by simp [Value.oneCell']) (by simp only [maxLen]; omega) (by omega) ?_; intro A8 c8 w8 s8 b8; have b8 := b7.trans b8; have s9 := s8.rot3.cons fun _ => Sep.rot2))
              clear s7 b7 s6 b6 hle6 hle7 s4 b4 hle4 s8 s5 b5 hle5
              go_roundg (gk - 1)
              case measure => omega
              case rel => exact ⟨t + 1, 0, A1, A6, A8, c1, c6, c8, by omega, by go_num, rfl, rfl, rfl, by rw [HS.out]; exact HL.out, by rw [HS.out, HP.out, HC.out]; exact s9, b8, Nat.le_trans hB b8.size⟩
            ·
              obtain ⟨l', rfl⟩ : ∃ l', l = l' + 1 := ⟨l - 1, by omega⟩
              have hz' : ((((l' + 1 : Nat) : Int)) == 0) = false := by simp; omega
              obtain ⟨T, x, e1, e2, e3⟩ := rS_popR (most := mo) (k := t) st (by omega)
              rw [e3] at hmp hmc
              have hTl : T.length = l' := by have := congrArg List.length e1; rw [rS_len, hl] at this; simpa using this.symm
              have hst2 : sizeE (mAt mo m ops (t + 1)) = l' := by rw [← rS_len, hsu, e2, hTl]
              have hsn : sN (mAt mo m ops (t + 1)) = T.map fun x => Value.int .i64 x := by unfold sN; rw [hsu, e2]
              have hsl : sN st = (T ++ [x]).map fun x => Value.int .i64 x := by unfold sN; rw [e1]
              rw [hsl] at s4
              have HS := Lib.hid hsn
              have HP := Lib.hid (hps hmp)
              have HC := Lib.hid (hcs hmc)
              have HL := Lib.hid hst2
              have HT := Lib.hid hTl
              clear hps hcs hmp hmc hsu hl e1 e2 e3 hsl hsn hst2 hTl hz
              obtain ⟨S, hS, hSU, hnext⟩ := s4.frontAny (fun x hx => Nat.le_trans hle4 hx)
              have hS' : Sl wr 3 1 A1 (l' + 1) c1 ((T ++ [x]).map fun x => Value.int .i64 x) S := hS
              have hlc := hS'.le
              obtain ⟨g, o2, rfl, _, _, _, hx⟩ := hS'.at (by omega)
              have hgx : wr.cell? ⟨g, o2 + l', none⟩ = some (.int .i64 x) := hx l' _ (by rw [← HT.out]; simp)
              have htk := hS'.take (k := l') (by omega)
              have hcap := hS'.cap_le
              unfold maxLen at hcap
              have s4 : At B wr (slRes 3 1 (some ⟨g, o2, none⟩) l' c1 (T.map fun x => Value.int .i64 x) :: slRes 3 1 A2 t c2 (pN mo m ops t) :: slRes 5 1 A3 t c3 (cN mo m ops t) :: L) := hnext _ wr (Sl.mono (by rw [Nat.mul_one, ← HT.out, List.map_append, List.take_left' (by simp)] at htk; rw [← HT.out]; exact htk) grow_left) (Mod.refl _ _)
              clear hx hS hS' hSU hnext htk
              have hlc' : (l' : Int) ≤ (c1 : Int) := by omega
              have s5 := (s4.alloc hle4 #[.int .i64 x] 3).drop.rot2
              have b5 := b4.alloc hle4 (.cells #[.int .i64 x] 3)
              have hle5 := Nat.le_trans hle4 (((Below.refl _ wr).alloc (Nat.le_refl _) (.cells #[.int .i64 x] 3)).size)
              go_wp2_with (first
                | (at_builtin; refine wpList_append_at rfl (.tmp 97) (.tmp 99) _ rfl 3 i0 _ 1 8 Try.underlying30 hi0 hz0 hz1 hz2 rfl (by omega) rfl s5 hle5 (· = (wr).heap.size) (some ⟨(wr).heap.size, 0, none⟩) 1 1 [.int .i64 x] rfl (by exact Rd.lit (sz := 1) (wr) 3 #[.int .i64 x] 1 rfl) (by simp [Value.oneCell']) (by simp only [maxLen]; omega) (by omega) ?_; intro A6 c6 w6 s6 b6; have b6 := b5.trans b6; have hle6 := Nat.le_trans hB b6.size; have s7 := (s6.alloc hle6 #[.int .u8 2] 5).drop.rot3; have b7 := b6.alloc hle6 (.cells #[.int .u8 2] 5); have hle7 : B ≤ (w6.alloc (.cells #[.int .u8 2] 5)).heap.size := Nat.le_trans hle6 (by simp))
                | (at_builtin; refine wpList_append_at rfl (.tmp 101) (.tmp 103) _ rfl 5 j0 _ 1 1 Try.underlying23 hj0 hy0 hy1 hy2 rfl (by omega) rfl s7 hle7 (· = w6.heap.size) (some ⟨w6.heap.size, 0, none⟩) 1 1 [.int .u8 2] rfl (by exact Rd.lit (sz := 1) w6 5 #[.int .u8 2] 1 rfl) (by simp [Value.oneCell']) (by simp only [maxLen]; omega) (by omega) ?_; intro A8 c8 w8 s8 b8; have b8 := b7.trans b8; have s9 := s8.rot3.cons fun _ => Sep.rot2))
              clear s7 b7 s6 b6 hle6 hle7 s4 b4 hle4 s8 s5 b5 hle5
              go_roundg (gk - 1)
              case measure => omega
              case rel => exact ⟨t + 1, l', some ⟨g, o2, none⟩, A6, A8, c1, c6, c8, by omega, by go_num, rfl, rfl, rfl, HL.out, by rw [HS.out, HP.out, HC.out]; exact s9, b8, Nat.le_trans hB b8.size⟩
          have hout : kd < 1 ∨ 4 < kd := by omega
          have e := step_bad (most := mo) (k := t) (st := st) hout
          rw [e] at hsu hmp hmc
          have HP := Lib.hid (hps hmp)
          have HC := Lib.hid (hcs hmc)
          have HS := Lib.hid hsu
          have HL := Lib.hid hl
          clear hps hcs hmp hmc hsu hl e
          have hn12 : ¬ kd = 1 ∧ ¬ kd = 2 := ⟨hk1, hk2⟩
          rcases hout with hout | hout
          ·
            clear hk1 hk2 hk3 hk4 hn12
            have s5 := (s4.alloc hle4 #[.int .i64 (-1)] 3).drop.rot2
            have b5 := b4.alloc hle4 (.cells #[.int .i64 (-1)] 3)
            have hle5 := Nat.le_trans hle4 (((Below.refl _ wr).alloc (Nat.le_refl _) (.cells #[.int .i64 (-1)] 3)).size)
            go_wp2_with (first
              | (at_builtin; refine wpList_append_at rfl (.tmp 97) (.tmp 99) _ rfl 3 i0 _ 1 8 Try.underlying30 hi0 hz0 hz1 hz2 rfl (by omega) rfl s5 hle5 (· = (wr).heap.size) (some ⟨(wr).heap.size, 0, none⟩) 1 1 [.int .i64 (-1)] rfl (by exact Rd.lit (sz := 1) (wr) 3 #[.int .i64 (-1)] 1 rfl) (by simp [Value.oneCell']) (by simp only [maxLen]; omega) (by omega) ?_; intro A6 c6 w6 s6 b6; have b6 := b5.trans b6; have hle6 := Nat.le_trans hB b6.size; have s7 := (s6.alloc hle6 #[.int .u8 5] 5).drop.rot3; have b7 := b6.alloc hle6 (.cells #[.int .u8 5] 5); have hle7 : B ≤ (w6.alloc (.cells #[.int .u8 5] 5)).heap.size := Nat.le_trans hle6 (by simp))
              | (at_builtin; refine wpList_append_at rfl (.tmp 101) (.tmp 103) _ rfl 5 j0 _ 1 1 Try.underlying23 hj0 hy0 hy1 hy2 rfl (by omega) rfl s7 hle7 (· = w6.heap.size) (some ⟨w6.heap.size, 0, none⟩) 1 1 [.int .u8 5] rfl (by exact Rd.lit (sz := 1) w6 5 #[.int .u8 5] 1 rfl) (by simp [Value.oneCell']) (by simp only [maxLen]; omega) (by omega) ?_; intro A8 c8 w8 s8 b8; have b8 := b7.trans b8; have s9 := s8.rot3.cons fun _ => Sep.rot2))
            clear s7 b7 s6 b6 hle6 hle7 s4 b4 hle4 s8 s5 b5 hle5
            go_roundg (gk - 1)
            case measure => omega
            case rel => exact ⟨t + 1, l, A1, A6, A8, c1, c6, c8, by omega, by go_num, rfl, rfl, rfl, by rw [HS.out]; exact HL.out, by rw [HS.out, HP.out, HC.out]; exact s9, b8, Nat.le_trans hB b8.size⟩
          ·
            have hge1 : ¬ kd < 1 := by omega
            clear hk1 hk2 hk3 hk4 hn12
            have s5 := (s4.alloc hle4 #[.int .i64 (-1)] 3).drop.rot2
            have b5 := b4.alloc hle4 (.cells #[.int .i64 (-1)] 3)
            have hle5 := Nat.le_trans hle4 (((Below.refl _ wr).alloc (Nat.le_refl _) (.cells #[.int .i64 (-1)] 3)).size)
            go_wp2_with (first
              | (at_builtin; refine wpList_append_at rfl (.tmp 97) (.tmp 99) _ rfl 3 i0 _ 1 8 Try.underlying30 hi0 hz0 hz1 hz2 rfl (by omega) rfl s5 hle5 (· = (wr).heap.size) (some ⟨(wr).heap.size, 0, none⟩) 1 1 [.int .i64 (-1)] rfl (by exact Rd.lit (sz := 1) (wr) 3 #[.int .i64 (-1)] 1 rfl) (by simp [Value.oneCell']) (by simp only [maxLen]; omega) (by omega) ?_; intro A6 c6 w6 s6 b6; have b6 := b5.trans b6; have hle6 := Nat.le_trans hB b6.size; have s7 := (s6.alloc hle6 #[.int .u8 5] 5).drop.rot3; have b7 := b6.alloc hle6 (.cells #[.int .u8 5] 5); have hle7 : B ≤ (w6.alloc (.cells #[.int .u8 5] 5)).heap.size := Nat.le_trans hle6 (by simp))
              | (at_builtin; refine wpList_append_at rfl (.tmp 101) (.tmp 103) _ rfl 5 j0 _ 1 1 Try.underlying23 hj0 hy0 hy1 hy2 rfl (by omega) rfl s7 hle7 (· = w6.heap.size) (some ⟨w6.heap.size, 0, none⟩) 1 1 [.int .u8 5] rfl (by exact Rd.lit (sz := 1) w6 5 #[.int .u8 5] 1 rfl) (by simp [Value.oneCell']) (by simp only [maxLen]; omega) (by omega) ?_; intro A8 c8 w8 s8 b8; have b8 := b7.trans b8; have s9 := s8.rot3.cons fun _ => Sep.rot2))
            clear s7 b7 s6 b6 hle6 hle7 s4 b4 hle4 s8 s5 b5 hle5
            go_roundg (gk - 1)
            case measure => omega
            case rel => exact ⟨t + 1, l, A1, A6, A8, c1, c6, c8, by omega, by go_num, rfl, rfl, rfl, by rw [HS.out]; exact HL.out, by rw [HS.out, HP.out, HC.out]; exact s9, b8, Nat.le_trans hB b8.size⟩
        · obtain rfl : t = n := by omega
          go_wp2_with fail
          go_ret2
          exact ⟨A2, c2, A3, c3, rfl, s4.drop, b4⟩
end Go.Proofs.Ytgaomaaloaglpaa
