/-
  The document's pairs at a stack, and a stack as one end of a deque.
-/
import Derived.Test.YtgaomaaloaglpaaEndsG
import Derived.Test.YtgaomaaloaglpaaEndsS
import Derived.Test.YtgaomaaloaglpaaApp
namespace Go.Rp
/-- What an operation of a kind comes to: who waits (the last one on top) and how many items are below; which push it meets; the code. -/
def tStep (most k : Nat) (o : Int) (st : List Nat × Nat) : (List Nat × Nat) × Int × Int :=
  if o = 1 then
    if st.2 + st.1.length < most then ((st.1 ++ [k], st.2), -1, 1) else (st, -1, 3)
  else if o = 2 then
    match st.1.getLast? with
    | some j => ((st.1.dropLast, st.2), (j : Int), 2)
    | none => if 0 < st.2 then ((st.1, st.2 - 1), -1, 2) else (st, -1, 4)
  else (st, -1, 5)

/-- The state ahead of operation k. -/
def tAt (most below : Nat) (ops : List (Int × Int)) : Nat → List Nat × Nat
  | 0 => ([], below)
  | k + 1 => match ops[k]? with
    | some o => (tStep most k o.1 (tAt most below ops k)).1
    | none => tAt most below ops k
/-- Which push operation k meets; its code. -/
def tPair (most below : Nat) (ops : List (Int × Int)) (k : Nat) : Int := (tStep most k (kindAt ops k) (tAt most below ops k)).2.1
def tCode (most below : Nat) (ops : List (Int × Int)) (k : Nat) : Int := (tStep most k (kindAt ops k) (tAt most below ops k)).2.2

theorem tAt_succ {most below : Nat} {ops : List (Int × Int)} {k : Nat} (h : k < ops.length) : tAt most below ops (k + 1) = (tStep most k (kindAt ops k) (tAt most below ops k)).1 := by
  rw [kindAt_lt h]; simp [tAt, h]

theorem tStep_len (most k : Nat) (o : Int) (st : List Nat × Nat) (h : st.2 + st.1.length ≤ most) : (tStep most k o st).1.2 + (tStep most k o st).1.1.length ≤ most := by
  unfold tStep
  split
  · split
    · simp; omega
    · exact h
  · split
    · split
      · simp; omega
      · split
        · simp only; omega
        · exact h
    · exact h
theorem tAt_len (most below : Nat) (ops : List (Int × Int)) (h : below ≤ most) (k : Nat) : (tAt most below ops k).2 + (tAt most below ops k).1.length ≤ most := by
  induction k with
  | zero => simpa [tAt] using h
  | succ k ih =>
    simp only [tAt]
    split
    · exact tStep_len _ _ _ _ ih
    · exact ih
theorem tStep_push {most k : Nat} {st : List Nat × Nat} : tStep most k 1 st = if st.2 + st.1.length < most then ((st.1 ++ [k], st.2), -1, 1) else (st, -1, 3) := rfl
theorem tStep_pop {most k : Nat} {st : List Nat × Nat} : tStep most k 2 st = match st.1.getLast? with
    | some j => ((st.1.dropLast, st.2), (j : Int), 2)
    | none => if 0 < st.2 then ((st.1, st.2 - 1), -1, 2) else (st, -1, 4) := rfl
theorem tStep_other {most k : Nat} {o : Int} {st : List Nat × Nat} (h1 : o ≠ 1) (h2 : o ≠ 2) : tStep most k o st = (st, -1, 5) := by
  unfold tStep; rw [if_neg h1, if_neg h2]
theorem tStep_pop_some {most k j : Nat} {l : List Nat} {b : Nat} : tStep most k 2 (l ++ [j], b) = ((l, b), (j : Int), 2) := by simp [tStep]
/-- The document's stack of places. -/
def tS (st : List Nat × Nat) : List Int := List.replicate st.2 (-1) ++ st.1.map fun (j : Nat) => (j : Int)
theorem tS_len (st : List Nat × Nat) : (tS st).length = st.2 + st.1.length := by simp [tS]
theorem tS_push (l : List Nat) (b k : Nat) : tS (l ++ [k], b) = tS (l, b) ++ [(k : Int)] := by simp [tS]
/-- The last one. -/
theorem tS_pop (most k : Nat) (st : List Nat × Nat) (h : 0 < st.2 + st.1.length) : ∃ T x, tS st = T ++ [x] ∧ tS (tStep most k 2 st).1 = T ∧ (tStep most k 2 st).2 = (x, 2) := by
  obtain ⟨l, b⟩ := st
  rcases List.eq_nil_or_concat l with rfl | ⟨l', j, rfl⟩
  · obtain ⟨b, rfl⟩ : ∃ b', b = b' + 1 := ⟨b - 1, by simp at h; omega⟩
    refine ⟨List.replicate b (-1), -1, by simp [tS, List.replicate_succ'], ?_, ?_⟩
    · rw [tStep_pop]; simp [tS]
    · rw [tStep_pop]; simp
  · rw [List.concat_eq_append, tStep_pop_some]
    exact ⟨tS (l', b), (j : Int), tS_push _ _ _, rfl, rfl⟩
theorem tS_none (most k : Nat) (st : List Nat × Nat) (h : st.2 + st.1.length = 0) : tStep most k 2 st = (st, -1, 4) := by
  obtain ⟨l, b⟩ := st
  simp only at h
  obtain rfl : b = 0 := by omega
  obtain rfl : l = [] := List.length_eq_zero_iff.1 (by omega)
  rfl
end Go.Rp
namespace Go.Proofs.Ytgaomaaloaglpaa
open Go.RowKit Go.Rp

/-- The first k, as values. -/
def tpN (mo be : Nat) (ops : List (Int × Int)) (k : Nat) : List Value := ((List.range k).map (tPair mo be ops)).map fun x => Value.int .i64 x
def tcN (mo be : Nat) (ops : List (Int × Int)) (k : Nat) : List Value := ((List.range k).map (tCode mo be ops)).map fun x => Value.int .u8 x
theorem tpN_succ (mo be : Nat) (ops : List (Int × Int)) (k : Nat) {p : Int} (h : tPair mo be ops k = p) : tpN mo be ops (k + 1) = tpN mo be ops k ++ [.int .i64 p] := by unfold tpN; rw [List.range_succ, List.map_append, List.map_append]; simp [h]
theorem tcN_succ (mo be : Nat) (ops : List (Int × Int)) (k : Nat) {p : Int} (h : tCode mo be ops k = p) : tcN mo be ops (k + 1) = tcN mo be ops k ++ [.int .u8 p] := by unfold tcN; rw [List.range_succ, List.map_append, List.map_append]; simp [h]
def tsN (st : List Nat × Nat) : List Value := (tS st).map fun x => Value.int .i64 x

set_option maxRecDepth 100000 in
set_option maxHeartbeats 40000000 in
theorem tPairs_y {B : Nat} {w : World} {L : List Res} {A : Option Addr} {n c : Nat} {ops : List (Int × Int)} (hB : B ≤ w.heap.size) (hv ms : Int) (hn : ops.length = n) (h8 : ∀ o ∈ ops, 0 ≤ o.1 ∧ o.1 ≤ 255) (hlen : n ≤ 100000) (h : At B w L) (hrd : ∀ W L', Below B w W → At B W (L ++ L') → ∃ R, Rd W R 2 A n (ops.flatMap opIn)) :
    Calls Try.prog 17 #[.int .i64 hv, .int .i64 ms, .slice A n c] w fun e w' =>
      ∃ A1 c1 A2 c2, e = .returned (.tuple #[.slice A1 n c1, .slice A2 n c2]) ∧ At B w' (slRes 3 1 A1 n c1 (tpN (capI ms) (belI hv ms) ops n) :: slRes 5 1 A2 n c2 (tcN (capI ms) (belI hv ms) ops n) :: L) ∧ Below B w w' := by
  obtain ⟨i0, hi0, hz0, hz1, hz2⟩ := info_parts info_int
  obtain ⟨j0, hj0, hy0, hy1, hy2⟩ := info_parts info_u8
  have HN := Lib.hid hn
  clear hn
  have e3 := min_ii (k := .i64) (x := hv) (y := (capI ms : Int)) rfl
  have e4 := max_ii (k := .i64) (belI_is hv ms)
  have hmo := capI_le ms
  have hbm := belI_le hv ms
  have hmst := rMost_any w ms
  generalize capI ms = mo at *
  generalize belI hv ms = be at *
  go_enter Try.func17, Try.ntmps17
  go_wp2_with fail
  refine hmst.mono ?_
  rintro e w1 ⟨rfl, rfl⟩
  go_wp2_with fail
  go_loopg [9, 10] be (fun g v k wr => ∃ (m : Nat) (A : Option Addr) (c : Nat), m + g = be ∧ k = .int .i64 (m : Int) ∧ v = .slice A m c ∧ At B wr (slRes 3 1 A m c (List.replicate m (.int .i64 (-1))) :: L) ∧ Below B w wr ∧ B ≤ wr.heap.size)
  case atStart => exact ⟨0, none, 0, by omega, rfl, rfl, Sep.nilSl h _ _, Below.refl _ _, hB⟩
  case round =>
    obtain ⟨m, A9, c9, hm, rfl, rfl, s4, b4, hle4⟩ := hrel
    by_cases hlt : m < be
    · have s5 := (s4.alloc hle4 #[.int .i64 (-1)] 3).drop
      have b5 := b4.alloc hle4 (.cells #[.int .i64 (-1)] 3)
      have hle5 : B ≤ (wr.alloc (.cells #[.int .i64 (-1)] 3)).heap.size := by simp; omega
      go_wp2_with (at_builtin; refine wpList_append_at rfl (.tmp 26) (.tmp 27) _ rfl 3 i0 _ 1 8 Try.underlying30 hi0 hz0 hz1 hz2 rfl (by omega) rfl s5 hle5 (· = wr.heap.size) (some ⟨wr.heap.size, 0, none⟩) 1 1 [.int .i64 (-1)] rfl (by exact Rd.lit (sz := 1) wr 3 #[.int .i64 (-1)] 1 rfl) (by simp [Value.oneCell']) (by simp only [maxLen]; omega) (by omega) ?_; intro A6 c6 w6 s6 b6)
      have b6 := b5.trans b6
      rw [← List.replicate_succ'] at s6
      clear s4 s5 b4 b5 hle5
      go_wp2_with fail
      go_roundg (gk - 1)
      case measure => omega
      case rel => exact ⟨m + 1, A6, c6, by omega, by go_num, rfl, s6, b6, Nat.le_trans hB b6.size⟩
    · obtain rfl : m = be := by omega
      have hs0 : List.replicate m (Value.int .i64 (-1)) = tsN ([], m) := by simp [tsN, tS]
      rw [hs0] at s4
      have s5 := ((s4.nilSl 5 1).nilSl 3 1).rot3
      have hlen0 : (tS ([], m)).length = m := by simp [tS]
      clear s4 hs0 hmst
      go_wp2_with fail
      clear e3 e4
      go_loopg [9, 11, 12, 13] n (fun g v p q k wr => ∃ (t : Nat) (l : Nat) (A1 A2 A3 : Option Addr) (c1 c2 c3 : Nat), t + g = n ∧ k = .int .i64 (t : Int) ∧ v = .slice A1 l c1 ∧ p = .slice A2 t c2 ∧ q = .slice A3 t c3 ∧ (tAt mo m ops t).2 + (tAt mo m ops t).1.length = l ∧ At B wr (slRes 3 1 A1 l c1 (tsN (tAt mo m ops t)) :: slRes 3 1 A2 t c2 (tpN mo m ops t) :: slRes 5 1 A3 t c3 (tcN mo m ops t) :: L) ∧ Below B w wr ∧ B ≤ wr.heap.size)
      case atStart => exact ⟨0, m, A9, none, none, c9, 0, 0, by omega, rfl, rfl, rfl, rfl, by simp [tAt], s5, b4, hle4⟩
      case round =>
        clear s5 b4 hle4 hlen0
        obtain ⟨t, l, A1, A2, A3, c1, c2, c3, ht, rfl, rfl, rfl, rfl, hl, s4, b4, hle4⟩ := hrel
        by_cases hltn : t < n
        · have hlt' : t < ops.length := by rw [HN.out]; exact hltn
          obtain ⟨R, hr⟩ := hrd wr _ b4 (show At B wr (L ++ [slRes 3 1 A1 l c1 (tsN (tAt mo m ops t)), slRes 3 1 A2 t c2 (tpN mo m ops t), slRes 5 1 A3 t c3 (tcN mo m ops t)]) from s4.back3)
          obtain ⟨b, off, rfl, hbR, hcells⟩ := hr.at (by omega)
          obtain ⟨g0, g1⟩ := op_at ops t hlt'
          obtain ⟨k0, k1⟩ := h8 _ (List.getElem_mem hlt')
          have g0 : wr.cell? ⟨b, off + t * 2, none⟩ = some (.int .u8 ops[t].1) := hcells _ _ g0
          have hkd := kindAt_lt hlt'
          rw [← hkd] at g0 k0 k1
          have hsu := tAt_succ (most := mo) (below := m) hlt'
          have hmp : tPair mo m ops t = (tStep mo t (kindAt ops t) (tAt mo m ops t)).2.1 := rfl
          have hmc : tCode mo m ops t = (tStep mo t (kindAt ops t) (tAt mo m ops t)).2.2 := rfl
          have hml := tAt_len mo m ops hbm t
          have hps := fun {p : Int} (h : tPair mo m ops t = p) => tpN_succ mo m ops t h
          have hcs := fun {p : Int} (h : tCode mo m ops t = p) => tcN_succ mo m ops t h
          rw [hl] at hml
          generalize tAt mo m ops t = st at *
          generalize kindAt ops t = kd at *
          clear hkd hcells g1 hr hbR
          by_cases hk1 : kd = 1
          · subst hk1
            by_cases hroom : l < mo
            · have e : tStep mo t 1 st = ((st.1 ++ [t], st.2), -1, 1) := by rw [tStep_push, if_pos (by omega)]
              rw [e] at hsu hmp hmc
              have HP := Lib.hid (hps hmp)
              have HC := Lib.hid (hcs hmc)
              have HS := Lib.hid hsu
              have HL := Lib.hid hl
              have hss : tsN (st.1 ++ [t], st.2) = tsN st ++ [.int .i64 (t : Int)] := by unfold tsN; rw [tS_push]; simp
              have HSS := Lib.hid hss
              clear hps hcs hmp hmc hsu hl hss e
              have s5 := (s4.alloc hle4 #[.int .i64 (t : Int)] 3).drop
              have b5 := b4.alloc hle4 (.cells #[.int .i64 (t : Int)] 3)
              have hle5 : B ≤ (wr.alloc (.cells #[.int .i64 (t : Int)] 3)).heap.size := by simp; omega
              go_wp2_with (first
                | (at_builtin; refine wpList_append_at rfl (.tmp 55) (.tmp 57) _ rfl 3 i0 _ 1 8 Try.underlying30 hi0 hz0 hz1 hz2 rfl (by omega) rfl s5 hle5 (· = wr.heap.size) (some ⟨wr.heap.size, 0, none⟩) 1 1 [.int .i64 (t : Int)] rfl (by exact Rd.lit (sz := 1) wr 3 #[.int .i64 (t : Int)] 1 rfl) (by simp [Value.oneCell']) (by simp only [maxLen]; omega) (by omega) ?_; intro A5 c5 w5 s6 b6; have b4 := b5.trans b6; have hle4 := Nat.le_trans hB b4.size; have s5 := (s6.alloc hle4 #[.int .i64 (-1)] 3).drop.rot2; have b5 := b4.alloc hle4 (.cells #[.int .i64 (-1)] 3); have hle5 := Nat.le_trans hle4 (((Below.refl _ w5).alloc (Nat.le_refl _) (.cells #[.int .i64 (-1)] 3)).size))
                | (at_builtin; refine wpList_append_at rfl (.tmp 89) (.tmp 91) _ rfl 3 i0 _ 1 8 Try.underlying30 hi0 hz0 hz1 hz2 rfl (by omega) rfl s5 hle5 (· = (w5).heap.size) (some ⟨(w5).heap.size, 0, none⟩) 1 1 [.int .i64 (-1)] rfl (by exact Rd.lit (sz := 1) (w5) 3 #[.int .i64 (-1)] 1 rfl) (by simp [Value.oneCell']) (by simp only [maxLen]; omega) (by omega) ?_; intro A6 c6 w6 s6 b6; have b6 := b5.trans b6; have hle6 := Nat.le_trans hB b6.size; have s7 := (s6.alloc hle6 #[.int .u8 1] 5).drop.rot3; have b7 := b6.alloc hle6 (.cells #[.int .u8 1] 5); have hle7 : B ≤ (w6.alloc (.cells #[.int .u8 1] 5)).heap.size := Nat.le_trans hle6 (by simp))
                | (at_builtin; refine wpList_append_at rfl (.tmp 93) (.tmp 95) _ rfl 5 j0 _ 1 1 Try.underlying23 hj0 hy0 hy1 hy2 rfl (by omega) rfl s7 hle7 (· = w6.heap.size) (some ⟨w6.heap.size, 0, none⟩) 1 1 [.int .u8 1] rfl (by exact Rd.lit (sz := 1) w6 5 #[.int .u8 1] 1 rfl) (by simp [Value.oneCell']) (by simp only [maxLen]; omega) (by omega) ?_; intro A8 c8 w8 s8 b8; have b8 := b7.trans b8; have s9 := s8.rot3.cons fun _ => Sep.rot2))
              go_roundg (gk - 1)
              case measure => omega
              case rel => exact ⟨t + 1, l + 1, A5, A6, A8, c5, c6, c8, by omega, by go_num, rfl, rfl, rfl, by rw [HS.out]; simp; have := HL.out; omega, by rw [HS.out, HSS.out, HP.out, HC.out]; exact s9, b8, Nat.le_trans hB b8.size⟩
            · have e : tStep mo t 1 st = (st, -1, 3) := by rw [tStep_push, if_neg (by omega)]
              rw [e] at hsu hmp hmc
              have HP := Lib.hid (hps hmp)
              have HC := Lib.hid (hcs hmc)
              have HS := Lib.hid hsu
              have HL := Lib.hid hl
              clear hps hcs hmp hmc hsu hl e
              have hge : (mo : Int) ≤ (l : Int) := by omega
              have s5 := (s4.alloc hle4 #[.int .i64 (-1)] 3).drop.rot2
              have b5 := b4.alloc hle4 (.cells #[.int .i64 (-1)] 3)
              have hle5 := Nat.le_trans hle4 (((Below.refl _ wr).alloc (Nat.le_refl _) (.cells #[.int .i64 (-1)] 3)).size)
              go_wp2_with (first
                | (at_builtin; refine wpList_append_at rfl (.tmp 89) (.tmp 91) _ rfl 3 i0 _ 1 8 Try.underlying30 hi0 hz0 hz1 hz2 rfl (by omega) rfl s5 hle5 (· = (wr).heap.size) (some ⟨(wr).heap.size, 0, none⟩) 1 1 [.int .i64 (-1)] rfl (by exact Rd.lit (sz := 1) (wr) 3 #[.int .i64 (-1)] 1 rfl) (by simp [Value.oneCell']) (by simp only [maxLen]; omega) (by omega) ?_; intro A6 c6 w6 s6 b6; have b6 := b5.trans b6; have hle6 := Nat.le_trans hB b6.size; have s7 := (s6.alloc hle6 #[.int .u8 3] 5).drop.rot3; have b7 := b6.alloc hle6 (.cells #[.int .u8 3] 5); have hle7 : B ≤ (w6.alloc (.cells #[.int .u8 3] 5)).heap.size := Nat.le_trans hle6 (by simp))
                | (at_builtin; refine wpList_append_at rfl (.tmp 93) (.tmp 95) _ rfl 5 j0 _ 1 1 Try.underlying23 hj0 hy0 hy1 hy2 rfl (by omega) rfl s7 hle7 (· = w6.heap.size) (some ⟨w6.heap.size, 0, none⟩) 1 1 [.int .u8 3] rfl (by exact Rd.lit (sz := 1) w6 5 #[.int .u8 3] 1 rfl) (by simp [Value.oneCell']) (by simp only [maxLen]; omega) (by omega) ?_; intro A8 c8 w8 s8 b8; have b8 := b7.trans b8; have s9 := s8.rot3.cons fun _ => Sep.rot2))
              clear s7 b7 s6 b6 hle6 hle7 s4 b4 hle4 s8 s5 b5 hle5
              go_roundg (gk - 1)
              case measure => omega
              case rel => exact ⟨t + 1, l, A1, A6, A8, c1, c6, c8, by omega, by go_num, rfl, rfl, rfl, by rw [HS.out]; exact HL.out, by rw [HS.out, HP.out, HC.out]; exact s9, b8, Nat.le_trans hB b8.size⟩
          · have hn1 : (kd == 1) = false := by simpa using hk1
            by_cases hk2 : kd = 2
            · subst hk2
              by_cases hz : l = 0
              · subst hz
                have e := tS_none mo t st hl
                rw [e] at hsu hmp hmc
                have HP := Lib.hid (hps hmp)
                have HC := Lib.hid (hcs hmc)
                have HS := Lib.hid hsu
                have HL := Lib.hid hl
                clear hps hcs hmp hmc hsu hl e
                have s5 := (s4.alloc hle4 #[.int .i64 (-1)] 3).drop.rot2
                have b5 := b4.alloc hle4 (.cells #[.int .i64 (-1)] 3)
                have hle5 := Nat.le_trans hle4 (((Below.refl _ wr).alloc (Nat.le_refl _) (.cells #[.int .i64 (-1)] 3)).size)
                go_wp2_with (first
                  | (at_builtin; refine wpList_append_at rfl (.tmp 89) (.tmp 91) _ rfl 3 i0 _ 1 8 Try.underlying30 hi0 hz0 hz1 hz2 rfl (by omega) rfl s5 hle5 (· = (wr).heap.size) (some ⟨(wr).heap.size, 0, none⟩) 1 1 [.int .i64 (-1)] rfl (by exact Rd.lit (sz := 1) (wr) 3 #[.int .i64 (-1)] 1 rfl) (by simp [Value.oneCell']) (by simp only [maxLen]; omega) (by omega) ?_; intro A6 c6 w6 s6 b6; have b6 := b5.trans b6; have hle6 := Nat.le_trans hB b6.size; have s7 := (s6.alloc hle6 #[.int .u8 4] 5).drop.rot3; have b7 := b6.alloc hle6 (.cells #[.int .u8 4] 5); have hle7 : B ≤ (w6.alloc (.cells #[.int .u8 4] 5)).heap.size := Nat.le_trans hle6 (by simp))
                  | (at_builtin; refine wpList_append_at rfl (.tmp 93) (.tmp 95) _ rfl 5 j0 _ 1 1 Try.underlying23 hj0 hy0 hy1 hy2 rfl (by omega) rfl s7 hle7 (· = w6.heap.size) (some ⟨w6.heap.size, 0, none⟩) 1 1 [.int .u8 4] rfl (by exact Rd.lit (sz := 1) w6 5 #[.int .u8 4] 1 rfl) (by simp [Value.oneCell']) (by simp only [maxLen]; omega) (by omega) ?_; intro A8 c8 w8 s8 b8; have b8 := b7.trans b8; have s9 := s8.rot3.cons fun _ => Sep.rot2))
                clear s7 b7 s6 b6 hle6 hle7 s4 b4 hle4 s8 s5 b5 hle5
                go_roundg (gk - 1)
                case measure => omega
                case rel => exact ⟨t + 1, 0, A1, A6, A8, c1, c6, c8, by omega, by go_num, rfl, rfl, rfl, by rw [HS.out]; exact HL.out, by rw [HS.out, HP.out, HC.out]; exact s9, b8, Nat.le_trans hB b8.size⟩
              · obtain ⟨T, x, e1, e2, e3⟩ := tS_pop mo t st (by omega)
                rw [e3] at hmp hmc
                obtain ⟨l', rfl⟩ : ∃ l', l = l' + 1 := ⟨l - 1, by omega⟩
                have hz' : ((((l' + 1 : Nat) : Int)) == 0) = false := by simp; omega
                have hTl : T.length = l' := by have := congrArg List.length e1; rw [tS_len, hl] at this; simpa using this.symm
                have hst2 : (tAt mo m ops (t + 1)).2 + (tAt mo m ops (t + 1)).1.length = l' := by rw [← tS_len, hsu, e2, hTl]
                have hsn : tsN (tAt mo m ops (t + 1)) = T.map fun x => Value.int .i64 x := by unfold tsN; rw [hsu, e2]
                have HP := Lib.hid (hps hmp)
                have HC := Lib.hid (hcs hmc)
                have HS := Lib.hid hsn
                have HL := Lib.hid hst2
                have HT := Lib.hid hTl
                have hsl : tsN st = (T ++ [x]).map fun x => Value.int .i64 x := by unfold tsN; rw [e1]
                rw [hsl] at s4
                clear hps hcs hmp hmc hsu hl e1 e2 e3 hsl hsn hst2 hTl hz
                obtain ⟨S, hS, hSU, hnext⟩ := s4.frontAny (fun x hx => Nat.le_trans hle4 hx)
                have hS' : Sl wr 3 1 A1 (l' + 1) c1 ((T ++ [x]).map fun x => Value.int .i64 x) S := hS
                have hlc := hS'.le
                obtain ⟨g, o2, rfl, _, _, _, hx⟩ := hS'.at (by omega)
                have hgx : wr.cell? ⟨g, o2 + l', none⟩ = some (.int .i64 x) := hx l' _ (by rw [← HT.out]; simp)
                have htk := hS'.take (k := l') (by omega)
                have hcap := hS'.cap_le
                unfold maxLen at hcap
                have s4 : At B wr (slRes 3 1 (some ⟨g, o2, none⟩) l' c1 (T.map fun x => Value.int .i64 x) :: slRes 3 1 A2 t c2 (tpN mo m ops t) :: slRes 5 1 A3 t c3 (tcN mo m ops t) :: L) := hnext _ wr (Sl.mono (by rw [Nat.mul_one, ← HT.out, List.map_append, List.take_left' (by simp)] at htk; rw [← HT.out]; exact htk) grow_left) (Mod.refl _ _)
                clear hx hS hS' hSU hnext htk
                have hlc' : (l' : Int) ≤ (c1 : Int) := by omega
                have s5 := (s4.alloc hle4 #[.int .i64 x] 3).drop.rot2
                have b5 := b4.alloc hle4 (.cells #[.int .i64 x] 3)
                have hle5 := Nat.le_trans hle4 (((Below.refl _ wr).alloc (Nat.le_refl _) (.cells #[.int .i64 x] 3)).size)
                go_wp2_with (first
                  | (at_builtin; refine wpList_append_at rfl (.tmp 89) (.tmp 91) _ rfl 3 i0 _ 1 8 Try.underlying30 hi0 hz0 hz1 hz2 rfl (by omega) rfl s5 hle5 (· = (wr).heap.size) (some ⟨(wr).heap.size, 0, none⟩) 1 1 [.int .i64 x] rfl (by exact Rd.lit (sz := 1) (wr) 3 #[.int .i64 x] 1 rfl) (by simp [Value.oneCell']) (by simp only [maxLen]; omega) (by omega) ?_; intro A6 c6 w6 s6 b6; have b6 := b5.trans b6; have hle6 := Nat.le_trans hB b6.size; have s7 := (s6.alloc hle6 #[.int .u8 2] 5).drop.rot3; have b7 := b6.alloc hle6 (.cells #[.int .u8 2] 5); have hle7 : B ≤ (w6.alloc (.cells #[.int .u8 2] 5)).heap.size := Nat.le_trans hle6 (by simp))
                  | (at_builtin; refine wpList_append_at rfl (.tmp 93) (.tmp 95) _ rfl 5 j0 _ 1 1 Try.underlying23 hj0 hy0 hy1 hy2 rfl (by omega) rfl s7 hle7 (· = w6.heap.size) (some ⟨w6.heap.size, 0, none⟩) 1 1 [.int .u8 2] rfl (by exact Rd.lit (sz := 1) w6 5 #[.int .u8 2] 1 rfl) (by simp [Value.oneCell']) (by simp only [maxLen]; omega) (by omega) ?_; intro A8 c8 w8 s8 b8; have b8 := b7.trans b8; have s9 := s8.rot3.cons fun _ => Sep.rot2))
                clear s7 b7 s6 b6 hle6 hle7 s4 b4 hle4 s8 s5 b5 hle5
                go_roundg (gk - 1)
                case measure => omega
                case rel => exact ⟨t + 1, l', some ⟨g, o2, none⟩, A6, A8, c1, c6, c8, by omega, by go_num, rfl, rfl, rfl, HL.out, by rw [HS.out, HP.out, HC.out]; exact s9, b8, Nat.le_trans hB b8.size⟩
            · have hn2 : (kd == 2) = false := by simpa using hk2
              have e := tStep_other (most := mo) (k := t) (st := st) hk1 hk2
              rw [e] at hsu hmp hmc
              have HP := Lib.hid (hps hmp)
              have HC := Lib.hid (hcs hmc)
              have HS := Lib.hid hsu
              have HL := Lib.hid hl
              clear hps hcs hmp hmc hsu hl e hk1 hk2
              have s5 := (s4.alloc hle4 #[.int .i64 (-1)] 3).drop.rot2
              have b5 := b4.alloc hle4 (.cells #[.int .i64 (-1)] 3)
              have hle5 := Nat.le_trans hle4 (((Below.refl _ wr).alloc (Nat.le_refl _) (.cells #[.int .i64 (-1)] 3)).size)
              go_wp2_with (first
                | (at_builtin; refine wpList_append_at rfl (.tmp 89) (.tmp 91) _ rfl 3 i0 _ 1 8 Try.underlying30 hi0 hz0 hz1 hz2 rfl (by omega) rfl s5 hle5 (· = (wr).heap.size) (some ⟨(wr).heap.size, 0, none⟩) 1 1 [.int .i64 (-1)] rfl (by exact Rd.lit (sz := 1) (wr) 3 #[.int .i64 (-1)] 1 rfl) (by simp [Value.oneCell']) (by simp only [maxLen]; omega) (by omega) ?_; intro A6 c6 w6 s6 b6; have b6 := b5.trans b6; have hle6 := Nat.le_trans hB b6.size; have s7 := (s6.alloc hle6 #[.int .u8 5] 5).drop.rot3; have b7 := b6.alloc hle6 (.cells #[.int .u8 5] 5); have hle7 : B ≤ (w6.alloc (.cells #[.int .u8 5] 5)).heap.size := Nat.le_trans hle6 (by simp))
                | (at_builtin; refine wpList_append_at rfl (.tmp 93) (.tmp 95) _ rfl 5 j0 _ 1 1 Try.underlying23 hj0 hy0 hy1 hy2 rfl (by omega) rfl s7 hle7 (· = w6.heap.size) (some ⟨w6.heap.size, 0, none⟩) 1 1 [.int .u8 5] rfl (by exact Rd.lit (sz := 1) w6 5 #[.int .u8 5] 1 rfl) (by simp [Value.oneCell']) (by simp only [maxLen]; omega) (by omega) ?_; intro A8 c8 w8 s8 b8; have b8 := b7.trans b8; have s9 := s8.rot3.cons fun _ => Sep.rot2))
              clear s7 b7 s6 b6 hle6 hle7 s4 b4 hle4 s8 s5 b5 hle5
              go_roundg (gk - 1)
              case measure => omega
              case rel => exact ⟨t + 1, l, A1, A6, A8, c1, c6, c8, by omega, by go_num, rfl, rfl, rfl, by rw [HS.out]; exact HL.out, by rw [HS.out, HP.out, HC.out]; exact s9, b8, Nat.le_trans hB b8.size⟩
        · obtain rfl : t = n := by omega
          go_wp2_with fail
          go_ret2
          exact ⟨A2, c2, A3, c3, rfl, s4.drop, b4⟩
end Go.Proofs.Ytgaomaaloaglpaa

namespace Go.Rp
/-- A stack's operations at the left end. -/
def leftOps (ops : List (Int × Int)) : List (Int × Int) := ops.map fun o => (2 * o.1 - 1, o.2)
theorem leftOps_len (ops : List (Int × Int)) : (leftOps ops).length = ops.length := by simp [leftOps]
theorem kind_left (ops : List (Int × Int)) (k : Nat) (h : k < ops.length) : kindAt (leftOps ops) k = 2 * kindAt ops k - 1 := by simp [kindAt, leftOps, h]
theorem step_left (most k : Nat) (o : Int) (st : List Nat × Nat) (ho : o = 1 ∨ o = 2) : mStep most k (2 * o - 1) (st.1, st.2, []) = (((tStep most k o st).1.1, (tStep most k o st).1.2, []), (tStep most k o st).2) := by
  obtain ⟨l, b⟩ := st
  rcases ho with rfl | rfl
  · show pushE most k (l, b, []) = _
    rw [tStep_push]
    unfold pushE sizeE
    simp only [List.length_nil, Nat.add_zero]
    split <;> rfl
  · show popE (l, b, []) = _
    rcases List.eq_nil_or_concat l with rfl | ⟨l', j, hl⟩
    · rw [tStep_pop]
      rcases Nat.eq_zero_or_pos b with rfl | hb
      · rw [popE_no]; rfl
      · rw [popE_btw b [] hb]; simp [hb]
    · rw [List.concat_eq_append] at hl
      subst hl
      rw [popE_near, tStep_pop_some]
theorem at_left (most below : Nat) (ops : List (Int × Int)) (hk : ∀ o ∈ ops, o.1 = 1 ∨ o.1 = 2) (k : Nat) (h : k ≤ ops.length) : mAt most below (leftOps ops) k = ((tAt most below ops k).1, (tAt most below ops k).2, []) := by
  induction k with
  | zero => rfl
  | succ k ih =>
    have hlt : k < ops.length := h
    rw [mAt_succ (by rw [leftOps_len]; exact hlt), kind_left ops k hlt, ih (by omega), tAt_succ hlt, step_left _ _ _ _ (by rw [kindAt_lt hlt]; exact hk _ (List.getElem_mem hlt))]
theorem pair_left {most below : Nat} {ops : List (Int × Int)} (hk : ∀ o ∈ ops, o.1 = 1 ∨ o.1 = 2) {k : Nat} (h : k < ops.length) : mPair most below (leftOps ops) k = tPair most below ops k ∧ mCode most below (leftOps ops) k = tCode most below ops k := by
  unfold mPair mCode tPair tCode
  rw [kind_left ops k h, at_left most below ops hk k (by omega), step_left _ _ _ _ (by rw [kindAt_lt h]; exact hk _ (List.getElem_mem h))]
  exact ⟨rfl, rfl⟩
/-- At either end. -/
def oneEnd (right : Bool) (ops : List (Int × Int)) : List (Int × Int) := if right then othOps (leftOps ops) else leftOps ops
theorem oneEnd_len (right : Bool) (ops : List (Int × Int)) : (oneEnd right ops).length = ops.length := by cases right <;> simp [oneEnd, othOps, leftOps]
theorem pair_one {most below : Nat} {ops : List (Int × Int)} (right : Bool) (hk : ∀ o ∈ ops, o.1 = 1 ∨ o.1 = 2) {k : Nat} (h : k < ops.length) : mPair most below (oneEnd right ops) k = tPair most below ops k ∧ mCode most below (oneEnd right ops) k = tCode most below ops k := by
  have hl := pair_left (most := most) (below := below) hk h
  cases right
  · exact hl
  · have h' : k < (leftOps ops).length := by rw [leftOps_len]; exact h
    exact ⟨(mPair_oth h').trans hl.1, (mCode_oth h').trans hl.2⟩
/-- Without room nobody gets anything. -/
theorem at_none (ops : List (Int × Int)) (k : Nat) : mAt 0 0 ops k = ([], 0, []) := by
  induction k with
  | zero => rfl
  | succ k ih =>
    simp only [mAt]
    split
    · rw [ih]
      unfold mStep
      split
      · rfl
      · split
        · rfl
        · split
          · rw [popE_no]
          · split
            · show (back (popE ([], 0, []))).1 = _
              rw [popE_no]; rfl
            · rfl
    · exact ih
theorem code_none (ops : List (Int × Int)) (k : Nat) : 3 ≤ mCode 0 0 ops k ∧ mCode 0 0 ops k ≤ 5 := by
  unfold mCode
  rw [at_none]
  unfold mStep
  split
  · rw [pushE_full (by unfold sizeE; simp)]; exact ⟨by decide, by decide⟩
  · split
    · show 3 ≤ (back (pushE 0 k ([], 0, []))).2.2 ∧ (back (pushE 0 k ([], 0, []))).2.2 ≤ 5
      rw [pushE_full (by unfold sizeE; simp)]; exact ⟨by decide, by decide⟩
    · split
      · rw [popE_no]; exact ⟨by decide, by decide⟩
      · split
        · show 3 ≤ (back (popE ([], 0, []))).2.2 ∧ (back (popE ([], 0, []))).2.2 ≤ 5
          rw [popE_no]; exact ⟨by decide, by decide⟩
        · exact ⟨by decide, by decide⟩
end Go.Rp
