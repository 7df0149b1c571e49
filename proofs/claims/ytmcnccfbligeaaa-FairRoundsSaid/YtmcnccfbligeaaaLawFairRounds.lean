/-
  The walk of FairRounds.
-/
import Derived.Test.YtmcnccfbligeaaaLawFairMore
namespace Go.Proofs.Ytmcnccfbligeaaa
open Go.RowKit Go.Rp Go.Maps

theorem info_int : (Try.prog.info? 3).map (fun i => (i.zero, i.size, i.bytes)) = some (some (.int .i64 0), 1, 8) := by kernel_rfl
theorem info_span : (Try.prog.info? 30).map (fun i => (i.zero, i.size, i.bytes)) = some (some (.agg #[.int .i64 0, .int .i64 0, .int .u8 0, .int .i32 0, .int .u8 0, .int .i32 0, .int .i64 0, .int .i64 0]), 8, 48) := by kernel_rfl
theorem shortIs (a b c : Bool) (h : a = b) (hc : c = b) : (a == c) = true := by subst h hc; simp

set_option maxRecDepth 100000 in
set_option maxHeartbeats 2000000 in
theorem FairRounds_walk (w : World) (n : Int) (hn : (Lit.int .u8 n).wf = true) (t : Int) (ht : (Lit.int .u8 t).wf = true) (a2 : Option Addr) (n2 c2 : Nat) (spans : List Span) (h1 : InRows 8 spanIn spanOk w a2 n2 c2 spans) (b : Int) (hb : (Lit.int .u8 b).wf = true) :
    Calls Try.prog 3 #[.int .u8 n, .int .u8 t, .slice a2 n2 c2, .int .u8 b] w fun e w' => e = .returned (.bool true) ∧ Below w.heap.size w w' := by
  obtain ⟨i0, hi0, hz0, hz1, hz2⟩ := info_parts info_int
  obtain ⟨i1, hi1, hy0, hy1, hy2⟩ := info_parts info_span
  have hs := Spans.of_in h1
  have r1 := h1.reach
  have HN := Lib.hid h1.len
  clear h1
  obtain ⟨N, hN, hmod, _, _⟩ := u8_mod hn 9 (by omega)
  obtain ⟨M, hM, tmod, _, _⟩ := u8_mod ht 6 (by omega)
  obtain ⟨B, hB, bmod, b0, b1⟩ := u8_mod hb 5 (by omega)
  have hT0 : (0 : Int) < 1 + (N : Int) := by omega
  have hq0 := Int.emod_nonneg b (b := 1 + (N : Int)) (by omega)
  have hq1 := Int.emod_lt_of_pos b hT0
  obtain ⟨Q, hQ⟩ : ∃ Q : Nat, b % (1 + (N : Int)) = (Q : Int) := ⟨(b % (1 + (N : Int))).toNat, by omega⟩
  rw [hQ] at hq0 hq1
  clear hn ht hb
  have hTP : (1 + (N : Int)) = ((1 + N : Nat) : Int) := by omega
  obtain ⟨L, hL⟩ : ∃ L : Nat, (1 + (N : Int)) * (2 + (M : Int)) = (L : Int) := ⟨(1 + N) * (2 + M), by push_cast; rfl⟩
  have hL0 : 1 + N ≤ L := by
    have : (1 + (N : Int)) * 1 ≤ (1 + (N : Int)) * (2 + (M : Int)) := Int.mul_le_mul_of_nonneg_left (by omega) (by omega)
    omega
  have hL1 : L ≤ 63 := by
    have : (1 + (N : Int)) * (2 + (M : Int)) ≤ 9 * 7 := Int.mul_le_mul (by omega) (by omega) (by omega) (by omega)
    omega
  have HT := Lib.hid hTP
  clear hTP
  go_enter Try.func3, Try.ntmps3
  go_wp2_with fail
  simp only [hmod]
  go_loopg [10, 11] L (fun g p k wr => ∃ (m : Nat) (A : Option Addr) (c : Nat), m + g = L ∧ k = .int .i64 (m : Int) ∧ p = .slice A m c ∧ Sl wr 3 1 A m c ((picksOf (1 + N) m).map fun x => Value.int .i64 x) (fun b => w.heap.size ≤ b ∧ b < wr.heap.size) ∧ Below w.heap.size w wr)
  case atStart => exact ⟨0, none, 0, by omega, rfl, rfl, Sl.nil _ _ _ _, Below.refl _ _⟩
  case round =>
    obtain ⟨m, A, c, hm, rfl, rfl, hsl, hbw⟩ := hrel
    by_cases hlt : m < L
    · have hkm : (m : Int) % (1 + (N : Int)) = ((m % (1 + N) : Nat) : Int) := by rw [HT.out]; omega
      have hsucc := Lib.hid (picksOf_succ (1 + N) m)
      generalize m % (1 + N) = v at *
      go_wp2_with (at_builtin; refine wpList_append_sl _ rfl (.tmp 31) (.tmp 35) _ rfl 3 i0 _ 1 8 Try.underlying23 hi0 hz0 hz1 hz2 rfl (by omega) A m c _ _ rfl (by exact hsl.alloc _) (· = wr.heap.size) (some ⟨wr.heap.size, 0, none⟩) 1 1 [.int .i64 (v : Int)] rfl (by exact Rd.lit (sz := 1) wr _ #[.int .i64 (v : Int)] 1 rfl) (by simp [Value.oneCell']) (by simp only [maxLen]; omega) (by omega) ?_; intro A3 c3 w3 hown3 hmod3)
      have hz := hmod3.size
      simp only [World.size_alloc] at hz
      have hn3 : Sl w3 3 1 A3 (m + 1) c3 ((picksOf (1 + N) (m + 1)).map fun x => Value.int .i64 x) (fun b => w.heap.size ≤ b ∧ b < w3.heap.size) := by
        rw [hsucc.out, List.map_append]
        refine hown3.mono fun b hb' => ?_
        have := hbw.size
        rcases hb' with hb' | hb'
        · exact ⟨hb'.1, by omega⟩
        · simp only [World.size_alloc] at hb'
          exact ⟨by omega, hb'.2⟩
      have hb3 : Below w.heap.size w w3 := (hbw.alloc hbw.size _).trans (hmod3.below (by simp; have := hbw.size; omega) fun b hb => hb.1)
      clear hown3 hmod3 hz hsucc
      go_wp2_with fail
      go_roundg (gk - 1)
      case measure => omega
      case rel => exact ⟨m + 1, A3, c3, by omega, by go_num, rfl, hn3, hb3⟩
    · obtain rfl : m = L := by omega
      have hp : Picks wr A m (picksOf (1 + N) m) := ⟨⟨_, hsl.rd⟩, picksOf_length _ _, by omega, picksOf_wf _ _ (by omega) (by omega)⟩
      clear hsl
      by_cases hl2 : 20 < n2
      · have hL2 : (20 : Int) < (n2 : Int) := by omega
        go_wp2_with fail
        refine (known_any _).mono ?_
        rintro e w1 ⟨rfl, b1⟩
        go_wp2_with fail
        go_ret
        exact ⟨rfl, hbw.trans (b1.mono hbw.size)⟩
      · have hL2 : ¬ (20 : Int) < (n2 : Int) := by omega
        go_wp2_with fail
        obtain ⟨wo, rfl⟩ : ∃ wo : World, wo = wr := ⟨_, rfl⟩
        go_loopg [12, 13] n2 (fun g p k wr => ∃ (j : Nat) (A : Option Addr) (c : Nat), j + g = n2 ∧ k = .int .i64 (j : Int) ∧ p = .slice A j c ∧ Sl wr 30 8 A j c (((spans.take j).map (normS (1 + (N : Int)))).flatMap spanIn) (fun b => wo.heap.size ≤ b ∧ b < wr.heap.size) ∧ Below wo.heap.size wo wr)
        case atStart => exact ⟨0, none, 0, by omega, rfl, rfl, Sl.nil _ _ _ _, Below.refl _ _⟩
        case round =>
          obtain ⟨j, A2, c', hj, rfl, rfl, hsl, hbo⟩ := hrel
          have hbr := hbw.trans (hbo.mono hbw.size)
          by_cases hlt : j < n2
          · have hlt' : j < spans.length := by rw [HN.out]; exact hlt
            obtain ⟨b', off, rfl, hc⟩ := (hs.keep hbr).at hlt'
            have k0 : wr.cell? ⟨b', off + j * 8, none⟩ = some (.int .i64 spans[j].th) := by simpa using hc 0 _ rfl
            have k1 := hc 1 _ rfl
            have k2 := hc 2 _ rfl
            have k3 := hc 3 _ rfl
            have k4 := hc 4 _ rfl
            have k5 := hc 5 _ rfl
            have k6 := hc 6 _ rfl
            have k7 := hc 7 _ rfl
            have hsucc : Hid (((spans.take (j + 1)).map (normS (1 + (N : Int)))).flatMap spanIn = ((spans.take j).map (normS (1 + (N : Int)))).flatMap spanIn ++ spanIn (normS (1 + (N : Int)) spans[j])) := Lib.hid (by rw [List.take_succ_eq_append_getElem hlt', List.map_append, List.flatMap_append]; simp)
            obtain ⟨q0, q1⟩ := tmod_bd spans[j].th hT0
            clear hc
            generalize spans[j] = s at *
            obtain ⟨th, sq, ok, ov, rc, rv, sf, st⟩ := s
            dsimp only [normS, spanIn] at *
            go_wp2_with (at_builtin; refine wpList_append_sl _ rfl (.tmp 60) (.tmp 62) _ rfl 30 i1 _ 8 48 Try.underlying22 hi1 hy0 hy1 hy2 rfl (by omega) A2 j c' _ _ rfl (by exact (hsl.alloc _).alloc _) (· = wr.heap.size + 1) (some ⟨wr.heap.size + 1, 0, none⟩) 1 1 [.int .i64 (th.tmod (1 + (N : Int)) % (1 + (N : Int))), .int .i64 sq, .int .u8 ok, .int .i32 ov, .int .u8 rc, .int .i32 rv, .int .i64 sf, .int .i64 st] rfl (by exact Rd.lit1 wr _ _ #[.int .i64 (th.tmod (1 + (N : Int)) % (1 + (N : Int))), .int .i64 sq, .int .u8 ok, .int .i32 ov, .int .u8 rc, .int .i32 rv, .int .i64 sf, .int .i64 st] 8 1 rfl) (by simp [Value.oneCell']) (by simp only [maxLen]; omega) (by omega) ?_; intro A3 c3 w3 hown3 hmod3)
            have hz := hmod3.size
            simp only [World.size_alloc] at hz
            have hn3 : Sl w3 30 8 A3 (j + 1) c3 (((spans.take (j + 1)).map (normS (1 + (N : Int)))).flatMap spanIn) (fun b => wo.heap.size ≤ b ∧ b < w3.heap.size) := by
              rw [hsucc.out]
              refine hown3.mono fun b hb' => ?_
              have := hbo.size
              rcases hb' with hb' | hb'
              · exact ⟨hb'.1, by omega⟩
              · simp only [World.size_alloc] at hb'
                exact ⟨by omega, hb'.2⟩
            have hb3 : Below wo.heap.size wo w3 := ((hbo.alloc hbo.size _).alloc (by have := hbo.size; simp; omega) _).trans (hmod3.below (by simp; have := hbo.size; omega) fun b hb => hb.1)
            clear hown3 hmod3 hz hsucc k0 k1 k2 k3 k4 k5 k6 k7
            go_wp2_with fail
            go_roundg (gk - 1)
            case measure => omega
            case rel => exact ⟨j + 1, A3, c3, by omega, by go_num, rfl, hn3, hb3⟩
          · obtain rfl : j = n2 := by omega
            have hown : Spans wr A2 j ((spans.take j).map (normS (1 + (N : Int)))) := ⟨⟨_, hsl.rd⟩, by simp [HN.out], by omega, fun s hs' => by
              obtain ⟨s', h1, rfl⟩ := List.mem_map.1 hs'
              exact normS_ok (by omega) (by omega) (hs.ok _ (List.mem_of_mem_take h1))⟩
            have hf1 := fair_rounds (1 + N) m (1 + N + B) (by omega) ((spans.take j).map (normS (1 + (N : Int)))) (fun s hs' => by
              obtain ⟨s', h1, rfl⟩ := List.mem_map.1 hs'
              rw [HT.out]
              exact normS_th (1 + N) (by omega) s')
            generalize (spans.take j).map (normS (1 + (N : Int))) = own at *
            clear hsl hs
            have e1 : fairI (picksOf (1 + N) m) own 0 (m : Int) (1 + (N : Int) + (B : Int)) = true := (fairI_in (fr := 0) (to := m) (b := 1 + N + B) (by rw [picksOf_length]; omega) (by omega) (by omega)).trans hf1
            have E1 := Lib.hid e1
            have hp := hp.keep hbo
            have hsh : ∀ W : World, Spans (W.alloc (.cells #[.int .i64 (N : Int), .int .i64 0, .int .u8 0, .int .i32 0, .int .u8 0, .int .i32 0, .int .i64 0, .int .i64 (-1)] 30)) (some ⟨W.heap.size, 0, none⟩) 1 [⟨N, 0, 0, 0, 0, 0, 0, -1⟩] := fun W =>
              Spans.lit W [⟨N, 0, 0, 0, 0, 0, 0, -1⟩] 1 rfl (by omega) (by intro z hz; rw [List.mem_singleton.1 hz]; exact sp_ok (WalkArith.wf_i64 (by omega)) (by decide) (by decide))
            have hN1 : (1 + (N : Int)) - 1 = (N : Int) := by omega
            clear e1 hf1
            by_cases hQ2 : 1 + Q = 1 + N
            · have he : ((1 + (Q : Int)) == (1 + (N : Int))) = true := beq_iff_eq.2 (by omega)
              have e2 : fairI (picksOf (1 + N) m) [⟨N, 0, 0, 0, 0, 0, 0, -1⟩] 0 (m : Int) (1 + (Q : Int)) = true := (fairI_in (fr := 0) (to := m) (b := 1 + Q) (by rw [picksOf_length]; omega) (by omega) (by omega)).trans (fair_rounds (1 + N) m (1 + Q) (by omega) _ (fun s hs => by rw [List.mem_singleton.1 hs]; exact ⟨N, by omega, rfl⟩))
              have E2 := Lib.hid e2
              clear e2 hQ2
              go_wp2_with fail
              refine (known_any _).mono ?_
              rintro e w5 ⟨rfl, b5⟩
              have hs5 := (hsh wr).keep b5
              have b6 : Below wr.heap.size wr w5 := ((Below.refl _ wr).alloc (Nat.le_refl _) _).trans (b5.mono (by simp))
              go_wp2_with fail
              refine (fair_v (hp.keep b6) (hown.keep b6) (by omega) (by omega) (by omega) E1.out).mono ?_
              rintro e w7 ⟨rfl, b7⟩
              have b8 := b6.trans (b7.mono b6.size)
              go_wp2_with fail
              refine (fair_v (hp.keep b8) (hs5.keep b7) (by omega) (by omega) (by omega) E2.out).mono ?_
              rintro e w9 ⟨rfl, b9⟩
              have b10 := b8.trans (b9.mono b8.size)
              go_wp2_with fail
              go_ret
              exact ⟨rfl, hbr.trans (b10.mono hbr.size)⟩
            · have he : ((1 + (Q : Int)) == (1 + (N : Int))) = false := beq_eq_false_iff_ne.2 (by omega)
              have e2 : fairI (picksOf (1 + N) m) [⟨N, 0, 0, 0, 0, 0, 0, -1⟩] 0 (m : Int) (1 + (Q : Int)) = false := (fairI_in (fr := 0) (to := m) (b := 1 + Q) (by rw [picksOf_length]; omega) (by omega) (by omega)).trans (fair_short (1 + N) m (1 + Q) (by omega) (by omega) (by omega) _ rfl rfl (by simp))
              have E2 := Lib.hid e2
              clear e2 hQ2
              go_wp2_with fail
              refine (known_any _).mono ?_
              rintro e w5 ⟨rfl, b5⟩
              have hs5 := (hsh wr).keep b5
              have b6 : Below wr.heap.size wr w5 := ((Below.refl _ wr).alloc (Nat.le_refl _) _).trans (b5.mono (by simp))
              go_wp2_with fail
              refine (fair_v (hp.keep b6) (hown.keep b6) (by omega) (by omega) (by omega) E1.out).mono ?_
              rintro e w7 ⟨rfl, b7⟩
              have b8 := b6.trans (b7.mono b6.size)
              go_wp2_with fail
              refine (fair_v (hp.keep b8) (hs5.keep b7) (by omega) (by omega) (by omega) E2.out).mono ?_
              rintro e w9 ⟨rfl, b9⟩
              have b10 := b8.trans (b9.mono b8.size)
              go_wp2_with fail
              go_ret
              exact ⟨rfl, hbr.trans (b10.mono hbr.size)⟩
end Go.Proofs.Ytmcnccfbligeaaa
