/-
  The walk of FairMore.
-/
import Derived.Test.YtmcnccfbligeaaaFairD
namespace Go.Proofs.Ytmcnccfbligeaaa
open Go.RowKit Go.Rp Go.Maps

theorem Picks.of_in {w : World} {a : Option Addr} {n c : Nat} {zs : List Int} (h : InInts .i64 w a n c zs) : Picks w a n zs := ⟨⟨_, h.rd⟩, h.len, h.reach, h.wf⟩
theorem Spans.of_in {w : World} {a : Option Addr} {n c : Nat} {ss : List Span} (h : InRows 8 spanIn spanOk w a n c ss) : Spans w a n ss := ⟨⟨_, h.rd⟩, h.len, h.reach, h.ok⟩

set_option maxRecDepth 100000 in
set_option maxHeartbeats 2000000 in
theorem FairMore_walk (w : World) (a : Option Addr) (n c : Nat) (picks : List Int) (h0 : InInts .i64 w a n c picks) (a2 : Option Addr) (n2 c2 : Nat) (spans : List Span) (h1 : InRows 8 spanIn spanOk w a2 n2 c2 spans) (b : Int) (hb : (Lit.int .u8 b).wf = true) (fr : Int) (hf : (Lit.int .u8 fr).wf = true) (ct : Int) (hc : (Lit.int .u8 ct).wf = true) :
    Calls Try.prog 4 #[.slice a n c, .slice a2 n2 c2, .int .u8 b, .int .u8 fr, .int .u8 ct] w fun e w' => e = .returned (.bool true) ∧ Below w.heap.size w w' := by
  have hp := Picks.of_in h0
  have hs := Spans.of_in h1
  have r0 := h0.reach
  have r1 := h1.reach
  have HN := Lib.hid h0.len
  clear h0 h1
  by_cases hl1 : 80 < n
  · have hL1 : (80 : Int) < (n : Int) := by omega
    go_enter Try.func4, Try.ntmps4
    go_wp2_with fail
    refine (known_any _).mono ?_
    rintro e w1 ⟨rfl, b1⟩
    go_wp2_with fail
    go_ret
    exact ⟨rfl, b1⟩
  by_cases hl2 : 20 < n2
  · have hL2 : (20 : Int) < (n2 : Int) := by omega
    go_enter Try.func4, Try.ntmps4
    go_wp2_with fail
    refine (known_any _).mono ?_
    rintro e w1 ⟨rfl, b1⟩
    go_wp2_with fail
    go_ret
    exact ⟨rfl, b1⟩
  have hL1 : ¬ (80 : Int) < (n : Int) := by omega
  have hL2 : ¬ (20 : Int) < (n2 : Int) := by omega
  obtain ⟨N, hN, hmod, _, _⟩ := u8_mod hb 9 (by omega)
  obtain ⟨C, hC, cmod, _, _⟩ := u8_mod hc 5 (by omega)
  obtain ⟨f0, f1⟩ := wf_u8 hf
  have hx0 := Int.emod_nonneg fr (b := (n : Int) + 1) (by omega)
  have hx1 := Int.emod_lt_of_pos fr (b := (n : Int) + 1) (by omega)
  obtain ⟨X, hX⟩ : ∃ X : Nat, fr % ((n : Int) + 1) = (X : Int) := ⟨(fr % ((n : Int) + 1)).toNat, by omega⟩
  rw [hX] at hx0 hx1
  clear hb hc hf
  have e1 : fairI picks spans 0 (n : Int) (1 + (N : Int)) = fairN picks spans 0 n (1 + N) := fairI_in (fr := 0) (to := n) (b := 1 + N) (by rw [HN.out]; omega) (by omega) (by omega)
  have e2 : fairI picks spans 0 (n : Int) (1 + (N : Int) + (C : Int)) = fairN picks spans 0 n (1 + N + C) := fairI_in (fr := 0) (to := n) (b := 1 + N + C) (by rw [HN.out]; omega) (by omega) (by omega)
  have e3 : fairI picks spans (X : Int) (n : Int) (1 + (N : Int)) = fairN picks spans X n (1 + N) := fairI_in (fr := X) (to := n) (b := 1 + N) (by rw [HN.out]; omega) (by omega) (by omega)
  have e4 : fairI picks [] 0 (n : Int) (1 + (N : Int)) = true := (fairI_in (fr := 0) (to := n) (b := 1 + N) (by rw [HN.out]; omega) (by omega) (by omega)).trans fairN_none
  have e5 : fairI picks spans 0 ((n : Int) + 1) (1 + (N : Int)) = false := fairI_out (by rw [HN.out]; omega)
  have e6 : fairI picks spans (-1) 0 (1 + (N : Int)) = false := fairI_out (by omega)
  have e7 : fairI picks spans 0 0 0 = false := fairI_out (by omega)
  have g2 : fairN picks spans 0 n (1 + N) = true → fairN picks spans 0 n (1 + N + C) = true := fairN_more
  have g3 : fairN picks spans 0 n (1 + N) = true → fairN picks spans X n (1 + N) = true := fairN_part (by omega)
  have H1 := Lib.hid e1
  have H2 := Lib.hid e2
  have H3 := Lib.hid e3
  have H4 := Lib.hid e4
  have H5 := Lib.hid e5
  have H6 := Lib.hid e6
  have H7 := Lib.hid e7
  clear e1 e2 e3 e4 e5 e6 e7
  generalize fairN picks spans 0 n (1 + N) = v1 at *
  generalize fairN picks spans 0 n (1 + N + C) = v2 at *
  generalize fairN picks spans X n (1 + N) = v3 at *
  have hcase : (v1 = false ∧ True) ∨ (v1 = true ∧ v2 = true ∧ v3 = true) := by
    cases v1 with
    | false => exact .inl ⟨rfl, trivial⟩
    | true => exact .inr ⟨rfl, g2 rfl, g3 rfl⟩
  clear g2 g3
  rcases hcase with ⟨rfl, _⟩ | ⟨rfl, rfl, rfl⟩
  all_goals
    go_enter Try.func4, Try.ntmps4
    go_wp2_with fail
    refine (fair_v hp hs (by omega) (by omega) (by omega) H1.out).mono ?_
    rintro e w1 ⟨rfl, b1⟩
    go_wp2_with fail
    refine (fair_v (hp.keep b1) (hs.keep b1) (by omega) (by omega) (by omega) H2.out).mono ?_
    rintro e w2 ⟨rfl, b2⟩
    have b2 := b1.trans (b2.mono b1.size)
    go_wp2_with fail
    refine (fair_v (hp.keep b2) (hs.keep b2) (by omega) (by omega) (by omega) H3.out).mono ?_
    rintro e w3 ⟨rfl, b3⟩
    have b3 := b2.trans (b3.mono b2.size)
    go_wp2_with fail
    refine (fair_v (hp.keep b3) (Spans.nil _) (by omega) (by omega) (by omega) H4.out).mono ?_
    rintro e w4 ⟨rfl, b4⟩
    have b4 := b3.trans (b4.mono b3.size)
    go_wp2_with fail
    refine (known_any _).mono ?_
    rintro e w5 ⟨rfl, b5⟩
    have b5 := b4.trans (b5.mono b4.size)
    go_wp2_with fail
    refine (fair_v (hp.keep b5) (hs.keep b5) (by omega) (by omega) (by omega) H5.out).mono ?_
    rintro e w6 ⟨rfl, b6⟩
    have b6 := b5.trans (b6.mono b5.size)
    go_wp2_with fail
    refine (fair_v (hp.keep b6) (hs.keep b6) (by omega) (by omega) (by omega) H6.out).mono ?_
    rintro e w7 ⟨rfl, b7⟩
    have b7 := b6.trans (b7.mono b6.size)
    go_wp2_with fail
    refine (fair_v (hp.keep b7) (hs.keep b7) (by omega) (by omega) (by omega) H7.out).mono ?_
    rintro e w8 ⟨rfl, b8⟩
    have b8 := b7.trans (b8.mono b7.size)
    go_wp2_with fail
    go_ret
    exact ⟨rfl, b8⟩
end Go.Proofs.Ytmcnccfbligeaaa
