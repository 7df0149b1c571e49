/-
  The walk of FairBounds.
-/
import Derived.Test.YtmcnccfbligeaaaFairD
namespace Go.Proofs.Ytmcnccfbligeaaa
open Go.RowKit Go.Rp Go.Maps

set_option maxRecDepth 100000 in
set_option maxHeartbeats 1000000 in
theorem FairBounds_walk (w : World) (n : Int) (hn : (Lit.int .u8 n).wf = true) (b : Int) (hb : (Lit.int .u8 b).wf = true) (p : Int) (hp : (Lit.int .u8 p).wf = true) (m : Int) (hm : (Lit.int .i64 m).wf = true) :
    Calls Try.prog 5 #[.int .u8 n, .int .u8 b, .int .u8 p, .int .i64 m] w fun e w' => e = .returned (.bool true) ∧ Below w.heap.size w w' := by
  obtain ⟨N, hN, hmod, hn0, hn1⟩ := u8_mod hn 63 (by omega)
  obtain ⟨hb0, hb1⟩ := wf_u8 hb
  obtain ⟨hp0, hp1⟩ := wf_u8 hp
  clear hn hb hp hm
  obtain ⟨x, hx⟩ : ∃ x, bndI (1 + (N : Int)) (1 + b) (1 + p) = x := ⟨_, rfl⟩
  obtain ⟨y1, hy1⟩ : ∃ x, bndI (1 + (N : Int) + 1) (1 + b) (1 + p) = x := ⟨_, rfl⟩
  obtain ⟨y2, hy2⟩ : ∃ x, bndI (1 + (N : Int)) (1 + b + 1) (1 + p) = x := ⟨_, rfl⟩
  obtain ⟨y3, hy3⟩ : ∃ x, bndI (1 + (N : Int)) (1 + b) (1 + p + 1) = x := ⟨_, rfl⟩
  obtain ⟨y4, hy4⟩ : ∃ x, bndI (1 + (N : Int)) 1 (1 + p) = x := ⟨_, rfl⟩
  have hs0 := sesI_pos (t := 1 + (N : Int)) (p := 1 + p) (by omega) (by omega) (by omega) (by omega)
  have hs1 := sesI_mono_t (t := 1 + (N : Int)) (p := 1 + p) (by omega) (by omega) (by omega) (by omega)
  have hs2 := sesI_mono_p (t := 1 + (N : Int)) (p := 1 + p) (by omega) (by omega) (by omega) (by omega)
  have hx' := hx
  have hy1' := hy1
  have hy2' := hy2
  have hy3' := hy3
  have hy4' := hy4
  rw [bndI_in (by omega) (by omega) (by omega) (by omega) (by omega) (by omega)] at hx' hy1' hy2' hy3' hy4'
  have a1 : x < y1 := by rw [← hx', ← hy1']; exact mul_lt_right (by omega) hs1
  have a2 : x < y2 := by rw [← hx', ← hy2', Int.add_mul (1 + b) 1]; omega
  have a3 : x < y3 := by rw [← hx', ← hy3']; exact mul_lt_right (by omega) hs2
  have a0 : 0 < x := by rw [← hx']; exact Int.mul_pos (by omega) (by omega)
  have a4 : x = (1 + b) * y4 := by rw [← hx', ← hy4', Int.one_mul]
  have bx := bndI_bd (1 + (N : Int)) (1 + b) (1 + p)
  rw [hx] at bx
  obtain ⟨bx0, bx1⟩ := bx
  have HX := Lib.hid hx
  have H1 := Lib.hid hy1
  have H2 := Lib.hid hy2
  have H3 := Lib.hid hy3
  have H4 := Lib.hid hy4
  have a4' : (x == (1 + b) * y4) = true := beq_iff_eq.2 a4
  have a5 : 0 ≤ (1 + b) * y4 := by rw [← a4]; omega
  have a6 : (1 + b) * y4 ≤ 1000000 * 2521385 := by rw [← a4]; exact bx1
  clear hx hy1 hy2 hy3 hy4 hx' hy1' hy2' hy3' hy4' hs0 hs1 hs2 a4
  obtain ⟨s, hs⟩ : ∃ s, sesI m 1 = s := ⟨_, rfl⟩
  have HS := Lib.hid hs
  have hB0 : bndI (1 + (N : Int)) 0 (1 + p) = 0 := if_pos (by omega)
  have hB1 : bndI (1 + (N : Int)) 1 1001 = 0 := if_pos (.inl (sesI_out (by omega)))
  have HB0 := Lib.hid hB0
  have HB1 := Lib.hid hB1
  clear hB0 hB1
  by_cases hin : 1 ≤ m ∧ m ≤ 64
  · obtain ⟨m0, m1⟩ := hin
    have hpos : 0 < s := by have := sesI_pos (t := m) (p := 1) m0 m1 (by omega) (by omega); omega
    clear hs
    go_enter Try.func5, Try.ntmps5
    go_wp2_with fail
    refine (bound_v HX.out).mono ?_
    rintro e w1 ⟨rfl, rfl⟩
    go_wp2_with fail
    refine (known_any _).mono ?_
    rintro e w1 ⟨rfl, b1⟩
    go_wp2_with fail
    refine (bound_v H1.out).mono ?_
    rintro e w2 ⟨rfl, rfl⟩
    go_wp2_with fail
    refine (bound_v H2.out).mono ?_
    rintro e w2 ⟨rfl, rfl⟩
    go_wp2_with fail
    refine (bound_v H3.out).mono ?_
    rintro e w2 ⟨rfl, rfl⟩
    go_wp2_with fail
    refine (bound_v H4.out).mono ?_
    rintro e w2 ⟨rfl, rfl⟩
    go_wp2_with fail
    refine (session_v HS.out).mono ?_
    rintro e w2 ⟨rfl, rfl⟩
    go_wp2_with fail
    refine (bound_v HB0.out).mono ?_
    rintro e w2 ⟨rfl, rfl⟩
    go_wp2_with fail
    refine (bound_v HB1.out).mono ?_
    rintro e w2 ⟨rfl, rfl⟩
    go_wp2_with fail
    go_ret
    exact ⟨rfl, b1⟩
  · have hz : s = 0 := by rw [← hs]; exact sesI_out (by omega)
    clear hs
    subst hz
    by_cases m0 : m < 1
    · clear hin
      go_enter Try.func5, Try.ntmps5
      go_wp2_with fail
      refine (bound_v HX.out).mono ?_
      rintro e w1 ⟨rfl, rfl⟩
      go_wp2_with fail
      refine (known_any _).mono ?_
      rintro e w1 ⟨rfl, b1⟩
      go_wp2_with fail
      refine (bound_v H1.out).mono ?_
      rintro e w2 ⟨rfl, rfl⟩
      go_wp2_with fail
      refine (bound_v H2.out).mono ?_
      rintro e w2 ⟨rfl, rfl⟩
      go_wp2_with fail
      refine (bound_v H3.out).mono ?_
      rintro e w2 ⟨rfl, rfl⟩
      go_wp2_with fail
      refine (bound_v H4.out).mono ?_
      rintro e w2 ⟨rfl, rfl⟩
      go_wp2_with fail
      refine (session_v HS.out).mono ?_
      rintro e w2 ⟨rfl, rfl⟩
      go_wp2_with fail
      refine (bound_v HB0.out).mono ?_
      rintro e w2 ⟨rfl, rfl⟩
      go_wp2_with fail
      refine (bound_v HB1.out).mono ?_
      rintro e w2 ⟨rfl, rfl⟩
      go_wp2_with fail
      go_ret
      exact ⟨rfl, b1⟩
    · have m1 : 64 < m := by omega
      have m2 : decide (m ≤ 64) = false := decide_eq_false (by omega)
      clear hin
      go_enter Try.func5, Try.ntmps5
      go_wp2_with fail
      refine (bound_v HX.out).mono ?_
      rintro e w1 ⟨rfl, rfl⟩
      go_wp2_with fail
      refine (known_any _).mono ?_
      rintro e w1 ⟨rfl, b1⟩
      go_wp2_with fail
      refine (bound_v H1.out).mono ?_
      rintro e w2 ⟨rfl, rfl⟩
      go_wp2_with fail
      refine (bound_v H2.out).mono ?_
      rintro e w2 ⟨rfl, rfl⟩
      go_wp2_with fail
      refine (bound_v H3.out).mono ?_
      rintro e w2 ⟨rfl, rfl⟩
      go_wp2_with fail
      refine (bound_v H4.out).mono ?_
      rintro e w2 ⟨rfl, rfl⟩
      go_wp2_with fail
      refine (session_v HS.out).mono ?_
      rintro e w2 ⟨rfl, rfl⟩
      go_wp2_with fail
      refine (bound_v HB0.out).mono ?_
      rintro e w2 ⟨rfl, rfl⟩
      go_wp2_with fail
      refine (bound_v HB1.out).mono ?_
      rintro e w2 ⟨rfl, rfl⟩
      go_wp2_with fail
      go_ret
      exact ⟨rfl, b1⟩
end Go.Proofs.Ytmcnccfbligeaaa
