/-
  The walk of RingMost.
-/
import Derived.Test.YtehmnhdmkjdghaaRingC
namespace Go.Proofs.Ytehmnhdmkjdghaa
open Go.RowKit Go.Rp

set_option maxRecDepth 100000 in
set_option maxHeartbeats 1000000 in
theorem RingMost_walk (w : World) (ms : Int) (hms : (Lit.int .i64 ms).wf = true) (k : Int) (hk : (Lit.int .i16 k).wf = true) (v : Int) (hv : (Lit.int .i32 v).wf = true) :
    Calls Try.prog 4 #[.int .i64 ms, .int .i16 k, .int .i32 v] w fun e w' => e = .returned (.bool true) ∧ Below w.heap.size w w' := by
  obtain ⟨k0, k1⟩ := wf_i16' hk
  have s0 : At w.heap.size w [] := trivial
  obtain ⟨n, hn⟩ : ∃ n, k.tmod 40 = n := ⟨_, rfl⟩
  have hn0 : -40 < n := by rw [← hn]; exact Int.lt_tmod_of_pos k (by omega)
  have hn1 : n < 40 := by rw [← hn]; exact Int.tmod_lt_of_pos k (by omega)
  clear hk hv hms
  obtain ⟨N, hN⟩ : ∃ N, cut n = N := ⟨_, rfl⟩
  have hNn : (N : Int) = max 0 n := by rw [← hN, ← cut_is]; omega
  obtain ⟨R, hR⟩ : ∃ R : Nat, (R : Int) = max 0 (n + 3) := ⟨(max 0 (n + 3)).toNat, by omega⟩
  have e1 := min_ii (k := .i64) (x := k) (y := 1000) rfl
  have e2 := max_ii (k := .i64) (cut_is k)
  have e3 := max_ii (k := .i64) (x := 0) (y := n) hNn.symm
  have hcm := cut_le ms
  have hw1 : IntKind.i64.wrap k = k := IntWalk.i64_in _ (by omega)
  have hw2 : IntKind.i16.wrap n = n := by simp [IntKind.wrap, IntKind.min, IntKind.max, IntKind.bits, IntKind.signed]; omega
  have hw3 : IntKind.i64.wrap n = n := IntWalk.i64_in _ (by omega)
  go_enter Try.func4, Try.ntmps4
  go_wp2_with fail
  refine (new_s (Nat.le_refl _) s0 ms).mono ?_
  rintro e w1 ⟨p, rfl, s1, b1⟩
  go_wp2_with fail
  refine (new_s b1.size s1 k).mono ?_
  rintro e w2 ⟨q, rfl, s2, b2⟩
  have b2 := b1.trans b2
  clear s1 b1
  go_wp2_with fail
  refine (new_s b2.size s2 n).mono ?_
  rintro e w3 ⟨r, rfl, s3, b3⟩
  have b3 := b2.trans b3
  have hle3 := b3.size
  rw [hN] at s3
  clear s2 b2
  go_wp2_with fail
  go_loopg [11] R (fun g j wr => ∃ m : Nat, m + g = R ∧ j = .int .i64 (m : Int) ∧ At w.heap.size wr (ringR r N (List.replicate (min m N) v) :: ringR q (cut k) [] :: ringR p (cut ms) [] :: []) ∧ Below w.heap.size w wr ∧ w.heap.size ≤ wr.heap.size)
  case atStart => exact ⟨0, by omega, rfl, by simpa using s3, b3, hle3⟩
  case round =>
    clear s3 b3 hle3
    obtain ⟨m, hm, rfl, s4, b4, hle4⟩ := hrel
    by_cases hlt : m < R
    · have hlt3 : (m : Int) < n + 3 := by omega
      have pu := pushL_s hle4 s4 v
      by_cases hroom : m < N
      · have h1 : (List.replicate (min m N) v).length < N := by simp; omega
        have h2 : (v :: List.replicate (min m N) v) = List.replicate (min (m + 1) N) v := by rw [show min (m + 1) N = min m N + 1 by omega]; rfl
        simp only [h1, decide_true, if_true, h2] at pu
        have hd : decide ((m : Int) < n) = true := decide_eq_true (by omega)
        clear h1 h2
        go_wp2_with fail
        refine pu.mono ?_
        rintro e w5 ⟨rfl, s5, b5⟩
        have hle5 := Nat.le_trans hle4 b5.size
        have b5 := b4.trans b5
        go_wp2_with fail
        go_roundg (gk - 1)
        case measure => omega
        case rel => exact ⟨m + 1, by omega, by go_num, s5, b5, hle5⟩
      · have h1 : ¬ (List.replicate (min m N) v).length < N := by simp; omega
        have h2 : List.replicate (min m N) v = List.replicate (min (m + 1) N) v := by rw [show min (m + 1) N = min m N by omega]
        simp only [h1, decide_false, if_false] at pu
        rw [h2] at pu
        have hd : decide ((m : Int) < n) = false := decide_eq_false (by omega)
        clear h1 h2
        go_wp2_with fail
        refine pu.mono ?_
        rintro e w5 ⟨rfl, s5, b5⟩
        have hle5 := Nat.le_trans hle4 b5.size
        have b5 := b4.trans b5
        go_wp2_with fail
        go_roundg (gk - 1)
        case measure => omega
        case rel => exact ⟨m + 1, by omega, by go_num, s5, b5, hle5⟩
    · obtain rfl : m = R := by omega
      have hge : ¬ (m : Int) < n + 3 := by omega
      have hmin : min m N = N := by omega
      rw [hmin] at s4
      have hk4 := known_s hle4 s4
      go_wp2_with fail
      refine hk4.mono ?_
      rintro e w5 ⟨rfl, s5, b5⟩
      have hle5 := Nat.le_trans hle4 b5.size
      have b5 := b4.trans b5
      clear hk4 s4 b4
      have m1 := rmost_s s5.rot3
      have m2 := rmost_s s5.rot2
      go_wp2_with fail
      refine m1.mono ?_
      rintro e w6 ⟨rfl, rfl⟩
      go_wp2_with fail
      refine m1.mono ?_
      rintro e w6 ⟨rfl, rfl⟩
      go_wp2_with fail
      refine m2.mono ?_
      rintro e w6 ⟨rfl, rfl⟩
      have pu := pushR_s hle5 s5 v
      have h1 : ¬ (List.replicate N v).length < N := by simp
      simp only [h1, decide_false, if_false] at pu
      go_wp2_with fail
      refine pu.mono ?_
      rintro e w7 ⟨rfl, s7, b7⟩
      have b7 := b5.trans b7
      have hl := rlen_s s7 (n := N) (by simp)
      go_wp2_with fail
      refine hl.mono ?_
      rintro e w8 ⟨rfl, rfl⟩
      go_wp2_with fail
      go_ret
      exact ⟨by simp, b7⟩
end Go.Proofs.Ytehmnhdmkjdghaa
