/-
  The walk of StackLast.
-/
import Derived.Test.YtgnpchafcalkgaaLawStackMost
namespace Go.Proofs.Ytgnpchafcalkgaa
open Go.RowKit Go.Rp

theorem u8_mod {x : Int} (hx : (Lit.int .u8 x).wf = true) (k : Int) (hk : 0 < k) : ∃ n : Nat, (n : Int) < k ∧ x % k = (n : Int) ∧ 0 ≤ x ∧ x ≤ 255 := by
  have := wf_u8 hx
  have h1 := Int.emod_nonneg x (b := k) (by omega)
  have h2 := Int.emod_lt_of_pos x (b := k) (by omega)
  exact ⟨(x % k).toNat, by omega, by omega, this.1, this.2⟩

set_option maxHeartbeats 1000000 in
theorem StackLast_walk (w : World) (x : Int) (hx : (Lit.int .u8 x).wf = true) (a : Option Addr) (n c : Nat) (zs : List Int) (h0 : InInts .i32 w a n c zs) :
    Calls Try.prog 3 #[.int .u8 x, .slice a n c] w fun e w' => e = .returned (.bool true) ∧ Below w.heap.size w w' := by
  obtain ⟨N, hN, hmod, hx0, hx1⟩ := u8_mod hx 40 (by omega)
  by_cases hlen : 200 < n
  · have hL : (200 : Int) < (n : Int) := by omega
    go_enter Try.func3, Try.ntmps3
    go_wp2_with fail
    refine (known_any _).mono ?_
    rintro e w1 ⟨rfl, b1⟩
    go_wp2_with fail
    go_ret
    exact ⟨rfl, b1⟩
  · have hL : ¬ (200 : Int) < (n : Int) := by omega
    have h1 := new_b (B := w.heap.size) (w := w) (Nat.le_refl _) (N : Int)
    rw [show cut (N : Int) = N by unfold cut; omega] at h1
    go_enter Try.func3, Try.ntmps3
    go_wp2_with fail
    refine h1.mono ?_
    rintro e w1 ⟨rfl, s1, b1⟩
    go_wp2_with fail
    clear h1
    go_loopw [7] (fun k wr => ∃ m : Nat, m ≤ n ∧ k = .int .i64 (m : Int) ∧ SB w.heap.size wr w.heap.size N (zs.take (min m N)) ∧ Below w.heap.size w wr) (fun k _ => n - (intOf k).toNat)
    case atStart => exact ⟨0, by omega, rfl, by simpa using s1, b1⟩
    case round =>
      clear s1 b1
      obtain ⟨m, hm, rfl, s2, b2⟩ := hrel
      by_cases hlt : m < n
      · obtain ⟨b, off, rfl, hbB, hcells⟩ := (h0.rd.below b2 fun _ h => h).at (by omega)
        have hmz : m < zs.length := by have := h0.len; omega
        have hxc : wr.cell? ⟨b, off + m, none⟩ = some (.int .i32 zs[m]) := hcells m _ (by simp [hmz])
        clear hcells
        have hpush := push_c b2.size s2 zs[m]
        have hl2 : (zs.take (min m N)).length = min m N := by simp; omega
        rw [hl2] at hpush
        by_cases hmN : m < N
        · have e1 : min m N < N := by omega
          have e2 : zs.take (min m N) ++ [zs[m]] = zs.take (min (m + 1) N) := by
            rw [show min m N = m by omega, show min (m + 1) N = m + 1 by omega]; simp [hmz]
          simp only [e1, if_true, decide_true] at hpush
          rw [e2] at hpush
          clear e1 e2 hl2
          generalize zs[m] = z at *
          go_wp2_with fail
          refine (hpush).mono ?_
          rintro e w3 ⟨rfl, s3, b3⟩
          go_wp2_with fail
          go_roundw
          case rel => exact ⟨m + 1, by omega, by go_num, s3, b2.trans b3⟩
          case measure => simp [intOf]; omega
        · have e1 : ¬ min m N < N := by omega
          have e2 : min m N = min (m + 1) N := by omega
          simp only [e1, if_false, decide_false] at hpush
          rw [e2] at hpush
          clear e1 e2 hl2
          generalize zs[m] = z at *
          go_wp2_with fail
          refine (hpush).mono ?_
          rintro e w3 ⟨rfl, s3, b3⟩
          go_wp2_with fail
          go_roundw
          case rel => exact ⟨m + 1, by omega, by go_num, s3, b2.trans b3⟩
          case measure => simp [intOf]; omega
      · have : m = n := by omega
        subst this
        obtain ⟨M, hM, hM1⟩ : ∃ M, M = min m N ∧ M ≤ m := ⟨_, rfl, by omega⟩
        have HM := Lib.hid hM
        rw [← hM] at s2
        clear hM
        go_wp2_with fail
        all_goals
          go_loopw [8, 9, 10] (fun k u v wr => ∃ j : Nat, j ≤ M ∧ k = .int .i64 ((j : Int) - 1) ∧ SB w.heap.size wr w.heap.size N (zs.take j) ∧ Below w.heap.size w wr) (fun k _ _ _ => (intOf k + 1).toNat)
          case atStart =>
            refine ⟨M, Nat.le_refl _, ?_, s2, b2⟩
            have := HM.out
            congr 1
            omega
          case round =>
            clear s2 b2
            obtain ⟨j, hj, rfl, s3, b3⟩ := hrel
            rcases j with _ | j
            · go_wp2_with fail
              refine (pop_nb s3).mono ?_
              rintro e w4 ⟨rfl, rfl⟩
              go_wp2_with fail
              refine (known_any _).mono ?_
              rintro e w5 ⟨rfl, b5⟩
              have s5 := s3.keep b5
              go_wp2_with fail
              refine (len_b s5 (n := 0) rfl).mono ?_
              rintro e w6 ⟨rfl, rfl⟩
              go_wp2_with fail
              go_ret
              exact ⟨rfl, b3.trans (b5.mono b3.size)⟩
            · obtain ⟨b, off, rfl, hbB, hcells⟩ := (h0.rd.below b3 fun _ h => h).at (by omega)
              have hjz : j < zs.length := by have := h0.len; omega
              rw [List.take_succ_eq_append_getElem hjz] at s3
              have hxc : wr.cell? ⟨b, off + j, none⟩ = some (.int .i32 zs[j]) := hcells j _ (by simp [hjz])
              clear hcells
              have hcast : ((j + 1 : Nat) : Int) - 1 = (j : Int) := by omega
              rw [hcast]
              clear hcast
              generalize zs[j] = z at *
              go_wp2_with fail
              refine (pop_b b3.size z s3).mono ?_
              rintro e w4 ⟨rfl, s4, b4⟩
              have hxc := (b4.cell (p := ⟨b, off + j, none⟩) hbB).trans hxc
              go_wp2_with fail
              go_roundw
              case rel => exact ⟨j, by omega, by go_num, s4, b3.trans b4⟩
              case measure => simp [intOf]
end Go.Proofs.Ytgnpchafcalkgaa
