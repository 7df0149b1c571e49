/-
  The walk of StackBack.
-/
import Derived.Test.YtgnpchafcalkgaaStackF
import Derived.Test.YtgnpchafcalkgaaLawStackLast
namespace Go.Proofs.Ytgnpchafcalkgaa
open Go.RowKit Go.Rp

theorem Sl.read {w : World} {e sz n c : Nat} {A : Option Addr} {xs : List Value} {S : Nat → Prop} (h : (slRes e sz A n c xs).Q w S) : Rd w S sz A n xs := Sl.rd h

set_option maxHeartbeats 1000000 in
theorem StackBack_walk (w : World) (x : Int) (hx : (Lit.int .u8 x).wf = true) (a : Option Addr) (n c : Nat) (zs : List Int) (h0 : InInts .u8 w a n c zs) (v : Int) (hv : (Lit.int .i32 v).wf = true) :
    Calls Try.prog 7 #[.int .u8 x, .slice a n c, .int .i32 v] w fun e w' => e = .returned (.bool true) ∧ Below w.heap.size w w' := by
  obtain ⟨bs, hbn, h8, hr⟩ := h0.bytes
  obtain ⟨N, hN, hmod, hx0, hx1⟩ := u8_mod hx 12 (by omega)
  have hcut : cut (N : Int) = N := by unfold cut; omega
  have h1 := new_s (B := w.heap.size) (w := w) (L := []) (Nat.le_refl _) trivial (N : Int)
  rw [hcut] at h1
  clear hcut
  by_cases hlen : 60 < n
  · have hL : (60 : Int) < (n : Int) := by omega
    go_enter Try.func7, Try.ntmps7
    go_wp2_with fail
    refine (h1).mono ?_
    rintro e w1 ⟨rfl, s1, b1⟩
    go_wp2_with fail
    refine (known_s b1.size s1).mono ?_
    rintro e w2 ⟨rfl, s2, b2⟩
    go_wp2_with fail
    go_ret
    exact ⟨rfl, b1.trans b2⟩
  · have hL : ¬ (60 : Int) < (n : Int) := by omega
    go_enter Try.func7, Try.ntmps7
    go_wp2_with fail
    refine (h1).mono ?_
    rintro e w1 ⟨rfl, s1, b1⟩
    clear h1
    go_wp2_with fail
    refine (Ops_s b1.size s1 hbn (hr.below b1 fun _ h => h) h8 (by omega) 2 (by omega) (by omega)).mono ?_
    rintro e w2 ⟨A2, m, c2, rfl, hm, hm80, s2, b2⟩
    have b2 := b1.trans b2
    go_wp2_with fail
    refine (run_s b2.size s2.rot2 hm (opsOf_ok 2 (by omega) (by omega) bs) (by omega)).mono ?_
    rintro e w3 ⟨rfl, s3, b3⟩
    have b3 := b2.trans b3
    have hll := StackAt.len s3.get
    generalize runs N [] (opsOf 2 bs) = l at *
    obtain ⟨ln, hln⟩ : ∃ ln, l.length = ln := ⟨_, rfl⟩
    have hln1 : ln ≤ N := by omega
    go_wp2_with fail
    refine (items_s b3.size s3 hln).mono ?_
    rintro e w4 ⟨A4, c4, rfl, s4, b4⟩
    have b4 := b3.trans b4
    have hp := push_s b4.size s4.rot2 v
    rw [hln] at hp
    by_cases hf : ln < N
    · simp only [hf, decide_true, if_true] at hp
      go_wp2_with fail
      refine (hp).mono ?_
      rintro e w5 ⟨rfl, s5, b5⟩
      have b5 := b4.trans b5
      go_wp2_with fail
      refine (len_s s5 (n := ln + 1) (by simp [hln])).mono ?_
      rintro e w6 ⟨rfl, rfl⟩
      go_wp2_with fail
      refine (pop_s b5.size v s5).mono ?_
      rintro e w7 ⟨rfl, s7, b7⟩
      have b7 := b5.trans b7
      go_wp2_with fail
      refine (known_s b7.size s7).mono ?_
      rintro e w8 ⟨rfl, s8, b8⟩
      have b8 := b7.trans b8
      go_wp2_with fail
      refine (items_s b8.size s8 hln).mono ?_
      rintro e w9 ⟨A9, c9, rfl, s9, b9⟩
      have b9 := b8.trans b9
      go_wp2_with fail
      refine (Same_s b9.size s9 (Sl.read s9.get) (Sl.read s9.rot3.get) (by omega) (by omega)).mono ?_
      rintro e w10 ⟨rfl, s10, b10⟩
      rw [decide_eq_true rfl]
      go_wp2_with fail
      go_ret
      exact ⟨rfl, b9.trans b10⟩
    · simp only [hf, decide_false, if_false] at hp
      obtain rfl : ln = N := by omega
      go_wp2_with fail
      refine (hp).mono ?_
      rintro e w5 ⟨rfl, s5, b5⟩
      have b5 := b4.trans b5
      go_wp2_with fail
      refine (known_s b5.size s5).mono ?_
      rintro e w6 ⟨rfl, s6, b6⟩
      have b6 := b5.trans b6
      go_wp2_with fail
      refine (most_s s6).mono ?_
      rintro e w7 ⟨rfl, rfl⟩
      go_wp2_with fail
      refine (items_s b6.size s6 hln).mono ?_
      rintro e w9 ⟨A9, c9, rfl, s9, b9⟩
      have b9 := b6.trans b9
      go_wp2_with fail
      refine (Same_s b9.size s9 (Sl.read s9.get) (Sl.read s9.rot3.get) (by omega) (by omega)).mono ?_
      rintro e w10 ⟨rfl, s10, b10⟩
      rw [decide_eq_true rfl]
      go_wp2_with fail
      go_ret
      exact ⟨rfl, b9.trans b10⟩
end Go.Proofs.Ytgnpchafcalkgaa
