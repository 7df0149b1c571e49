/-
  The walk of RingTurns.
-/
import Derived.Test.YtehmnhdmkjdghaaRingJ
namespace Go.Proofs.Ytehmnhdmkjdghaa
open Go.RowKit Go.Rp

def rot (l : List Int) (j : Nat) : List Int := l.drop j ++ l.take j
theorem rot_len {l : List Int} {j : Nat} (h : j ≤ l.length) : (rot l j).length = l.length := by unfold rot; simp; omega
theorem rot_popL {l : List Int} {j : Nat} (h : j < l.length) : rot l j = l[j] :: (l.drop (j + 1) ++ l.take j) := by
  unfold rot
  rw [List.drop_eq_getElem_cons h]
  rfl
theorem rot_pushR {l : List Int} {j : Nat} (h : j < l.length) : (l.drop (j + 1) ++ l.take j) ++ [l[j]] = rot l (j + 1) := by
  unfold rot
  rw [List.take_succ_eq_append_getElem h, List.append_assoc]
theorem rot_popR {l : List Int} {j : Nat} (h : j < l.length) : rot l (j + 1) = (l.drop (j + 1) ++ l.take j) ++ [l[j]] := (rot_pushR h).symm
theorem rot_pushL {l : List Int} {j : Nat} (h : j < l.length) : l[j] :: (l.drop (j + 1) ++ l.take j) = rot l j := (rot_popL h).symm
theorem rot_mid {l : List Int} {j : Nat} (h : j < l.length) : (l.drop (j + 1) ++ l.take j).length + 1 = l.length := by simp; omega
theorem opsOf_ok' (kinds : Nat) (hk : 0 < kinds) (hk2 : kinds ≤ 200) (bs : List Nat) : ∀ o ∈ opsOf kinds bs, 0 ≤ o.1 ∧ o.1 ≤ 255 := opsOf_ok kinds hk hk2 bs

set_option maxRecDepth 100000 in
set_option maxHeartbeats 4000000 in
theorem RingTurns_walk (w : World) (ms : Int) (hms : (Lit.int .u8 ms).wf = true) (a' : Option Addr) (n' c' : Nat) (zs : List Int) (h1 : InInts .u8 w a' n' c' zs) (left : Bool) :
    Calls Try.prog 8 #[.int .u8 ms, .slice a' n' c', .bool left] w fun e w' => e = .returned (.bool true) ∧ Below w.heap.size w w' := by
  obtain ⟨bs, hbn, h256, hrb⟩ := h1.bytes
  have hreach' := h1.reach
  have hlt : ∀ b, (fun x => x < w.heap.size) b → b < w.heap.size := fun _ h => h
  have s0 : At w.heap.size w [] := trivial
  obtain ⟨N0, hN0, hmod, hx0, hx1⟩ := u8_mod hms 12 (by omega)
  clear h1 hms
  obtain ⟨N, hN⟩ : ∃ N : Nat, (1 : Int) + (N0 : Int) = (N : Int) := ⟨1 + N0, by omega⟩
  have h1 := new_s (Nat.le_refl _) s0 (N : Int)
  rw [cut_nat N (by omega)] at h1
  by_cases hlen : 60 < n'
  · have hL : (60 : Int) < (n' : Int) := by omega
    go_enter Try.func8, Try.ntmps8
    go_wp2_with fail
    refine (h1).mono ?_
    rintro e w1 ⟨p, rfl, s1, b1⟩
    go_wp2_with fail
    refine (known_s b1.size s1).mono ?_
    rintro e w2 ⟨rfl, s2, b2⟩
    go_wp2_with fail
    go_ret
    exact ⟨rfl, b1.trans b2⟩
  · have hL : ¬ (60 : Int) < (n' : Int) := by omega
    go_enter Try.func8, Try.ntmps8
    go_wp2_with fail
    refine (h1).mono ?_
    rintro e w1 ⟨p, rfl, s1, b1⟩
    clear h1
    go_wp2_with fail
    refine (Ops_s b1.size s1 hbn (hrb.below b1 hlt) h256 (by omega) 4 (by omega) (by omega)).mono ?_
    rintro e w2 ⟨A1, n, c, rfl, hn, h80, s2, b2⟩
    have b2 := b1.trans b2
    go_wp2_with fail
    refine (run_s b2.size s2.rot2 hn (opsOf_ok 4 (by omega) (by omega) bs) (by omega)).mono ?_
    rintro e w3 ⟨rfl, s3, b3⟩
    have b3 := b2.trans b3
    have s3 := s3.rot2.drop
    generalize rRuns N [] (opsOf 4 bs) = l at *
    obtain ⟨ln, hln⟩ : ∃ ln, l.length = ln := ⟨_, rfl⟩
    have hlnN := ring_len s3
    rw [hln] at hlnN
    have HLN := Lib.hid hln
    clear s1 s2 b1 b2 hn hln
    go_wp2_with fail
    refine (items_s b3.size s3 HLN.out).mono ?_
    rintro e w4 ⟨A4, c4, rfl, s4, b4⟩
    have b4 := b3.trans b4
    clear s3 b3
    have s4 : At w.heap.size w4 (ringR p N (rot l (if left then 0 else ln)) :: ownI A4 ln c4 l :: []) := by
      have e : rot l (if left then 0 else ln) = l := by
        cases left
        · simp [rot, ← HLN.out]
        · simp [rot]
      rw [e]
      exact s4.rot2
    go_wp2_with fail
    go_loopw [9] (fun k wr => ∃ m j : Nat, m ≤ ln ∧ j = (if left then m else ln - m) ∧ k = .int .i64 (m : Int) ∧ At w.heap.size wr (ringR p N (rot l j) :: ownI A4 ln c4 l :: []) ∧ Below w.heap.size w wr) (fun k _ => ln - (intOf k).toNat)
    case atStart => exact ⟨0, _, by omega, by cases left <;> simp, rfl, s4, b4⟩
    case round =>
      clear s4 b4
      obtain ⟨k, j, hk, hj, rfl, s4, b4⟩ := hrel
      by_cases hkl : k < ln
      · cases left
        · simp only [Bool.false_eq_true, if_false] at hj
          obtain ⟨j, rfl⟩ : ∃ i, j = i + 1 := ⟨j - 1, by omega⟩
          have hjl : j < l.length := by rw [HLN.out]; omega
          have POP := Lib.hid (rot_popR hjl)
          have PSH := Lib.hid (rot_pushL hjl)
          have LT := Lib.hid (show (l.drop (j + 1) ++ l.take j).length < N by have := rot_mid hjl; rw [HLN.out] at this; omega)
          have ROT := Lib.hid (show (rot l j).length = ln by rw [rot_len (by omega), HLN.out])
          generalize l[j] = x at *
          clear hjl
          have hpo := popR_s b4.size (POP.out ▸ s4)
          go_wp2_with fail
          refine hpo.mono ?_
          rintro e w5 ⟨rfl, s5, b5⟩
          have b5 := b4.trans b5
          clear hpo s4 b4
          have hpu := pushL_s b5.size s5 x
          rw [decide_eq_true LT.out, if_pos LT.out, PSH.out] at hpu
          go_wp2_with fail
          refine hpu.mono ?_
          rintro e w6 ⟨rfl, s6, b6⟩
          have b6 := b5.trans b6
          clear hpu s5 b5
          have hl6 := rlen_s s6 (n := ln) ROT.out
          go_wp2_with fail
          refine hl6.mono ?_
          rintro e w7 ⟨rfl, rfl⟩
          go_wp2_with fail
          go_roundw
          case rel => exact ⟨k + 1, j, by omega, by first | (simp; done) | (simp; omega), by go_num, s6, b6⟩
          case measure => simp [intOf]; omega
        · simp only [if_true] at hj
          subst hj
          have hjl : j < l.length := by rw [HLN.out]; omega
          have POP := Lib.hid (rot_popL hjl)
          have PSH := Lib.hid (rot_pushR hjl)
          have LT := Lib.hid (show (l.drop (j + 1) ++ l.take j).length < N by have := rot_mid hjl; rw [HLN.out] at this; omega)
          have ROT := Lib.hid (show (rot l (j + 1)).length = ln by rw [rot_len (by omega), HLN.out])
          generalize l[j] = x at *
          clear hjl
          have hpo := popL_s b4.size (POP.out ▸ s4)
          go_wp2_with fail
          refine hpo.mono ?_
          rintro e w5 ⟨rfl, s5, b5⟩
          have b5 := b4.trans b5
          clear hpo s4 b4
          have hpu := pushR_s b5.size s5 x
          rw [decide_eq_true LT.out, if_pos LT.out, PSH.out] at hpu
          go_wp2_with fail
          refine hpu.mono ?_
          rintro e w6 ⟨rfl, s6, b6⟩
          have b6 := b5.trans b6
          clear hpu s5 b5
          have hl6 := rlen_s s6 (n := ln) ROT.out
          go_wp2_with fail
          refine hl6.mono ?_
          rintro e w7 ⟨rfl, rfl⟩
          go_wp2_with fail
          go_roundw
          case rel => exact ⟨j + 1, j + 1, by omega, by first | (simp; done) | (simp; omega), by go_num, s6, b6⟩
          case measure => simp [intOf]; omega
      · obtain rfl : k = ln := by omega
        have e : rot l j = l := by
          subst hj
          cases left
          · simp [rot]
          · simp [rot, ← HLN.out]
        rw [e] at s4
        clear e hj
        have hkn : k ≤ 1000000 := by omega
        have hle4 := b4.size
        go_wp2_with fail
        refine (known_s hle4 s4).mono ?_
        rintro e w5 ⟨rfl, s5, b5⟩
        have b5 := b4.trans b5
        go_wp2_with fail
        refine (items_s b5.size s5 HLN.out).mono ?_
        rintro e w6 ⟨A6, c6, rfl, s6, b6⟩
        have b6 := b5.trans b6
        go_wp2_with fail
        refine (Same_t b6.size s6 (Sl.read s6.get) (Sl.read s6.rot3.get) hkn hkn).mono ?_
        rintro e w7 ⟨rfl, s7, b7⟩
        go_wp2_with fail
        go_ret
        exact ⟨rfl, b6.trans b7⟩
end Go.Proofs.Ytehmnhdmkjdghaa
