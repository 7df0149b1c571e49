/-
  The walk of CoinUses.
-/
import Derived.Test.YtnoaidlhebmgmaaCoinC
import Derived.Test.YtnoaidlhebmgmaaIn
namespace Go.Proofs.Ytnoaidlhebmgmaa
open Go.RowKit Go.Rp

theorem hgt_law : ∀ (k : Nat) (l : List Bool), 1 ≤ (hgt k l).1 ∧ (hgt k l).1 ≤ k + 1 ∧ (hgt k l).2.length ≤ l.length ∧
    ((l.length = (hgt k l).2.length + (hgt k l).1 ∧ (hgt k l).1 < k + 1) ∨ (l.length + 1 = (hgt k l).2.length + (hgt k l).1 ∧ ((hgt k l).1 = k + 1 ∨ (hgt k l).2.length = 0)))
  | 0, l => by simp [hgt]
  | k + 1, [] => by simp [hgt]
  | k + 1, false :: l => by simp [hgt]
  | k + 1, true :: l => by
    have := hgt_law k l
    simp only [hgt, List.length_cons]
    omega

theorem CoinUses_walk (w : World) (a : Option Addr) (n c : Nat) (zs : List Int) (h0 : InInts .u8 w a n c zs) :
    Calls Try.prog 6 #[.slice a n c] w fun e w' => e = .returned (.bool true) ∧ Below w.heap.size w w' := by
  obtain ⟨bs, rfl, h8, hr⟩ := h0.bytes
  have h1 := new_b (B := w.heap.size) (w := w) (Nat.le_refl _)
  by_cases hlen : 60 < bs.length
  · have hL : (60 : Int) < (bs.length : Int) := by omega
    go_enter Try.func6, Try.ntmps6
    go_wp2_with fail
    refine h1.mono ?_
    rintro e w1 ⟨rfl, c1, b1⟩
    go_wp2_with fail
    refine (known_any _).mono ?_
    rintro e w2 ⟨rfl, b2⟩
    go_wp2_with fail
    go_ret
    exact ⟨rfl, b1.trans (b2.mono b1.size)⟩
  · have hL : ¬ (60 : Int) < (bs.length : Int) := by omega
    go_enter Try.func6, Try.ntmps6
    go_wp2_with fail
    refine h1.mono ?_
    rintro e w1 ⟨rfl, c1, b1⟩
    go_wp2_with fail
    refine (feed_b b1.size c1 (hr.below b1 fun _ h => h) h8 (by omega)).mono ?_
    rintro e w2 ⟨rfl, c2, b2⟩
    have b3 := b1.trans b2
    go_wp2_with fail
    go_loopw [4, 5, 6, 7, 8] (fun k s5 s6 s7 s8 wr => ∃ (m : Nat) (l : List Bool), m ≤ 8 * bs.length + 2 ∧ k = .int .i64 (m : Int) ∧ CoinB w.heap.size wr w.heap.size l ∧ Below w.heap.size w wr) (fun k _ _ _ _ _ => 8 * bs.length + 2 - (intOf k).toNat)
    case atStart => exact ⟨0, _, by omega, rfl, c2, b3⟩
    case round =>
      clear c2 b3 b2 b1 c1 h1
      obtain ⟨m, l, hm, rfl, c2, b2⟩ := hrel
      by_cases hlt : m < 8 * bs.length + 2
      · have hl := hgt_law 7 l
        obtain ⟨h, l', hh⟩ : ∃ h l', hgt 7 l = (h, l') := ⟨_, _, rfl⟩
        rw [hh] at hl
        obtain ⟨n, hn⟩ : ∃ n, l.length = n := ⟨_, rfl⟩
        obtain ⟨n', hn'⟩ : ∃ n', l'.length = n' := ⟨_, rfl⟩
        simp only at hl
        rw [hn, hn'] at hl
        have h20 : n ≤ 20000 := by obtain ⟨_, _, _, _, _, h⟩ := c2; omega
        have HH := Lib.hid hh
        have HN := Lib.hid hn
        have HN' := Lib.hid hn'
        clear hh hn hn'
        obtain ⟨l1, l2, l3, l4⟩ := hl
        have cases3 : (((n : Int) - (n' : Int) == (h : Int)) = true ∧ (h : Int) < 8) ∨ (((n : Int) - (n' : Int) == (h : Int)) = false ∧ ((n : Int) - (n' : Int) == (h : Int) - 1) = true ∧ ((h : Int) == 8) = true) ∨ (((n : Int) - (n' : Int) == (h : Int)) = false ∧ ((n : Int) - (n' : Int) == (h : Int) - 1) = true ∧ ((h : Int) == 8) = false ∧ ((n' : Int) == 0) = true) := by
          simp only [beq_iff_eq, beq_eq_false_iff_ne, ne_eq]
          omega
        clear l4
        rcases cases3 with ⟨e1, e2⟩ | ⟨e1, e2, e3⟩ | ⟨e1, e2, e3, e4⟩
        all_goals
          go_wp2_with fail
          refine (left_n c2 HN.out).mono ?_
          rintro e w4 ⟨rfl, rfl⟩
          go_wp2_with fail
          refine (height_n b2.size c2 HH.out).mono ?_
          rintro e w4 ⟨rfl, c4, b4⟩
          have b5 := b2.trans b4
          go_wp2_with fail
          refine (left_n c4 HN'.out).mono ?_
          rintro e w5 ⟨rfl, rfl⟩
          go_wp2_with (go_at_call 13; refine (left_n c4 HN'.out).mono ?_; rintro e w5 ⟨rfl, rfl⟩)
          go_roundw
          case rel => exact ⟨m + 1, l', by omega, by go_num, c4, b5⟩
          case measure => simp [intOf]; omega
      · have : m = 8 * bs.length + 2 := by omega
        subst this
        go_wp2_with fail
        refine (known_any _).mono ?_
        rintro e w3 ⟨rfl, b3⟩
        go_wp2_with fail
        go_ret
        exact ⟨rfl, b2.trans (b3.mono b2.size)⟩
end Go.Proofs.Ytnoaidlhebmgmaa
