/-
  The walk of CoinHeight.
-/
import Derived.Test.YtnoaidlhebmgmaaCoinC
import Derived.Test.YtnoaidlhebmgmaaIn
import Derived.OpenShut
namespace Go.Proofs.Ytnoaidlhebmgmaa
open Go.RowKit Go.Rp
theorem pow_k (k : Nat) : ((2 : Int) ^ k - 1) % 256 = (((2 ^ k - 1) % 256 : Nat) : Int) := by
  have h : 1 ≤ 2 ^ k := Nat.one_le_two_pow
  rw [Int.natCast_emod, Int.natCast_sub h]
  simp
theorem feed_two (k : Nat) (bs : List Nat) (h : bs.length ≤ 2000) : feed (feed [] [(2 ^ k - 1) % 256]) bs = bitsOf ((2 ^ k - 1) % 256) ++ bs.flatMap bitsOf := by
  have := fed_len bs
  have e : feed [] [(2 ^ k - 1) % 256] = bitsOf ((2 ^ k - 1) % 256) := by
    rw [feed_done _ _ (by simp [bitsOf_length])]; simp
  rw [e, feed_done _ _ (by rw [List.length_append, bitsOf_length]; omega)]
theorem hgt_k (k : Nat) (hk : k ≤ 8) (l : List Bool) : hgt 7 (bitsOf ((2 ^ k - 1) % 256) ++ l) = (min (k + 1) 8, (bitsOf ((2 ^ k - 1) % 256) ++ l).drop (min (k + 1) 7)) := by
  match k, hk with
  | 0, _ => rfl
  | 1, _ => rfl
  | 2, _ => rfl
  | 3, _ => rfl
  | 4, _ => rfl
  | 5, _ => rfl
  | 6, _ => rfl
  | 7, _ => rfl
  | 8, _ => rfl

theorem CoinHeight_walk (w : World) (x : Int) (hx : (Lit.int .u8 x).wf = true) (a : Option Addr) (n c : Nat) (zs : List Int) (h0 : InInts .u8 w a n c zs) :
    Calls Try.prog 4 #[.int .u8 x, .slice a n c] w fun e w' => e = .returned (.bool true) ∧ Below w.heap.size w w' := by
  obtain ⟨bs, rfl, h8, hr⟩ := h0.bytes
  have h1 := new_b (B := w.heap.size) (w := w) (Nat.le_refl _)
  obtain ⟨hx0, hx1⟩ := wf_u8 hx
  obtain ⟨k, hk8, hk⟩ : ∃ k : Nat, k ≤ 8 ∧ x % 9 = (k : Int) := ⟨(x % 9).toNat, by omega, by omega⟩
  have hv := pow_k k
  by_cases hlen : 60 < bs.length
  · have hL : (60 : Int) < (bs.length : Int) := by omega
    go_enter Try.func4, Try.ntmps4
    go_wp2_with fail
    refine h1.mono ?_
    rintro e w1 ⟨rfl, c1, b1⟩
    go_wp2_with fail
    refine (known_any _).mono ?_
    rintro e w2 ⟨rfl, b2⟩
    go_wp2_with fail
    go_ret
    exact ⟨rfl, b1.trans (b2.mono b1.size)⟩
  · have hL : ¬ (60 : Int) < (bs.length : Int) := by omega
    go_enter Try.func4, Try.ntmps4
    go_wp2_with fail
    refine h1.mono ?_
    rintro e w1 ⟨rfl, c1, b1⟩
    go_wp2_with fail
    refine (feed_lit b1.size c1 ((2 ^ k - 1) % 256) (by omega)).mono ?_
    rintro e w2 ⟨rfl, c2, b2⟩
    have b3 := b1.trans b2
    go_wp2_with fail
    refine (feed_b b3.size c2 (hr.below b3 fun _ h => h) h8 (by omega)).mono ?_
    rintro e w3 ⟨rfl, c3, b4⟩
    have b5 := b3.trans b4
    rw [feed_two k bs (by omega)] at c3
    have hlen3 : (bitsOf ((2 ^ k - 1) % 256) ++ bs.flatMap bitsOf).length = 8 + 8 * bs.length := by rw [List.length_append, bitsOf_length, fed_len]
    have hh := hgt_k k hk8 (bs.flatMap bitsOf)
    obtain ⟨l3, hl3⟩ : ∃ l, l = bitsOf ((2 ^ k - 1) % 256) ++ bs.flatMap bitsOf := ⟨_, rfl⟩
    rw [← hl3] at c3 hlen3 hh
    clear hl3
    have HL := Lib.hid hlen3
    clear hlen3 hv hk hx0 hx1 hx
    obtain ⟨n4, hn4, hn5⟩ : ∃ n4 : Nat, n4 = (l3.drop (min (k + 1) 7)).length ∧ n4 + min (k + 1) 7 = 8 + 8 * bs.length := ⟨_, rfl, by rw [List.length_drop, HL.out]; omega⟩
    have HN := Lib.hid hn4
    clear hn4
    rcases (show k ≤ 6 ∨ k = 7 ∨ k = 8 by omega) with h6 | rfl | rfl
    · have e1 : min (k + 1) 8 = k + 1 := by omega
      have e2 : min (k + 1) 7 = k + 1 := by omega
      rw [e1, e2] at hh
      rw [e2] at hn5 HN
      have e3 : ((8 : Int) + 8 * (bs.length : Int) - (n4 : Int) == (k : Int) + 1) = true := by simp; omega
      have HH := Lib.hid hh
      clear hh e1 e2 hn5
      have hn6 : n4 ≤ 8 + 8 * bs.length := by have := HN.out; rw [List.length_drop, HL.out] at this; omega
      go_wp2_with fail
      refine (left_n c3 HL.out).mono ?_
      rintro e w4 ⟨rfl, rfl⟩
      go_wp2_with fail
      refine (height_n b5.size c3 HH.out).mono ?_
      rintro e w4 ⟨rfl, c4, b6⟩
      have b7 := b5.trans b6
      go_wp2_with fail
      refine (known_any _).mono ?_
      rintro e w5 ⟨rfl, b8⟩
      have c5 := c4.keep b8
      have b9 := b7.trans (b8.mono b7.size)
      go_wp2_with fail
      refine (left_n c5 HN.out.symm).mono ?_
      rintro e w6 ⟨rfl, rfl⟩
      go_wp2_with fail
      go_ret
      exact ⟨rfl, b9⟩
    all_goals
      have HH := Lib.hid hh
      have e3 : ((8 : Int) + 8 * (bs.length : Int) - (n4 : Int) == 7) = true := by simp; omega
      have hn6 : n4 ≤ 8 + 8 * bs.length := by omega
      clear hh hn5
      go_wp2_with fail
      refine (left_n c3 HL.out).mono ?_
      rintro e w4 ⟨rfl, rfl⟩
      go_wp2_with fail
      refine (height_n b5.size c3 HH.out).mono ?_
      rintro e w4 ⟨rfl, c4, b6⟩
      have b7 := b5.trans b6
      go_wp2_with fail
      refine (known_any _).mono ?_
      rintro e w5 ⟨rfl, b8⟩
      have c5 := c4.keep b8
      have b9 := b7.trans (b8.mono b7.size)
      go_wp2_with fail
      refine (left_n c5 HN.out.symm).mono ?_
      rintro e w6 ⟨rfl, rfl⟩
      go_wp2_with fail
      go_ret
      exact ⟨rfl, b9⟩
end Go.Proofs.Ytnoaidlhebmgmaa
