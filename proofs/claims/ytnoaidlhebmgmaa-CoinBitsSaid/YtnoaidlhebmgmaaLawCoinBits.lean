/-
  The walk of CoinBits.
-/
import Derived.Test.YtnoaidlhebmgmaaCoinC
import Derived.Test.YtnoaidlhebmgmaaIn
import Derived.Deep.RegionHeld3
import Derived.Deep.RegionWith
namespace Go.Proofs.Ytnoaidlhebmgmaa
open Go.RowKit Go.Rp

theorem CoinBits_walk (w : World) (a : Option Addr) (n c : Nat) (zs : List Int) (h0 : InInts .u8 w a n c zs) :
    Calls Try.prog 3 #[.slice a n c] w fun e w' => e = .returned (.bool true) ∧ Below w.heap.size w w' := by
  obtain ⟨bs, rfl, h8, hr⟩ := h0.bytes
  have h1 := new_b (B := w.heap.size) (w := w) (Nat.le_refl _)
  by_cases hlen : 100 < bs.length
  · have hL : (100 : Int) < (bs.length : Int) := by omega
    go_enter Try.func3, Try.ntmps3
    go_wp2_with fail
    refine h1.mono ?_
    rintro e w1 ⟨rfl, c1, b1⟩
    go_wp2_with fail
    refine (known_any _).mono ?_
    rintro e w2 ⟨rfl, b2⟩
    go_wp2_with fail
    go_ret
    exact ⟨rfl, b1.trans (b2.mono b1.size)⟩
  · have hL : ¬ (100 : Int) < (bs.length : Int) := by omega
    go_enter Try.func3, Try.ntmps3
    go_wp2_with fail
    refine h1.mono ?_
    rintro e w1 ⟨rfl, c1, b1⟩
    go_wp2_with fail
    refine (feed_b b1.size c1 (hr.below b1 fun _ h => h) h8 (by omega)).mono ?_
    rintro e w2 ⟨rfl, c2, b2⟩
    go_wp2_with fail
    rw [feed_small bs (by omega)] at c2
    have b3 := b1.trans b2
    go_loopw [4, 5] (fun k i wr => ∃ m : Nat, m ≤ bs.length ∧ k = .int .i64 (m : Int) ∧ CoinB w.heap.size wr w.heap.size ((bs.drop m).flatMap bitsOf) ∧ Below w.heap.size w wr) (fun k _ _ => bs.length - (intOf k).toNat)
    case atStart => exact ⟨0, by omega, rfl, by simpa using c2, b3⟩
    case round =>
      clear c2 b3 b2 b1
      obtain ⟨m, hm, rfl, c2, b2⟩ := hrel
      by_cases hlt : m < bs.length
      · rw [drop_bits bs m hlt] at c2
        obtain ⟨b, off, rfl, hbB, hcells⟩ := (hr.below b2 fun _ h => h).at (by omega)
        have hx : wr.cell? ⟨b, off + m, none⟩ = some (.int .u8 ((bs[m] : Nat) : Int)) := hcells m _ (by simp [hlt])
        have h256 : bs[m] < 256 := h8 _ (List.getElem_mem hlt)
        clear hcells
        go_wp2
        obtain ⟨wo, rfl⟩ : ∃ wo : World, wo = wr := ⟨_, rfl⟩
        go_loopw [5] (fun i wr => ∃ j : Nat, j ≤ 8 ∧ i = .int .i64 (j : Int) ∧ CoinB w.heap.size wr w.heap.size ((bitsOf bs[m]).drop j ++ (bs.drop (m + 1)).flatMap bitsOf) ∧ Below w.heap.size w wr ∧ wr.cell? ⟨b, off + m, none⟩ = some (.int .u8 ((bs[m] : Nat) : Int))) (fun i _ => 8 - (intOf i).toNat)
        case atStart => exact ⟨0, by omega, rfl, by simpa using c2, b2, hx⟩
        case round =>
          clear c2 b2 hx
          obtain ⟨j, hj, rfl, c2, b2, hx⟩ := hrel
          by_cases hj8 : j < 8
          · have hbd := bitsOf_drop bs[m] j hj8
            rw [hbd] at c2
            clear hbd
            have hw64 : IntKind.u64.wrap ((j : Nat) : Int) = (j : Int) := IntWalk.u64_in _ (by omega)
            have hmin : min j 8 = j := by omega
            have hbit := bit_eq2 bs[m] j
            go_wp2_with fail
            go_region_held3 (fun w' => w'.cell? ⟨b, off + m, none⟩ = some (.int .u8 ((bs[m] : Nat) : Int))) (first | go_keep | exact (b4.cell (p := ⟨b, off + m, none⟩) hbB).trans hx) ((go_at_call 12; refine (toss_b (w := World.drew wr) b2.size c2).mono ?_; rintro e w4 ⟨rfl, c4, b4⟩))
            clear hw64 hmin hbit
            go_wp2_with fail
            go_roundw
            case rel =>
              exact ⟨j + 1, by omega, by go_num, c4, b2.drew.trans b4, by assumption⟩
            case measure => simp [intOf]; omega
          · have : j = 8 := by omega
            subst this
            go_wp2_with fail
            go_roundw
            case rel =>
              rw [List.drop_of_length_le (by simp [bitsOf_length])] at c2
              exact ⟨m + 1, by omega, by go_num, c2, b2⟩
            case measure => simp [intOf]; omega
      · have : m = bs.length := by omega
        subst this
        rw [List.drop_length] at c2
        go_wp2_with fail
        refine (known_any _).mono ?_
        rintro e w3 ⟨rfl, b3⟩
        have c3 := c2.keep b3
        simp only [List.flatMap_nil] at c3
        have b4 := b2.trans (b3.mono b2.size)
        go_wp2_with fail
        refine (left_b c3).mono ?_
        rintro e w4 ⟨rfl, rfl⟩
        go_wp2_with fail
        refine (toss_b b4.size c3).mono ?_
        rintro e w4 ⟨rfl, c4, b5⟩
        have b6 := b4.trans b5
        go_wp2_with fail
        refine (height_b b6.size c4).mono ?_
        rintro e w5 ⟨rfl, c5, b7⟩
        go_wp2_with fail
        go_ret
        exact ⟨rfl, b6.trans b7⟩
end Go.Proofs.Ytnoaidlhebmgmaa
