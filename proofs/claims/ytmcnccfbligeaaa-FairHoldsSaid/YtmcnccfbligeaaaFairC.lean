/-
  The walk of Fair.
-/
import Derived.Test.YtmcnccfbligeaaaFairB
namespace Go.Proofs.Ytmcnccfbligeaaa
open Go.RowKit Go.Rp Go.Maps

set_option maxRecDepth 100000 in
set_option maxHeartbeats 1000000 in
theorem fair_in (w : World) (A : Option Addr) (n c : Nat) (picks : List Int) (hp : Picks w A n picks) (A2 : Option Addr) (n2 c2 : Nat) (spans : List Span) (hs : Spans w A2 n2 spans) (fr to b : Nat) (h1 : to ≤ n) (h2 : fr ≤ to) (h3 : 1 ≤ b) (hb : fr + b ≤ to) :
    Calls Try.prog 10 #[.slice A n c, .slice A2 n2 c2, .int .i64 (fr : Int), .int .i64 (to : Int), .int .i64 (b : Int)] w fun e w' => e = .returned (.bool (fairN picks spans fr to b)) ∧ Below w.heap.size w w' := by
  have hreach := hp.reach
  have hreach2 := hs.reach
  have HN := Lib.hid hp.len
  have HN2 := Lib.hid hs.len
  have hopen := open_any w A n c picks hp fr b (by omega)
  go_enter Try.func10, Try.ntmps10
  go_wp2_with fail
  refine hopen.mono ?_
  rintro e w1 ⟨p, rfl, hw1, b1⟩
  clear hopen
  go_wp2_with fail
  go_loopg [42] (to - (fr + b)) (fun g _ wr => ∃ m : Nat, fr + m + b + g = to ∧ At w.heap.size wr [winR p A n c picks (fr + m) (fr + m + b)] ∧ Below w.heap.size w wr ∧ Hid (∀ k, fr ≤ k → k < fr + m → winB picks spans k b = true))
  case atStart => exact ⟨0, by omega, ⟨fun x => w.heap.size ≤ x ∧ x < w1.heap.size, fun x hx => hx.1, hw1, trivial⟩, b1, Lib.hid fun k _ _ => by omega⟩
  case round =>
    clear hw1 b1
    obtain ⟨m, hm, s1, b1, HF⟩ := hrel
    obtain ⟨S, hw, hS, hback⟩ := s1.front (a' := winR p A n c picks (fr + (m + 1)) (fr + (m + 1) + b)) fun x hx => Nat.le_trans b1.size hx
    have hr := hp.old
    have hsp := hs.keep b1
    have hwf := hp.wf
    clear s1
    obtain ⟨wo, rfl⟩ : ∃ wo : World, wo = wr := ⟨_, rfl⟩
    go_wp2_with fail
    go_loopg [42] n2 (fun g k wq => ∃ j : Nat, j + g = n2 ∧ k = .int .i64 (j : Int) ∧ Below wo.heap.size wo wq ∧ Hid (∀ i, (h : i < spans.length) → i < j → missB picks (fr + m) b spans[i] = false)) 
    case atStart => exact ⟨0, by omega, rfl, Below.refl _ _, Lib.hid fun i _ hi => by omega⟩
    case round =>
      obtain ⟨j, hj, rfl, b2, HJ⟩ := hrel
      have hw2 := (stable_win p A n c picks (fr + m) (fr + m + b)).keep hw b2
      by_cases hlt : j < n2
      · have hlt' : j < spans.length := by rw [HN2.out]; exact hlt
        have hok := hsp.ok _ (List.getElem_mem hlt')
        obtain ⟨b', off, rfl, hc⟩ := (hsp.keep b2).at hlt'
        have hmi := fun W S' h => misses_b W p S' A n c picks (fr + m) b h spans[j] hok
        have HJ2 := Lib.hid (fun h : missB picks (fr + m) b spans[j] = true => winB_false (k := fr + m) hlt' h)
        have HJ3 : Hid (missB picks (fr + m) b spans[j] = false → ∀ i, (h : i < spans.length) → i < j + 1 → missB picks (fr + m) b spans[i] = false) := Lib.hid fun h i hi hij => by
          by_cases e : i = j
          · subst e; exact h
          · exact HJ.out i hi (by omega)
        have k0 : wr.cell? ⟨b', off + j * 8, none⟩ = some (.int .i64 spans[j].th) := by simpa using hc 0 _ rfl
        have k1 := hc 1 _ rfl
        have k2 := hc 2 _ rfl
        have k3 := hc 3 _ rfl
        have k4 := hc 4 _ rfl
        have k5 := hc 5 _ rfl
        have k6 := hc 6 _ rfl
        have k7 := hc 7 _ rfl
        clear hc
        generalize missB picks (fr + m) b spans[j] = ans at *
        generalize spans[j] = sp at *
        go_wp2_with fail
        refine (hmi _ S ((stable_win p A n c picks (fr + m) (fr + m + b)).alloc hw2 _)).mono ?_
        rintro e w3 ⟨rfl, b3⟩
        have b4 : Below wo.heap.size wo w3 := (b2.alloc b2.size _).trans (b3.mono (by simp; have := b2.size; omega))
        clear hmi k0 k1 k2 k3 k4 k5 k6 k7 hw2
        cases ans with
        | true =>
          have HW := HJ2.out rfl
          have HFF := Lib.hid (fairN_false (fr := fr) (to := to) (by omega) (by omega) HW)
          clear HW HJ2 HJ3
          go_wp2_with fail
          go_ret
          exact ⟨by (first | (rw [HFF.out]; done) | (rw [HFF.out]; rfl)), b1.trans (b4.mono b1.size)⟩
        | false =>
          have HJ4 := Lib.hid (HJ3.out rfl)
          clear HJ2 HJ3
          go_wp2_with fail
          go_roundg (gk - 1)
          case measure => omega
          case rel => exact ⟨j + 1, by omega, by go_num, b4, HJ4⟩
      · obtain rfl : j = n2 := by omega
        have HW : Hid (winB picks spans (fr + m) b = true) := Lib.hid (winB_iff.2 fun s hs => by
          obtain ⟨i, hi, rfl⟩ := List.getElem_of_mem hs
          exact HJ.out i hi (by have := HN2.out; omega))
        have b4 := b1.trans (b2.mono b1.size)
        obtain ⟨B, k, hbk, hM, hkk, hp, hB⟩ := hw2
        have g2 : wr.cell? ⟨p, 2, none⟩ = some (.int .i64 ((fr + m + b : Nat) : Int)) := hbk.cell 2
        have hw3 : WinAt wr p S A n c picks (fr + m) (fr + m + b) := ⟨B, k, hbk, hM, hkk, hp, hB⟩
        clear hbk hM hkk hB
        by_cases hend : fr + m + b = to
        · have he : (((fr + m + b : Nat) : Int) == (to : Int)) = true := beq_iff_eq.2 (by omega)
          have HFF := Lib.hid (fairN_iff (picks := picks) (spans := spans) (fr := fr) (to := to) (b := b) |>.2 fun k k1 k2 => by
            by_cases e : k = fr + m
            · subst e; exact HW.out
            · exact HF.out k k1 (by omega))
          go_wp2_with fail
          go_ret
          exact ⟨by (first | (rw [HFF.out]; done) | (rw [HFF.out]; rfl)), b4⟩
        · have he : (((fr + m + b : Nat) : Int) == (to : Int)) = false := beq_eq_false_iff_ne.2 (by omega)
          have ht := take_any wr p S A n c picks (fr + m) (fr + m + b) hw3 _ (hr.below b4 fun _ h => h) HN.out hreach hwf (by omega) (by omega)
          go_wp2_with fail
          refine ht.mono ?_
          rintro e w4 ⟨rfl, hw4, m4⟩
          clear ht
          have b5 : Below w.heap.size w w4 := b4.trans (m4.below b4.size fun x hx => (hS x hx).1)
          have ht := drop_any w4 p S A n c picks (fr + m) (fr + m + b + 1) hw4 _ (hr.below b5 fun _ h => h) HN.out hreach hwf (by omega) (by omega)
          go_wp2_with fail
          refine ht.mono ?_
          rintro e w6 ⟨rfl, hw6, m6⟩
          clear ht
          have hw7 : WinAt w6 p S A n c picks (fr + (m + 1)) (fr + (m + 1) + b) := by rw [show fr + (m + 1) + b = fr + m + b + 1 by omega]; exact hw6
          have m7 : Rp.Mod S wo w6 := (Rp.Mod.of_below b2).trans (m4.trans m6 fun _ h => .inl h) fun _ h => .inl h
          have s7 := hback w6 ((winR p A n c picks (fr + (m + 1)) (fr + (m + 1) + b)).st.mono hw7 grow_left) m7
          have b7 := b5.trans (m6.below b5.size fun x hx => (hS x hx).1)
          have HF2 : Hid (∀ k, fr ≤ k → k < fr + (m + 1) → winB picks spans k b = true) := Lib.hid fun k k1 k2 => by
            by_cases e : k = fr + m
            · subst e; exact HW.out
            · exact HF.out k k1 (by omega)
          clear hw6 hw7 hw4 hw3 m4 m6 m7 HF HW HJ hback
          go_wp2_with fail
          rename_i gk0 _ _
          go_roundg (to - (fr + (m + 1) + b))
          case measure => omega
          case rel => exact ⟨m + 1, by omega, s7, b7, HF2⟩

/-- The plain bounds of an int. -/
theorem wf_i64' {x : Int} (h : (Lit.int .i64 x).wf = true) : -9223372036854775808 ≤ x ∧ x ≤ 9223372036854775807 := by
  simp [Lit.wf, IntKind.min, IntKind.max, IntKind.signed, IntKind.bits] at h
  omega

set_option maxRecDepth 100000 in
set_option maxHeartbeats 1000000 in
theorem fair_any (w : World) (A : Option Addr) (n c : Nat) (picks : List Int) (hp : Picks w A n picks) (A2 : Option Addr) (n2 c2 : Nat) (spans : List Span) (hs : Spans w A2 n2 spans) (fr to b : Int) (hf : -9223372036854775808 ≤ fr ∧ fr ≤ 9223372036854775807) (ht : -9223372036854775808 ≤ to ∧ to ≤ 9223372036854775807) (hb : -9223372036854775808 ≤ b ∧ b ≤ 9223372036854775807) :
    Calls Try.prog 10 #[.slice A n c, .slice A2 n2 c2, .int .i64 fr, .int .i64 to, .int .i64 b] w fun e w' => e = .returned (.bool (fairI picks spans fr to b)) ∧ Below w.heap.size w w' := by
  have hreach := hp.reach
  have HN := Lib.hid hp.len
  by_cases h1 : fr < 0
  · rw [fairI_out (by omega)]
    go_enter Try.func10, Try.ntmps10; go_wp2_with fail; go_ret; exact ⟨rfl, Below.refl _ _⟩
  by_cases h2 : (n : Int) < to
  · rw [fairI_out (by rw [HN.out]; omega)]
    go_enter Try.func10, Try.ntmps10; go_wp2_with fail; go_ret; exact ⟨rfl, Below.refl _ _⟩
  by_cases h3 : to < fr
  · rw [fairI_out (by omega)]
    go_enter Try.func10, Try.ntmps10; go_wp2_with fail; go_ret; exact ⟨rfl, Below.refl _ _⟩
  by_cases h4 : b < 1
  · rw [fairI_out (by omega)]
    go_enter Try.func10, Try.ntmps10; go_wp2_with fail; go_ret; exact ⟨rfl, Below.refl _ _⟩
  by_cases h5 : to - fr < b
  · have h6 : fairI picks spans fr to b = true := by
      unfold fairI
      rw [if_neg (by rw [HN.out]; omega)]
      exact fairN_wide (by omega)
    rw [h6]
    clear h6
    go_enter Try.func10, Try.ntmps10; go_wp2_with fail; go_ret; exact ⟨rfl, Below.refl _ _⟩
  obtain ⟨fr, rfl⟩ := Int.eq_ofNat_of_zero_le (show 0 ≤ fr by omega)
  obtain ⟨to, rfl⟩ := Int.eq_ofNat_of_zero_le (show 0 ≤ to by omega)
  obtain ⟨b, rfl⟩ := Int.eq_ofNat_of_zero_le (show 0 ≤ b by omega)
  rw [fairI_in (by rw [HN.out]; omega) (by omega) (by omega)]
  exact fair_in w A n c picks hp A2 n2 c2 spans hs fr to b (by omega) (by omega) (by omega) (by omega)
end Go.Proofs.Ytmcnccfbligeaaa
