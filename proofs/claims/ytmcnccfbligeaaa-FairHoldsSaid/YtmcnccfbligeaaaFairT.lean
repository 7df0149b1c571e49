/-
  The document's own Held.
-/
import Derived.Test.YtmcnccfbligeaaaFairS
namespace Go.Proofs.Ytmcnccfbligeaaa
open Go.RowKit Go.Rp Go.Maps

set_option maxRecDepth 100000 in
set_option maxHeartbeats 4000000 in
theorem rheld_any (w : World) (ob th cap age ps : Int) (pl : Bool) (A : Option Addr) (n c : Nat) (picks : List Int) (hp : Picks w A n picks) (hc : n ≤ c) (hcm : c ≤ maxLen) (A2 : Option Addr) (n2 c2 : Nat) (spans : List Span) (hs : Spans w A2 n2 spans) (b : Int) (hb : -9223372036854775808 ≤ b ∧ b ≤ 9223372036854775807) :
    Calls Try.prog 17 #[confV ob th cap age ps pl, .slice A n c, .slice A2 n2 c2, .int .i64 b] w fun e w' => e = .returned (.bool (heldI th ps picks spans b)) ∧ Below w.heap.size w w' := by
  have hreach := hp.reach
  have hreach2 := hs.reach
  have HN := Lib.hid hp.len
  have HN2 := Lib.hid hs.len
  obtain ⟨q, hq⟩ : ∃ q, bndI th b ps = q := ⟨_, rfl⟩
  have hqb := bndI_bd th b ps
  have hh : heldI th ps picks spans b = if q = 0 ∨ (picks.length : Int) < q then true else spans.all fun s => !lateB picks spans q b s := by unfold heldI; rw [hq]
  rw [hq] at hqb
  obtain ⟨q0, q1⟩ := hqb
  have HQ := Lib.hid hq
  clear hq
  by_cases hz : q = 0
  · subst hz
    rw [hh, if_pos (.inl rfl)]
    clear hh
    go_enter Try.func17, Try.ntmps17
    go_wp2_with fail
    refine (rbound_v HQ.out).mono ?_
    rintro e w1 ⟨rfl, rfl⟩
    go_wp2_with fail
    go_loopg [10] n2 (fun g k wr => ∃ j : Nat, j + g = n2 ∧ k = .int .i64 (j : Int) ∧ Below w.heap.size w wr)
    case atStart => exact ⟨0, by omega, rfl, (Below.refl _ _).alloc (Nat.le_refl _) _⟩
    case round =>
      obtain ⟨j, hj, rfl, b1⟩ := hrel
      by_cases hlt : j < n2
      · have hlt' : j < spans.length := by rw [HN2.out]; exact hlt
        obtain ⟨b', off, rfl, hc⟩ := (hs.keep b1).at hlt'
        generalize spans[j] = s at *
        have k0 : wr.cell? ⟨b', off + j * 8, none⟩ = some (.int .i64 s.th) := by simpa using hc 0 _ rfl
        have k1 := hc 1 _ rfl
        have k2 := hc 2 _ rfl
        have k3 := hc 3 _ rfl
        have k4 := hc 4 _ rfl
        have k5 := hc 5 _ rfl
        have k6 := hc 6 _ rfl
        have k7 := hc 7 _ rfl
        clear hc
        go_wp2_with fail
        go_roundg (gk - 1)
        case measure => omega
        case rel => exact ⟨j + 1, by omega, by go_num, b1.alloc b1.size _⟩
      · obtain rfl : j = n2 := by omega
        go_wp2_with fail
        go_ret
        exact ⟨rfl, b1⟩
  have hz' : (q == 0) = false := by simpa using hz
  have hbig : heldI th ps picks spans b = spans.all fun s => !lateB picks spans q b s := by
    rw [hh]
    split
    · rename_i hor
      have hlt : (picks.length : Int) < q := hor.resolve_left hz
      symm
      rw [List.all_eq_true]
      intro s _
      have : ¬ (0 ≤ s.fr ∧ s.fr ≤ (picks.length : Int) - q) := by omega
      unfold lateB
      by_cases h1 : 0 ≤ s.fr
      · have h2 : decide (s.fr ≤ (picks.length : Int) - q) = false := decide_eq_false (fun h2 => this ⟨h1, h2⟩)
        rw [h2]; simp
      · rw [decide_eq_false h1]; simp
    · rfl
  rw [hbig]
  clear hh hz hbig
  go_enter Try.func17, Try.ntmps17
  go_wp2_with fail
  refine (rbound_v HQ.out).mono ?_
  rintro e w1 ⟨rfl, rfl⟩
  go_wp2_with fail
  go_loopg [10] n2 (fun g k wr => ∃ j : Nat, j + g = n2 ∧ k = .int .i64 (j : Int) ∧ Below w.heap.size w wr ∧ Hid (∀ i, (h : i < spans.length) → i < j → lateB picks spans q b spans[i] = false))
  case atStart => exact ⟨0, by omega, rfl, (Below.refl _ _).alloc (Nat.le_refl _) _, Lib.hid fun i _ hi => by omega⟩
  case round =>
    obtain ⟨j, hj, rfl, b1, HJ⟩ := hrel
    by_cases hlt : j < n2
    · have hlt' : j < spans.length := by rw [HN2.out]; exact hlt
      obtain ⟨s, hse⟩ : ∃ s, spans[j] = s := ⟨_, rfl⟩
      have hok := hs.ok _ (List.getElem_mem hlt')
      obtain ⟨b', off, rfl, hcc⟩ := (hs.keep b1).at hlt'
      have HJ3 : Hid (lateB picks spans q b s = false → ∀ i, (h : i < spans.length) → i < j + 1 → lateB picks spans q b spans[i] = false) := Lib.hid fun h i hi hij => by
        by_cases e : i = j
        · subst e; rw [hse]; exact h
        · exact HJ.out i hi (by omega)
      have HA : Hid (lateB picks spans q b s = true → (spans.all fun s => !lateB picks spans q b s) = false) := Lib.hid fun h => by
        rw [← hse] at h
        cases ha : (spans.all fun s => !lateB picks spans q b s) with
        | false => rfl
        | true =>
          have := List.all_eq_true.1 ha _ (List.getElem_mem hlt')
          rw [h] at this
          cases this
      rw [hse] at hcc hok
      clear hse HJ
      obtain ⟨th', sq, ok, ov, rc, rv, sf, st⟩ := s
      dsimp only [spanIn] at *
      have k0 : wr.cell? ⟨b', off + j * 8, none⟩ = some (.int .i64 th') := by simpa using hcc 0 _ rfl
      have k1 := hcc 1 _ rfl
      have k2 := hcc 2 _ rfl
      have k3 := hcc 3 _ rfl
      have k4 := hcc 4 _ rfl
      have k5 := hcc 5 _ rfl
      have k6 := hcc 6 _ rfl
      have k7 := hcc 7 _ rfl
      obtain ⟨f0, f1⟩ := wf_i64' hok.fr
      dsimp only at f0 f1
      clear hcc hok
      by_cases h1 : 0 ≤ sf
      · have d1 : decide (0 ≤ sf) = true := decide_eq_true h1
        by_cases h2 : sf ≤ (n : Int) - q
        · have d2 : decide (sf ≤ (n : Int) - q) = true := decide_eq_true h2
          by_cases h3 : st < 0
          · have d3 : decide (st < 0) = true := decide_eq_true h3
            obtain ⟨v, hv⟩ : ∃ v, fairI picks spans sf (sf + q) b = v := ⟨_, rfl⟩
            have hl : lateB picks spans q b ⟨th', sq, ok, ov, rc, rv, sf, st⟩ = v := by unfold lateB; rw [HN.out]; (first | (simp only [d1, d2, d3, d4, hv]; simp; done) | (simp only [d1, d2, d3, hv]; simp))
            rw [hl] at HJ3 HA
            have HV := Lib.hid hv
            clear hv hl
            cases v with
            | true =>
              have HA2 := Lib.hid (HA.out rfl)
              clear HA HJ3
              go_wp2_with fail
              refine (rfair_v (hp.keep (b1.alloc b1.size _)) hc hcm (hs.keep (b1.alloc b1.size _)) (by omega) (by omega) hb HV.out).mono ?_
              rintro e w5 ⟨rfl, b5⟩
              go_wp2_with fail
              go_ret
              exact ⟨by (first | (rw [HA2.out]; done) | (rw [HA2.out]; rfl)), (b1.alloc b1.size _).trans (b5.mono (by simp; have := b1.size; omega))⟩
            | false =>
              have HJ4 := Lib.hid (HJ3.out rfl)
              clear HA HJ3
              go_wp2_with fail
              refine (rfair_v (hp.keep (b1.alloc b1.size _)) hc hcm (hs.keep (b1.alloc b1.size _)) (by omega) (by omega) hb HV.out).mono ?_
              rintro e w5 ⟨rfl, b5⟩
              have b6 : Below w.heap.size w w5 := (b1.alloc b1.size _).trans (b5.mono (by simp; have := b1.size; omega))
              go_wp2_with fail
              go_roundg (gk - 1)
              case measure => omega
              case rel => exact ⟨j + 1, by omega, by go_num, b6, HJ4⟩
          · have d3 : decide (st < 0) = false := decide_eq_false h3
            by_cases h4 : sf + q ≤ st
            · have d4 : decide (sf + q ≤ st) = true := decide_eq_true h4
              obtain ⟨v, hv⟩ : ∃ v, fairI picks spans sf (sf + q) b = v := ⟨_, rfl⟩
              have hl : lateB picks spans q b ⟨th', sq, ok, ov, rc, rv, sf, st⟩ = v := by unfold lateB; rw [HN.out]; (first | (simp only [d1, d2, d3, d4, hv]; simp; done) | (simp only [d1, d2, d3, hv]; simp))
              rw [hl] at HJ3 HA
              have HV := Lib.hid hv
              clear hv hl
              cases v with
              | true =>
                have HA2 := Lib.hid (HA.out rfl)
                clear HA HJ3
                go_wp2_with fail
                refine (rfair_v (hp.keep (b1.alloc b1.size _)) hc hcm (hs.keep (b1.alloc b1.size _)) (by omega) (by omega) hb HV.out).mono ?_
                rintro e w5 ⟨rfl, b5⟩
                go_wp2_with fail
                go_ret
                exact ⟨by (first | (rw [HA2.out]; done) | (rw [HA2.out]; rfl)), (b1.alloc b1.size _).trans (b5.mono (by simp; have := b1.size; omega))⟩
              | false =>
                have HJ4 := Lib.hid (HJ3.out rfl)
                clear HA HJ3
                go_wp2_with fail
                refine (rfair_v (hp.keep (b1.alloc b1.size _)) hc hcm (hs.keep (b1.alloc b1.size _)) (by omega) (by omega) hb HV.out).mono ?_
                rintro e w5 ⟨rfl, b5⟩
                have b6 : Below w.heap.size w w5 := (b1.alloc b1.size _).trans (b5.mono (by simp; have := b1.size; omega))
                go_wp2_with fail
                go_roundg (gk - 1)
                case measure => omega
                case rel => exact ⟨j + 1, by omega, by go_num, b6, HJ4⟩
            · have d4 : decide (sf + q ≤ st) = false := decide_eq_false h4
              have HJ4 := Lib.hid (HJ3.out (by unfold lateB; rw [HN.out]; simp only [d1, d2, d3, d4]; simp))
              clear HJ3 HA
              go_wp2_with fail
              go_roundg (gk - 1)
              case measure => omega
              case rel => exact ⟨j + 1, by omega, by go_num, b1.alloc b1.size _, HJ4⟩
        · have d2 : decide (sf ≤ (n : Int) - q) = false := decide_eq_false h2
          have HJ4 := Lib.hid (HJ3.out (by unfold lateB; rw [HN.out]; simp only [d1, d2]; simp))
          clear HJ3 HA
          go_wp2_with fail
          go_roundg (gk - 1)
          case measure => omega
          case rel => exact ⟨j + 1, by omega, by go_num, b1.alloc b1.size _, HJ4⟩
      · have d1 : decide (0 ≤ sf) = false := decide_eq_false h1
        have HJ4 := Lib.hid (HJ3.out (by unfold lateB; rw [HN.out]; simp only [d1]; simp))
        clear HJ3 HA
        go_wp2_with fail
        go_roundg (gk - 1)
        case measure => omega
        case rel => exact ⟨j + 1, by omega, by go_num, b1.alloc b1.size _, HJ4⟩
    · obtain rfl : j = n2 := by omega
      have HA : Hid ((spans.all fun s => !lateB picks spans q b s) = true) := Lib.hid (List.all_eq_true.2 fun s hs => by
        obtain ⟨i, hi, rfl⟩ := List.getElem_of_mem hs
        rw [HJ.out i hi (by have := HN2.out; omega)]
        rfl)
      go_wp2_with fail
      go_ret
      exact ⟨by (first | (rw [HA.out]; done) | (rw [HA.out]; rfl)), b1⟩
theorem rheld_v {w : World} {ob th cap age ps : Int} {pl : Bool} {A : Option Addr} {n c : Nat} {picks : List Int} (hp : Picks w A n picks) (hc : n ≤ c) (hcm : c ≤ maxLen) {A2 : Option Addr} {n2 c2 : Nat} {spans : List Span} (hs : Spans w A2 n2 spans) {b : Int} (hb : -9223372036854775808 ≤ b ∧ b ≤ 9223372036854775807) {v : Bool} (hv : heldI th ps picks spans b = v) :
    Calls Try.prog 17 #[confV ob th cap age ps pl, .slice A n c, .slice A2 n2 c2, .int .i64 b] w fun e w' => e = .returned (.bool v) ∧ Below w.heap.size w w' := by
  subst hv
  exact rheld_any w ob th cap age ps pl A n c picks hp hc hcm A2 n2 c2 spans hs b hb
end Go.Proofs.Ytmcnccfbligeaaa
