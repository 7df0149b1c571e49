/-
  The document's own: Session, Bound, waits, Place, Fair, Held.
-/
import Derived.Test.YtmcnccfbligeaaaFairH
import Derived.Deep.RegionHeld3
import Derived.Deep.RegionWith
namespace Go.Proofs.Ytmcnccfbligeaaa
open Go.RowKit Go.Rp Go.Maps

theorem rsession_any (w : World) (t p : Int) : Calls Try.prog 13 #[.int .i64 t, .int .i64 p] w fun e w' => e = .returned (.int .i64 (sesI t p)) ∧ w = w' := by
  by_cases h : t < 1 ∨ 64 < t ∨ p < 1 ∨ 1000 < p
  · rw [sesI_out h]
    by_cases h1 : t < 1
    · skip
      clear h; go_enter Try.func13, Try.ntmps13; go_wp2; go_ret; exact ⟨rfl, rfl⟩
    · by_cases h2 : 64 < t
      · skip
        clear h; go_enter Try.func13, Try.ntmps13; go_wp2; go_ret; exact ⟨rfl, rfl⟩
      · by_cases h3 : p < 1
        · skip
          clear h; go_enter Try.func13, Try.ntmps13; go_wp2; go_ret; exact ⟨rfl, rfl⟩
        · have h4 : 1000 < p := by omega
          clear h; go_enter Try.func13, Try.ntmps13; go_wp2; go_ret; exact ⟨rfl, rfl⟩
  · have h1 : 1 ≤ t := by omega
    have h2 : t ≤ 64 := by omega
    have h3 : 1 ≤ p := by omega
    have h4 : p ≤ 1000 := by omega
    clear h
    have hp := sesI_prod h1 h2 h3 h4
    have hs := Lib.hid (sesI_in h1 h2 h3 h4)
    obtain ⟨hp1, hp2⟩ := hp
    go_enter Try.func13, Try.ntmps13
    go_wp2
    go_ret
    exact ⟨ret_int (by rw [hs.out]), rfl⟩

theorem rbound_any (w : World) (t b p : Int) : Calls Try.prog 14 #[.int .i64 t, .int .i64 b, .int .i64 p] w fun e w' => e = .returned (.int .i64 (bndI t b p)) ∧ w = w' := by
  have hs := rsession_any w t p
  obtain ⟨s0, s1⟩ := sesI_bd t p
  by_cases h : sesI t p = 0 ∨ b < 1 ∨ 1000000 < b
  · have hb : bndI t b p = 0 := if_pos h
    rw [hb]
    clear hb
    generalize sesI t p = s at *
    by_cases h1 : s = 0
    · subst h1
      clear h
      go_enter Try.func14, Try.ntmps14
      go_wp2_with fail
      refine (hs).mono ?_
      rintro e w1 ⟨rfl, rfl⟩
      go_wp2_with fail
      go_ret
      exact ⟨rfl, rfl⟩
    · have h1' : (s == 0) = false := by simpa using h1
      by_cases h2 : b < 1
      · clear h
        go_enter Try.func14, Try.ntmps14
        go_wp2_with fail
        refine (hs).mono ?_
        rintro e w1 ⟨rfl, rfl⟩
        go_wp2_with fail
        go_ret
        exact ⟨rfl, rfl⟩
      · have h3 : 1000000 < b := by omega
        clear h
        go_enter Try.func14, Try.ntmps14
        go_wp2_with fail
        refine (hs).mono ?_
        rintro e w1 ⟨rfl, rfl⟩
        go_wp2_with fail
        go_ret
        exact ⟨rfl, rfl⟩
  · have hb : bndI t b p = b * (3 * sesI t p + 32) := if_neg h
    have HB := Lib.hid hb
    clear hb
    have h1 : (sesI t p == 0) = false := by simp; omega
    have h2 : 1 ≤ b := by omega
    have h3 : b ≤ 1000000 := by omega
    clear h
    rw [HB.out]
    clear HB
    generalize sesI t p = s at *
    obtain ⟨p0, p1⟩ := bndI_prod s0 s1 h2 h3
    go_enter Try.func14, Try.ntmps14
    go_wp2_with fail
    refine (hs).mono ?_
    rintro e w1 ⟨rfl, rfl⟩
    go_wp2_with fail
    go_ret
    exact ⟨rfl, rfl⟩
theorem rbound_v {w : World} {t b p v : Int} (hv : bndI t b p = v) : Calls Try.prog 14 #[.int .i64 t, .int .i64 b, .int .i64 p] w fun e w' => e = .returned (.int .i64 v) ∧ w = w' := by subst hv; exact rbound_any w t b p
theorem rsession_v {w : World} {t p v : Int} (hv : sesI t p = v) : Calls Try.prog 13 #[.int .i64 t, .int .i64 p] w fun e w' => e = .returned (.int .i64 v) ∧ w = w' := by subst hv; exact rsession_any w t p

set_option maxRecDepth 100000 in
theorem waits_any (w : World) (s : Span) (fr en : Int) :
    Calls Try.prog 31 #[spanV s, .int .i64 fr, .int .i64 en] w fun e w' => e = .returned (.bool (decide (s.fr ≤ fr) && (decide (s.to < 0) || decide (en ≤ s.to)))) ∧ Below w.heap.size w w' := by
  obtain ⟨th, sq, ok, ov, rc, rv, sf, st⟩ := s
  dsimp only
  by_cases h1 : sf ≤ fr
  · have d1 : decide (sf ≤ fr) = true := decide_eq_true h1
    by_cases h2 : st < 0
    · have d2 : decide (st < 0) = true := decide_eq_true h2
      go_enter Try.func31, Try.ntmps31
      go_wp2_with fail
      go_ret
      exact ⟨by (simp_all <;> omega), (Below.refl _ _).alloc (Nat.le_refl _) _⟩
    · have d2 : decide (st < 0) = false := decide_eq_false h2
      by_cases h3 : en ≤ st
      · have d3 : decide (en ≤ st) = true := decide_eq_true h3
        go_enter Try.func31, Try.ntmps31
        go_wp2_with fail
        go_ret
        exact ⟨by (simp_all <;> omega), (Below.refl _ _).alloc (Nat.le_refl _) _⟩
      · have d3 : decide (en ≤ st) = false := decide_eq_false h3
        go_enter Try.func31, Try.ntmps31
        go_wp2_with fail
        go_ret
        exact ⟨by (simp_all <;> omega), (Below.refl _ _).alloc (Nat.le_refl _) _⟩
  · have d1 : decide (sf ≤ fr) = false := decide_eq_false h1
    go_enter Try.func31, Try.ntmps31
    go_wp2_with fail
    go_ret
    exact ⟨by (simp_all <;> omega), (Below.refl _ _).alloc (Nat.le_refl _) _⟩

theorem place_any (w : World) (A : Option Addr) (n c : Nat) (zs : List Int) (R : Nat → Prop) (hr : Rd w R 1 A n (zs.map fun x => Value.int .i64 x)) (hn : zs.length = n) (hm : n ≤ 140737488351232) (x : Int) {v : Bool} (hv : zs.contains x = v) :
    Calls Try.prog 32 #[.slice A n c, .int .i64 x] w fun e w' => ∃ r : Int, e = .returned (.int .i64 r) ∧ decide (r < 0) = !v ∧ w = w' := by
  have HN := Lib.hid hn
  have HV := Lib.hid hv
  clear hn hv
  go_enter Try.func32, Try.ntmps32
  go_wp2_with fail
  go_loopg [5] n (fun g k wr => ∃ m : Nat, m + g = n ∧ k = .int .i64 (m : Int) ∧ w = wr ∧ Hid (∀ i, (h : i < zs.length) → i < m → zs[i] ≠ x))
  case atStart => exact ⟨0, by omega, rfl, rfl, Lib.hid fun i _ hi => by omega⟩
  case round =>
    obtain ⟨m, hm', rfl, rfl, HJ⟩ := hrel
    by_cases hlt : m < n
    · obtain ⟨b, off, rfl, hbR, hcells⟩ := hr.at (by omega)
      have hlt' : m < zs.length := by rw [HN.out]; exact hlt
      have g0 : w.cell? ⟨b, off + m, none⟩ = some (.int .i64 zs[m]) := hcells m _ (by simp [hlt'])
      clear hcells
      by_cases hx : zs[m] = x
      · have hd : (zs[m] == x) = true := by simpa using hx
        have HT : Hid (v = true) := Lib.hid (by rw [← HV.out, ← hx]; simp)
        clear hx
        generalize zs[m] = y at *
        go_wp2_with fail
        go_ret
        exact ⟨_, rfl, by rw [HT.out]; (simp <;> omega), rfl⟩
      · have hd : (zs[m] == x) = false := by simpa using hx
        have HJ2 : Hid (∀ i, (h : i < zs.length) → i < m + 1 → zs[i] ≠ x) := Lib.hid fun i hi hij => by
          by_cases e : i = m
          · subst e; exact hx
          · exact HJ.out i hi (by omega)
        clear hx HJ
        generalize zs[m] = y at *
        go_wp2_with fail
        go_roundg (gk - 1)
        case measure => omega
        case rel => exact ⟨m + 1, by omega, by go_num, rfl, HJ2⟩
    · obtain rfl : m = n := by omega
      have HT : Hid (v = false) := Lib.hid (by
        rw [← HV.out]
        simp only [List.contains_eq_mem, decide_eq_false_iff_not]
        intro hmem
        obtain ⟨i, hi, he⟩ := List.getElem_of_mem hmem
        exact HJ.out i hi (by have := HN.out; omega) he)
      go_wp2_with fail
      go_ret
      exact ⟨_, rfl, by rw [HT.out]; simp, rfl⟩

end Go.Proofs.Ytmcnccfbligeaaa
