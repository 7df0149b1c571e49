/-
  Values that rise: slices.IsSorted, the document's Rises.
-/
import Derived.Test.YtpelpbnmjciheaaSkipI
namespace Go.Proofs.Ytpelpbnmjciheaa
open Go.RowKit Go.Rp

/-- Does none come behind a greater one? -/
def upB : List Int → Bool
  | a :: b :: l => decide (a ≤ b) && upB (b :: l)
  | _ => true
theorem upB_iff : ∀ xs : List Int, upB xs = true ↔ ∀ i, (h : i + 1 < xs.length) → xs[i] ≤ xs[i + 1]
  | [] => by simp [upB]
  | [a] => by simp [upB]
  | a :: b :: l => by
    rw [upB, Bool.and_eq_true, decide_eq_true_iff, upB_iff (b :: l)]
    constructor
    · rintro ⟨h1, h2⟩ i h
      rcases i with _ | i
      · exact h1
      · exact h2 i (by simpa using h)
    · intro h
      exact ⟨h 0 (by simp), fun i hi => h (i + 1) (by simpa using hi)⟩
theorem upB_false {xs : List Int} {i : Nat} (h : i + 1 < xs.length) (hlt : xs[i + 1] < xs[i]) : upB xs = false := by
  rw [Bool.eq_false_iff]
  intro e
  have := (upB_iff xs).1 e i h
  omega
theorem upB_le {xs : List Int} (h : upB xs = true) {i j : Nat} (hij : i ≤ j) (hj : j < xs.length) : xs[i] ≤ xs[j] := by
  induction j with
  | zero => obtain rfl : i = 0 := by omega
            exact Int.le_refl _
  | succ j ih =>
    rcases Nat.lt_or_ge i (j + 1) with hlt | hge
    · have h1 := ih (by omega) (by omega)
      have h2 := (upB_iff xs).1 h j hj
      omega
    · obtain rfl : i = j + 1 := by omega
      exact Int.le_refl _

theorem nan_any (w : World) (a : Int) : Calls Try.prog 35 #[.int .i32 a] w fun e w' => e = .returned (.bool false) ∧ ∃ nq, w' = w.drewN nq := by
  go_enter Try.func35, Try.ntmps35
  go_wp2
  go_ret
  exact ⟨by simp, 0, rfl⟩
theorem less_any (w : World) (a b : Int) : Calls Try.prog 34 #[.int .i32 a, .int .i32 b] w fun e w' => e = .returned (.bool (decide (a < b))) ∧ ∃ nq, w' = w.drewN nq := by
  go_enter Try.func34, Try.ntmps34
  go_wp2_with fail
  refine (nan_any w a).mono ?_
  rintro e w1 ⟨rfl, nq, rfl⟩
  go_wp2_with fail
  go_ret
  exact ⟨rfl, nq, rfl⟩

theorem sorted_any (w : World) (A : Option Addr) (n c : Nat) (R : Nat → Prop) (xs : List Int) (hr : Rd w R 1 A n (iv xs)) (hn : n ≤ 100000) :
    Calls Try.prog 33 #[.slice A n c] w fun e w' => e = .returned (.bool (upB xs)) ∧ ∃ nq, w' = w.drewN nq := by
  have hl : xs.length = n := by simpa using hr.1
  have HL := Lib.hid hl
  clear hl
  have hwn : IntKind.i64.wrap ((n : Int) - 1) = (n : Int) - 1 := IntWalk.i64_in _ (by omega)
  go_enter Try.func33, Try.ntmps33
  go_wp2_with fail
  go_loopg [3] n (fun g k wr => ∃ (z : Int) (nq : Nat), g ≤ n ∧ z = (g : Int) - 1 ∧ k = .int .i64 z ∧ wr = w.drewN nq ∧ Hid (∀ j, g - 1 ≤ j → (h : j + 1 < xs.length) → xs[j] ≤ xs[j + 1]))
  case atStart => exact ⟨(n : Int) - 1, 0, Nat.le_refl _, rfl, rfl, rfl, Lib.hid fun j hj h => by have := HL.out; omega⟩
  case round =>
    obtain ⟨z, nq, hg, hz, rfl, rfl, hup⟩ := hrel
    rcases gk with _ | _ | m
    · obtain rfl : z = -1 := by omega
      have hup2 : upB xs = true := (upB_iff xs).2 fun i h => hup.out i (by omega) h
      have HU := Lib.hid hup2
      clear hz hup2
      go_wp2_with fail
      go_ret
      rw [HU.out]
      exact ⟨rfl, nq, rfl⟩
    · obtain rfl : z = 0 := by omega
      have hup2 : upB xs = true := (upB_iff xs).2 fun i h => hup.out i (by omega) h
      have HU := Lib.hid hup2
      clear hz hup2
      go_wp2_with fail
      go_ret
      rw [HU.out]
      exact ⟨rfl, nq, rfl⟩
    · obtain rfl : z = (m : Int) + 1 := by omega
      clear hz
      obtain ⟨b, off, rfl, _, hcells⟩ := hr.at (by omega)
      have hm1 : m + 1 < xs.length := by rw [HL.out]; omega
      have g1 : (w.drewN nq).cell? ⟨b, off + (m + 1), none⟩ = some (.int .i32 xs[m + 1]) := hcells (m + 1) _ (by simp [hm1])
      have g0 : (w.drewN nq).cell? ⟨b, off + m, none⟩ = some (.int .i32 xs[m]) := hcells m _ (by simp [show m < xs.length by omega])
      obtain ⟨x1, hx1⟩ : ∃ x, xs[m + 1] = x := ⟨_, rfl⟩
      obtain ⟨x0, hx0⟩ : ∃ x, xs[m] = x := ⟨_, rfl⟩
      rw [hx1] at g1
      rw [hx0] at g0
      have HX1 := Lib.hid hx1
      have HX0 := Lib.hid hx0
      have HM := Lib.hid hm1
      clear hx1 hx0 hcells
      obtain ⟨wr, hwr⟩ : ∃ wr, w.drewN nq = wr := ⟨_, rfl⟩
      rw [hwr] at g1 g0 ⊢
      have HWR := Lib.hid hwr
      clear hwr
      have hw1 : IntKind.i64.wrap ((m : Int) + 1 - 1) = (m : Int) := by rw [Int.add_sub_cancel]; exact IntWalk.i64_in _ (by omega)
      have hmi : (m : Int) < (n : Int) := by omega
      have hw2 : IntKind.i64.wrap (m : Int) = (m : Int) := IntWalk.i64_in _ (by omega)
      have hmn : m < n := by omega
      have hm00 : (0 : Int) ≤ (m : Int) := by omega
      have hm01 : (0 : Int) ≤ (m : Int) + 1 := by omega
      have hmi1 : (m : Int) + 1 < (n : Int) := by omega
      go_wp2_with fail
      go_region_held3 (fun w' => w'.cell? ⟨b, off + (m + 1), none⟩ = some (.int .i32 x1) ∧ w'.cell? ⟨b, off + m, none⟩ = some (.int .i32 x0)) (first | (refine ⟨?_, ?_⟩ <;> assumption) | go_keep) ((go_at_call 34; refine (less_any _ x1 x0).mono ?_; rintro e w5 ⟨rfl, n5, rfl⟩))
      have hwn2 : ∃ n6, wr.drewN (1 + n5) = w.drewN n6 := ⟨nq + (1 + n5), by rw [← HWR.out, World.drewN_drewN]⟩
      have HWN := Lib.hid hwn2
      clear hwn2
      by_cases hx : x1 < x0
      · have hub : upB xs = false := upB_false HM.out (by rw [HX1.out, HX0.out]; exact hx)
        have HU := Lib.hid hub
        clear hub
        go_wp2_with fail
        go_ret
        rw [HU.out]
        exact ⟨rfl, HWN.out⟩
      · have hge : x0 ≤ x1 := by omega
        go_wp2_with fail
        go_roundg (m + 1)
        case measure => omega
        case rel =>
          obtain ⟨n6, e6⟩ := HWN.out
          refine ⟨(m : Int), n6, by omega, by omega, by go_num, e6, Lib.hid fun j hj h => ?_⟩
          by_cases hjm : j = m
          · subst hjm; rw [HX1.out, HX0.out]; exact hge
          · exact hup.out j (by omega) h
theorem rises_any (w : World) (A : Option Addr) (n c : Nat) (R : Nat → Prop) (xs : List Int) (hr : Rd w R 1 A n (iv xs)) (hn : n ≤ 100000) :
    Calls Try.prog 32 #[.slice A n c] w fun e w' => e = .returned (.bool (upB xs)) ∧ ∃ nq, w' = w.drewN nq := by
  have hl : xs.length = n := by simpa using hr.1
  have HL := Lib.hid hl
  clear hl
  go_enter Try.func32, Try.ntmps32
  go_wp2_with fail
  go_loopg [3] (n + 1) (fun g k wr => ∃ (m nq : Nat), m + g = n + 1 ∧ k = .int .i64 ((m : Int) + 1) ∧ wr = w.drewN nq ∧ Hid (∀ j, j < m → (h : j + 1 < xs.length) → xs[j] ≤ xs[j + 1]))
  case atStart => exact ⟨0, 0, by omega, rfl, rfl, Lib.hid fun j hj h => by omega⟩
  case round =>
    obtain ⟨m, n0, hg, rfl, rfl, hup⟩ := hrel
    by_cases hlt : m + 1 < n
    · obtain ⟨b, off, rfl, _, hcells⟩ := hr.at (by omega)
      have hm1 : m + 1 < xs.length := by rw [HL.out]; omega
      have g1 : (w.drewN n0).cell? ⟨b, off + (m + 1), none⟩ = some (.int .i32 xs[m + 1]) := hcells (m + 1) _ (by simp [hm1])
      have g0 : (w.drewN n0).cell? ⟨b, off + m, none⟩ = some (.int .i32 xs[m]) := hcells m _ (by simp [show m < xs.length by omega])
      obtain ⟨x1, hx1⟩ : ∃ x, xs[m + 1] = x := ⟨_, rfl⟩
      obtain ⟨x0, hx0⟩ : ∃ x, xs[m] = x := ⟨_, rfl⟩
      rw [hx1] at g1
      rw [hx0] at g0
      have HX1 := Lib.hid hx1
      have HX0 := Lib.hid hx0
      have HM := Lib.hid hm1
      clear hx1 hx0 hcells
      obtain ⟨wr, hwr⟩ : ∃ wr, w.drewN n0 = wr := ⟨_, rfl⟩
      rw [hwr] at g1 g0 ⊢
      have HWR := Lib.hid hwr
      clear hwr
      have hw1 : IntKind.i64.wrap ((m : Int) + 1 - 1) = (m : Int) := by rw [Int.add_sub_cancel]; exact IntWalk.i64_in _ (by omega)
      have hw2 : IntKind.i64.wrap (m : Int) = (m : Int) := IntWalk.i64_in _ (by omega)
      have hmi : (m : Int) < (n : Int) := by omega
      have hmn : m < n := by omega
      have hm00 : (0 : Int) ≤ (m : Int) := by omega
      have hm01 : (0 : Int) ≤ (m : Int) + 1 := by omega
      have hmi1 : (m : Int) + 1 < (n : Int) := by omega
      by_cases hx : x1 < x0
      · have hub : upB xs = false := upB_false HM.out (by rw [HX1.out, HX0.out]; exact hx)
        have HU := Lib.hid hub
        clear hub
        go_wp2_with fail
        go_quiet (fail)
        go_wp2_with fail
        go_ret
        rw [HU.out]
        exact ⟨rfl, n0 + nq, by rw [← HWR.out, World.drewN_drewN]⟩
      · have hge : x0 ≤ x1 := by omega
        go_wp2_with fail
        go_quiet (fail)
        go_wp2_with fail
        go_roundg (n - m)
        case measure => omega
        case rel =>
          refine ⟨m + 1, _, by omega, by go_num, by rw [← HWR.out, World.drewN_drewN], Lib.hid fun j hj h => ?_⟩
          by_cases hjm : j = m
          · subst hjm; rw [HX1.out, HX0.out]; exact hge
          · exact hup.out j (by omega) h
    · have hge : (n : Int) ≤ (m : Int) + 1 := by omega
      have hup2 : upB xs = true := (upB_iff xs).2 fun i h => hup.out i (by have := HL.out; omega) h
      have HU := Lib.hid hup2
      clear hup2
      go_wp2_with fail
      go_ret
      rw [HU.out]
      exact ⟨rfl, n0, rfl⟩
end Go.Proofs.Ytpelpbnmjciheaa
