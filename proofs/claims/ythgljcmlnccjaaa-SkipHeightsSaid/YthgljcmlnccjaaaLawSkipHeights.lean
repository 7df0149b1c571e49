/-
  The walk of SkipHeights.
-/
import Derived.Test.YthgljcmlnccjaaaSkipI
import Derived.Test.YthgljcmlnccjaaaIn
namespace Go.Proofs.Ythgljcmlnccjaaa
open Go.RowKit Go.Rp

theorem levL_on {q th : Nat} {v : Int} (h : q < th) : levL q [(v, th)] = [v] := by unfold levL; rw [List.filter_cons_of_pos (by simpa using h)]; rfl
theorem levL_off {q th : Nat} {v : Int} (h : ¬ q < th) : levL q [(v, th)] = [] := by unfold levL; rw [List.filter_cons_of_neg (by simpa using h)]; rfl
theorem insL_nil (v : Int) (h : Nat) : insL [] v h = [(v, h)] := rfl

set_option maxRecDepth 100000 in
set_option maxHeartbeats 1000000 in
theorem SkipHeights_walk (w : World) (v : Int) (hv : (Lit.int .i32 v).wf = true) (ht : Int) (hht : (Lit.int .i64 ht).wf = true) (k : Int) (hk : (Lit.int .i8 k).wf = true) :
    Calls Try.prog 3 #[.int .i32 v, .int .i64 ht, .int .i8 k] w fun e w' => e = .returned (.bool true) ∧ Below w.heap.size w w' := by
  have k01 : -128 ≤ k ∧ k ≤ 127 := by
    simpa [Lit.wf, IntKind.min, IntKind.max, IntKind.bits, IntKind.signed] using hk
  have hw1 : IntKind.i64.wrap k = k := IntWalk.i64_in _ (by omega)
  have hle : w.heap.size ≤ w.heap.size := Nat.le_refl _
  have s0 : At w.heap.size w [] := trivial
  have s1 := s0.alloc hle #[.int .i64 ht, .int .i64 k] 3
  have b1 : Below w.heap.size w (w.alloc (.cells #[.int .i64 ht, .int .i64 k] 3)) := (Below.refl _ w).alloc hle _
  clear hv hht hk
  go_enter Try.func3, Try.ntmps3
  go_wp2_with fail
  go_loopg [8] 2 (fun g j wr => ∃ m : Nat, m + g = 2 ∧ j = .int .i64 (m : Int) ∧ At w.heap.size wr (blkR w.heap.size 3 #[.int .i64 ht, .int .i64 k] :: []) ∧ Below w.heap.size w wr)
  case atStart => exact ⟨0, rfl, rfl, s1, b1⟩
  case round =>
    clear s1 b1
    obtain ⟨m, hm, rfl, sr, br⟩ := hrel
    by_cases hlt : m < 2
    · obtain ⟨x, hx⟩ : ∃ x : Int, (#[Value.int .i64 ht, Value.int .i64 k] : Array Value)[m]? = some (.int .i64 x) := by
        match m, hlt with
        | 0, _ => exact ⟨ht, rfl⟩
        | 1, _ => exact ⟨k, rfl⟩
      have hc := (sr.blk.cell m).trans hx
      have hm2 : (m : Int) < 2 := by omega
      have HX := Lib.hid hx
      clear hx
      obtain ⟨a, ha⟩ : ∃ a, min x 8 = a := ⟨_, rfl⟩
      obtain ⟨th, hth⟩ : ∃ th : Nat, tallI x = th := ⟨_, rfl⟩
      have hb : max 1 a = (th : Int) := by rw [← ha, ← hth]; exact clamp_eq (by omega) x
      have e1 := min_ii (k := .i64) ha
      have e2 := max_ii (k := .i64) hb
      have hlo := tallI_le x
      rw [hth] at hlo
      have HTH := Lib.hid hth
      clear ha hb hth
      go_wp2_with fail
      refine (new_s br.size sr 3).mono ?_
      rintro e w2 ⟨p, rfl, s2, b2⟩
      have b2 := br.trans b2
      have hc2 := (s2.rot2.blk.cell m).trans HX.out
      rw [show mostI 3 = 3 by decide] at s2
      clear hc sr br
      go_wp2_with fail
      have hin := insert_s b2.size s2 v x
      simp only [List.length_nil, Nat.zero_lt_succ, decide_true, if_true, HTH.out, insL_nil] at hin
      refine hin.mono ?_
      rintro e w3 ⟨rfl, s3, b3⟩
      have b3 := b2.trans b3
      clear s2 b2 hin hc2
      go_wp2_with fail
      go_loopg [10, 11] 8 (fun g on i wq => ∃ q : Nat, q + g = 8 ∧ i = .int .i64 ((q : Int) + 1) ∧ on = .int .i64 ((Nat.min th q : Nat) : Int) ∧ At w.heap.size wq (skR p 3 [(v, th)] :: blkR w.heap.size 3 #[.int .i64 ht, .int .i64 k] :: []) ∧ Below w.heap.size w wq)
      case atStart => exact ⟨0, rfl, rfl, by simp, s3, b3⟩
      case round =>
        clear s3 b3
        obtain ⟨q, hq, rfl, rfl, sq, bq⟩ := hrel
        by_cases hq8 : q < 8
        · have hq7 : (q : Int) + 1 ≤ 8 := by omega
          have hmn : Nat.min th q ≤ 8 := Nat.le_trans (Nat.min_le_left _ _) hlo.2
          obtain ⟨mn, hmn2⟩ : ∃ mn, Nat.min th q = mn := ⟨_, rfl⟩
          rw [hmn2] at hmn ⊢
          have HMN := Lib.hid hmn2
          clear hmn2
          by_cases hon : q < th
          · go_wp2_with fail
            refine (level_s bq.size sq (k := (q : Int) + 1) rfl hq8 (levL_on hon) (n := 1) rfl).mono ?_
            rintro e w5 ⟨A5, c5, rfl, s5, b5⟩
            have b5 := bq.trans b5
            go_wp2_with fail
            go_roundg (7 - q)
            case measure => omega
            case rel => exact ⟨q + 1, by omega, by go_num, by rw [show Nat.min th (q + 1) = mn + 1 by have := HMN.out; rw [show Nat.min th q = min th q from rfl] at this; rw [show Nat.min th (q + 1) = min th (q + 1) from rfl]; omega]; go_num, s5.drop, b5⟩
          · go_wp2_with fail
            refine (level_s bq.size sq (k := (q : Int) + 1) rfl hq8 (levL_off hon) (n := 0) rfl).mono ?_
            rintro e w5 ⟨A5, c5, rfl, s5, b5⟩
            have b5 := bq.trans b5
            go_wp2_with fail
            go_roundg (7 - q)
            case measure => omega
            case rel => exact ⟨q + 1, by omega, by go_num, by rw [show Nat.min th (q + 1) = mn by have := HMN.out; rw [show Nat.min th q = min th q from rfl] at this; rw [show Nat.min th (q + 1) = min th (q + 1) from rfl]; omega], s5.drop, b5⟩
        · obtain rfl : q = 8 := by omega
          have hmn : Nat.min th 8 = th := Nat.min_eq_left hlo.2
          rw [hmn]
          have hc := (sq.rot2.blk.cell m).trans HX.out
          go_wp2_with fail
          go_roundg (1 - m)
          case measure => omega
          case rel => exact ⟨m + 1, by omega, by go_num, sq.drop, bq⟩
    · obtain rfl : m = 2 := by omega
      go_wp2_with fail
      refine (known_s br.size sr).mono ?_
      rintro e w2 ⟨rfl, s2, b2⟩
      go_wp2_with fail
      go_ret
      exact ⟨rfl, br.trans b2⟩
end Go.Proofs.Ythgljcmlnccjaaa
