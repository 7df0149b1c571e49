/-
  Rounds of picks, and the chapter's example: the walks.
-/
import Derived.Test.YtefenbmchfbohaaScrD
namespace Go.Proofs.Ytefenbmchfbohaa
open Go.RowKit Go.Rp

/-- The entries of rounds. -/
def roundsL (t m : Int) : List Ent := if t < 1 ∨ m < 1 ∨ t * m > 20000 then [] else (List.range (t * m).toNat).map (roundE t.toNat)
theorem newsl_nil (w : World) (e sz : Nat) : NewSl w e sz 0 [] (.returned (.slice none 0 0)) w := ⟨none, 0, rfl, Sl.nil _ _ _ _, Below.refl _ _⟩

theorem rounds_less (w : World) (t m : Int) (h : t < 1 ∨ m < 1) : Calls Try.prog 13 #[.int .i64 t, .int .i64 m] w (NewSl w 30 5 0 []) := by
  by_cases h1 : t < 1
  · go_enter Try.func13, Try.ntmps13
    go_wp2
    go_ret
    exact newsl_nil _ _ _
  · have h2 : m < 1 := by omega
    go_enter Try.func13, Try.ntmps13
    go_wp2
    go_ret
    exact newsl_nil _ _ _
theorem rounds_more (w : World) (t m : Int) (h1 : ¬ t < 1) (h2 : ¬ m < 1) (h : t * m > 20000) (hw : (Lit.int .i64 t).wf = true) : Calls Try.prog 13 #[.int .i64 t, .int .i64 m] w (NewSl w 30 5 0 []) := by
  have h0 : ¬ t = 0 := by omega
  have h3 : Int.tdiv 20000 t < m := by
    rw [Int.tdiv_eq_ediv_of_nonneg (by omega)]
    refine Int.ediv_lt_of_lt_mul (by omega) ?_
    rw [Int.mul_comm]; exact h
  have h4 : IntKind.i64.wrap (Int.tdiv 20000 t) = Int.tdiv 20000 t := by
    have : 0 ≤ Int.tdiv 20000 t := Int.tdiv_nonneg (by omega) (by omega)
    have h5 : Int.tdiv 20000 t ≤ 20000 := by rw [Int.tdiv_eq_ediv_of_nonneg (by omega)]; exact Int.ediv_le_self _ (by omega)
    exact IntWalk.i64_in _ (by omega)
  go_enter Try.func13, Try.ntmps13
  go_wp2
  go_ret
  exact newsl_nil _ _ _

set_option maxHeartbeats 1000000 in
theorem rounds_yes (w : World) (t m N : Nat) (h1 : 1 ≤ t) (h2 : 1 ≤ m) (hN : t * m = N) (hN1 : N ≤ 20000) : Calls Try.prog 13 #[.int .i64 (t : Int), .int .i64 (m : Int)] w (NewSl w 30 5 N (((List.range N).map (roundE t)).flatMap entIn)) := by
  obtain ⟨i0, hi0, hz0, hz1, hz2⟩ := info_parts info_ent
  have ht2 : t ≤ 20000 := by rw [← Nat.mul_one t]; exact Nat.le_trans (Nat.mul_le_mul_left t h2) (by omega)
  have hm2 : m ≤ 20000 := by rw [← Nat.one_mul m]; exact Nat.le_trans (Nat.mul_le_mul_right m h1) (by omega)
  have h0 : ¬ (t : Int) = 0 := by omega
  obtain ⟨q, hq⟩ : ∃ q, 20000 / t = q := ⟨_, rfl⟩
  have hqm : m ≤ q := by rw [← hq]; exact (Nat.le_div_iff_mul_le h1).2 (by rw [Nat.mul_comm]; omega)
  have hq2 : q ≤ 20000 := by rw [← hq]; exact Nat.div_le_self _ _
  have h3 : Int.tdiv 20000 (t : Int) = (q : Int) := by rw [← hq]; rfl
  have h4 : IntKind.i64.wrap (q : Int) = (q : Int) := IntWalk.i64_in _ (by omega)
  have hle : ¬ (q : Int) < (m : Int) := by omega
  have h5 : ¬ (t : Int) < 1 := by omega
  have h6 : ¬ (m : Int) < 1 := by omega
  have HN := Lib.hid hN
  clear hN hq
  go_enter Try.func13, Try.ntmps13
  go_wp2_with fail
  go_loopg [5, 20] t (fun gk v k wr => ∃ (j : Nat) (A' : Option Addr) (c' : Nat), j + gk = t ∧ k = .int .i64 (j : Int) ∧ v = .slice A' j c' ∧ Sl wr 30 5 A' j c' (((List.range j).map fun (i : Nat) => ((2, (i : Int), 0, 0, 0) : Ent)).flatMap entIn) (fun b => w.heap.size ≤ b) ∧ Below w.heap.size w wr)
  case atStart => exact ⟨0, none, 0, by omega, rfl, rfl, Sl.nil _ _ _ _, Below.refl _ _⟩
  case round =>
    obtain ⟨j, A', c', hj, rfl, rfl, hs, hb⟩ := hrel
    by_cases hlt : j < t
    · have hle := hb.size
      go_wp2_with (at_builtin; refine wpList_append_sl _ rfl (.tmp 23) (.tmp 26) _ rfl 30 i0 _ 5 32 Try.underlying22 hi0 hz0 hz1 hz2 rfl (by omega) A' j c' _ _ rfl (by exact hs.alloc _) (· = wr.heap.size) (some ⟨wr.heap.size, 0, none⟩) 1 1 (entIn (2, (j : Int), 0, 0, 0)) rfl (by exact Rd.lit (sz := 5) wr _ #[.int .u8 2, .int .i64 (j : Int), .int .u8 0, .int .i32 0, .int .u8 0] 1 rfl) (ent1_one _) (by simp only [maxLen]; omega) (by omega) ?_; intro A3 c3 w3 hown3 hmod3)
      go_roundg (gk - 1)
      case measure => omega
      case rel =>
        have hz := hmod3.size
        simp at hz
        refine ⟨j + 1, A3, c3, by omega, by go_num, rfl, ?_, (hb.alloc hle _).trans (hmod3.below (by simp; omega) fun b hb => hb)⟩
        rw [List.range_succ, List.map_append, List.flatMap_append]
        refine (hown3.mono fun b hb => ?_)
        rcases hb with hb | hb
        · exact hb
        · have := hb.1; simp at this; omega
    · obtain rfl : j = t := by omega
      have hrd := hs.rd
      have hll : ((List.range j).map fun (i : Nat) => ((2, (i : Int), 0, 0, 0) : Ent)).length = j := by simp
      have hrep := Repeat_any wr A' j c' m N _ _ hll hrd h1 h2 ht2 hm2 HN.out hN1
      go_wp2_with fail
      refine hrep.mono ?_
      rintro e w5 ⟨A5, c5, rfl, hs5, hb5⟩
      go_wp2_with fail
      go_ret
      have hz := hb.size
      refine ⟨A5, c5, rfl, ?_, hb.trans (hb5.mono hz)⟩
      rw [rep_round j N h1 _ rfl (repE ((List.range j).map fun (i : Nat) => ((2, (i : Int), 0, 0, 0) : Ent))) (fun i => rfl)] at hs5
      exact hs5.mono fun b hb => ⟨by omega, hb.2⟩
theorem rounds_any (w : World) (t m : Int) (ht : (Lit.int .i64 t).wf = true) : Calls Try.prog 13 #[.int .i64 t, .int .i64 m] w (NewSl w 30 5 (roundsL t m).length ((roundsL t m).flatMap entIn)) := by
  by_cases h1 : t < 1
  · rw [show roundsL t m = [] from if_pos (.inl h1)]
    exact rounds_less w t m (.inl h1)
  · by_cases h2 : m < 1
    · rw [show roundsL t m = [] from if_pos (.inr (.inl h2))]
      exact rounds_less w t m (.inr h2)
    · by_cases h3 : t * m > 20000
      · rw [show roundsL t m = [] from if_pos (.inr (.inr h3))]
        exact rounds_more w t m h1 h2 h3 ht
      · rw [show roundsL t m = (List.range (t * m).toNat).map (roundE t.toNat) from if_neg (by omega)]
        obtain ⟨t', rfl⟩ := Int.eq_ofNat_of_zero_le (show 0 ≤ t by omega)
        obtain ⟨m', rfl⟩ := Int.eq_ofNat_of_zero_le (show 0 ≤ m by omega)
        have hN : ((t' : Int) * (m' : Int)).toNat = t' * m' := by rw [← Int.natCast_mul, Int.toNat_natCast]
        rw [hN, Int.toNat_natCast, List.length_map, List.length_range]
        refine rounds_yes w t' m' _ (by omega) (by omega) rfl ?_
        rw [← hN]
        omega

theorem known_any (w : World) : Calls Try.prog 10 #[] w fun e w' => e = .returned (.bool true) ∧ Below w.heap.size w w' := by
  have h1 := Rd.lit (sz := 1) w 5 #[.int .u8 1, .int .u8 0, .int .u8 1, .int .u8 7, .int .u8 2, .int .u8 0, .int .u8 0, .int .u8 0, .int .u8 9] 9 rfl
  have hd := decode_any (w.alloc (.cells #[.int .u8 1, .int .u8 0, .int .u8 1, .int .u8 7, .int .u8 2, .int .u8 0, .int .u8 0, .int .u8 0, .int .u8 9] 5)) (some ⟨w.heap.size, 0, none⟩) 9 9 _ [1, 0, 1, 7, 2, 0, 0, 0, 9] rfl (by omega) h1 (by omega) (by intro x hx; simp at hx; omega)
  have hdl : decL [1, 0, 1, 7, 2, 0, 0, 0, 9] = [(1, 0, 1, 7, 0), (2, 0, 0, 0, 0)] := by decide
  rw [hdl] at hd
  clear hdl h1
  go_enter Try.func10, Try.ntmps10
  go_wp2_with fail
  refine hd.mono ?_
  rintro e w1 ⟨A1, c1, rfl, hs1, hb1⟩
  have hb1 : Below w.heap.size w w1 := ((Below.refl _ w).alloc (Nat.le_refl _) _).trans (hb1.mono (by simp))
  have hsm := Same_any (w1.alloc (.cells #[.int .u8 1, .int .i64 0, .int .u8 1, .int .i32 7, .int .u8 0, .int .u8 2, .int .i64 0, .int .u8 0, .int .i32 0, .int .u8 0] 30)) A1 (some ⟨w1.heap.size, 0, none⟩) 2 2 c1 2 _ _ [(1, 0, 1, 7, 0), (2, 0, 0, 0, 0)] [(1, 0, 1, 7, 0), (2, 0, 0, 0, 0)] (hs1.rd.alloc _) (Rd.lit (sz := 5) w1 30 #[.int .u8 1, .int .i64 0, .int .u8 1, .int .i32 7, .int .u8 0, .int .u8 2, .int .i64 0, .int .u8 0, .int .i32 0, .int .u8 0] 2 rfl) rfl rfl (by omega) (by omega)
  rw [decide_eq_true rfl] at hsm
  go_wp2_with fail
  refine hsm.mono ?_
  rintro e w2 ⟨rfl, hb2⟩
  have hb2 : Below w.heap.size w w2 := hb1.trans (((Below.refl _ w1).alloc (Nat.le_refl _) _).trans (hb2.mono (by simp)) |>.mono hb1.size)
  go_wp2_with fail
  refine (rounds_yes w2 2 3 6 (by omega) (by omega) rfl (by omega)).mono ?_
  rintro e w3 ⟨A3, c3, rfl, hs3, hb3⟩
  have hb3 : Below w.heap.size w w3 := hb2.trans (hb3.mono hb2.size)
  clear hs1 hs3 hsm hd
  go_wp2_with fail
  go_ret
  exact ⟨rfl, hb3⟩
end Go.Proofs.Ytefenbmchfbohaa
