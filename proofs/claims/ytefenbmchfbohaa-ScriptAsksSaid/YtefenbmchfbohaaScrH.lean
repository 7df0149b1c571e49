/-
  The document's picks, rounds, and what bytes say: the walks.
-/
import Derived.Test.YtefenbmchfbohaaLawScriptBack
namespace Go.Proofs.Ytefenbmchfbohaa
open Go.RowKit Go.Rp

theorem rPicks_any (w : World) (A : Option Addr) (n c : Nat) (R : Nat → Prop) (l : List Ent) (hn : l.length = n) (hr : Rd w R 5 A n (l.flatMap entIn)) (hlen : n ≤ 100000) :
    Calls Try.prog 19 #[.slice A n c] w fun e w' => e = .returned (.int .i64 (pickN l n : Int)) ∧ Below w.heap.size w w' := by
  have HN := Lib.hid hn
  clear hn
  go_enter Try.func19, Try.ntmps19
  go_wp2_with fail
  go_loopg [3, 4] n (fun g v k wr => ∃ m : Nat, m + g = n ∧ k = .int .i64 (m : Int) ∧ v = .int .i64 ((pickN l m : Nat) : Int) ∧ Below w.heap.size w wr)
  case atStart => exact ⟨0, by omega, rfl, rfl, Below.refl _ _⟩
  case round =>
    obtain ⟨m, hm, rfl, rfl, hb⟩ := hrel
    by_cases hlt : m < n
    · have hml : m < l.length := by rw [HN.out]; exact hlt
      obtain ⟨b, off, rfl, _, hcells⟩ := (hr.kept hb).at (by omega)
      obtain ⟨e0, _⟩ := ent_at l m hml
      have g0 := hcells _ _ e0
      have hp : Hid (pickN l (m + 1) = pickN l m + if l[m].1 = 2 then 1 else 0) := Lib.hid (by simp [pickN, hml])
      have hpl := pickN_le l m
      generalize l[m] = o at *
      generalize pickN l m = q at *
      clear hcells e0
      by_cases ho : o.1 = 2
      · have ho' : (o.1 == 2) = true := by simpa using ho
        have hp2 := Lib.hid (hp.out.trans (by rw [if_pos ho]))
        clear hp ho
        go_wp2_with fail
        go_roundg (gk - 1)
        case measure => omega
        case rel => exact ⟨m + 1, by omega, by go_num, by rw [hp2.out]; go_num, hb⟩
      · have ho' : (o.1 == 2) = false := by simpa using ho
        have hp2 := Lib.hid (hp.out.trans (by rw [if_neg ho]))
        clear hp ho
        go_wp2_with fail
        go_roundg (gk - 1)
        case measure => omega
        case rel => exact ⟨m + 1, by omega, by go_num, by rw [hp2.out]; rfl, hb⟩
    · obtain rfl : m = n := by omega
      go_wp2_with fail
      go_ret
      exact ⟨rfl, hb⟩

theorem rRounds_less (w : World) (t m : Int) (h : t < 1 ∨ m < 1) : Calls Try.prog 24 #[.int .i64 t, .int .i64 m] w (NewSl w 30 5 0 []) := by
  by_cases h1 : t < 1
  · go_enter Try.func24, Try.ntmps24
    go_wp2
    go_ret
    exact newsl_nil _ _ _
  · have h2 : m < 1 := by omega
    go_enter Try.func24, Try.ntmps24
    go_wp2
    go_ret
    exact newsl_nil _ _ _
theorem rRounds_more (w : World) (t m : Int) (h1 : ¬ t < 1) (h2 : ¬ m < 1) (h : t * m > 20000) : Calls Try.prog 24 #[.int .i64 t, .int .i64 m] w (NewSl w 30 5 0 []) := by
  by_cases h3 : 20000 < t
  · clear h
    go_enter Try.func24, Try.ntmps24
    go_wp2
    go_ret
    exact newsl_nil _ _ _
  · by_cases h4 : 20000 < m
    · clear h
      go_enter Try.func24, Try.ntmps24
      go_wp2
      go_ret
      exact newsl_nil _ _ _
    · obtain ⟨p, hp⟩ : ∃ p, t * m = p := ⟨_, rfl⟩
      have hp2 : p ≤ 20000 * 20000 := by rw [← hp]; exact Int.mul_le_mul (by omega) (by omega) (by omega) (by omega)
      have hw : IntKind.i64.wrap (t * m) = p := by rw [hp]; exact IntWalk.i64_in _ (by omega)
      have hp3 : 20000 < p := by omega
      clear h
      clear hp
      go_enter Try.func24, Try.ntmps24
      go_wp2
      go_ret
      exact newsl_nil _ _ _
theorem roundE_at {T k t s : Nat} (h : k * T + t = s) (ht : t < T) : roundE T s = (2, (t : Int), 0, 0, 0) := by
  unfold roundE
  rw [← h, Nat.mul_comm, Nat.mul_add_mod, Nat.mod_eq_of_lt ht]
set_option maxHeartbeats 2000000 in
theorem rRounds_yes (w : World) (t m N : Nat) (h1 : 1 ≤ t) (h2 : 1 ≤ m) (hN : t * m = N) (hN1 : N ≤ 20000) : Calls Try.prog 24 #[.int .i64 (t : Int), .int .i64 (m : Int)] w (NewSl w 30 5 N (((List.range N).map (roundE t)).flatMap entIn)) := by
  obtain ⟨i0, hi0, hz0, hz1, hz2⟩ := info_parts info_ent
  have ht2 : t ≤ 20000 := by rw [← Nat.mul_one t]; exact Nat.le_trans (Nat.mul_le_mul_left t h2) (by omega)
  have hm2 : m ≤ 20000 := by rw [← Nat.one_mul m]; exact Nat.le_trans (Nat.mul_le_mul_right m h1) (by omega)
  have hw : IntKind.i64.wrap ((t : Int) * (m : Int)) = (N : Int) := by
    rw [show (t : Int) * (m : Int) = (N : Int) by rw [← hN]; simp]
    exact IntWalk.i64_in _ (by omega)
  have h5 : ¬ (t : Int) < 1 := by omega
  have h6 : ¬ (m : Int) < 1 := by omega
  have h7 : ¬ 20000 < (t : Int) := by omega
  have h8 : ¬ 20000 < (m : Int) := by omega
  have h9 : ¬ 20000 < (N : Int) := by omega
  have HN := Lib.hid hN
  clear hN
  go_enter Try.func24, Try.ntmps24
  go_wp2_with fail
  go_loopg [5, 6] m (fun gk v k wr => ∃ (j s : Nat) (A' : Option Addr) (c' : Nat), j + gk = m ∧ k = .int .i64 (j : Int) ∧ Hid (j * t = s) ∧ v = .slice A' s c' ∧ Sl wr 30 5 A' s c' (((List.range s).map (roundE t)).flatMap entIn) (fun b => w.heap.size ≤ b) ∧ Below w.heap.size w wr)
  case atStart => exact ⟨0, 0, none, 0, by omega, rfl, Lib.hid (by simp), rfl, Sl.nil _ _ _ _, Below.refl _ _⟩
  case round =>
    obtain ⟨j, s, A', c', hj, rfl, hs0, rfl, hs, hb⟩ := hrel
    by_cases hlt : j < m
    · go_wp2_with fail
      go_loopg [5, 7] t (fun g2 v k wr => ∃ (i s : Nat) (A' : Option Addr) (c' : Nat), i + g2 = t ∧ k = .int .i64 (i : Int) ∧ Hid (j * t + i = s) ∧ v = .slice A' s c' ∧ Sl wr 30 5 A' s c' (((List.range s).map (roundE t)).flatMap entIn) (fun b => w.heap.size ≤ b) ∧ Below w.heap.size w wr)
      case atStart => exact ⟨0, s, A', c', by omega, rfl, Lib.hid hs0.out, rfl, hs, hb⟩
      case round =>
        clear hs hs0 hb
        obtain ⟨i, s, A', c', hi, rfl, hs0, rfl, hs, hb⟩ := hrel
        by_cases hlt2 : i < t
        · have hle := hb.size
          have hsN : s < 20000 := by
            have h3 : (j + 1) * t ≤ m * t := Nat.mul_le_mul_right t (by omega)
            have h4 := HN.out
            rw [Nat.mul_comm t m] at h4
            rw [Nat.add_mul, Nat.one_mul] at h3
            have := hs0.out
            omega
          have hre := Lib.hid (roundE_at hs0.out hlt2)
          go_wp2_with (at_builtin; refine wpList_append_sl _ rfl (.tmp 38) (.tmp 41) _ rfl 30 i0 _ 5 32 Try.underlying22 hi0 hz0 hz1 hz2 rfl (by omega) A' s c' _ _ rfl (by exact hs.alloc _) (· = wr.heap.size) (some ⟨wr.heap.size, 0, none⟩) 1 1 (entIn (2, (i : Int), 0, 0, 0)) rfl (by exact Rd.lit (sz := 5) wr _ #[.int .u8 2, .int .i64 (i : Int), .int .u8 0, .int .i32 0, .int .u8 0] 1 rfl) (ent1_one _) (by simp only [maxLen]; omega) (by omega) ?_; intro A3 c3 w3 hown3 hmod3)
          go_roundg (gk - 1)
          case measure => omega
          case rel =>
            have hz := hmod3.size
            simp at hz
            refine ⟨i + 1, s + 1, A3, c3, by omega, by go_num, Lib.hid (by rw [← Nat.add_assoc, hs0.out]), rfl, ?_, (hb.alloc hle _).trans (hmod3.below (by simp; omega) fun b hb => hb)⟩
            rw [List.range_succ, List.map_append, List.flatMap_append]
            have e1 : [s].map (roundE t) = [(2, (i : Int), 0, 0, 0)] := by rw [List.map_cons, hre.out]; rfl
            rw [e1]
            refine (hown3.mono fun b hb => ?_)
            rcases hb with hb | hb
            · exact hb
            · have := hb.1; simp at this; omega
        · obtain rfl : i = t := by omega
          go_wp2_with fail
          go_roundg (m - j - 1)
          case measure => omega
          case rel => exact ⟨j + 1, s, A', c', by omega, by go_num, Lib.hid (by rw [Nat.add_mul, Nat.one_mul]; exact hs0.out), rfl, hs, hb⟩
    · obtain rfl : j = m := by omega
      have hsN : s = N := by rw [← hs0.out, ← HN.out, Nat.mul_comm]
      subst hsN
      have hrd := hs.lt
      clear hs
      go_wp2_with fail
      go_ret
      exact ⟨A', c', rfl, hrd, hb⟩
theorem rRounds_any (w : World) (t m : Int) : Calls Try.prog 24 #[.int .i64 t, .int .i64 m] w (NewSl w 30 5 (roundsL t m).length ((roundsL t m).flatMap entIn)) := by
  by_cases h1 : t < 1
  · rw [show roundsL t m = [] from if_pos (.inl h1)]
    exact rRounds_less w t m (.inl h1)
  · by_cases h2 : m < 1
    · rw [show roundsL t m = [] from if_pos (.inr (.inl h2))]
      exact rRounds_less w t m (.inr h2)
    · by_cases h3 : t * m > 20000
      · rw [show roundsL t m = [] from if_pos (.inr (.inr h3))]
        exact rRounds_more w t m h1 h2 h3
      · rw [show roundsL t m = (List.range (t * m).toNat).map (roundE t.toNat) from if_neg (by omega)]
        obtain ⟨t', rfl⟩ := Int.eq_ofNat_of_zero_le (show 0 ≤ t by omega)
        obtain ⟨m', rfl⟩ := Int.eq_ofNat_of_zero_le (show 0 ≤ m by omega)
        have hN : ((t' : Int) * (m' : Int)).toNat = t' * m' := by rw [← Int.natCast_mul, Int.toNat_natCast]
        rw [hN, Int.toNat_natCast, List.length_map, List.length_range]
        refine rRounds_yes w t' m' _ (by omega) (by omega) rfl ?_
        rw [← hN]
        omega
theorem roundsL_length (t m : Int) : (roundsL t m).length ≤ 20000 := by
  unfold roundsL
  split
  · simp
  · simp; omega
theorem rounds_same (w : World) (t m : Int) (ht : (Lit.int .i64 t).wf = true) : Calls Try.prog 18 #[.int .i64 t, .int .i64 m] w fun e w' => e = .returned (.bool true) ∧ Below w.heap.size w w' := by
  have c1 := rounds_any w t m ht
  have c2 := fun w => rRounds_any w t m
  have hl := roundsL_length t m
  generalize roundsL t m = l at *
  obtain ⟨n, hn⟩ : ∃ n, l.length = n := ⟨_, rfl⟩
  rw [hn] at c1 c2 hl
  have HN := Lib.hid hn
  clear hn
  go_enter Try.func18, Try.ntmps18
  go_wp2_with fail
  refine c1.mono ?_
  rintro e w1 ⟨A1, c1', rfl, hs1, b1⟩
  have r1 := hs1.rd
  go_wp2_with fail
  refine (c2 w1).mono ?_
  rintro e w2 ⟨A2, c2', rfl, hs2, b2⟩
  have r1 := r1.kept b2
  have r2 := hs2.rd
  have b2 := b1.trans (b2.mono b1.size)
  clear hs1 hs2 c1 c2
  go_wp2_with fail
  refine (same_r r1 r2 HN.out HN.out (by omega)).mono ?_
  rintro e w3 ⟨rfl, b3⟩
  have b3 := b2.trans (b3.mono b2.size)
  go_wp2_with fail
  go_ret
  exact ⟨rfl, b3⟩
end Go.Proofs.Ytefenbmchfbohaa
