/-
  ScriptRounds: in rounds each thread is picked as often as there are rounds, in order: the walk.
-/
import Derived.Test.YtefenbmchfbohaaScrE
namespace Go.Proofs.Ytefenbmchfbohaa
open Go.RowKit Go.Rp

theorem byte_of {y : Int} (hy : (Lit.int .u8 y).wf = true) : 0 ≤ y ∧ y ≤ 255 := by
  simp [Lit.wf, IntKind.min, IntKind.max, IntKind.signed, IntKind.bits] at hy
  omega
theorem ent_neq (W : World) (x : Ent) : (binOp .neq 30 (entV x) (entV x)).run Try.prog W = .ok (.bool false) W := by
  rw [run_neq_struct, ent_eq, decide_eq_true rfl]
  rfl
set_option maxRecDepth 100000 in
set_option maxHeartbeats 2000000 in
theorem ScriptRounds_walk (w : World) (x : Int) (hx : (Lit.int .u8 x).wf = true) (y : Int) (hy : (Lit.int .u8 y).wf = true) :
    Calls Try.prog 5 #[.int .u8 x, .int .u8 y] w fun e w' => e = .returned (.bool true) ∧ Below w.heap.size w w' := by
  have bx := byte_of hx
  have bY := byte_of hy
  obtain ⟨n, hn⟩ : ∃ n : Nat, x % 64 = (n : Int) := ⟨(x % 64).toNat, by omega⟩
  obtain ⟨m, hm⟩ : ∃ m : Nat, y % 100 = (m : Int) := ⟨(y % 100).toNat, by omega⟩
  obtain ⟨T, hT⟩ : ∃ T : Nat, (1 : Int) + (n : Int) = (T : Int) := ⟨1 + n, by omega⟩
  obtain ⟨M, hM⟩ : ∃ M : Nat, (1 : Int) + (m : Int) = (M : Int) := ⟨1 + m, by omega⟩
  have hT2 : 1 ≤ T ∧ T ≤ 64 := by omega
  have hM2 : 1 ≤ M ∧ M ≤ 100 := by omega
  obtain ⟨N, hN⟩ : ∃ N, T * M = N := ⟨_, rfl⟩
  have hN2 : N ≤ 6400 := by rw [← hN]; exact Nat.le_trans (Nat.mul_le_mul hT2.2 hM2.2) (by omega)
  have hmul : IntKind.i64.wrap ((T : Int) * (M : Int)) = (N : Int) := by
    rw [show (T : Int) * (M : Int) = (N : Int) by rw [← hN]; simp]
    exact IntWalk.i64_in _ (by omega)
  have hrn := rounds_yes w T M N hT2.1 hM2.1 hN (by omega)
  have hless := fun w => rounds_less w 0 (M : Int) (.inl (by omega))
  have hmore := fun w => rounds_more w (T : Int) 20001 (by omega) (by omega) (by omega) (by simp [Lit.wf, IntKind.min, IntKind.max, IntKind.signed, IntKind.bits]; omega)
  clear hx hy
  obtain ⟨l, hl⟩ : ∃ l, (List.range N).map (roundE T) = l := ⟨_, rfl⟩
  have hll : l.length = N := by rw [← hl]; simp
  have hp : pickN l N = N := pickN_all l N (by omega) (by intro e he; rw [← hl] at he; obtain ⟨i, _, rfl⟩ := List.mem_map.1 he; rfl)
  have hget : ∀ k (h : k < l.length), l[k] = (2, ((k % T : Nat) : Int), 0, 0, 0) := by intro k h; subst hl; simp [roundE]
  rw [hl] at hrn
  have HP := Lib.hid hp
  have HLL := Lib.hid hll
  have HG := Lib.hid hget
  clear hp hll hget hl hN
  go_enter Try.func5, Try.ntmps5
  go_wp2_with fail
  simp only [hn, hm, hT, hM]
  refine hrn.mono ?_
  rintro e w1 ⟨A1, c1, rfl, hs1, b1⟩
  have hr1 := hs1.rd
  clear hs1 hrn
  go_wp2_with fail
  go_loopw [8] (fun k wr => ∃ j : Nat, j ≤ N ∧ k = .int .i64 (j : Int) ∧ Below w1.heap.size w1 wr) (fun k _ => N - (intOf k).toNat)
  case atStart => exact ⟨0, by omega, rfl, Below.refl _ _⟩
  case round =>
    obtain ⟨j, hj, rfl, hb⟩ := hrel
    by_cases hlt : j < N
    · have hjl : j < l.length := by rw [HLL.out]; exact hlt
      obtain ⟨bb, off, rfl, _, hcells⟩ := (hr1.kept hb).at (by omega)
      obtain ⟨e0, e1, e2, e3, e4⟩ := ent_at l j hjl
      have g0 := hcells _ _ e0
      have g1 := hcells _ _ e1
      have g2 := hcells _ _ e2
      have g3 := hcells _ _ e3
      have g4 := hcells _ _ e4
      simp only [← Nat.add_assoc] at g0 g1 g2 g3 g4
      obtain ⟨r, hr⟩ : ∃ r, j % T = r := ⟨_, rfl⟩
      have hrT : r < T := by rw [← hr]; exact Nat.mod_lt j (by omega)
      have hlo : l[j] = (2, (r : Int), 0, 0, 0) := by rw [← hr]; exact HG.out j hjl
      have hT0 : ¬ (T : Int) = 0 := by omega
      have hjt3 : Int.tmod (j : Int) (T : Int) = (r : Int) := by rw [← hr]; rfl
      have hjt2 : (j : Int) % (T : Int) = (r : Int) := by rw [← hr]; rfl
      have hjt : IntKind.i64.wrap (r : Int) = (r : Int) := IntWalk.i64_in _ (by omega)
      have hq : ∀ W, (binOp .neq 30 (entV l[j]) (.agg #[.int .u8 2, .int .i64 (r : Int), .int .u8 0, .int .i32 0, .int .u8 0])).run Try.prog W = .ok (.bool false) W := fun W => by
        rw [hlo]; exact ent_neq W _
      generalize l[j] = o at *
      clear hlo hr
      clear e0 e1 e2 e3 e4 hcells
      go_wp2
      go_quiet (fail)
      go_wp2
      go_roundw
      case rel => exact ⟨j + 1, by omega, by go_num, below_drewN hb _⟩
      case measure => simp [intOf]; omega
    · obtain rfl : j = N := by omega
      have hk := known_any wr
      go_wp2_with fail
      refine hk.mono ?_
      rintro e w2 ⟨rfl, b2⟩
      have hr2 := (hr1.kept hb).kept b2
      have b2 := hb.trans (b2.mono hb.size)
      have hpk := Picks_any w2 A1 j c1 _ l HLL.out hr2 (by omega)
      rw [HP.out] at hpk
      go_wp2_with fail
      refine hpk.mono ?_
      rintro e w3 ⟨rfl, b3⟩
      have b3 := b2.trans (b3.mono b2.size)
      go_wp2_with fail
      refine (hless w3).mono ?_
      rintro e w4 ⟨A4, c4, rfl, _, b4⟩
      have b4 := b3.trans (b4.mono b3.size)
      go_wp2_with fail
      refine (hmore w4).mono ?_
      rintro e w5 ⟨A5, c5, rfl, _, b5⟩
      have b5 := b4.trans (b5.mono b4.size)
      go_wp2_with fail
      go_ret
      exact ⟨rfl, b1.trans (b5.mono b1.size)⟩
end Go.Proofs.Ytefenbmchfbohaa
