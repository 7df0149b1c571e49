/-
  ScriptCalls: calls are one for each thread and operation, in order, as far as both go: the walk.
-/
import Derived.Test.YtefenbmchfbohaaScrF
namespace Go.Proofs.Ytefenbmchfbohaa
open Go.RowKit Go.Rp

theorem ent_neq (W : World) (x : Ent) : (binOp .neq 30 (entV x) (entV x)).run Try.prog W = .ok (.bool false) W := by
  rw [run_neq_struct, ent_eq, decide_eq_true rfl]
  rfl
set_option maxRecDepth 100000 in
set_option maxHeartbeats 2000000 in
theorem ScriptCalls_walk (w : World) (a : Option Addr) (n c : Nat) (ts : List Int) (h0 : InInts .i64 w a n c ts) (a' : Option Addr) (n' c' : Nat) (os : List (Int × Int)) (h1 : InRows 2 opIn opOk w a' n' c' os) :
    Calls Try.prog 7 #[.slice a n c, .slice a' n' c'] w fun e w' => e = .returned (.bool true) ∧ Below w.heap.size w w' := by
  have hr1 : Rd w (· < w.heap.size) 1 a n (ts.map fun x => Value.int .i64 x) := h0.rd
  have hr2 : Rd w (· < w.heap.size) 2 a' n' (os.flatMap opIn) := h1.rd
  have l1 := h0.len
  have l2 := h1.len
  have hreach := h0.reach
  have hreach' := h1.reach
  clear h0 h1
  have hw0 : IntKind.i64.wrap ((n : Int) + (n' : Int)) = (n : Int) + (n' : Int) := IntWalk.i64_in _ (by omega)
  by_cases hbig : 200 < n + n'
  · have hL : (200 : Int) < (n : Int) + (n' : Int) := by omega
    have hk := known_any w
    clear l1 l2
    go_enter Try.func7, Try.ntmps7
    go_wp2_with fail
    refine hk.mono ?_
    rintro e w1 ⟨rfl, b1⟩
    go_wp2_with fail
    go_ret
    exact ⟨rfl, b1⟩
  have hL : ¬ (200 : Int) < (n : Int) + (n' : Int) := by omega
  obtain ⟨N, hN⟩ : ∃ N, min n n' = N := ⟨_, rfl⟩
  have hcl := calls_any w a n c _ ts a' n' c' _ os l1 l2 hr1 hr2 (by omega) (by omega)
  have hcn := fun (W : World) (hr1 : Rd W (· < w.heap.size) 1 a n (ts.map fun x => Value.int .i64 x)) => calls_any W a n c _ ts none 0 0 (fun _ => False) [] l1 rfl hr1 Rd.nil (by omega) (by omega)
  rw [hN] at hcl
  have emin := min_ii (k := .i64) (show min (n : Int) (n' : Int) = (N : Int) by omega)
  have hNn : N ≤ n ∧ N ≤ n' := by omega
  have hll : (callsL ts os).length = N := by rw [callsL_length, l1, l2, hN]
  have hp : pickN (callsL ts os) N = 0 := pickN_none _ N (by omega) (by intro e he; obtain ⟨p, _, rfl⟩ := List.mem_map.1 he; simp)
  have HP := Lib.hid hp
  have HLL := Lib.hid hll
  have H1 := Lib.hid l1
  have H2 := Lib.hid l2
  have HCN := Lib.hid hcn
  clear hp hll l1 l2 hN hcn
  go_enter Try.func7, Try.ntmps7
  go_wp2_with fail
  refine hcl.mono ?_
  rintro e w1 ⟨A1, c1, rfl, hs1, b1⟩
  have hr3 := hs1.rd
  clear hs1 hcl
  have hr1 := hr1.kept b1
  have hr2 := hr2.kept b1
  go_wp2_with fail
  go_loopw [6] (fun k wr => ∃ j : Nat, j ≤ N ∧ k = .int .i64 (j : Int) ∧ Below w1.heap.size w1 wr) (fun k _ => N - (intOf k).toNat)
  case atStart => exact ⟨0, by omega, rfl, Below.refl _ _⟩
  case round =>
    obtain ⟨j, hj, rfl, hb⟩ := hrel
    by_cases hlt : j < N
    · have hjl : j < (callsL ts os).length := by rw [HLL.out]; exact hlt
      have hj1 : j < ts.length := by rw [H1.out]; omega
      have hj2 : j < os.length := by rw [H2.out]; omega
      have hjn1 : j < n := by omega
      have hjn2 : j < n' := by omega
      obtain ⟨bb, off, rfl, _, hcells⟩ := (hr3.kept hb).at (by omega)
      obtain ⟨bt, ot, rfl, _, hct⟩ := (hr1.kept hb).at (by omega)
      obtain ⟨bo, oo, rfl, _, hco⟩ := (hr2.kept hb).at (by omega)
      obtain ⟨e0, e1, e2, e3, e4⟩ := ent_at _ j hjl
      obtain ⟨f0, f1⟩ := op_at os j hj2
      have g0 := hcells _ _ e0
      have g1 := hcells _ _ e1
      have g2 := hcells _ _ e2
      have g3 := hcells _ _ e3
      have g4 := hcells _ _ e4
      have i0 := hct j (.int .i64 ts[j]) (by rw [List.getElem?_map, List.getElem?_eq_getElem hj1]; rfl)
      have i1 := hco _ _ f0
      have i2 := hco _ _ f1
      simp only [← Nat.add_assoc] at g0 g1 g2 g3 g4 i1 i2
      have hlo := callsL_get ts os j hj1 hj2 hjl
      have hq : ∀ W, (binOp .neq 30 (entV (callsL ts os)[j]) (.agg #[.int .u8 1, .int .i64 ts[j], .int .u8 os[j].1, .int .i32 os[j].2, .int .u8 0])).run Try.prog W = .ok (.bool false) W := fun W => by
        rw [hlo]; exact ent_neq W _
      generalize (callsL ts os)[j] = x at *
      generalize ts[j] = t at *
      generalize os[j] = o at *
      clear hlo e0 e1 e2 e3 e4 f0 f1 hcells hct hco hjl hj1 hj2
      go_wp2
      go_quiet (fail)
      go_wp2
      go_roundw
      case rel => exact ⟨j + 1, by omega, by go_num, below_drewN hb _⟩
      case measure => simp [intOf]; omega
    · obtain rfl : j = N := by omega
      have hk := known_any wr
      go_wp2_with fail
      refine hk.mono ?_
      rintro e w2 ⟨rfl, b2⟩
      have hr3 := (hr3.kept hb).kept b2
      have b2 := hb.trans (b2.mono hb.size)
      have hpk := Picks_any w2 A1 j c1 _ _ HLL.out hr3 (by omega)
      rw [HP.out] at hpk
      go_wp2_with fail
      refine hpk.mono ?_
      rintro e w3 ⟨rfl, b3⟩
      have b3 := b2.trans (b3.mono b2.size)
      go_wp2_with fail
      refine (HCN.out w3 (hr1.kept b3)).mono ?_
      rintro e w4 ⟨A4, c4, rfl, _, b4⟩
      have b4 := b3.trans (b4.mono b3.size)
      go_wp2_with fail
      go_ret
      refine ⟨by simp, b1.trans (b4.mono b1.size)⟩
end Go.Proofs.Ytefenbmchfbohaa
