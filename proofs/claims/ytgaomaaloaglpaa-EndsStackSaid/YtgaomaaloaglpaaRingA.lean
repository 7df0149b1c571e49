/-
  The deque: at, move, Len, Most, the pushes and the pops.
-/
import Derived.Test.YtgaomaaloaglpaaProg
import Derived.Test.YtgaomaaloaglpaaRingP
import Derived.Test.YtgaomaaloaglpaaOps
import Derived.WalkKit
import Derived.WalkLawsBesides
import Derived.WalkSpells
import Derived.Lib.Hide
import Derived.Deep.QuietTactic
import Derived.BigQuiet
import Derived.StillTailTactics
import Derived.Deep.RegionHeld3
namespace Go.Proofs.Ytgaomaaloaglpaa
open Go.RowKit Go.Rp

abbrev iv (cs : List Int) : List Value := cs.map fun x => Value.int .i32 x
/-- The deque at block p. -/
def RingAt (w : World) (p : Nat) (S : Nat → Prop) (N : Nat) (l : List Int) : Prop :=
  ∃ A c cs f, Blk w p 71 #[.slice A N c, .int .i64 ((f : Nat) : Int), .int .i64 (l.length : Int)] ∧ Sl w 21 1 A N c (iv cs) S ∧ S p ∧ Rg cs N f l ∧ N ≤ 1000
section
variable {w w' : World} {p N : Nat} {S T : Nat → Prop} {l : List Int}
theorem RingAt.mono (h : RingAt w p S N l) (hS : ∀ b, S b → T b) : RingAt w p T N l := by
  obtain ⟨A, c, cs, f, hb, hs, hp, hl⟩ := h
  exact ⟨A, c, cs, f, hb, hs.mono hS, hS p hp, hl⟩
theorem RingAt.mod (h : RingAt w p S N l) (hm : Mod T w w') (hd : ∀ b, S b → ¬ T b) : RingAt w' p S N l := by
  obtain ⟨A, c, cs, f, hb, hs, hp, hl⟩ := h
  exact ⟨A, c, cs, f, hb.mod hm (hd p hp), hs.mod hm hd, hp, hl⟩
theorem RingAt.lt (h : RingAt w p S N l) : RingAt w p (fun b => S b ∧ b < w.heap.size) N l := by
  obtain ⟨A, c, cs, f, hb, hs, hp, hl⟩ := h
  exact ⟨A, c, cs, f, hb, hs.lt, ⟨hp, hb.lt⟩, hl⟩
theorem RingAt.len (h : RingAt w p S N l) : l.length ≤ N ∧ N ≤ 1000 := by obtain ⟨A, c, cs, f, hb, hs, hp, hl, hN⟩ := h; exact ⟨hl.le, hN⟩
end
theorem stable_ring (p N : Nat) (l : List Int) : Stable (fun w S => RingAt w p S N l) := ⟨fun h => h.mono, fun h => h.mod, fun h => h.lt⟩

theorem rlen_any (w : World) (p : Nat) (S : Nat → Prop) (N : Nat) (l : List Int) (h : RingAt w p S N l) :
    Calls Try.prog 20 #[.pointer (some ⟨p, 0, none⟩)] w fun e w' => e = .returned (.int .i64 (l.length : Int)) ∧ w = w' := by
  obtain ⟨A, c, cs, f, hb, hs, hp, hl⟩ := h
  have c2 : w.cell? ⟨p, 2, none⟩ = some (.int .i64 (l.length : Int)) := hb.cell 2
  go_enter Try.func20, Try.ntmps20
  go_wp2
  go_ret
  exact ⟨rfl, rfl⟩
theorem rlen_nil (w : World) : Calls Try.prog 20 #[.pointer none] w fun e w' => e = .returned (.int .i64 0) ∧ w = w' := by
  go_enter Try.func20, Try.ntmps20
  go_wp2
  go_ret
  exact ⟨rfl, rfl⟩
theorem rmost_any (w : World) (p : Nat) (S : Nat → Prop) (N : Nat) (l : List Int) (h : RingAt w p S N l) :
    Calls Try.prog 27 #[.pointer (some ⟨p, 0, none⟩)] w fun e w' => e = .returned (.int .i64 (N : Int)) ∧ w = w' := by
  obtain ⟨A, c, cs, f, hb, hs, hp, hl⟩ := h
  have c0 : w.cell? ⟨p, 0, none⟩ = some (.slice A N c) := hb.cell 0
  go_enter Try.func27, Try.ntmps27
  go_wp2
  go_ret
  exact ⟨rfl, rfl⟩
theorem rmost_nil (w : World) : Calls Try.prog 27 #[.pointer none] w fun e w' => e = .returned (.int .i64 0) ∧ w = w' := by
  go_enter Try.func27, Try.ntmps27
  go_wp2
  go_ret
  exact ⟨rfl, rfl⟩

theorem at_raw (w : World) (p g off N c f k : Nat) (h0 : w.cell? ⟨p, 0, none⟩ = some (.slice (some ⟨g, off, none⟩) N c)) (h1 : w.cell? ⟨p, 1, none⟩ = some (.int .i64 (f : Int))) (hf : f < N) (hN : N ≤ 1000) (hk : k ≤ 1000) {i : Nat} (hi : (f + k) % N = i) :
    Calls Try.prog 40 #[.pointer (some ⟨p, 0, none⟩), .int .i64 (k : Int)] w fun e w' => e = .returned (.pointer (some ⟨g, off + i, none⟩)) ∧ ∃ nq, w' = w.drewN nq := by
  have hlt : i < N := by rw [← hi]; exact Nat.mod_lt _ (by omega)
  have ht : ((f : Int) + (k : Int) + (N : Int)).tmod (N : Int) = (i : Int) := by
    rw [Int.tmod_eq_emod_of_nonneg (by omega), Int.add_emod_right, ← hi]
    rfl
  have ht2 : ((f : Int) + (k : Int) + (N : Int)) % (N : Int) = (i : Int) := by
    rw [Int.add_emod_right, ← hi]
    rfl
  have hN0 : ¬ (N : Int) = 0 := by omega
  have hi2 : (i : Int) < (N : Int) := by omega
  have hN1 : ¬ N = 0 := by omega
  clear hi
  go_enter Try.func40, Try.ntmps40
  go_wp2
  go_quiet (fail)
  go_wp2
  go_ret
  exact ⟨rfl, _, rfl⟩
theorem move_raw (w : World) (p N c f : Nat) (A : Option Addr) (by_ : Int) (h0 : w.cell? ⟨p, 0, none⟩ = some (.slice A N c)) (h1 : w.cell? ⟨p, 1, none⟩ = some (.int .i64 (f : Int))) (hz : w.frozen? ⟨p, 1, none⟩ = false) (hf : f < N) (hN : N ≤ 1000) (hb : -1 ≤ by_ ∧ by_ ≤ 1) {i : Nat} (hi : ((f : Int) + by_ + (N : Int)) % (N : Int) = (i : Int)) :
    Calls Try.prog 41 #[.pointer (some ⟨p, 0, none⟩), .int .i64 by_] w fun e w' => e = .returned (.tuple #[]) ∧ w' = w.drew.setCell ⟨p, 1, none⟩ (.int .i64 (i : Int)) := by
  obtain ⟨hb0, hb1⟩ := hb
  have ht : ((f : Int) + by_ + (N : Int)).tmod (N : Int) = (i : Int) := by
    rw [Int.tmod_eq_emod_of_nonneg (by omega), hi]
  have hN0 : ¬ (N : Int) = 0 := by omega
  have hN1 : ¬ N = 0 := by omega
  go_enter Try.func41, Try.ntmps41
  go_wp2
  go_still_tail 21, (by kernel_rfl)
  change wpList _ _ _ _ _ w.drew
  have hz' : w.drew.frozen? ⟨p, 1, none⟩ = false := hz
  have h1' : w.drew.cell? ⟨p, 1, none⟩ = some (.int .i64 (f : Int)) := h1
  go_wp2
  go_end0
  exact ⟨rfl, by first | rfl | (rw [hi]; rfl) | (rw [ht]; rfl)⟩

/-! ### The pushes and the pops -/
theorem pushL_full (w : World) (p : Nat) (S : Nat → Prop) (N : Nat) (l : List Int) (v : Int) (h : RingAt w p S N l) (hf : l.length = N) :
    Calls Try.prog 30 #[.pointer (some ⟨p, 0, none⟩), .int .i32 v] w fun e w' => e = .returned (.bool false) ∧ w = w' := by
  have h1 := rlen_any w p S N l h
  have h2 := rmost_any w p S N l h
  have hd : (N : Int) ≤ (l.length : Int) := by omega
  clear hf
  go_enter Try.func30, Try.ntmps30
  go_wp2_with fail
  refine (h1).mono ?_
  rintro e w1 ⟨rfl, rfl⟩
  go_wp2_with fail
  refine (h2).mono ?_
  rintro e w1 ⟨rfl, rfl⟩
  go_wp2_with fail
  go_ret
  exact ⟨rfl, rfl⟩
theorem pushR_full (w : World) (p : Nat) (S : Nat → Prop) (N : Nat) (l : List Int) (v : Int) (h : RingAt w p S N l) (hf : l.length = N) :
    Calls Try.prog 31 #[.pointer (some ⟨p, 0, none⟩), .int .i32 v] w fun e w' => e = .returned (.bool false) ∧ w = w' := by
  have h1 := rlen_any w p S N l h
  have h2 := rmost_any w p S N l h
  have hd : (N : Int) ≤ (l.length : Int) := by omega
  clear hf
  go_enter Try.func31, Try.ntmps31
  go_wp2_with fail
  refine (h1).mono ?_
  rintro e w1 ⟨rfl, rfl⟩
  go_wp2_with fail
  refine (h2).mono ?_
  rintro e w1 ⟨rfl, rfl⟩
  go_wp2_with fail
  go_ret
  exact ⟨rfl, rfl⟩
theorem popL_none (w : World) (p : Nat) (S : Nat → Prop) (N : Nat) (h : RingAt w p S N []) :
    Calls Try.prog 28 #[.pointer (some ⟨p, 0, none⟩)] w fun e w' => e = .returned (.tuple #[.int .i32 0, .bool false]) ∧ w = w' := by
  have h1 := rlen_any w p S N [] h
  go_enter Try.func28, Try.ntmps28
  go_wp2_with fail
  refine (h1).mono ?_
  rintro e w1 ⟨rfl, rfl⟩
  go_wp2_with fail
  go_ret2
  exact ⟨rfl, rfl⟩
theorem popR_none (w : World) (p : Nat) (S : Nat → Prop) (N : Nat) (h : RingAt w p S N []) :
    Calls Try.prog 29 #[.pointer (some ⟨p, 0, none⟩)] w fun e w' => e = .returned (.tuple #[.int .i32 0, .bool false]) ∧ w = w' := by
  have h1 := rlen_any w p S N [] h
  go_enter Try.func29, Try.ntmps29
  go_wp2_with fail
  refine (h1).mono ?_
  rintro e w1 ⟨rfl, rfl⟩
  go_wp2_with fail
  go_ret2
  exact ⟨rfl, rfl⟩
/-- A deque with room for something, its cells by name. -/
theorem ring_open {w : World} {p N : Nat} {S : Nat → Prop} {l : List Int} (h : RingAt w p S N l) (hN : 0 < N) : ∃ g off c cs f, S g ∧ g ≠ p ∧ S p ∧ Rg cs N f l ∧ N ≤ 1000 ∧ f < N ∧ Blk w p 71 #[.slice (some ⟨g, off, none⟩) N c, .int .i64 ((f : Nat) : Int), .int .i64 (l.length : Int)] ∧ Sl w 21 1 (some ⟨g, off, none⟩) N c (iv cs) S := by
  obtain ⟨A, c, cs, f, hb, hs, hp, hrg, hN'⟩ := h
  obtain ⟨g, off, rfl, ⟨hSg, hgp⟩, _⟩ := (hs.off hb (by decide)).at hN
  exact ⟨g, off, c, cs, f, hSg, hgp, hp, hrg, hN', by rcases hrg.first with h | h <;> omega, hb, hs⟩
theorem sl_cell {w : World} {e N c g off : Nat} {xs : List Value} {S : Nat → Prop} (hs : Sl w e 1 (some ⟨g, off, none⟩) N c xs S) {i : Nat} {u : Value} (hu : xs[i]? = some u) : w.cell? ⟨g, off + i, none⟩ = some u ∧ w.frozen? ⟨g, off + i, none⟩ = false := by
  have hl := hs.1
  have hi : i < xs.length := (List.getElem?_eq_some_iff.1 hu).1
  obtain ⟨g', o', e, _, _, hz, hx⟩ := hs.at (by omega)
  simp at e
  obtain ⟨rfl, rfl⟩ := e
  exact ⟨hx i u hu, hz _⟩
theorem iv_q {cs : List Int} {i : Nat} {x : Int} (h : cs[i]? = some x) : (iv cs)[i]? = some (.int .i32 x) := by simp [iv, h]
theorem iv_set (cs : List Int) (i : Nat) (v : Int) : iv (cs.set i v) = (iv cs).set i (.int .i32 v) := by simp [iv, List.map_set]

theorem pushL_some (w : World) (p : Nat) (S : Nat → Prop) (N : Nat) (l : List Int) (v : Int) (h : RingAt w p S N l) (hf : l.length < N) :
    Calls Try.prog 30 #[.pointer (some ⟨p, 0, none⟩), .int .i32 v] w fun e w' => e = .returned (.bool true) ∧ RingAt w' p S N (v :: l) ∧ Mod S w w' := by
  have h1 := rlen_any w p S N l h
  have h2 := rmost_any w p S N l h
  obtain ⟨g, off, c, cs, f, hSg, hgp, hp, hrg, hN, hfN, hb, hs⟩ := ring_open h (by omega)
  have hrg2 := hrg.pushL (v := v) hf
  obtain ⟨i, hi⟩ : ∃ i, (f + (N - 1)) % N = i := ⟨_, rfl⟩
  rw [hi] at hrg2
  have hiN : i < N := by rw [← hi]; exact Nat.mod_lt _ (by omega)
  have mv := move_raw w p N c f (some ⟨g, off, none⟩) (-1) (hb.cell 0) (hb.cell 1) (hb.frozen 1) hfN hN (by omega) (i := i) (by
    rw [← hi, show (f : Int) + -1 + (N : Int) = ((f + (N - 1) : Nat) : Int) by omega]; rfl)
  have hb1 := hb.drew.set 1 (.int .i64 (i : Int))
  have hs1 := hs.drew.farT (p := ⟨p, 1, none⟩) hb.drew (by decide) (.int .i64 (i : Int))
  have m1 : Mod S w (w.drew.setCell ⟨p, 1, none⟩ (.int .i64 (i : Int))) := (Mod.refl _ _).drew.setCell (.inl hp) _
  generalize w.drew.setCell ⟨p, 1, none⟩ (.int .i64 (i : Int)) = w1 at *
  have at1 := at_raw w1 p g off N c i 0 (hb1.cell 0) (hb1.cell 1) hiN hN (by omega) (i := i) (by rw [Nat.add_zero, Nat.mod_eq_of_lt hiN])
  obtain ⟨old, hold⟩ : ∃ u, cs[i]? = some u := ⟨_, List.getElem?_eq_getElem (show i < cs.length by rw [hrg.len]; exact hiN)⟩
  have hq := iv_q hold
  have hd : ¬ (N : Int) ≤ (l.length : Int) := by omega
  have hll : (l.length : Int) ≤ 1000 := by omega
  have HRG := Lib.hid hrg2
  have HQ := Lib.hid hq
  clear hs hb hrg hrg2 hi hf hq hold
  go_enter Try.func30, Try.ntmps30
  go_wp2_with fail
  refine (h1).mono ?_
  rintro e w1' ⟨rfl, rfl⟩
  go_wp2_with fail
  refine (h2).mono ?_
  rintro e w1' ⟨rfl, rfl⟩
  go_wp2_with fail
  refine (mv).mono ?_
  rintro e w2 ⟨rfl, rfl⟩
  go_wp2_with fail
  refine at1.mono ?_
  rintro e w3 ⟨rfl, nq, rfl⟩
  have hb1 := hb1.drewN nq
  have hs1 := hs1.drewN nq
  have m1 := m1.drewN nq
  generalize w2.drewN nq = w3 at *
  obtain ⟨k0, k1⟩ := sl_cell hs1 HQ.out
  have hs2 := hs1.set (g := g) (off := off) rfl i (by simpa using hiN) (.int .i32 v)
  have hb2 := hb1.far (p := ⟨g, off + i, none⟩) (fun e => hgp e.symm) (.int .i32 v)
  have m2 := m1.setCell (p := ⟨g, off + i, none⟩) (.inl hSg) (.int .i32 v)
  have c2 : (w3.setCell ⟨g, off + i, none⟩ (.int .i32 v)).cell? ⟨p, 2, none⟩ = some (.int .i64 (l.length : Int)) := hb2.cell 2
  have f2 := hb2.frozen 2
  have hb3 := hb2.set 2 (.int .i64 ((l.length : Int) + 1))
  have hs3 := hs2.farT (p := ⟨p, 2, none⟩) hb2 (by decide) (.int .i64 ((l.length : Int) + 1))
  have m3 := m2.setCell (p := ⟨p, 2, none⟩) (.inl hp) (.int .i64 ((l.length : Int) + 1))
  clear hs1 hb1 hs2 hb2 m1 m2 mv at1 h1 h2
  go_wp2_with fail
  go_ret
  refine ⟨rfl, ⟨some ⟨g, off, none⟩, c, cs.set i v, i, ?_, by rw [iv_set]; exact hs3, hp, HRG.out, hN⟩, m3⟩
  have e : (((v :: l).length : Nat) : Int) = (l.length : Int) + 1 := by simp
  rw [e]
  simpa using hb3

theorem pushR_some (w : World) (p : Nat) (S : Nat → Prop) (N : Nat) (l : List Int) (v : Int) (h : RingAt w p S N l) (hf : l.length < N) :
    Calls Try.prog 31 #[.pointer (some ⟨p, 0, none⟩), .int .i32 v] w fun e w' => e = .returned (.bool true) ∧ RingAt w' p S N (l ++ [v]) ∧ Mod S w w' := by
  have h1 := rlen_any w p S N l h
  have h2 := rmost_any w p S N l h
  obtain ⟨g, off, c, cs, f, hSg, hgp, hp, hrg, hN, hfN, hb, hs⟩ := ring_open h (by omega)
  have hrg2 := hrg.pushR (v := v) hf
  obtain ⟨i, hi⟩ : ∃ i, (f + l.length) % N = i := ⟨_, rfl⟩
  rw [hi] at hrg2
  have hiN : i < N := by rw [← hi]; exact Nat.mod_lt _ (by omega)
  have c2 : w.cell? ⟨p, 2, none⟩ = some (.int .i64 (l.length : Int)) := hb.cell 2
  have at1 := at_raw w.drew p g off N c f l.length (hb.cell 0) (hb.cell 1) hfN hN (by omega) hi
  obtain ⟨old, hold⟩ : ∃ u, cs[i]? = some u := ⟨_, List.getElem?_eq_getElem (show i < cs.length by rw [hrg.len]; exact hiN)⟩
  have hq := iv_q hold
  have hd : ¬ (N : Int) ≤ (l.length : Int) := by omega
  have hll : (l.length : Int) ≤ 1000 := by omega
  have HRG := Lib.hid hrg2
  have HQ := Lib.hid hq
  have HB := Lib.hid hb
  have HS := Lib.hid hs
  clear hs hb hrg hrg2 hi hf hq hold
  go_enter Try.func31, Try.ntmps31
  go_wp2_with fail
  refine (h1).mono ?_
  rintro e w1' ⟨rfl, rfl⟩
  go_wp2_with fail
  refine (h2).mono ?_
  rintro e w1' ⟨rfl, rfl⟩
  go_wp2_with fail
  go_region_held3 (fun w' => w'.cell? ⟨p, 2, none⟩ = some (.int .i64 (l.length : Int))) (first | assumption | go_keep) (first
    | (go_at_call 40; ((with_reducible refine at1.mono ?_); rintro e w5 ⟨rfl, hw5⟩; have hb5 : Blk w5 p 71 _ := (by obtain ⟨nq, rfl⟩ := hw5; exact (HB.out.drew).drewN nq); have hs5 : Sl w5 21 1 _ N c (iv cs) S := (by obtain ⟨nq, rfl⟩ := hw5; exact (HS.out.drew).drewN nq); have m5 : Mod S w w5 := (by obtain ⟨nq, rfl⟩ := hw5; exact ((Mod.refl S w).drew).drewN nq); have hb6 := hb5.far (p := ⟨g, off + i, none⟩) (fun e => hgp e.symm) (.int .i32 v); have c5 : w5.cell? ⟨p, 2, none⟩ = some (.int .i64 (l.length : Int)) := hb5.cell 2; have c6 : (w5.setCell ⟨g, off + i, none⟩ (.int .i32 v)).cell? ⟨p, 2, none⟩ = some (.int .i64 (l.length : Int)) := hb6.cell 2; obtain ⟨k0, k1⟩ := sl_cell hs5 HQ.out)))
  have hs2 := hs5.set (g := g) (off := off) rfl i (by simpa using hiN) (.int .i32 v)
  have m2 := m5.setCell (p := ⟨g, off + i, none⟩) (.inl hSg) (.int .i32 v)
  have f2 := hb6.frozen 2
  have hb3 := hb6.set 2 (.int .i64 ((l.length : Int) + 1))
  have hs3 := hs2.farT (p := ⟨p, 2, none⟩) hb6 (by decide) (.int .i64 ((l.length : Int) + 1))
  have m3 := m2.setCell (p := ⟨p, 2, none⟩) (.inl hp) (.int .i64 ((l.length : Int) + 1))
  clear hb5 hs5 hb6 hs2 m2 m5
  go_wp2_with fail
  go_ret
  refine ⟨rfl, ⟨some ⟨g, off, none⟩, c, cs.set i v, f, ?_, by rw [iv_set]; exact hs3, hp, HRG.out, hN⟩, m3⟩
  have e : (((l ++ [v]).length : Nat) : Int) = (l.length : Int) + 1 := by simp
  rw [e]
  simpa using hb3

theorem popL_some (w : World) (p : Nat) (S : Nat → Prop) (N : Nat) (l : List Int) (v : Int) (h : RingAt w p S N (v :: l)) :
    Calls Try.prog 28 #[.pointer (some ⟨p, 0, none⟩)] w fun e w' => e = .returned (.tuple #[.int .i32 v, .bool true]) ∧ RingAt w' p S N l ∧ Mod S w w' := by
  have h1 := rlen_any w p S N (v :: l) h
  have hle := h.len.1
  simp only [List.length_cons] at hle h1
  obtain ⟨g, off, c, cs, f, hSg, hgp, hp, hrg, hN, hfN, hb, hs⟩ := ring_open h (by omega)
  obtain ⟨hv, hrg2⟩ := hrg.popL
  obtain ⟨i, hi⟩ : ∃ i, (f + 1) % N = i := ⟨_, rfl⟩
  rw [hi] at hrg2
  simp only [List.length_cons] at hb
  have at1 := at_raw w p g off N c f 0 (hb.cell 0) (hb.cell 1) hfN hN (by omega) (i := f) (by rw [Nat.add_zero, Nat.mod_eq_of_lt hfN])
  have hi2 : ((f : Int) + 1 + (N : Int)) % (N : Int) = (i : Int) := by rw [← hi, Int.add_emod_right]; rfl
  have hd : (((l.length + 1 : Nat) : Int) == 0) = false := by simp; omega
  have hll : (l.length : Int) ≤ 1000 := by omega
  have e0 : ((l.length + 1 : Nat) : Int) - 1 = (l.length : Int) := by omega
  have HRG := Lib.hid hrg2
  have HV := Lib.hid hv
  have HI := Lib.hid hi2
  clear hrg hrg2 hi hv hi2
  go_enter Try.func28, Try.ntmps28
  go_wp2_with fail
  refine (h1).mono ?_
  rintro e w1' ⟨rfl, rfl⟩
  go_wp2_with fail
  refine at1.mono ?_
  rintro e w2 ⟨rfl, nq, rfl⟩
  have hb := hb.drewN nq
  have hs := hs.drewN nq
  have m0 := (Mod.refl S w).drewN nq
  clear at1
  generalize w.drewN nq = w2 at *
  obtain ⟨k0, k1⟩ := sl_cell hs (iv_q HV.out)
  have mv := move_raw w2 p N c f (some ⟨g, off, none⟩) 1 (hb.cell 0) (hb.cell 1) (hb.frozen 1) hfN hN (by omega) HI.out
  have hb1 := hb.drew.set 1 (.int .i64 (i : Int))
  have hs1 := hs.drew.farT (p := ⟨p, 1, none⟩) hb.drew (by decide) (.int .i64 (i : Int))
  have m1 : Mod S w (w2.drew.setCell ⟨p, 1, none⟩ (.int .i64 (i : Int))) := m0.drew.setCell (.inl hp) _
  clear hb hs
  go_wp2_with fail
  refine mv.mono ?_
  rintro e w3 ⟨rfl, hw3⟩
  subst hw3
  clear mv
  generalize w2.drew.setCell ⟨p, 1, none⟩ (.int .i64 (i : Int)) = w1 at *
  have c2 : w1.cell? ⟨p, 2, none⟩ = some (.int .i64 ((l.length + 1 : Nat) : Int)) := hb1.cell 2
  have f2 := hb1.frozen 2
  have hb3 := hb1.set 2 (.int .i64 (l.length : Int))
  have hs3 := hs1.farT (p := ⟨p, 2, none⟩) hb1 (by decide) (.int .i64 (l.length : Int))
  have m3 := m1.setCell (p := ⟨p, 2, none⟩) (.inl hp) (.int .i64 (l.length : Int))
  clear hs1 hb1 m1
  go_wp2_with fail
  go_ret2
  exact ⟨rfl, ⟨some ⟨g, off, none⟩, c, cs, i, by simpa using hb3, hs3, hp, HRG.out, hN⟩, m3⟩

theorem popR_some (w : World) (p : Nat) (S : Nat → Prop) (N : Nat) (l : List Int) (v : Int) (h : RingAt w p S N (l ++ [v])) :
    Calls Try.prog 29 #[.pointer (some ⟨p, 0, none⟩)] w fun e w' => e = .returned (.tuple #[.int .i32 v, .bool true]) ∧ RingAt w' p S N l ∧ Mod S w w' := by
  have h1 := rlen_any w p S N (l ++ [v]) h
  have hle := h.len.1
  simp only [List.length_append, List.length_cons, List.length_nil, Nat.zero_add] at hle h1
  obtain ⟨g, off, c, cs, f, hSg, hgp, hp, hrg, hN, hfN, hb, hs⟩ := ring_open h (by omega)
  obtain ⟨hv, hrg2⟩ := hrg.popR
  obtain ⟨i, hi⟩ : ∃ i, (f + l.length) % N = i := ⟨_, rfl⟩
  rw [hi] at hv
  simp only [List.length_append, List.length_cons, List.length_nil, Nat.zero_add] at hb
  have c2 : w.cell? ⟨p, 2, none⟩ = some (.int .i64 ((l.length + 1 : Nat) : Int)) := hb.cell 2
  have f2 := hb.frozen 2
  have e0 : ((l.length + 1 : Nat) : Int) - 1 = (l.length : Int) := by omega
  have hb1 := hb.set 2 (.int .i64 (l.length : Int))
  have hs1 := hs.farT (p := ⟨p, 2, none⟩) hb (by decide) (.int .i64 (l.length : Int))
  have m1 := (Mod.refl S w).setCell (p := ⟨p, 2, none⟩) (.inl hp) (.int .i64 (l.length : Int))
  have at1 := at_raw (w.setCell ⟨p, 2, none⟩ (.int .i64 (l.length : Int))).drew p g off N c f l.length (hb1.cell 0) (hb1.cell 1) hfN hN (by omega) hi
  have c3 : (w.setCell ⟨p, 2, none⟩ (.int .i64 (l.length : Int))).cell? ⟨p, 2, none⟩ = some (.int .i64 (l.length : Int)) := hb1.cell 2
  obtain ⟨k0, k1⟩ := sl_cell hs1 (iv_q hv)
  have hd : (((l.length + 1 : Nat) : Int) == 0) = false := by simp; omega
  have hll : (l.length : Int) ≤ 1000 := by omega
  have HRG := Lib.hid hrg2
  have HB := Lib.hid hb1
  have HS := Lib.hid hs1
  clear hs hb hs1 hb1 hrg hrg2 hi hv
  go_enter Try.func29, Try.ntmps29
  go_wp2_with fail
  refine (h1).mono ?_
  rintro e w1' ⟨rfl, rfl⟩
  go_wp2_with fail
  generalize w.setCell ⟨p, 2, none⟩ (.int .i64 (l.length : Int)) = w1 at *
  go_region_held3 (fun w' => w'.cell? ⟨p, 2, none⟩ = some (.int .i64 (l.length : Int)) ∧ w'.cell? ⟨g, off + i, none⟩ = some (.int .i32 v)) (first | (refine ⟨?_, ?_⟩ <;> assumption) | go_keep) (first
    | (go_at_call 40; ((with_reducible refine at1.mono ?_); rintro e w5 ⟨rfl, hw5⟩; have c5 : w5.cell? ⟨p, 2, none⟩ = some (.int .i64 (l.length : Int)) := (by obtain ⟨nq, rfl⟩ := hw5; exact c3); have c6 : w5.cell? ⟨g, off + i, none⟩ = some (.int .i32 v) := (by obtain ⟨nq, rfl⟩ := hw5; exact k0))))
  go_wp2_with fail
  go_ret2
  obtain ⟨nq, rfl⟩ := hw5
  exact ⟨rfl, ⟨some ⟨g, off, none⟩, c, cs, f, by simpa using (HB.out.drew).drewN nq, (HS.out.drew).drewN nq, hp, HRG.out, hN⟩, (m1.drew).drewN nq⟩
end Go.Proofs.Ytgaomaaloaglpaa
