/-
  The walk of FairLate.
-/
import Derived.Test.YtmcnccfbligeaaaFairH
import Derived.Test.YtmcnccfbligeaaaFairQ
import Derived.Deep.OwnRows
namespace Go.Proofs.Ytmcnccfbligeaaa
open Go.RowKit Go.Rp Go.Maps

theorem info_int' : (Try.prog.info? 3).map (fun i => (i.zero, i.size, i.bytes)) = some (some (.int .i64 0), 1, 8) := by kernel_rfl
theorem made_toList (z : Value) (n : Nat) : (madeCells #[z] n).toList = List.replicate n z := by
  apply List.ext_getElem
  · simp [madeCells]
  · intro i h1 h2
    simp [madeCells, Nat.mod_one]
theorem Picks.made (w : World) (L : Nat) (hL : L ≤ 1000) : Picks (w.alloc (.cells (madeCells #[.int .i64 0] L) 3)) (some ⟨w.heap.size, 0, none⟩) L (List.replicate L 0) := by
  refine ⟨⟨(· = w.heap.size), ?_⟩, by simp, by omega, fun z hz => by rw [(List.mem_replicate.1 hz).2]; decide⟩
  have := Rd.lit (sz := 1) w 3 (madeCells #[.int .i64 0] L) L (by rw [← Array.length_toList, made_toList]; simp)
  rw [made_toList] at this
  simpa using this

set_option maxRecDepth 100000 in
set_option maxHeartbeats 2000000 in
theorem FairLate_walk (w : World) (m : Int) (hm : (Lit.int .u8 m).wf = true) (at_ : Int) (ha : (Lit.int .u8 at_).wf = true) (pd : Bool) :
    Calls Try.prog 8 #[.int .u8 m, .int .u8 at_, .bool pd] w fun e w' => e = .returned (.bool true) ∧ Below w.heap.size w w' := by
  obtain ⟨i0, hi0, hz0, hz1, hz2⟩ := info_parts info_int'
  obtain ⟨m0, m1⟩ := wf_u8 hm
  obtain ⟨a0, a1⟩ := wf_u8 ha
  clear hm ha
  obtain ⟨m, rfl⟩ := Int.eq_ofNat_of_zero_le m0
  obtain ⟨L, hL⟩ : ∃ L : Nat, (125 : Int) + (m : Int) = (L : Int) := ⟨125 + m, by omega⟩
  have f0 := Int.emod_nonneg at_ (b := (m : Int) + 1) (by omega)
  have f1 := Int.emod_lt_of_pos at_ (b := (m : Int) + 1) (by omega)
  obtain ⟨F, hF⟩ : ∃ F : Nat, at_ % ((m : Int) + 1) = (F : Int) := ⟨(at_ % ((m : Int) + 1)).toNat, by omega⟩
  rw [hF] at f0 f1
  have hLL : L = 125 + m := by omega
  have HLL := Lib.hid hLL
  clear hLL
  have hz3 : i0.bytes * L ≤ 281474976710656 := by rw [hz2]; omega
  have hLb : L ≤ 1000 := by omega
  cases pd
  · go_enter Try.func8, Try.ntmps8
    go_wp2_with fail
    refine (bound_v bnd111).mono ?_
    rintro e w1 ⟨rfl, rfl⟩
    go_wp2_with (refine wpList_make_row _ rfl (.tmp 19) (.tmp 19) 23 rfl 3 i0 _ Try.underlying23 hi0 hz0 hz1 rfl .i64 .i64 L rfl rfl hz3 (by omega) ?_)
    go_wp2_with fail
    refine (known_any _).mono ?_
    rintro e w5 ⟨rfl, b5⟩
    have hp := (((((Picks.made (w.alloc _) L hLb).alloc _).alloc _).alloc _)).keep b5
    have hg := (((Spans.lit ((w.alloc _).alloc _) [⟨0, 0, 0, 0, 0, 0, (F : Int), (F : Int) + 125 - 1⟩] 1 rfl (by omega) (by intro z hz; rw [List.mem_singleton.1 hz]; exact sp_ok (by decide) (WalkArith.wf_i64 (by omega)) (WalkArith.wf_i64 (by omega)))).alloc _).alloc _).keep b5
    have hbd := ((Spans.lit (((w.alloc _).alloc _).alloc _) [⟨0, 0, 0, 0, 0, 0, (F : Int), ((F : Int) + 125)⟩] 1 rfl (by omega) (by intro z hz; rw [List.mem_singleton.1 hz]; exact sp_ok (by decide) (WalkArith.wf_i64 (by omega)) (WalkArith.wf_i64 (by omega)))).alloc _).keep b5
    have hsh := (Spans.lit ((((w.alloc _).alloc _).alloc _).alloc _) [⟨0, 0, 0, 0, 0, 0, (m : Int) + 1, -1⟩] 1 rfl (by omega) (by intro z hz; rw [List.mem_singleton.1 hz]; exact sp_ok (by decide) (WalkArith.wf_i64 (by omega)) (WalkArith.wf_i64 (by omega)))).keep b5
    have hcf := (((((Blk.new w 38 #[.int .u8 0, .int .i64 1, .int .i64 0, .int .i64 0, .int .i64 1, .bool false]).alloc _).alloc _).alloc _).alloc _).below b5 (by simp; omega)
    have bb : Below w.heap.size w w5 := ((((((Below.refl _ w).alloc (Nat.le_refl _) _).alloc (by simp) _).alloc (by simp; omega) _).alloc (by simp; omega) _).alloc (by simp; omega) _).trans (b5.mono (by simp; omega))
    simp only [World.size_alloc] at hp hg hbd hsh
    clear b5
    have e1 := Lib.hid (held_good L (by omega) F (by omega) ((F : Int) + 125 - 1) (by omega))
    have e2 := Lib.hid (held_bad L F (by omega) ((F : Int) + 125) (by omega))
    have e3 := Lib.hid (held_short L ((m : Int) + 1) (by omega) (-1))
    have e4 := Lib.hid (held_far L [⟨0, 0, 0, 0, 0, 0, (F : Int), ((F : Int) + 125)⟩] (2 + (m : Int)) (by omega) (by omega) (by omega))
    have k0 : w5.cell? ⟨w.heap.size, 0, none⟩ = some (.int .u8 0) := hcf.cell 0
    have k1 : w5.cell? ⟨w.heap.size, 1, none⟩ = some (.int .i64 1) := hcf.cell 1
    have k2 : w5.cell? ⟨w.heap.size, 2, none⟩ = some (.int .i64 0) := hcf.cell 2
    have k3 : w5.cell? ⟨w.heap.size, 3, none⟩ = some (.int .i64 0) := hcf.cell 3
    have k4 : w5.cell? ⟨w.heap.size, 4, none⟩ = some (.int .i64 1) := hcf.cell 4
    have k5 : w5.cell? ⟨w.heap.size, 5, none⟩ = some (.bool false) := hcf.cell 5
    go_wp2_with fail
    refine (held_v hp hg (by omega) e1.out).mono ?_
    rintro e w6 ⟨rfl, b6⟩
    have bb := bb.trans (b6.mono bb.size)
    have hcf := hcf.below b6 (by have := hcf.lt; omega)
    have hp := hp.keep b6
    have hbd := hbd.keep b6
    have hsh := hsh.keep b6
    have k0 : w6.cell? ⟨w.heap.size, 0, none⟩ = some (.int .u8 0) := hcf.cell 0
    have k1 : w6.cell? ⟨w.heap.size, 1, none⟩ = some (.int .i64 1) := hcf.cell 1
    have k2 : w6.cell? ⟨w.heap.size, 2, none⟩ = some (.int .i64 0) := hcf.cell 2
    have k3 : w6.cell? ⟨w.heap.size, 3, none⟩ = some (.int .i64 0) := hcf.cell 3
    have k4 : w6.cell? ⟨w.heap.size, 4, none⟩ = some (.int .i64 1) := hcf.cell 4
    have k5 : w6.cell? ⟨w.heap.size, 5, none⟩ = some (.bool false) := hcf.cell 5
    go_wp2_with fail
    refine (held_v hp hbd (by omega) e2.out).mono ?_
    rintro e w7 ⟨rfl, b7⟩
    have bb := bb.trans (b7.mono bb.size)
    have hcf := hcf.below b7 (by have := hcf.lt; omega)
    have hp := hp.keep b7
    have hbd := hbd.keep b7
    have hsh := hsh.keep b7
    have k0 : w7.cell? ⟨w.heap.size, 0, none⟩ = some (.int .u8 0) := hcf.cell 0
    have k1 : w7.cell? ⟨w.heap.size, 1, none⟩ = some (.int .i64 1) := hcf.cell 1
    have k2 : w7.cell? ⟨w.heap.size, 2, none⟩ = some (.int .i64 0) := hcf.cell 2
    have k3 : w7.cell? ⟨w.heap.size, 3, none⟩ = some (.int .i64 0) := hcf.cell 3
    have k4 : w7.cell? ⟨w.heap.size, 4, none⟩ = some (.int .i64 1) := hcf.cell 4
    have k5 : w7.cell? ⟨w.heap.size, 5, none⟩ = some (.bool false) := hcf.cell 5
    go_wp2_with fail
    refine (held_v hp hsh (by omega) e3.out).mono ?_
    rintro e w8 ⟨rfl, b8⟩
    have bb := bb.trans (b8.mono bb.size)
    have hcf := hcf.below b8 (by have := hcf.lt; omega)
    have hp := hp.keep b8
    have hbd := hbd.keep b8
    have k0 : w8.cell? ⟨w.heap.size, 0, none⟩ = some (.int .u8 0) := hcf.cell 0
    have k1 : w8.cell? ⟨w.heap.size, 1, none⟩ = some (.int .i64 1) := hcf.cell 1
    have k2 : w8.cell? ⟨w.heap.size, 2, none⟩ = some (.int .i64 0) := hcf.cell 2
    have k3 : w8.cell? ⟨w.heap.size, 3, none⟩ = some (.int .i64 0) := hcf.cell 3
    have k4 : w8.cell? ⟨w.heap.size, 4, none⟩ = some (.int .i64 1) := hcf.cell 4
    have k5 : w8.cell? ⟨w.heap.size, 5, none⟩ = some (.bool false) := hcf.cell 5
    go_wp2_with fail
    refine (held_v hp hbd (by omega) e4.out).mono ?_
    rintro e w9 ⟨rfl, b9⟩
    have bb := bb.trans (b9.mono bb.size)
    go_wp2_with fail
    go_ret
    exact ⟨rfl, bb⟩
  · go_enter Try.func8, Try.ntmps8
    go_wp2_with fail
    refine (bound_v bnd111).mono ?_
    rintro e w1 ⟨rfl, rfl⟩
    go_wp2_with (refine wpList_make_row _ rfl (.tmp 19) (.tmp 19) 23 rfl 3 i0 _ Try.underlying23 hi0 hz0 hz1 rfl .i64 .i64 L rfl rfl hz3 (by omega) ?_)
    go_wp2_with fail
    refine (known_any _).mono ?_
    rintro e w5 ⟨rfl, b5⟩
    have hp := (((((Picks.made (w.alloc _) L hLb).alloc _).alloc _).alloc _)).keep b5
    have hg := (((Spans.lit ((w.alloc _).alloc _) [⟨0, 0, 0, 0, 0, 0, (F : Int), (F : Int) + 125 - 1⟩] 1 rfl (by omega) (by intro z hz; rw [List.mem_singleton.1 hz]; exact sp_ok (by decide) (WalkArith.wf_i64 (by omega)) (WalkArith.wf_i64 (by omega)))).alloc _).alloc _).keep b5
    have hbd := ((Spans.lit (((w.alloc _).alloc _).alloc _) [⟨0, 0, 0, 0, 0, 0, (F : Int), (-1)⟩] 1 rfl (by omega) (by intro z hz; rw [List.mem_singleton.1 hz]; exact sp_ok (by decide) (WalkArith.wf_i64 (by omega)) (WalkArith.wf_i64 (by omega)))).alloc _).keep b5
    have hsh := (Spans.lit ((((w.alloc _).alloc _).alloc _).alloc _) [⟨0, 0, 0, 0, 0, 0, (m : Int) + 1, -1⟩] 1 rfl (by omega) (by intro z hz; rw [List.mem_singleton.1 hz]; exact sp_ok (by decide) (WalkArith.wf_i64 (by omega)) (WalkArith.wf_i64 (by omega)))).keep b5
    have hcf := (((((Blk.new w 38 #[.int .u8 0, .int .i64 1, .int .i64 0, .int .i64 0, .int .i64 1, .bool false]).alloc _).alloc _).alloc _).alloc _).below b5 (by simp; omega)
    have bb : Below w.heap.size w w5 := ((((((Below.refl _ w).alloc (Nat.le_refl _) _).alloc (by simp) _).alloc (by simp; omega) _).alloc (by simp; omega) _).alloc (by simp; omega) _).trans (b5.mono (by simp; omega))
    simp only [World.size_alloc] at hp hg hbd hsh
    clear b5
    have e1 := Lib.hid (held_good L (by omega) F (by omega) ((F : Int) + 125 - 1) (by omega))
    have e2 := Lib.hid (held_bad L F (by omega) (-1) (by omega))
    have e3 := Lib.hid (held_short L ((m : Int) + 1) (by omega) (-1))
    have e4 := Lib.hid (held_far L [⟨0, 0, 0, 0, 0, 0, (F : Int), (-1)⟩] (2 + (m : Int)) (by omega) (by omega) (by omega))
    have k0 : w5.cell? ⟨w.heap.size, 0, none⟩ = some (.int .u8 0) := hcf.cell 0
    have k1 : w5.cell? ⟨w.heap.size, 1, none⟩ = some (.int .i64 1) := hcf.cell 1
    have k2 : w5.cell? ⟨w.heap.size, 2, none⟩ = some (.int .i64 0) := hcf.cell 2
    have k3 : w5.cell? ⟨w.heap.size, 3, none⟩ = some (.int .i64 0) := hcf.cell 3
    have k4 : w5.cell? ⟨w.heap.size, 4, none⟩ = some (.int .i64 1) := hcf.cell 4
    have k5 : w5.cell? ⟨w.heap.size, 5, none⟩ = some (.bool false) := hcf.cell 5
    go_wp2_with fail
    refine (held_v hp hg (by omega) e1.out).mono ?_
    rintro e w6 ⟨rfl, b6⟩
    have bb := bb.trans (b6.mono bb.size)
    have hcf := hcf.below b6 (by have := hcf.lt; omega)
    have hp := hp.keep b6
    have hbd := hbd.keep b6
    have hsh := hsh.keep b6
    have k0 : w6.cell? ⟨w.heap.size, 0, none⟩ = some (.int .u8 0) := hcf.cell 0
    have k1 : w6.cell? ⟨w.heap.size, 1, none⟩ = some (.int .i64 1) := hcf.cell 1
    have k2 : w6.cell? ⟨w.heap.size, 2, none⟩ = some (.int .i64 0) := hcf.cell 2
    have k3 : w6.cell? ⟨w.heap.size, 3, none⟩ = some (.int .i64 0) := hcf.cell 3
    have k4 : w6.cell? ⟨w.heap.size, 4, none⟩ = some (.int .i64 1) := hcf.cell 4
    have k5 : w6.cell? ⟨w.heap.size, 5, none⟩ = some (.bool false) := hcf.cell 5
    go_wp2_with fail
    refine (held_v hp hbd (by omega) e2.out).mono ?_
    rintro e w7 ⟨rfl, b7⟩
    have bb := bb.trans (b7.mono bb.size)
    have hcf := hcf.below b7 (by have := hcf.lt; omega)
    have hp := hp.keep b7
    have hbd := hbd.keep b7
    have hsh := hsh.keep b7
    have k0 : w7.cell? ⟨w.heap.size, 0, none⟩ = some (.int .u8 0) := hcf.cell 0
    have k1 : w7.cell? ⟨w.heap.size, 1, none⟩ = some (.int .i64 1) := hcf.cell 1
    have k2 : w7.cell? ⟨w.heap.size, 2, none⟩ = some (.int .i64 0) := hcf.cell 2
    have k3 : w7.cell? ⟨w.heap.size, 3, none⟩ = some (.int .i64 0) := hcf.cell 3
    have k4 : w7.cell? ⟨w.heap.size, 4, none⟩ = some (.int .i64 1) := hcf.cell 4
    have k5 : w7.cell? ⟨w.heap.size, 5, none⟩ = some (.bool false) := hcf.cell 5
    go_wp2_with fail
    refine (held_v hp hsh (by omega) e3.out).mono ?_
    rintro e w8 ⟨rfl, b8⟩
    have bb := bb.trans (b8.mono bb.size)
    have hcf := hcf.below b8 (by have := hcf.lt; omega)
    have hp := hp.keep b8
    have hbd := hbd.keep b8
    have k0 : w8.cell? ⟨w.heap.size, 0, none⟩ = some (.int .u8 0) := hcf.cell 0
    have k1 : w8.cell? ⟨w.heap.size, 1, none⟩ = some (.int .i64 1) := hcf.cell 1
    have k2 : w8.cell? ⟨w.heap.size, 2, none⟩ = some (.int .i64 0) := hcf.cell 2
    have k3 : w8.cell? ⟨w.heap.size, 3, none⟩ = some (.int .i64 0) := hcf.cell 3
    have k4 : w8.cell? ⟨w.heap.size, 4, none⟩ = some (.int .i64 1) := hcf.cell 4
    have k5 : w8.cell? ⟨w.heap.size, 5, none⟩ = some (.bool false) := hcf.cell 5
    go_wp2_with fail
    refine (held_v hp hbd (by omega) e4.out).mono ?_
    rintro e w9 ⟨rfl, b9⟩
    have bb := bb.trans (b9.mono bb.size)
    go_wp2_with fail
    go_ret
    exact ⟨rfl, bb⟩
end Go.Proofs.Ytmcnccfbligeaaa
