/-
  The walks of Session, Bound, and of the window of picks.
-/
import Derived.Test.YtmcnccfbligeaaaProg
import Derived.Test.YtmcnccfbligeaaaFairP
import Derived.Test.YtmcnccfbligeaaaSep
import Derived.WalkKit
import Derived.WalkLawsBesides
import Derived.WalkSpells
import Derived.Lib.Hide
import Derived.Deep.QuietTactic
import Derived.BigQuiet
import Derived.Maps.OwnSet
import Derived.StillTailTactics
import Derived.Deep.LoopGhost
namespace Go.Proofs.Ytmcnccfbligeaaa
open Go.RowKit Go.Rp Go.Maps

theorem ret_int {k : IntKind} {a b : Int} (h : a = b) : Ending.returned (.int k a) = .returned (.int k b) := by rw [h]

theorem session_any (w : World) (t p : Int) : Calls Try.prog 12 #[.int .i64 t, .int .i64 p] w fun e w' => e = .returned (.int .i64 (sesI t p)) ∧ w = w' := by
  by_cases h : t < 1 ∨ 64 < t ∨ p < 1 ∨ 1000 < p
  · rw [sesI_out h]
    by_cases h1 : t < 1
    · clear h; go_enter Try.func12, Try.ntmps12; go_wp2; go_ret; exact ⟨rfl, rfl⟩
    · by_cases h2 : 64 < t
      · clear h; go_enter Try.func12, Try.ntmps12; go_wp2; go_ret; exact ⟨rfl, rfl⟩
      · by_cases h3 : p < 1
        · clear h; go_enter Try.func12, Try.ntmps12; go_wp2; go_ret; exact ⟨rfl, rfl⟩
        · have h4 : 1000 < p := by omega
          clear h; go_enter Try.func12, Try.ntmps12; go_wp2; go_ret; exact ⟨rfl, rfl⟩
  · have h1 : 1 ≤ t := by omega
    have h2 : t ≤ 64 := by omega
    have h3 : 1 ≤ p := by omega
    have h4 : p ≤ 1000 := by omega
    clear h
    have hp := sesI_prod h1 h2 h3 h4
    have hs := Lib.hid (sesI_in h1 h2 h3 h4)
    obtain ⟨hp1, hp2⟩ := hp
    go_enter Try.func12, Try.ntmps12
    go_wp2
    go_ret
    exact ⟨ret_int (by rw [hs.out]), rfl⟩

theorem bound_any (w : World) (t b p : Int) : Calls Try.prog 11 #[.int .i64 t, .int .i64 b, .int .i64 p] w fun e w' => e = .returned (.int .i64 (bndI t b p)) ∧ w = w' := by
  have hs := session_any w t p
  obtain ⟨s0, s1⟩ := sesI_bd t p
  by_cases h : sesI t p = 0 ∨ b < 1 ∨ 1000000 < b
  · have hb : bndI t b p = 0 := if_pos h
    rw [hb]
    clear hb
    generalize sesI t p = s at *
    by_cases h1 : s = 0
    · subst h1
      clear h
      go_enter Try.func11, Try.ntmps11
      go_wp2_with fail
      refine (hs).mono ?_
      rintro e w1 ⟨rfl, rfl⟩
      go_wp2_with fail
      go_ret
      exact ⟨rfl, rfl⟩
    · have h1' : (s == 0) = false := by simpa using h1
      by_cases h2 : b < 1
      · clear h
        go_enter Try.func11, Try.ntmps11
        go_wp2_with fail
        refine (hs).mono ?_
        rintro e w1 ⟨rfl, rfl⟩
        go_wp2_with fail
        go_ret
        exact ⟨rfl, rfl⟩
      · have h3 : 1000000 < b := by omega
        clear h
        go_enter Try.func11, Try.ntmps11
        go_wp2_with fail
        refine (hs).mono ?_
        rintro e w1 ⟨rfl, rfl⟩
        go_wp2_with fail
        go_ret
        exact ⟨rfl, rfl⟩
  · have hb : bndI t b p = b * (3 * sesI t p + 32) := if_neg h
    have HB := Lib.hid hb
    clear hb
    have h1 : (sesI t p == 0) = false := by simp; omega
    have h2 : 1 ≤ b := by omega
    have h3 : b ≤ 1000000 := by omega
    clear h
    rw [HB.out]
    clear HB
    generalize sesI t p = s at *
    obtain ⟨p0, p1⟩ := bndI_prod s0 s1 h2 h3
    go_enter Try.func11, Try.ntmps11
    go_wp2_with fail
    refine (hs).mono ?_
    rintro e w1 ⟨rfl, rfl⟩
    go_wp2_with fail
    go_ret
    exact ⟨rfl, rfl⟩

theorem keyInt : Keyed Try.prog 3 := int_keyed Try.underlying3
theorem zeroInt (w : World) : (zeroValue 3).run Try.prog w = .ok (.int .i64 0) w := by kernel_rfl

/-- Block B is a map of numbers, at most k entries, that holds f. -/
def MapI (w : World) (B k : Nat) (f : Int → Int) : Prop :=
  ∃ D : DataW Unit, w.ownsMap Try.prog 3 (plainElem Try.prog 3) B k D ∧ ∀ x, D.atKey (.int .i64 x) (.lit (.int .i64 0)) = .lit (.int .i64 (f x))
theorem MapI.block {w w' : World} {B k : Nat} {f : Int → Int} (h : MapI w B k f) (hb : w'.heap[B]? = w.heap[B]?) : MapI w' B k f := by
  obtain ⟨D, ⟨es, clock, h1, h2⟩, h3⟩ := h
  exact ⟨D, ⟨es, clock, hb.trans h1, h2⟩, h3⟩
theorem MapI.lt {w : World} {B k : Nat} {f : Int → Int} (h : MapI w B k f) : B < w.heap.size := by
  obtain ⟨D, h1, _⟩ := h
  exact h1.lt
theorem MapI.ne {w : World} {B k p : Nat} {f : Int → Int} {t : TypeId} {cs : Array Value} (h : MapI w B k f) (hb : Blk w p t cs) : B ≠ p := by
  rintro rfl
  obtain ⟨D, ⟨es, clock, h1, h2⟩, h3⟩ := h
  unfold Blk at hb
  rw [h1] at hb
  injection hb with hb
  cases hb
theorem MapI.congr {w : World} {B k : Nat} {f g : Int → Int} (h : MapI w B k f) (hf : ∀ y, f y = g y) : MapI w B k g := by
  obtain ⟨D, h1, h3⟩ := h
  exact ⟨D, h1, fun y => by rw [h3, hf]⟩
theorem MapI.put {w w1 : World} {B k : Nat} {f : Int → Int} {D : DataW Unit} {x v : Int} (hown : w.ownsMap Try.prog 3 (plainElem Try.prog 3) B k D) (hat : ∀ y, D.atKey (.int .i64 y) (.lit (.int .i64 0)) = .lit (.int .i64 (f y)))
    (h1 : w1.ownsMap Try.prog 3 (plainElem Try.prog 3) B (k + 1) (D.put (.int .i64 x) (.lit (.int .i64 v)))) : MapI w1 B (k + 1) (fun y => if y = x then v else f y) := by
  refine ⟨_, h1, fun y => ?_⟩
  by_cases hyx : y = x
  · subst hyx
    rw [Maps.atKey_put_same (hown.isMap) (by trivial)]
    simp
  · rw [Maps.atKey_put_other (by simpa using hyx), hat y]
    simp [hyx]
theorem MapI.look {w : World} {B k : Nat} {f : Int → Int} (h : MapI w B k f) {x : Int} (hx : (Lit.int .i64 x).wf = true) : Sem.run Try.prog (Instr.lookup 63 (Value.map (some B)) (Value.int IntKind.i64 x) false) w = .ok (.int .i64 (f x)) w := by
  obtain ⟨D, hown, hat⟩ := h
  obtain ⟨q, hrun, hq, _⟩ := hown.lookup_int keyInt Try.underlying63 Try.underlying3 (zeroInt _) (keyOf_int_mk Try.underlying3 hx)
  rw [hat x] at hq
  rw [(Lit.int.inj (DataW.lit.inj hq)).2]
  exact hrun
theorem MapI.mk (w : World) : MapI (w.alloc (.map #[] 0)) w.heap.size 0 (fun _ => 0) := ⟨.map [], World.ownsMap_made _ _ _ _, fun x => rfl⟩

/-- The window at block p, over the picks, from a place to a place; its blocks are among S. -/
def WinAt (w : World) (p : Nat) (S : Nat → Prop) (A : Option Addr) (n c : Nat) (picks : List Int) (fr en : Nat) : Prop :=
  ∃ B k, Blk w p 65 #[.slice A n c, .int .i64 (fr : Int), .int .i64 (en : Int), .map (some B)] ∧ MapI w B k (fun x => (((picks.take en).drop fr).count x : Int)) ∧ k ≤ fr + en ∧ S p ∧ S B

section
variable {w w' : World} {p n c fr en : Nat} {S T : Nat → Prop} {A : Option Addr} {picks : List Int}
theorem WinAt.mono (h : WinAt w p S A n c picks fr en) (hS : ∀ b, S b → T b) : WinAt w p T A n c picks fr en := by
  obtain ⟨B, k, h1, h2, h3, h4, h5⟩ := h
  exact ⟨B, k, h1, h2, h3, hS _ h4, hS _ h5⟩
theorem WinAt.mod (h : WinAt w p S A n c picks fr en) (hm : Mod T w w') (hd : ∀ b, S b → ¬ T b) : WinAt w' p S A n c picks fr en := by
  obtain ⟨B, k, h1, h2, h3, h4, h5⟩ := h
  exact ⟨B, k, h1.mod hm (hd _ h4), h2.block (hm.block _ h2.lt (hd _ h5)), h3, h4, h5⟩
theorem WinAt.lt (h : WinAt w p S A n c picks fr en) : WinAt w p (fun b => S b ∧ b < w.heap.size) A n c picks fr en := by
  obtain ⟨B, k, h1, h2, h3, h4, h5⟩ := h
  exact ⟨B, k, h1, h2, h3, ⟨h4, h1.lt⟩, ⟨h5, h2.lt⟩⟩
end
theorem stable_win (p : Nat) (A : Option Addr) (n c : Nat) (picks : List Int) (fr en : Nat) : Stable (fun w S => WinAt w p S A n c picks fr en) := ⟨fun h => h.mono, fun h => h.mod, fun h => h.lt⟩
def winR (p : Nat) (A : Option Addr) (n c : Nat) (picks : List Int) (fr en : Nat) : Res := ⟨fun w S => WinAt w p S A n c picks fr en, stable_win p A n c picks fr en⟩

set_option maxRecDepth 100000 in
theorem take_any (w : World) (p : Nat) (S : Nat → Prop) (A : Option Addr) (n c : Nat) (picks : List Int) (fr en : Nat) (h : WinAt w p S A n c picks fr en) (R : Nat → Prop) (hr : Rd w R 1 A n (picks.map fun x => Value.int .i64 x)) (hn : picks.length = n) (hm : n ≤ 140737488351232) (hwf : ∀ z ∈ picks, (Lit.int .i64 z).wf = true) (hfe : fr ≤ en) (hlt : en < n) :
    Calls Try.prog 23 #[.pointer (some ⟨p, 0, none⟩)] w fun e w' => e = .returned (.tuple #[]) ∧ WinAt w' p S A n c picks fr (en + 1) ∧ Mod S w w' := by
  obtain ⟨B, k, hb, hM, hk, hp, hB⟩ := h
  have hBp := hM.ne hb
  obtain ⟨D, hown, hat⟩ := hM
  dsimp only at hat
  obtain ⟨b, off, rfl, hbR, hcells⟩ := hr.at (by omega)
  have hlt' : en < picks.length := by omega
  have g0 : w.cell? ⟨b, off + en, none⟩ = some (.int .i64 picks[en]) := hcells en _ (by simp [hlt'])
  have c0 : w.cell? ⟨p, 0, none⟩ = some (.slice (some ⟨b, off, none⟩) n c) := hb.cell 0
  have c2 : w.cell? ⟨p, 2, none⟩ = some (.int .i64 (en : Int)) := hb.cell 2
  have c3 : w.cell? ⟨p, 3, none⟩ = some (.map (some B)) := hb.cell 3
  have f2 := hb.frozen 2
  have hkey := keyOf_int_mk Try.underlying3 (hwf _ (List.getElem_mem hlt'))
  have hsn := Lib.hid (win_snoc picks fr en hfe hlt')
  have hcnt := Lib.hid (List.count_le_length (a := picks[en]) (l := (picks.take en).drop fr))
  obtain ⟨q0, hrun, hq, _⟩ := hown.drew.lookup_int keyInt Try.underlying63 Try.underlying3 (zeroInt _) hkey
  rw [hat picks[en]] at hq
  obtain ⟨q, hqe⟩ : ∃ q : Nat, ((picks.take en).drop fr).count picks[en] = q := ⟨_, rfl⟩
  rw [hqe] at hq hcnt
  obtain rfl : q0 = (q : Int) := ((Lit.int.inj (DataW.lit.inj hq)).2).symm
  have HQ := Lib.hid hqe
  have hll : ((picks.take en).drop fr).length ≤ n := by simp; omega
  have hqn : q ≤ n := Nat.le_trans hcnt.out hll
  clear hcells hq hqe hcnt
  have HN := Lib.hid hn
  have HA := Lib.hid hat
  clear hn hat
  generalize picks[en] = x at *
  have hrun2 : Sem.run Try.prog (Instr.lookup 63 (Value.map (some B)) (Value.int IntKind.i64 x) false) { heap := w.heap, tape := w.tape, drawn := w.drawn + 1, os := w.os, output := w.output } = .ok (.int .i64 (q : Int)) { heap := w.heap, tape := w.tape, drawn := w.drawn + 1, os := w.os, output := w.output } := hrun
  go_enter Try.func23, Try.ntmps23
  go_wp2_with fail
  go_still_tail 16, (by kernel_rfl)
  have hw64 : IntKind.i64.wrap ((q : Int) + 1) = (q : Int) + 1 := IntWalk.i64_in _ (by omega)
  try simp only [hw64]
  change wpList _ _ _ _ _ w.drew
  refine wpList_mapUpdate_own _ rfl _ _ _ 63 rfl 3 3 keyInt Try.underlying63 _ B k D rfl hown.drew (by unfold maxLen; omega) _ _ _ rfl rfl hkey _ [] (plainElem_int Try.underlying3 (WalkArith.wf_i64 (by omega))) ?_
  intro w1 hown1 hgrow1
  have hmod1 : Rp.Mod S w w1 := (Rp.Mod.refl S w).drew.trans (Rp.Mod.of_grown (S := S) hgrow1 fun g hg => by injection hg with hg; subst hg; exact hB) fun _ h => .inl h
  have hb1 : Blk w1 p 65 _ := (hgrow1.block p hb.lt (fun e => hBp (by injection e with e; exact e.symm))).trans hb
  have c2' : w1.cell? ⟨p, 2, none⟩ = some (.int .i64 (en : Int)) := hb1.cell 2
  have f2' := hb1.frozen 2
  clear c0 c2 c3 f2 hrun hrun2 hw64 hgrow1
  go_wp2_with fail
  go_end0
  refine ⟨rfl, ⟨B, k + 1, ?_, ((MapI.put hown HA.out hown1).block (Below.heap_setCell w1 ⟨p, 2, none⟩ _ B hBp)).congr fun y => ?_, by omega, hp, hB⟩, hmod1.setCell (.inl hp) _⟩
  · have := hb1.set 2 (.int .i64 ((en : Int) + 1))
    simpa using this
  · rw [hsn.out, List.count_append]
    by_cases hyx : y = x
    · subst hyx
      rw [HQ.out]
      simp
    · have : List.count y [x] = 0 := List.count_eq_zero.2 (by simpa using hyx)
      rw [this, if_neg hyx]
      rfl

set_option maxRecDepth 100000 in
theorem drop_any (w : World) (p : Nat) (S : Nat → Prop) (A : Option Addr) (n c : Nat) (picks : List Int) (fr en : Nat) (h : WinAt w p S A n c picks fr en) (R : Nat → Prop) (hr : Rd w R 1 A n (picks.map fun x => Value.int .i64 x)) (hn : picks.length = n) (hm : n ≤ 140737488351232) (hwf : ∀ z ∈ picks, (Lit.int .i64 z).wf = true) (hfe : fr < en) (hlt : en ≤ n) :
    Calls Try.prog 24 #[.pointer (some ⟨p, 0, none⟩)] w fun e w' => e = .returned (.tuple #[]) ∧ WinAt w' p S A n c picks (fr + 1) en ∧ Mod S w w' := by
  obtain ⟨B, k, hb, hM, hk, hp, hB⟩ := h
  have hBp := hM.ne hb
  obtain ⟨D, hown, hat⟩ := hM
  dsimp only at hat
  obtain ⟨b, off, rfl, hbR, hcells⟩ := hr.at (by omega)
  have hlt' : fr < picks.length := by omega
  have hfn : fr < n := by omega
  have g0 : w.cell? ⟨b, off + fr, none⟩ = some (.int .i64 picks[fr]) := hcells fr _ (by simp [hlt'])
  have c0 : w.cell? ⟨p, 0, none⟩ = some (.slice (some ⟨b, off, none⟩) n c) := hb.cell 0
  have c1 : w.cell? ⟨p, 1, none⟩ = some (.int .i64 (fr : Int)) := hb.cell 1
  have c3 : w.cell? ⟨p, 3, none⟩ = some (.map (some B)) := hb.cell 3
  have f1 := hb.frozen 1
  have hkey := keyOf_int_mk Try.underlying3 (hwf _ (List.getElem_mem hlt'))
  have hsn : Hid ((picks.take en).drop fr = picks[fr] :: (picks.take en).drop (fr + 1)) := Lib.hid (win_cons picks fr en hfe (by omega))
  have hcnt := Lib.hid (List.count_le_length (a := picks[fr]) (l := (picks.take en).drop fr))
  obtain ⟨q0, hrun, hq, _⟩ := hown.drew.lookup_int keyInt Try.underlying63 Try.underlying3 (zeroInt _) hkey
  rw [hat picks[fr]] at hq
  obtain ⟨q, hqe⟩ : ∃ q : Nat, ((picks.take en).drop fr).count picks[fr] = q := ⟨_, rfl⟩
  rw [hqe] at hq hcnt
  obtain rfl : q0 = (q : Int) := ((Lit.int.inj (DataW.lit.inj hq)).2).symm
  have HQ := Lib.hid hqe
  have hll : ((picks.take en).drop fr).length ≤ n := by simp; omega
  have hqn : q ≤ n := Nat.le_trans hcnt.out hll
  have hq1 : 1 ≤ q := by rw [← hqe, hsn.out]; simp
  clear hcells hq hqe hcnt
  have HN := Lib.hid hn
  have HA := Lib.hid hat
  clear hn hat
  generalize picks[fr] = x at *
  have hrun2 : Sem.run Try.prog (Instr.lookup 63 (Value.map (some B)) (Value.int IntKind.i64 x) false) { heap := w.heap, tape := w.tape, drawn := w.drawn + 1, os := w.os, output := w.output } = .ok (.int .i64 (q : Int)) { heap := w.heap, tape := w.tape, drawn := w.drawn + 1, os := w.os, output := w.output } := hrun
  go_enter Try.func24, Try.ntmps24
  go_wp2_with fail
  go_still_tail 16, (by kernel_rfl)
  have hw64 : IntKind.i64.wrap ((q : Int) - 1) = (q : Int) - 1 := IntWalk.i64_in _ (by omega)
  try simp only [hw64]
  change wpList _ _ _ _ _ w.drew
  refine wpList_mapUpdate_own _ rfl _ _ _ 63 rfl 3 3 keyInt Try.underlying63 _ B k D rfl hown.drew (by unfold maxLen; omega) _ _ _ rfl rfl hkey _ [] (plainElem_int Try.underlying3 (WalkArith.wf_i64 (by omega))) ?_
  intro w1 hown1 hgrow1
  have hmod1 : Rp.Mod S w w1 := (Rp.Mod.refl S w).drew.trans (Rp.Mod.of_grown (S := S) hgrow1 fun g hg => by injection hg with hg; subst hg; exact hB) fun _ h => .inl h
  have hb1 : Blk w1 p 65 _ := (hgrow1.block p hb.lt (fun e => hBp (by injection e with e; exact e.symm))).trans hb
  have c1' : w1.cell? ⟨p, 1, none⟩ = some (.int .i64 (fr : Int)) := hb1.cell 1
  have f1' := hb1.frozen 1
  clear c0 c1 c3 f1 hrun hrun2 hw64 hgrow1
  go_wp2_with fail
  go_end0
  refine ⟨rfl, ⟨B, k + 1, ?_, ((MapI.put hown HA.out hown1).block (Below.heap_setCell w1 ⟨p, 1, none⟩ _ B hBp)).congr fun y => ?_, by omega, hp, hB⟩, hmod1.setCell (.inl hp) _⟩
  · have := hb1.set 1 (.int .i64 ((fr : Int) + 1))
    simpa using this
  · by_cases hyx : y = x
    · subst hyx
      rw [if_pos rfl, ← HQ.out, hsn.out]
      simp
    · rw [if_neg hyx, hsn.out, List.count_cons_of_ne (fun e => hyx e.symm)]
end Go.Proofs.Ytmcnccfbligeaaa
