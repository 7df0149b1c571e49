/-
  The law's held: the program's Held and the document's are the same.
-/
import Derived.Test.YtmcnccfbligeaaaFairT
import Derived.Deep.RegionHeld3
namespace Go.Proofs.Ytmcnccfbligeaaa
open Go.RowKit Go.Rp Go.Maps

set_option maxRecDepth 100000 in
set_option maxHeartbeats 4000000 in
theorem same_any (w : World) (ob th cap age ps : Int) (pl : Bool) (A : Option Addr) (n c : Nat) (picks : List Int) (hp : Picks w A n picks) (hc : n ≤ c) (hcm : c ≤ maxLen) (A2 : Option Addr) (n2 c2 : Nat) (spans : List Span) (hs : Spans w A2 n2 spans) (b : Int) (hb : -9223372036854775808 ≤ b ∧ b ≤ 9223372036854775807) :
    Calls Try.prog 20 #[confV ob th cap age ps pl, .slice A n c, .slice A2 n2 c2, .int .i64 b] w fun e w' => e = .returned (.bool true) ∧ Below w.heap.size w w' := by
  obtain ⟨v, hv⟩ : ∃ v, heldI th ps picks spans b = v := ⟨_, rfl⟩
  have HV := Lib.hid hv
  have HB := Lib.hid hb
  have HCM := Lib.hid hcm
  clear hv hb hcm
  have s0 : Sep (w.alloc (.cells #[.int .u8 ob, .int .i64 th, .int .i64 cap, .int .i64 age, .int .i64 ps, .bool pl] 38)) (fun x => w.heap.size ≤ x) [blkR w.heap.size 38 #[.int .u8 ob, .int .i64 th, .int .i64 cap, .int .i64 age, .int .i64 ps, .bool pl]] := Sep.alloc (l := []) trivial (Nat.le_refl _) _ _
  have b1 := (Below.refl w.heap.size w).alloc (Nat.le_refl _) (.cells #[.int .u8 ob, .int .i64 th, .int .i64 cap, .int .i64 age, .int .i64 ps, .bool pl] 38)
  obtain ⟨w1, hw1⟩ : ∃ w1, w.alloc (.cells #[.int .u8 ob, .int .i64 th, .int .i64 cap, .int .i64 age, .int .i64 ps, .bool pl] 38) = w1 := ⟨_, rfl⟩
  have KEEP : Hid (∀ w', Below w1.heap.size w1 w' → w'.cell? ⟨w.heap.size, 0, none⟩ = some (.int .u8 ob) ∧ w'.cell? ⟨w.heap.size, 1, none⟩ = some (.int .i64 th) ∧ w'.cell? ⟨w.heap.size, 2, none⟩ = some (.int .i64 cap) ∧ w'.cell? ⟨w.heap.size, 3, none⟩ = some (.int .i64 age) ∧ w'.cell? ⟨w.heap.size, 4, none⟩ = some (.int .i64 ps) ∧ w'.cell? ⟨w.heap.size, 5, none⟩ = some (.bool pl)) := by
    subst hw1
    exact Lib.hid fun w' hw => ⟨(s0.keep hw).blk.cell 0, (s0.keep hw).blk.cell 1, (s0.keep hw).blk.cell 2, (s0.keep hw).blk.cell 3, (s0.keep hw).blk.cell 4, (s0.keep hw).blk.cell 5⟩
  clear s0
  go_enter Try.func20, Try.ntmps20
  go_wp2_with fail
  simp only [hw1] at *
  obtain ⟨k0, k1, k2, k3, k4, k5⟩ := KEEP.out _ (Below.refl _ w1)
  go_region_held3 (fun w' => w'.cell? ⟨w.heap.size, 0, none⟩ = some (.int .u8 ob) ∧ w'.cell? ⟨w.heap.size, 1, none⟩ = some (.int .i64 th) ∧ w'.cell? ⟨w.heap.size, 2, none⟩ = some (.int .i64 cap) ∧ w'.cell? ⟨w.heap.size, 3, none⟩ = some (.int .i64 age) ∧ w'.cell? ⟨w.heap.size, 4, none⟩ = some (.int .i64 ps) ∧ w'.cell? ⟨w.heap.size, 5, none⟩ = some (.bool pl)) (first | (refine ⟨?_, ?_, ?_, ?_, ?_, ?_⟩ <;> assumption) | go_keep) (first
    | (go_at_call 16; ((with_reducible refine (held_v (w := World.drew w1) (hp.keep b1.drew) (hs.keep b1.drew) HB.out HV.out).mono ?_); rintro e w5 ⟨rfl, c5⟩; have c5 : Below w1.heap.size w1 w5 := (Below.refl _ w1).drew.trans c5; obtain ⟨k0, k1, k2, k3, k4, k5⟩ := KEEP.out _ c5))
    | (go_at_call 17; ((with_reducible refine (rheld_v (w := w5) (hp.keep (b1.trans (c5.mono b1.size))) hc HCM.out (hs.keep (b1.trans (c5.mono b1.size))) HB.out HV.out).mono ?_); rintro e w6 ⟨rfl, c6⟩; have c6 : Below w1.heap.size w1 w6 := c5.trans (c6.mono c5.size); obtain ⟨k0, k1, k2, k3, k4, k5⟩ := KEEP.out _ c6)))
  go_wp2_with fail
  go_ret
  exact ⟨by simp, b1.trans (c6.mono b1.size)⟩
end Go.Proofs.Ytmcnccfbligeaaa
