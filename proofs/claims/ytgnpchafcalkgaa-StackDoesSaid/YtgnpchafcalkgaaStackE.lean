/-
  The stack of a law's own: steps at one stack, the chapter's example.
-/


import Derived.Test.YtgnpchafcalkgaaStackD
namespace Go.Proofs.Ytgnpchafcalkgaa
open Go.RowKit Go.Rp

/-- A stack in blocks from B on. -/
abbrev SB (B : Nat) (w : World) (p most : Nat) (l : List Int) : Prop := StackAt w p (fun b => B ≤ b) most l

section
variable {B : Nat} {w w' : World} {p most : Nat} {l : List Int}
theorem SB.keep (h : SB B w p most l) (hb : Below w.heap.size w w') : SB B w' p most l := StackAt.keep h hb
theorem new_b (hB : B ≤ w.heap.size) (m : Int) : Calls Try.prog 10 #[.int .i64 m] w fun e w' => e = .returned (.pointer (some ⟨w.heap.size, 0, none⟩)) ∧ SB B w' w.heap.size (cut m) [] ∧ Below B w w' :=
  (new_any w m).mono fun e w' ⟨he, hw⟩ => by
    subst hw
    exact ⟨he, ⟨none, 0, Blk.new _ _ _, Sl.nil _ _ _ _, hB, by simp, by unfold cut; omega⟩, (Below.refl _ w).alloc hB _⟩
theorem push_b (hB : B ≤ w.heap.size) (h : SB B w p most l) (x : Int) (hl : l.length < most) : Calls Try.prog 11 #[.pointer (some ⟨p, 0, none⟩), .int .i32 x] w fun e w' => e = .returned (.bool true) ∧ SB B w' p most (l ++ [x]) ∧ Below B w w' :=
  step_base (stable_stack p most _) hB (push_some w p _ most l x h hl)
theorem push_fb (hB : B ≤ w.heap.size) (h : SB B w p most l) (x : Int) (hl : l.length = most) : Calls Try.prog 11 #[.pointer (some ⟨p, 0, none⟩), .int .i32 x] w fun e w' => e = .returned (.bool false) ∧ SB B w' p most l ∧ Below B w w' :=
  step_base (stable_stack p most _) hB (step_same (stable_stack p most l) h (push_full w p _ most l x h hl))
theorem pop_b (hB : B ≤ w.heap.size) (x : Int) (h : SB B w p most (l ++ [x])) : Calls Try.prog 12 #[.pointer (some ⟨p, 0, none⟩)] w fun e w' => e = .returned (.tuple #[.int .i32 x, .bool true]) ∧ SB B w' p most l ∧ Below B w w' :=
  (pop_some w p _ most l x h).mono fun e w' ⟨he, hs, hm⟩ => ⟨he, hs, hm.below hB fun _ h => h⟩
theorem pop_nb (h : SB B w p most []) : Calls Try.prog 12 #[.pointer (some ⟨p, 0, none⟩)] w fun e w' => e = .returned (.tuple #[.int .i32 0, .bool false]) ∧ w = w' := pop_none w p _ most h
theorem len_b (h : SB B w p most l) {n : Nat} (hn : l.length = n) : Calls Try.prog 13 #[.pointer (some ⟨p, 0, none⟩)] w fun e w' => e = .returned (.int .i64 (n : Int)) ∧ w = w' := by
  subst hn; exact len_any w p _ most l h
theorem most_b (h : SB B w p most l) : Calls Try.prog 14 #[.pointer (some ⟨p, 0, none⟩)] w fun e w' => e = .returned (.int .i64 (most : Int)) ∧ w = w' := most_any w p _ most l h
theorem do_b (hB : B ≤ w.heap.size) (h : SB B w p most l) (k v : Int) (h0 : 0 ≤ k) (h1 : k ≤ 255) {l' : List Int} {c x : Int} (hd : sDo most l k v = (l', c, x)) :
    Calls Try.prog 15 #[.pointer (some ⟨p, 0, none⟩), .agg #[.int .u8 k, .int .i32 v]] w fun e w' => e = .returned (res c x) ∧ SB B w' p most l' ∧ Below B w w' := by
  have := step_base (stable_stack p most _) hB (do_any w p _ most l k v h0 h1 h)
  rw [hd] at this
  exact this
end

/-- Whether two answers are one: the walk's own form of it. -/
theorem known_any (w : World) : Calls Try.prog 9 #[] w fun e w' => e = .returned (.bool true) ∧ Below w.heap.size w w' := by
  have h1 := new_b (B := w.heap.size) (w := w) (Nat.le_refl _) 1
  rw [show cut 1 = 1 from rfl] at h1
  go_enter Try.func9, Try.ntmps9
  go_wp2_with fail
  refine (h1).mono ?_
  rintro e w1 ⟨rfl, s1, b1⟩
  go_wp2_with fail
  refine (push_b b1.size s1 5 (by simp)).mono ?_
  rintro e w2 ⟨rfl, s2, b2⟩
  have b2 := b1.trans b2
  go_wp2_with fail
  refine (push_fb b2.size s2 6 (by simp)).mono ?_
  rintro e w3 ⟨rfl, s3, b3⟩
  have b3 := b2.trans b3
  go_wp2_with fail
  refine (pop_b (l := []) b3.size 5 s3).mono ?_
  rintro e w4 ⟨rfl, s4, b4⟩
  have b4 := b3.trans b4
  go_wp2_with fail
  refine (do_b b4.size s4 2 0 (by omega) (by omega) (show sDo 1 [] 2 0 = ([], 4, 0) from rfl)).mono ?_
  rintro e w5 ⟨rfl, s5, b5⟩
  have b5 := b4.trans b5
  go_wp2_with fail
  refine (do_b b5.size s5 7 0 (by omega) (by omega) (show sDo 1 [] 7 0 = ([], 5, 0) from rfl)).mono ?_
  rintro e w6 ⟨rfl, s6, b6⟩
  have b6 := b5.trans b6
  go_wp2_with fail
  go_ret
  exact ⟨rfl, b6⟩
end Go.Proofs.Ytgnpchafcalkgaa
