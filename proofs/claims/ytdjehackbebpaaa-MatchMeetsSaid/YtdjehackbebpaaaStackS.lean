/-
  The stack's New, Push, Pop, Len, Most at things that lie apart.
-/
import Derived.Test.YtdjehackbebpaaaStackT
import Derived.Test.YtdjehackbebpaaaOps
namespace Go.Proofs.Ytdjehackbebpaaa
open Go.RowKit Go.Rp

/-- A stack. -/
def stk (p most : Nat) (l : List Int) : Res := ⟨fun w S => StackAt w p S most l, stable_stack p most l⟩
section
variable {B : Nat} {w w' : World} {p most : Nat} {l : List Int} {L : List Res}
theorem new_s (hB : B ≤ w.heap.size) (h : At B w L) (m : Int) : Calls Try.prog 34 #[.int .i64 m] w fun e w' => e = .returned (.pointer (some ⟨w.heap.size, 0, none⟩)) ∧ At B w' (stk w.heap.size (cut m) [] :: L) ∧ Below B w w' :=
  (new_any w m).mono fun e w' ⟨he, hw⟩ => by
    subst hw
    have hb : Below w.heap.size w (w.alloc (.cells #[.slice none 0 0, .int .i64 (cut m : Int)] 67)) := (Below.refl _ w).alloc (Nat.le_refl _) _
    refine ⟨he, h.made (fun x hx => Nat.le_trans hB hx) hb ⟨none, 0, Blk.new _ _ _, Sl.nil _ _ _ _, ⟨Nat.le_refl _, by simp⟩, by simp, by unfold cut; omega⟩, hb.mono hB⟩
theorem push_s (hB : B ≤ w.heap.size) (h : At B w (stk p most l :: L)) (x : Int) : Calls Try.prog 30 #[.pointer (some ⟨p, 0, none⟩), .int .i32 x] w fun e w' => e = .returned (.bool (decide (l.length < most))) ∧ At B w' (stk p most (if l.length < most then l ++ [x] else l) :: L) ∧ Below B w w' :=
  h.step hB fun S _ hS => by
    by_cases hl : l.length < most
    · simp only [hl, decide_true, if_true]
      exact push_some w p S most l x hS hl
    · simp only [hl, decide_false, if_false]
      exact step_same (stable_stack p most l) hS (push_full w p S most l x hS (by have := StackAt.len hS; omega))
theorem push_ok (hB : B ≤ w.heap.size) (h : At B w (stk p most l :: L)) (x : Int) (hl : l.length < most) : Calls Try.prog 30 #[.pointer (some ⟨p, 0, none⟩), .int .i32 x] w fun e w' => e = .returned (.bool true) ∧ At B w' (stk p most (l ++ [x]) :: L) ∧ Below B w w' := by
  have := push_s hB h x
  simpa only [hl, decide_true, if_true] using this
theorem pop_s (hB : B ≤ w.heap.size) (x : Int) (h : At B w (stk p most (l ++ [x]) :: L)) : Calls Try.prog 33 #[.pointer (some ⟨p, 0, none⟩)] w fun e w' => e = .returned (.tuple #[.int .i32 x, .bool true]) ∧ At B w' (stk p most l :: L) ∧ Below B w w' :=
  h.step (a' := stk p most l) hB fun S _ hS => (pop_some w p S most l x hS).mono fun _ _ ⟨he, hs, hm⟩ => ⟨he, hs.mono grow_left, hm⟩
theorem len_s (h : At B w (stk p most l :: L)) {n : Nat} (hn : l.length = n) : Calls Try.prog 27 #[.pointer (some ⟨p, 0, none⟩)] w fun e w' => e = .returned (.int .i64 (n : Int)) ∧ w = w' := by subst hn; exact len_any w p _ most l h.get
theorem most_s (h : At B w (stk p most l :: L)) : Calls Try.prog 28 #[.pointer (some ⟨p, 0, none⟩)] w fun e w' => e = .returned (.int .i64 (most : Int)) ∧ w = w' := most_any w p _ most l h.get
theorem do_s (hB : B ≤ w.heap.size) (h : At B w (stk p most l :: L)) (k v : Int) (h0 : 0 ≤ k) (h1 : k ≤ 255) {l' : List Int} {c x : Int} (hd : sDo most l k v = (l', c, x)) :
    Calls Try.prog 36 #[.pointer (some ⟨p, 0, none⟩), .agg #[.int .u8 k, .int .i32 v]] w fun e w' => e = .returned (res c x) ∧ At B w' (stk p most l' :: L) ∧ Below B w w' :=
  h.step hB fun S _ hS => by
    have := do_any w p S most l k v h0 h1 hS
    rw [hd] at this
    exact this
abbrev ownI (A : Option Addr) (n c : Nat) (l : List Int) : Res := slRes 21 1 A n c (l.map fun x => Value.int .i32 x)
theorem items_s (hB : B ≤ w.heap.size) (h : At B w (stk p most l :: L)) {n : Nat} (hn : l.length = n) : Calls Try.prog 19 #[.pointer (some ⟨p, 0, none⟩)] w fun e w' => ∃ A c, e = .returned (.slice A n c) ∧ At B w' (ownI A n c l :: stk p most l :: L) ∧ Below B w w' := by
  subst hn
  exact (items_any w p _ most l h.get).mono fun e w' ⟨A, c, he, hs, hb⟩ => ⟨A, c, he, h.made (fun x hx => Nat.le_trans hB hx) hb hs, hb.mono hB⟩
theorem stk_len (h : At B w (stk p most l :: L)) : l.length ≤ most ∧ most ≤ 1000 := StackAt.len h.get
end
end Go.Proofs.Ytdjehackbebpaaa
