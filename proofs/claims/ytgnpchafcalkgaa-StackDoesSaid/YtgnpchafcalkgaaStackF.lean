/-
  The stack's functions at things that lie apart.
-/
import Derived.Test.YtgnpchafcalkgaaStackE
import Derived.Test.YtgnpchafcalkgaaSep
namespace Go.Proofs.Ytgnpchafcalkgaa
open Go.RowKit Go.Rp

/-- A stack. -/
def stk (p most : Nat) (l : List Int) : Res := ⟨fun w S => StackAt w p S most l, stable_stack p most l⟩
/-- Operations, read. -/
abbrev opsR (A : Option Addr) (n : Nat) (ops : List (Int × Int)) : Res := rdRes 2 (by omega) A n (ops.flatMap opCells)
/-- Items of the program's own. -/
abbrev ownI (A : Option Addr) (n c : Nat) (l : List Int) : Res := slRes 21 1 A n c (l.map fun x => Value.int .i32 x)

section
variable {B : Nat} {w w' : World} {p most : Nat} {l : List Int} {L : List Res}
abbrev At (B : Nat) (w : World) (L : List Res) : Prop := Sep w (fun x => B ≤ x) L
theorem new_s (hB : B ≤ w.heap.size) (h : At B w L) (m : Int) : Calls Try.prog 10 #[.int .i64 m] w fun e w' => e = .returned (.pointer (some ⟨w.heap.size, 0, none⟩)) ∧ At B w' (stk w.heap.size (cut m) [] :: L) ∧ Below B w w' :=
  (new_any w m).mono fun e w' ⟨he, hw⟩ => by
    subst hw
    have hb : Below w.heap.size w (w.alloc (.cells #[.slice none 0 0, .int .i64 (cut m : Int)] 51)) := (Below.refl _ w).alloc (Nat.le_refl _) _
    refine ⟨he, h.made (fun x hx => Nat.le_trans hB hx) hb ⟨none, 0, Blk.new _ _ _, Sl.nil _ _ _ _, ⟨Nat.le_refl _, by simp⟩, by simp, by unfold cut; omega⟩, hb.mono hB⟩
theorem push_s (hB : B ≤ w.heap.size) (h : At B w (stk p most l :: L)) (x : Int) : Calls Try.prog 11 #[.pointer (some ⟨p, 0, none⟩), .int .i32 x] w fun e w' => e = .returned (.bool (decide (l.length < most))) ∧ At B w' (stk p most (if l.length < most then l ++ [x] else l) :: L) ∧ Below B w w' :=
  h.step hB fun S _ hS => by
    by_cases hl : l.length < most
    · simp only [hl, decide_true, if_true]
      exact push_some w p S most l x hS hl
    · simp only [hl, decide_false, if_false]
      exact step_same (stable_stack p most l) hS (push_full w p S most l x hS (by have := StackAt.len hS; omega))
theorem pop_s (hB : B ≤ w.heap.size) (x : Int) (h : At B w (stk p most (l ++ [x]) :: L)) : Calls Try.prog 12 #[.pointer (some ⟨p, 0, none⟩)] w fun e w' => e = .returned (.tuple #[.int .i32 x, .bool true]) ∧ At B w' (stk p most l :: L) ∧ Below B w w' :=
  h.step (a' := stk p most l) hB fun S _ hS => (pop_some w p S most l x hS).mono fun _ _ ⟨he, hs, hm⟩ => ⟨he, hs.mono grow_left, hm⟩
theorem do_s (hB : B ≤ w.heap.size) (h : At B w (stk p most l :: L)) (k v : Int) (h0 : 0 ≤ k) (h1 : k ≤ 255) {l' : List Int} {c x : Int} (hd : sDo most l k v = (l', c, x)) :
    Calls Try.prog 15 #[.pointer (some ⟨p, 0, none⟩), .agg #[.int .u8 k, .int .i32 v]] w fun e w' => e = .returned (res c x) ∧ At B w' (stk p most l' :: L) ∧ Below B w w' :=
  h.step hB fun S _ hS => by
    have := do_any w p S most l k v h0 h1 hS
    rw [hd] at this
    exact this
theorem len_s (h : At B w (stk p most l :: L)) {n : Nat} (hn : l.length = n) : Calls Try.prog 13 #[.pointer (some ⟨p, 0, none⟩)] w fun e w' => e = .returned (.int .i64 (n : Int)) ∧ w = w' := len_b (B := B) h.get hn
theorem most_s (h : At B w (stk p most l :: L)) : Calls Try.prog 14 #[.pointer (some ⟨p, 0, none⟩)] w fun e w' => e = .returned (.int .i64 (most : Int)) ∧ w = w' := most_b (B := B) h.get
theorem items_s (hB : B ≤ w.heap.size) (h : At B w (stk p most l :: L)) {n : Nat} (hn : l.length = n) : Calls Try.prog 16 #[.pointer (some ⟨p, 0, none⟩)] w fun e w' => ∃ A c, e = .returned (.slice A n c) ∧ At B w' (ownI A n c l :: stk p most l :: L) ∧ Below B w w' := by
  subst hn
  exact (items_any w p _ most l h.get).mono fun e w' ⟨A, c, he, hs, hb⟩ => ⟨A, c, he, h.made (fun x hx => Nat.le_trans hB hx) hb hs, hb.mono hB⟩
theorem copy_s (hB : B ≤ w.heap.size) (h : At B w (stk p most l :: L)) : Calls Try.prog 21 #[.pointer (some ⟨p, 0, none⟩)] w fun e w' => ∃ q, e = .returned (.pointer (some ⟨q, 0, none⟩)) ∧ At B w' (stk q most l :: stk p most l :: L) ∧ Below B w w' :=
  (copy_any w p _ most l h.get).mono fun e w' ⟨q, he, hs, hb⟩ => ⟨q, he, h.made (fun x hx => Nat.le_trans hB hx) hb hs, hb.mono hB⟩
theorem run_s (hB : B ≤ w.heap.size) {A : Option Addr} {n c : Nat} {ops : List (Int × Int)} (h : At B w (stk p most l :: opsR A n ops :: L)) (hn : ops.length = n) (hk : ∀ o ∈ ops, 0 ≤ o.1 ∧ o.1 ≤ 255) (hlen : n ≤ 1000000) :
    Calls Try.prog 20 #[.pointer (some ⟨p, 0, none⟩), .slice A n c] w fun e w' => e = .returned (.tuple #[]) ∧ At B w' (stk p most (runs most l ops) :: opsR A n ops :: L) ∧ Below B w w' :=
  h.step2 (a' := stk p most (runs most l ops)) hB fun S R hR hS hr => run_any w p S most l hS A n c R ops hn hr hR hk hlen
theorem Ops_s (hB : B ≤ w.heap.size) (h : At B w L) {A : Option Addr} {n c : Nat} {R : Nat → Prop} {cs : List Nat} (hn : cs.length = n) (hr : Rd w R 1 A n (cs.map fun (x : Nat) => Value.int .u8 (x : Int))) (h8 : ∀ x ∈ cs, x < 256) (hlen : n ≤ 140737488351232) (kinds : Nat) (hk : 0 < kinds) (hk2 : kinds ≤ 200) :
    Calls Try.prog 19 #[.slice A n c, .int .u8 (kinds : Int)] w fun e w' => ∃ A' m c', e = .returned (.slice A' m c') ∧ (opsOf kinds cs).length = m ∧ m ≤ 80 ∧ At B w' (opsR A' m (opsOf kinds cs) :: L) ∧ Below B w w' :=
  (Ops_any w A n c R cs hn hr h8 hlen kinds hk hk2).mono fun e w' ⟨A', c', he, hs, hb⟩ => ⟨A', _, c', he, rfl, by unfold opsOf; simp; omega, h.made (fun x hx => Nat.le_trans hB hx) hb hs.rd, hb.mono hB⟩
theorem known_s (hB : B ≤ w.heap.size) (h : At B w L) : Calls Try.prog 9 #[] w fun e w' => e = .returned (.bool true) ∧ At B w' L ∧ Below B w w' :=
  (known_any w).mono fun _ _ ⟨he, hb⟩ => ⟨he, h.keep hb, hb.mono hB⟩
theorem Same_s (hB : B ≤ w.heap.size) (h : At B w L) {A A' : Option Addr} {n n' c c' : Nat} {R R' : Nat → Prop} {xs ys : List Int} (hx : Rd w R 1 A n (xs.map fun x => Value.int .i32 x)) (hy : Rd w R' 1 A' n' (ys.map fun x => Value.int .i32 x)) (hn : n ≤ 1000000) (hn' : n' ≤ 1000000) :
    Calls Try.prog 17 #[.slice A n c, .slice A' n' c'] w fun e w' => e = .returned (.bool (decide (xs = ys))) ∧ At B w' L ∧ Below B w w' :=
  (Same_any w A A' n n' c c' R R' xs ys hx hy hn hn').mono fun _ _ ⟨he, hb⟩ => ⟨he, h.keep hb, hb.mono hB⟩
end
end Go.Proofs.Ytgnpchafcalkgaa
