/-
  The walk of StackMost.
-/
import Derived.Test.YtgnpchafcalkgaaStackE
namespace Go.Proofs.Ytgnpchafcalkgaa
open Go.RowKit Go.Rp

theorem known_b {B : Nat} (w : World) (hB : B ≤ w.heap.size) : Calls Try.prog 9 #[] w fun e w' => e = .returned (.bool true) ∧ Below B w w' :=
  (known_any w).mono fun _ _ ⟨he, hb⟩ => ⟨he, hb.mono hB⟩
theorem push_c {B : Nat} {w : World} {p most : Nat} {l : List Int} (hB : B ≤ w.heap.size) (h : SB B w p most l) (x : Int) : Calls Try.prog 11 #[.pointer (some ⟨p, 0, none⟩), .int .i32 x] w fun e w' => e = .returned (.bool (decide (l.length < most))) ∧ SB B w' p most (if l.length < most then l ++ [x] else l) ∧ Below B w w' := by
  by_cases hl : l.length < most
  · simpa [hl] using push_b hB h x hl
  · simpa [hl] using push_fb hB h x (by have := h.len; omega)
theorem cut_cases (m : Int) : (m < 0 ∧ cut m = 0) ∨ (1000 < m ∧ cut m = 1000) ∨ ∃ n : Nat, n ≤ 1000 ∧ m = (n : Int) ∧ cut m = n := by
  unfold cut
  rcases (show m < 0 ∨ 1000 < m ∨ (0 ≤ m ∧ m ≤ 1000) by omega) with h | h | h
  · exact .inl ⟨h, by omega⟩
  · exact .inr (.inl ⟨h, by omega⟩)
  · exact .inr (.inr ⟨m.toNat, by omega, by omega, by omega⟩)

set_option maxHeartbeats 4000000 in
theorem StackMost_walk (w : World) (x : Int) (hx : (Lit.int .i64 x).wf = true) (y : Int) (hy : (Lit.int .i16 y).wf = true) :
    Calls Try.prog 4 #[.int .i64 x, .int .i16 y] w fun e w' => e = .returned (.bool true) ∧ Below w.heap.size w w' := by
  have h1 := new_b (B := w.heap.size) (w := w) (Nat.le_refl _) x
  have h2 := fun (w1 : World) => new_b (B := w1.heap.size) (w := w1) (Nat.le_refl _) y
  have hy1 : -32768 ≤ y ∧ y ≤ 32767 := by
    simp [Lit.wf, IntKind.min, IntKind.max, IntKind.signed, IntKind.bits] at hy
    omega
  have hx1 : -9223372036854775808 ≤ x ∧ x ≤ 9223372036854775807 := by
    simp [Lit.wf, IntKind.min, IntKind.max, IntKind.signed, IntKind.bits] at hx
    omega
  have hk : ∀ W : World, w.heap.size ≤ W.heap.size → Calls Try.prog 9 #[] W fun e w' => e = .returned (.bool true) ∧ Below W.heap.size W w' := fun W _ => known_any W
  clear hx hy
  rcases (show (y < 0 ∧ cut y = 0) ∨ (y = 0 ∧ cut y = 0) ∨ (1000 < y ∧ cut y = 1000) ∨ ∃ n : Nat, 0 < n ∧ n ≤ 1000 ∧ y = (n : Int) ∧ cut y = n from by
    rcases cut_cases y with h | h | ⟨n, h1, h2, h3⟩
    · exact .inl h
    · exact .inr (.inr (.inl h))
    · rcases n with _ | n
      · exact .inr (.inl ⟨h2, h3⟩)
      · exact .inr (.inr (.inr ⟨n + 1, by omega, h1, h2, h3⟩))) with ⟨hy, e⟩ | ⟨rfl, e⟩ | ⟨hy, e⟩ | ⟨m, hm0, hm, rfl, e⟩ <;> rw [e] at h2 <;> clear e <;> rcases cut_cases x with ⟨hx, e⟩ | ⟨hx, e⟩ | ⟨n, hn, rfl, e⟩ <;> rw [e] at h1 <;> clear e
  all_goals
    go_enter Try.func4, Try.ntmps4
    go_wp2_with fail
    refine (h1).mono ?_
    rintro e w1 ⟨rfl, s1, b1⟩
    go_wp2_with fail
    refine (h2 w1).mono ?_
    rintro e w2 ⟨rfl, t2, b2⟩
    have s2 := s1.keep b2
    have c2 := b1.trans (b2.mono b1.size)
    go_wp2_with fail
    refine (hk w2 c2.size).mono ?_
    rintro e w3 ⟨rfl, b3⟩
    have s3 := s2.keep b3
    have t3 := t2.keep b3
    have c3 := c2.trans (b3.mono c2.size)
    go_wp2_with fail
    refine (most_b s3).mono ?_
    rintro e w4 ⟨rfl, rfl⟩
    go_wp2_with fail
    refine (most_b s3).mono ?_
    rintro e w4 ⟨rfl, rfl⟩
    go_wp2_with fail
    refine (most_b t3).mono ?_
    rintro e w4 ⟨rfl, rfl⟩
    first
    | (skip
       go_wp2_with fail
       refine (push_fb (Nat.le_trans b2.size b3.size) t3 1 rfl).mono ?_
       rintro e w4 ⟨rfl, t4, b4⟩
       have s4 := s1.keep ((b2.trans (b3.mono b2.size)).trans b4)
       have c4 := c3.trans (b4.mono b1.size))
    | (skip
       go_wp2_with fail
       refine (push_b (Nat.le_trans b2.size b3.size) t3 1 (by show 0 < _; omega)).mono ?_
       rintro e w4 ⟨rfl, t4, b4⟩
       have s4 := s1.keep ((b2.trans (b3.mono b2.size)).trans b4)
       have c4 := c3.trans (b4.mono b1.size))
    go_wp2_with fail
    first
    | (go_ret; exact ⟨rfl, c4⟩)
    | (refine (most_b s4).mono ?_
       rintro e w5 ⟨rfl, rfl⟩
       go_wp2_with fail
       go_ret
       exact ⟨rfl, c4⟩)
end Go.Proofs.Ytgnpchafcalkgaa
