/-
  The deque: the chapter's example.
-/
import Derived.Test.YtehmnhdmkjdghaaRingB
import Derived.Deep.LoopGhost
namespace Go.Proofs.Ytehmnhdmkjdghaa
open Go.RowKit Go.Rp

theorem wf_i64' {x : Int} (h : (Lit.int .i64 x).wf = true) : -9223372036854775808 ≤ x ∧ x ≤ 9223372036854775807 := by
  simp [Lit.wf, IntKind.min, IntKind.max, IntKind.signed, IntKind.bits] at h
  omega
theorem wf_i16' {x : Int} (h : (Lit.int .i16 x).wf = true) : -32768 ≤ x ∧ x ≤ 32767 := by
  simp [Lit.wf, IntKind.min, IntKind.max, IntKind.signed, IntKind.bits] at h
  omega
theorem u8_mod {x : Int} (hx : (Lit.int .u8 x).wf = true) (k : Int) (hk : 0 < k) : ∃ n : Nat, (n : Int) < k ∧ x % k = (n : Int) ∧ 0 ≤ x ∧ x ≤ 255 := by
  have := wf_u8 hx
  have h1 := Int.emod_nonneg x (b := k) (by omega)
  have h2 := Int.emod_lt_of_pos x (b := k) (by omega)
  exact ⟨(x % k).toNat, by omega, by omega, this.1, this.2⟩
theorem cut_nat (n : Nat) (h : n ≤ 1000) : cut (n : Int) = n := by unfold cut; omega

theorem known_any (w : World) : Calls Try.prog 14 #[] w fun e w' => e = .returned (.bool true) ∧ Below w.heap.size w w' := by
  have s0 : At w.heap.size w [] := trivial
  go_enter Try.func14, Try.ntmps14
  go_wp2_with fail
  refine (new_s (Nat.le_refl _) s0 2).mono ?_
  rintro e w1 ⟨p, rfl, s1, b1⟩
  rw [show cut 2 = 2 by decide] at s1
  go_wp2_with fail
  refine (pushL_s b1.size s1 1).mono ?_
  rintro e w2 ⟨rfl, s2, b2⟩
  have b2 := b1.trans b2
  rw [if_pos (by decide)] at s2
  go_wp2_with fail
  refine (pushL_s b2.size s2 2).mono ?_
  rintro e w3 ⟨rfl, s3, b3⟩
  have b3 := b2.trans b3
  rw [if_pos (by decide)] at s3
  have s3' : At w.heap.size w3 (ringR p 2 ([2] ++ [1]) :: []) := s3
  go_wp2_with fail
  refine (popR_s b3.size s3').mono ?_
  rintro e w4 ⟨rfl, s4, b4⟩
  have b4 := b3.trans b4
  clear s1 s2 s3 s3' b1 b2 b3
  go_wp2_with fail
  refine (rlen_s s4 rfl).mono ?_
  rintro e w5 ⟨rfl, rfl⟩
  go_wp2_with fail
  refine (do_s b4.size s4 3 0 (by decide) (by decide) (show rDo 2 [2] 3 0 = ([], 2, 2) from rfl)).mono ?_
  rintro e w6 ⟨rfl, s6, b6⟩
  have b6 := b4.trans b6
  clear s4 b4
  go_wp2_with fail
  refine (do_s b6.size s6 0 0 (by decide) (by decide) (show rDo 2 [] 0 0 = ([], 5, 0) from rfl)).mono ?_
  rintro e w7 ⟨rfl, s7, b7⟩
  have b7 := b6.trans b7
  go_wp2_with fail
  go_ret
  exact ⟨rfl, b7⟩
section
variable {B : Nat} {w : World} {L : List Res}
theorem known_s (hB : B ≤ w.heap.size) (h : At B w L) : Calls Try.prog 14 #[] w fun e w' => e = .returned (.bool true) ∧ At B w' L ∧ Below B w w' :=
  (known_any w).mono fun _ _ ⟨he, hb⟩ => ⟨he, h.keep hb, hb.mono hB⟩
end
end Go.Proofs.Ytehmnhdmkjdghaa
