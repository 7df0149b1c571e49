/-
  One thread that is always picked, in plain Lean.
-/
import Derived.Test.YtmcnccfbligeaaaFairP
namespace Go.Rp
open Go.RowKit

/-! ### One thread, always picked -/
theorem fair_ones (L fr to b : Nat) (hb : 1 ≤ b) (ht : to ≤ L) (spans : List Span) (hs : ∀ s ∈ spans, s.th = 0) : fairN (List.replicate L 0) spans fr to b = true :=
  fairN_iff.2 fun k _ h2 => winB_iff.2 fun s hsm => by
    cases hm : missB (List.replicate L 0) k b s with
    | false => rfl
    | true =>
      refine absurd ?_ (missB_iff.1 hm).2.2
      rw [hs s hsm, List.drop_replicate, List.take_replicate]
      exact List.mem_replicate.2 ⟨by omega, rfl⟩
theorem bnd111 : bndI 1 1 1 = 125 := by decide
theorem held_good (L : Nat) (hL : 125 ≤ L) (F : Int) (h0 : 0 ≤ F) (T : Int) (hT : T = F + 124) : heldI 1 1 (List.replicate L 0) [⟨0, 0, 0, 0, 0, 0, F, T⟩] 1 = true := by
  unfold heldI
  rw [bnd111]
  split
  · rfl
  · simp only [List.all_cons, List.all_nil, Bool.and_true]
    unfold lateB
    simp only [Bool.not_eq_true', Bool.and_eq_false_iff, Bool.or_eq_false_iff, decide_eq_false_iff_not]
    exact .inl (.inr ⟨by omega, by omega⟩)
theorem held_bad (L F : Nat) (hL : F + 125 ≤ L) (T : Int) (hT : T = -1 ∨ T = (F : Int) + 125) : heldI 1 1 (List.replicate L 0) [⟨0, 0, 0, 0, 0, 0, F, T⟩] 1 = false := by
  unfold heldI
  rw [bnd111, if_neg (by simp; omega)]
  simp only [List.all_cons, List.all_nil, Bool.and_true]
  have hf : fairI (List.replicate L 0) [⟨0, 0, 0, 0, 0, 0, F, T⟩] (F : Int) ((F : Int) + 125) 1 = true :=
    (fairI_in (fr := F) (to := F + 125) (b := 1) (by simp; omega) (by omega) (by omega)).trans (fair_ones L F (F + 125) 1 (by omega) (by omega) _ (by intro s hs; rw [List.mem_singleton.1 hs]))
  unfold lateB
  simp only [hf, Bool.and_true, Bool.not_eq_false', Bool.and_eq_true, Bool.or_eq_true, decide_eq_true_eq, List.length_replicate]
  exact ⟨⟨by omega, by omega⟩, by omega⟩
theorem held_short (L : Nat) (F : Int) (hL : (L : Int) - 125 < F) (T : Int) : heldI 1 1 (List.replicate L 0) [⟨0, 0, 0, 0, 0, 0, F, T⟩] 1 = true := by
  unfold heldI
  rw [bnd111]
  split
  · rfl
  · simp only [List.all_cons, List.all_nil, Bool.and_true]
    unfold lateB
    simp only [Bool.not_eq_true', Bool.and_eq_false_iff, Bool.or_eq_false_iff, decide_eq_false_iff_not, List.length_replicate]
    exact .inl (.inl (.inr (by omega)))
theorem held_far (L : Nat) (spans : List Span) (b : Int) (h1 : 1 ≤ b) (h2 : b ≤ 1000) (h : (L : Int) < b * 125) : heldI 1 1 (List.replicate L 0) spans b = true := by
  unfold heldI
  rw [bndI_in (by omega) (by omega) (by omega) (by omega) h1 (by omega), show (3 * sesI 1 1 + 32) = 125 by decide, if_pos (.inr (by simpa using h))]
end Go.Rp
