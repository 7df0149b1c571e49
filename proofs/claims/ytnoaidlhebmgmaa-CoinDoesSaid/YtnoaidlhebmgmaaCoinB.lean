/-
  The coin: Clone, Copy, and calls of a coin that is nil.
-/
import Derived.Test.YtnoaidlhebmgmaaCoinA
namespace Go.Proofs.Ytnoaidlhebmgmaa
open Go.RowKit Go.Rp

theorem clone_any (w : World) (A : Option Addr) (n c : Nat) (R : Nat → Prop) (xs : List Value) (hr : Rd w R 1 A n xs) (hA : A = none → n = 0 ∧ c = 0) (h1 : ∀ u ∈ xs, u.oneCell' = true) (hn : n ≤ 100000000) :
    Calls Try.prog 19 #[.slice A n c] w (NewSl w 4 1 n xs) := by
  obtain ⟨i0, hi0, hz0, hz1, hz2⟩ := info_parts info_bool
  have hnil := fun (W : World) (A : Option Addr) (n c : Nat) => Lib.run_eql_slice_nil (P := Try.prog) W 35 4 A n c 0 0 Try.underlying35
  rcases A with _ | a
  · obtain ⟨rfl, rfl⟩ := hA rfl
    have hx : xs = [] := List.eq_nil_of_length_eq_zero (by simpa using hr.1)
    subst hx
    go_enter Try.func19, Try.ntmps19
    go_wp2
    go_ret
    exact ⟨none, 0, rfl, Sl.nil _ _ _ _, Below.refl _ _⟩
  · go_enter Try.func19, Try.ntmps19
    go_wp2_with (at_builtin; refine wpList_append_sl _ rfl (.tmp 5) (.tmp 6) _ rfl 4 i0 _ 1 1 Try.underlying35 hi0 hz0 hz1 hz2 rfl (by omega) (some ⟨w.heap.size, 0, none⟩) 0 0 [] (fun b => b = w.heap.size) rfl (Sl.lit0 _ _ _ rfl) R (some a) n c xs rfl (hr.alloc _) h1 (by simp only [maxLen]; omega) (by omega) ?_; intro A' c' w1 hown1 hmod1)
    go_ret
    have hz := hmod1.size
    simp at hz
    refine ⟨A', c', by simp, ?_, ?_⟩
    · rw [Nat.zero_add, List.nil_append] at hown1
      refine hown1.mono fun b hb => ?_
      rcases hb with hb | hb
      · exact ⟨by omega, by omega⟩
      · simp at hb; exact ⟨by omega, hb.2⟩
    · exact ((Below.refl _ w).alloc (Nat.le_refl _) _).trans (hmod1.below (by simp) (fun b hb => by omega))

/-- The coin is new, of new memory; nothing else has turned. -/
def NewCoin (w : World) (bits : List Bool) (en : Ending) (w' : World) : Prop :=
  ∃ p, en = .returned (.pointer (some ⟨p, 0, none⟩)) ∧ CoinAt w' p (fun b => w.heap.size ≤ b ∧ b < w'.heap.size) bits ∧ Below w.heap.size w w'

theorem new_coin (w : World) : Calls Try.prog 9 #[] w (NewCoin w []) := (new_any w).mono fun e w' ⟨he, hw⟩ => by
  subst hw
  exact ⟨w.heap.size, he, ⟨none, 0, Blk.new _ _ _, Sl.nil _ _ _ _, ⟨Nat.le_refl _, by simp⟩, by simp⟩, (Below.refl _ w).alloc (Nat.le_refl _) _⟩

theorem copy_any (w : World) (p : Nat) (S : Nat → Prop) (bits : List Bool) (h : CoinAt w p S bits) :
    Calls Try.prog 18 #[.pointer (some ⟨p, 0, none⟩)] w (NewCoin w bits) := by
  obtain ⟨A, c, hb, hs, hp, h20⟩ := h
  have hc : w.cell? ⟨p, 0, none⟩ = some (.slice A bits.length c) := hb.cell 0
  have hcl := clone_any w A bits.length c _ (bits.map .bool) hs.rd (by rintro rfl; rcases hs.2.2.2 with h | ⟨_, _, _, h, _⟩; exact h.2; cases h) (by intro u hu; obtain ⟨x, _, rfl⟩ := List.mem_map.1 hu; rfl) (by omega)
  go_enter Try.func18, Try.ntmps18
  go_wp2_with (go_at_call 19; refine hcl.mono ?_; rintro e w1 ⟨A1, c1, rfl, hs1, hb1⟩)
  go_ret
  have hz := hb1.size
  refine ⟨w1.heap.size, rfl, ⟨A1, c1, Blk.new _ _ _, (hs1.mono fun b hb => ⟨hb.1, ?_⟩).alloc _, ⟨hz, by simp⟩, h20⟩, hb1.alloc hz _⟩
  simp; omega
theorem copy_nil (w : World) : Calls Try.prog 18 #[.pointer none] w (NewCoin w []) := by
  have hn := new_coin w
  go_enter Try.func18, Try.ntmps18
  go_wp2_with (go_at_call 9; refine hn.mono ?_; rintro e w1 ⟨p, rfl, h1, h2⟩)
  go_ret
  exact ⟨p, rfl, h1, h2⟩
theorem toss_nil (w : World) : Calls Try.prog 12 #[.pointer none] w fun e w' => e = .returned (.bool false) ∧ w = w' := by
  have hn := left_nil w
  go_enter Try.func12, Try.ntmps12
  go_wp2_with (go_at_call 13; refine hn.mono ?_; rintro e w1 ⟨rfl, rfl⟩)
  go_ret
  exact ⟨rfl, rfl⟩
theorem height_nil (w : World) : Calls Try.prog 14 #[.pointer none] w fun e w' => e = .returned (.int .i64 1) ∧ w = w' := by
  have hn := toss_nil w
  go_enter Try.func14, Try.ntmps14
  go_wp2
  go_step3
  go_wp2
  go_step3
  go_wp2
  refine wp_loop_rounds 1 ?_
  rw [rounds_succ]
  go_wp2_with (go_at_call 12; refine hn.mono ?_; rintro e w1 ⟨rfl, rfl⟩)
  rw [Exit.noGoto_ret]
  go_ret
  exact ⟨rfl, rfl⟩
theorem feed_nil (w : World) (A : Option Addr) (n c : Nat) : Calls Try.prog 11 #[.pointer none, .slice A n c] w fun e w' => e = .returned (.tuple #[]) ∧ w = w' := by
  go_enter Try.func11, Try.ntmps11
  go_wp2
  refine bodyPost_ret (results_none rfl _ _ _) rfl ?_
  exact ⟨rfl, rfl⟩
end Go.Proofs.Ytnoaidlhebmgmaa
