/-
  The chapter's example, and small words for the laws.
-/
import Derived.Test.YtmcnccfbligeaaaFairC
namespace Go.Proofs.Ytmcnccfbligeaaa
open Go.RowKit Go.Rp Go.Maps

theorem u8_mod {x : Int} (hx : (Lit.int .u8 x).wf = true) (k : Int) (hk : 0 < k) : ∃ n : Nat, (n : Int) < k ∧ x % k = (n : Int) ∧ 0 ≤ x ∧ x ≤ 255 := by
  have := wf_u8 hx
  have h1 := Int.emod_nonneg x (b := k) (by omega)
  have h2 := Int.emod_lt_of_pos x (b := k) (by omega)
  exact ⟨(x % k).toNat, by omega, by omega, this.1, this.2⟩

theorem fair_v {w : World} {A : Option Addr} {n c : Nat} {picks : List Int} (hp : Picks w A n picks) {A2 : Option Addr} {n2 c2 : Nat} {spans : List Span} (hs : Spans w A2 n2 spans) {fr to b : Int} (hf : -9223372036854775808 ≤ fr ∧ fr ≤ 9223372036854775807) (ht : -9223372036854775808 ≤ to ∧ to ≤ 9223372036854775807) (hb : -9223372036854775808 ≤ b ∧ b ≤ 9223372036854775807) {v : Bool} (hv : fairI picks spans fr to b = v) :
    Calls Try.prog 10 #[.slice A n c, .slice A2 n2 c2, .int .i64 fr, .int .i64 to, .int .i64 b] w fun e w' => e = .returned (.bool v) ∧ Below w.heap.size w w' := by
  subst hv
  exact fair_any w A n c picks hp A2 n2 c2 spans hs fr to b hf ht hb
theorem bound_v {w : World} {t b p v : Int} (hv : bndI t b p = v) : Calls Try.prog 11 #[.int .i64 t, .int .i64 b, .int .i64 p] w fun e w' => e = .returned (.int .i64 v) ∧ w = w' := by subst hv; exact bound_any w t b p
theorem session_v {w : World} {t p v : Int} (hv : sesI t p = v) : Calls Try.prog 12 #[.int .i64 t, .int .i64 p] w fun e w' => e = .returned (.int .i64 v) ∧ w = w' := by subst hv; exact session_any w t p

theorem Spans.nil (w : World) : Spans w none 0 [] := ⟨⟨fun _ => False, Rd.nil⟩, rfl, by omega, by simp⟩
/-- Slices that a literal makes. -/
theorem Picks.lit (w : World) (zs : List Int) (n : Nat) (hn : zs.length = n) (hm : n ≤ 1000) (hz : ∀ z ∈ zs, (Lit.int .i64 z).wf = true) : Picks (w.alloc (.cells (zs.map fun x => Value.int .i64 x).toArray 3)) (some ⟨w.heap.size, 0, none⟩) n zs :=
  ⟨⟨_, by simpa using Rd.lit (sz := 1) w 3 (zs.map fun x => Value.int .i64 x).toArray n (by simpa using hn)⟩, hn, by omega, hz⟩
theorem Spans.lit (w : World) (ss : List Span) (n : Nat) (hn : ss.length = n) (hm : n ≤ 1000) (hz : ∀ z ∈ ss, spanOk z) : Spans (w.alloc (.cells (ss.flatMap spanIn).toArray 30)) (some ⟨w.heap.size, 0, none⟩) n ss :=
  ⟨⟨_, by simpa using Rd.lit (sz := 8) w 30 (ss.flatMap spanIn).toArray n (by
    subst hn
    clear hz hm
    induction ss with
    | nil => rfl
    | cons a l ih => simp [spanIn] at ih ⊢; omega)⟩, hn, by omega, hz⟩
theorem Picks.alloc {w : World} {A : Option Addr} {n : Nat} {picks : List Int} (h : Picks w A n picks) (o : Obj) : Picks (w.alloc o) A n picks := h.keep ((Below.refl _ _).alloc (Nat.le_refl _) _)
theorem Spans.alloc {w : World} {A : Option Addr} {n : Nat} {ss : List Span} (h : Spans w A n ss) (o : Obj) : Spans (w.alloc o) A n ss := h.keep ((Below.refl _ _).alloc (Nat.le_refl _) _)
abbrev sp0 (fr to : Int) : Span := ⟨0, 0, 0, 0, 0, 0, fr, to⟩
theorem sp_ok {th fr to : Int} (h0 : (Lit.int .i64 th).wf = true) (h1 : (Lit.int .i64 fr).wf = true) (h2 : (Lit.int .i64 to).wf = true) : spanOk ⟨th, 0, 0, 0, 0, 0, fr, to⟩ := ⟨h0, (show (Lit.int .i64 0).wf = true from by decide), (show (Lit.int .u8 0).wf = true from by decide), (show (Lit.int .i32 0).wf = true from by decide), (show (Lit.int .u8 0).wf = true from by decide), (show (Lit.int .i32 0).wf = true from by decide), h1, h2⟩

theorem lits3 (w : World) (a b c : Int) (ha : (Lit.int .i64 a).wf = true) (hb : (Lit.int .i64 b).wf = true) (hc : (Lit.int .i64 c).wf = true) :
    Picks ((w.alloc (.cells #[.int .i64 a, .int .i64 b, .int .i64 c] 3)).alloc (.cells #[.int .i64 0, .int .i64 0, .int .u8 0, .int .i32 0, .int .u8 0, .int .i32 0, .int .i64 0, .int .i64 (-1)] 30)) (some ⟨w.heap.size, 0, none⟩) 3 [a, b, c] ∧
    Spans ((w.alloc (.cells #[.int .i64 a, .int .i64 b, .int .i64 c] 3)).alloc (.cells #[.int .i64 0, .int .i64 0, .int .u8 0, .int .i32 0, .int .u8 0, .int .i32 0, .int .i64 0, .int .i64 (-1)] 30)) (some ⟨w.heap.size + 1, 0, none⟩) 1 [sp0 0 (-1)] ∧
    Below w.heap.size w ((w.alloc (.cells #[.int .i64 a, .int .i64 b, .int .i64 c] 3)).alloc (.cells #[.int .i64 0, .int .i64 0, .int .u8 0, .int .i32 0, .int .u8 0, .int .i32 0, .int .i64 0, .int .i64 (-1)] 30)) := by
  refine ⟨(Picks.lit w [a, b, c] 3 rfl (by omega) (by intro z hz; simp at hz; rcases hz with rfl | rfl | rfl <;> assumption)).alloc _, ?_, ((Below.refl _ _).alloc (Nat.le_refl _) _).alloc (by simp) _⟩
  have := Spans.lit (w.alloc (.cells #[.int .i64 a, .int .i64 b, .int .i64 c] 3)) [sp0 0 (-1)] 1 rfl (by omega) (by intro z hz; rw [List.mem_singleton.1 hz]; exact sp_ok (by decide) (by decide) (by decide))
  rw [World.size_alloc] at this
  exact this

theorem known_any (w : World) : Calls Try.prog 9 #[] w fun e w' => e = .returned (.bool true) ∧ Below w.heap.size w w' := by
  obtain ⟨p1, q1, d1⟩ := lits3 w 0 1 0 (by decide) (by decide) (by decide)
  have f1 := fair_v (c := 3) (c2 := 1) p1 q1 (fr := 0) (to := 3) (b := 2) (by omega) (by omega) (by omega) (show fairI [0, 1, 0] [sp0 0 (-1)] 0 3 2 = true by decide)
  clear p1 q1
  go_enter Try.func9, Try.ntmps9
  go_wp2_with fail
  refine (bound_v (show bndI 2 2 1 = 370 by decide)).mono ?_
  rintro e w1 ⟨rfl, rfl⟩
  go_wp2_with fail
  refine (session_v (show sesI 2 1 = 51 by decide)).mono ?_
  rintro e w1 ⟨rfl, rfl⟩
  go_wp2_with fail
  refine (f1).mono ?_
  rintro e w2 ⟨rfl, b2⟩
  have b2 := d1.trans (b2.mono (by simp; omega))
  clear f1 d1
  obtain ⟨p1, q1, d1⟩ := lits3 w2 0 1 1 (by decide) (by decide) (by decide)
  have f1 := fair_v (c := 3) (c2 := 1) p1 q1 (fr := 0) (to := 3) (b := 2) (by omega) (by omega) (by omega) (show fairI [0, 1, 1] [sp0 0 (-1)] 0 3 2 = false by decide)
  clear p1 q1
  go_wp2_with fail
  refine (f1).mono ?_
  rintro e w3 ⟨rfl, b3⟩
  go_wp2_with fail
  go_ret
  exact ⟨rfl, (b2.trans (d1.mono b2.size)).trans (b3.mono (by have := b2.size; simp; omega))⟩
end Go.Proofs.Ytmcnccfbligeaaa
