/-
  The stack: the walks of New, Len, Most, Push, Pop, Items, Copy.
-/
import Derived.Test.YtdjehackbebpaaaProg
import Derived.Test.YtdjehackbebpaaaMem
import Derived.WalkKit
import Derived.WalkLawsBesides
import Derived.WalkSpells
import Derived.Lib.Hide
import Derived.Deep.QuietTactic
import Derived.BigQuiet
namespace Go.Proofs.Ytdjehackbebpaaa
open Go.RowKit Go.Rp

theorem ret_int {k : IntKind} {a b : Int} (h : a = b) : Ending.returned (.int k a) = .returned (.int k b) := by rw [h]

/-- The stack at block p holds the items, the lowest first; its blocks are among S. -/
def StackAt (w : World) (p : Nat) (S : Nat → Prop) (most : Nat) (l : List Int) : Prop :=
  ∃ A c, Blk w p 67 #[.slice A l.length c, .int .i64 (most : Int)] ∧ Sl w 21 1 A l.length c (l.map fun x => Value.int .i32 x) S ∧ S p ∧ l.length ≤ most ∧ most ≤ 1000

section
variable {w w' : World} {p most : Nat} {S T : Nat → Prop} {l : List Int}
theorem StackAt.mono (h : StackAt w p S most l) (hS : ∀ b, S b → T b) : StackAt w p T most l := by
  obtain ⟨A, c, hb, hs, hp, hl⟩ := h
  exact ⟨A, c, hb, hs.mono hS, hS p hp, hl⟩
theorem StackAt.mod (h : StackAt w p S most l) (hm : Mod T w w') (hd : ∀ b, S b → ¬ T b) : StackAt w' p S most l := by
  obtain ⟨A, c, hb, hs, hp, hl⟩ := h
  exact ⟨A, c, hb.mod hm (hd p hp), hs.mod hm hd, hp, hl⟩
theorem StackAt.alloc (h : StackAt w p S most l) (o : Obj) : StackAt (w.alloc o) p S most l := by
  obtain ⟨A, c, hb, hs, hp, hl⟩ := h
  exact ⟨A, c, hb.alloc o, hs.alloc o, hp, hl⟩
theorem StackAt.drew (h : StackAt w p S most l) : StackAt w.drew p S most l := h
theorem StackAt.drewN (h : StackAt w p S most l) (n : Nat) : StackAt (w.drewN n) p S most l := h
theorem StackAt.lt (h : StackAt w p S most l) : StackAt w p (fun b => S b ∧ b < w.heap.size) most l := by
  obtain ⟨A, c, hb, hs, hp, hl⟩ := h
  exact ⟨A, c, hb, hs.lt, ⟨hp, hb.lt⟩, hl⟩
theorem StackAt.keep (h : StackAt w p S most l) (hb : Below w.heap.size w w') : StackAt w' p S most l :=
  (h.lt.mod (T := fun b => w.heap.size ≤ b) (Mod.of_below hb) (fun b hb => by omega)).mono fun _ hb => hb.1
theorem StackAt.len (h : StackAt w p S most l) : l.length ≤ most ∧ most ≤ 1000 := by obtain ⟨A, c, hb, hs, hp, hl⟩ := h; exact hl
end

theorem stable_stack (p most : Nat) (l : List Int) : Stable (fun w S => StackAt w p S most l) := ⟨fun h => h.mono, fun h => h.mod, fun h => h.lt⟩

theorem len_any (w : World) (p : Nat) (S : Nat → Prop) (most : Nat) (l : List Int) (h : StackAt w p S most l) :
    Calls Try.prog 27 #[.pointer (some ⟨p, 0, none⟩)] w fun e w' => e = .returned (.int .i64 (l.length : Int)) ∧ w = w' := by
  obtain ⟨A, c, hb, hs, hp, hl⟩ := h
  have hc : w.cell? ⟨p, 0, none⟩ = some (.slice A l.length c) := hb.cell 0
  go_enter Try.func27, Try.ntmps27
  go_wp2
  go_ret
  exact ⟨rfl, rfl⟩
theorem len_nil (w : World) : Calls Try.prog 27 #[.pointer none] w fun e w' => e = .returned (.int .i64 0) ∧ w = w' := by
  go_enter Try.func27, Try.ntmps27
  go_wp2
  go_ret
  exact ⟨rfl, rfl⟩
theorem most_any (w : World) (p : Nat) (S : Nat → Prop) (most : Nat) (l : List Int) (h : StackAt w p S most l) :
    Calls Try.prog 28 #[.pointer (some ⟨p, 0, none⟩)] w fun e w' => e = .returned (.int .i64 (most : Int)) ∧ w = w' := by
  obtain ⟨A, c, hb, hs, hp, hl⟩ := h
  have hc : w.cell? ⟨p, 1, none⟩ = some (.int .i64 (most : Int)) := hb.cell 1
  go_enter Try.func28, Try.ntmps28
  go_wp2
  go_ret
  exact ⟨rfl, rfl⟩
theorem most_nil (w : World) : Calls Try.prog 28 #[.pointer none] w fun e w' => e = .returned (.int .i64 0) ∧ w = w' := by
  go_enter Try.func28, Try.ntmps28
  go_wp2
  go_ret
  exact ⟨rfl, rfl⟩

/-- As many as may be. -/
def cut (m : Int) : Nat := (max 0 (min m 1000)).toNat

theorem new_any (w : World) (m : Int) :
    Calls Try.prog 34 #[.int .i64 m] w fun e w' => e = .returned (.pointer (some ⟨w.heap.size, 0, none⟩)) ∧ w' = w.alloc (.cells #[.slice none 0 0, .int .i64 (cut m : Int)] 67) := by
  by_cases h1 : m ≤ 0
  · have e : ((cut m : Nat) : Int) = 0 := by unfold cut; omega
    rw [e]
    have H := Lib.hid e
    clear e
    go_enter Try.func34, Try.ntmps34
    go_wp2
    go_ret
    exact ⟨rfl, rfl⟩
  · by_cases h2 : 1000 < m
    · have e : ((cut m : Nat) : Int) = 1000 := by unfold cut; omega
      rw [e]
      have H := Lib.hid e
      clear e
      go_enter Try.func34, Try.ntmps34
      go_wp2
      go_ret
      exact ⟨rfl, rfl⟩
    · have e : ((cut m : Nat) : Int) = m := by unfold cut; omega
      rw [e]
      have H := Lib.hid e
      clear e
      go_enter Try.func34, Try.ntmps34
      go_wp2
      go_ret
      exact ⟨rfl, rfl⟩

theorem info_i32 : (Try.prog.info? 21).map (fun i => (i.zero, i.size, i.bytes)) = some (some (.int .i32 0), 1, 4) := by kernel_rfl

theorem pop_none (w : World) (p : Nat) (S : Nat → Prop) (most : Nat) (h : StackAt w p S most []) :
    Calls Try.prog 33 #[.pointer (some ⟨p, 0, none⟩)] w fun e w' => e = .returned (.tuple #[.int .i32 0, .bool false]) ∧ w = w' := by
  have hl := len_any w p S most [] h
  go_enter Try.func33, Try.ntmps33
  go_wp2_with fail
  refine (hl).mono ?_
  rintro e w1 ⟨rfl, rfl⟩
  go_wp2_with fail
  go_ret2
  exact ⟨rfl, rfl⟩
theorem pop_nil (w : World) :
    Calls Try.prog 33 #[.pointer none] w fun e w' => e = .returned (.tuple #[.int .i32 0, .bool false]) ∧ w = w' := by
  go_enter Try.func33, Try.ntmps33
  go_wp2_with fail
  refine (len_nil _).mono ?_
  rintro e w1 ⟨rfl, rfl⟩
  go_wp2_with fail
  go_ret2
  exact ⟨rfl, rfl⟩
theorem pop_some (w : World) (p : Nat) (S : Nat → Prop) (most : Nat) (l : List Int) (x : Int) (h : StackAt w p S most (l ++ [x])) :
    Calls Try.prog 33 #[.pointer (some ⟨p, 0, none⟩)] w fun e w' => e = .returned (.tuple #[.int .i32 x, .bool true]) ∧ StackAt w' p S most l ∧ Mod S w w' := by
  have hlen := len_any w p S most _ h
  obtain ⟨A, c, hb, hs, hp, h1, h2⟩ := h
  obtain ⟨n, hn⟩ : ∃ n, l.length = n := ⟨_, rfl⟩
  simp only [List.length_append, List.length_cons, List.length_nil, hn, Nat.zero_add] at hlen hb hs h1
  have hle := hs.le
  have hcm := hs.cap_le
  unfold maxLen at hcm
  obtain ⟨g, off, rfl, hg, hlt, hfz, hx⟩ := hs.at (by omega)
  have hx0 : w.cell? ⟨g, off + n, none⟩ = some (.int .i32 x) := hx n _ (by simp [← hn])
  have hc : w.cell? ⟨p, 0, none⟩ = some (.slice (some ⟨g, off, none⟩) (n + 1) c) := hb.cell 0
  have hf := hb.frozen 0
  have hd := (hs.take (k := n) (by omega)).farT (p := ⟨p, 0, none⟩) hb (by decide) (.slice (some ⟨g, off, none⟩) n c)
  have HN := Lib.hid hn
  clear hx hfz hn
  go_enter Try.func33, Try.ntmps33
  go_wp2_with fail
  refine (hlen).mono ?_
  rintro e w1 ⟨rfl, rfl⟩
  go_wp2_with fail
  go_ret2
  refine ⟨rfl, ⟨some ⟨g, off, none⟩, c, ?_, ?_, hp, by rw [HN.out]; omega, h2⟩, (Mod.refl _ _).setCell (.inl hp) _⟩
  · rw [HN.out]
    exact hb.set 0 _
  · rw [HN.out]
    have e : ((l ++ [x]).map fun x => Value.int .i32 x).take (n * 1) = l.map fun x => Value.int .i32 x := by
      rw [Nat.mul_one, ← HN.out, List.map_append]
      exact List.take_left' (by simp)
    rw [e] at hd
    exact hd

theorem push_full (w : World) (p : Nat) (S : Nat → Prop) (most : Nat) (l : List Int) (x : Int) (h : StackAt w p S most l) (hf : l.length = most) :
    Calls Try.prog 30 #[.pointer (some ⟨p, 0, none⟩), .int .i32 x] w fun e w' => e = .returned (.bool false) ∧ Below w.heap.size w w' := by
  obtain ⟨A, c, hb, hs, hp, h1, h2⟩ := h
  have hc : w.cell? ⟨p, 0, none⟩ = some (.slice A l.length c) := hb.cell 0
  have hc1 : w.cell? ⟨p, 1, none⟩ = some (.int .i64 (most : Int)) := hb.cell 1
  have hge : (most : Int) ≤ (l.length : Int) := by omega
  clear hf
  go_enter Try.func30, Try.ntmps30
  go_wp2
  go_quiet (fail)
  go_wp2
  go_ret
  exact ⟨rfl, (Mod.refl (fun _ => False) w).drewN _ |>.below (Nat.le_refl _) (fun _ h => h.elim)⟩
theorem push_nil (w : World) (x : Int) :
    Calls Try.prog 30 #[.pointer none, .int .i32 x] w fun e w' => e = .returned (.bool false) ∧ Below w.heap.size w w' := by
  go_enter Try.func30, Try.ntmps30
  go_wp2
  go_quiet (fail)
  go_wp2
  go_ret
  exact ⟨rfl, (Mod.refl (fun _ => False) w).drewN _ |>.below (Nat.le_refl _) (fun _ h => h.elim)⟩

theorem push_some (w : World) (p : Nat) (S : Nat → Prop) (most : Nat) (l : List Int) (x : Int) (h : StackAt w p S most l) (hf : l.length < most) :
    Calls Try.prog 30 #[.pointer (some ⟨p, 0, none⟩), .int .i32 x] w fun e w' => e = .returned (.bool true) ∧ StackAt w' p (grow S w w') most (l ++ [x]) ∧ Mod S w w' := by
  obtain ⟨i0, hi0, hz0, hz1, hz2⟩ := info_parts info_i32
  obtain ⟨A, c, hb, hs, hp, h1, h2⟩ := h
  obtain ⟨n, hn⟩ : ∃ n, l.length = n := ⟨_, rfl⟩
  rw [hn] at hb hs h1 hf
  have hc : w.cell? ⟨p, 0, none⟩ = some (.slice A n c) := hb.cell 0
  have hc1 : w.cell? ⟨p, 1, none⟩ = some (.int .i64 (most : Int)) := hb.cell 1
  have hlt : ¬ (most : Int) ≤ (n : Int) := by omega
  have hfz := hb.frozen 0
  have hplt := hb.lt
  have HN := Lib.hid hn
  have hown := hs.off hb (by decide)
  clear hn
  go_enter Try.func30, Try.ntmps30
  go_wp2
  go_quiet (fail)
  go_wp2_with (at_builtin; refine wpList_append_sl _ rfl (.tmp 23) (.tmp 25) _ rfl 21 i0 _ 1 4 Try.underlying46 hi0 hz0 hz1 hz2 rfl (by omega) A n c _ _ rfl (by exact (hown.alloc _).drewN _) (· = w.heap.size) (some ⟨w.heap.size, 0, none⟩) 1 1 [.int .i32 x] rfl (by exact (Rd.lit (sz := 1) w _ #[.int .i32 x] 1 rfl).drewN _) (by simp [Value.oneCell']) (by simp only [maxLen]; omega) (by omega) ?_; intro A' c' w1 hown1 hmod1; have hblk1 := (((hb.alloc _).drewN _)).mod hmod1 (by simp); have hc1 : w1.cell? ⟨p, 0, none⟩ = some (.slice A n c) := hblk1.cell 0; have hf1 := hblk1.frozen 0)
  go_ret
  obtain ⟨k1, k2, k3⟩ := field_append (w := w) 0 hp ((Mod.refl _ _).drewN _ |>.alloc _) hblk1 (by decide) hown1 hmod1
  refine ⟨rfl, ⟨A', c', ?_, ?_, .inl hp, ?_, h2⟩, k3⟩
  · simpa [HN.out] using k1
  · simpa [HN.out] using k2
  · simp [HN.out]; omega

/-- A new stack, of new memory; nothing else has turned. -/
def NewStack (w : World) (most : Nat) (l : List Int) (en : Ending) (w' : World) : Prop :=
  ∃ p, en = .returned (.pointer (some ⟨p, 0, none⟩)) ∧ StackAt w' p (fun b => w.heap.size ≤ b ∧ b < w'.heap.size) most l ∧ Below w.heap.size w w'
end Go.Proofs.Ytdjehackbebpaaa
