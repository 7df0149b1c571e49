/-
  The meeting: the walks of push, pop, under.
-/
import Derived.Test.YtdjehackbebpaaaProg
import Derived.Test.YtdjehackbebpaaaMatchP
import Derived.Test.YtdjehackbebpaaaSep
import Derived.Test.YtdjehackbebpaaaOps
import Derived.WalkKit
import Derived.WalkLawsBesides
import Derived.WalkSpells
import Derived.Lib.Hide
import Derived.Deep.QuietTactic
import Derived.BigQuiet
import Derived.Deep.LoopGhost
namespace Go.Proofs.Ytdjehackbebpaaa
open Go.RowKit Go.Rp

theorem info_int : (Try.prog.info? 3).map (fun i => (i.zero, i.size, i.bytes)) = some (some (.int .i64 0), 1, 8) := by kernel_rfl
abbrev il (l : List Nat) : List Value := l.map fun (x : Nat) => Value.int .i64 (x : Int)

/-- The meeting at block p. -/
def MeetAt (w : World) (p : Nat) (S : Nat → Prop) (most : Nat) (st : List Nat × Nat) : Prop :=
  ∃ A c, Blk w p 56 #[.slice A st.1.length c, .int .i64 (st.2 : Int), .int .i64 (most : Int)] ∧ Sl w 3 1 A st.1.length c (il st.1) S ∧ S p ∧ st.2 + st.1.length ≤ most ∧ most ≤ 1000
section
variable {w w' : World} {p most : Nat} {S T : Nat → Prop} {st : List Nat × Nat}
theorem MeetAt.mono (h : MeetAt w p S most st) (hS : ∀ b, S b → T b) : MeetAt w p T most st := by
  obtain ⟨A, c, hb, hs, hp, hl⟩ := h
  exact ⟨A, c, hb, hs.mono hS, hS p hp, hl⟩
theorem MeetAt.mod (h : MeetAt w p S most st) (hm : Mod T w w') (hd : ∀ b, S b → ¬ T b) : MeetAt w' p S most st := by
  obtain ⟨A, c, hb, hs, hp, hl⟩ := h
  exact ⟨A, c, hb.mod hm (hd p hp), hs.mod hm hd, hp, hl⟩
theorem MeetAt.lt (h : MeetAt w p S most st) : MeetAt w p (fun b => S b ∧ b < w.heap.size) most st := by
  obtain ⟨A, c, hb, hs, hp, hl⟩ := h
  exact ⟨A, c, hb, hs.lt, ⟨hp, hb.lt⟩, hl⟩
end
theorem stable_meet (p most : Nat) (st : List Nat × Nat) : Stable (fun w S => MeetAt w p S most st) := ⟨fun h => h.mono, fun h => h.mod, fun h => h.lt⟩
def meetR (p most : Nat) (st : List Nat × Nat) : Res := ⟨fun w S => MeetAt w p S most st, stable_meet p most st⟩

theorem under_any (w : World) (p : Nat) (S : Nat → Prop) (most : Nat) (l : List Nat) (below : Nat) (h : MeetAt w p S most (l, below)) :
    Calls Try.prog 41 #[.pointer (some ⟨p, 0, none⟩)] w fun e w' => e = .returned (.bool (decide (0 < below))) ∧ MeetAt w' p S most (l, below - 1) ∧ Mod S w w' := by
  obtain ⟨A, c, hb, hs, hp, h1, h2⟩ := h
  dsimp only at hb hs h1
  have c1 : w.cell? ⟨p, 1, none⟩ = some (.int .i64 (below : Int)) := hb.cell 1
  have f1 := hb.frozen 1
  by_cases hz : below = 0
  · subst hz
    go_enter Try.func41, Try.ntmps41
    go_wp2
    go_ret
    exact ⟨rfl, ⟨A, c, hb, hs, hp, h1, h2⟩, Mod.refl _ _⟩
  · have hz' : ((below : Int) == 0) = false := by simpa using hz
    have hpos : decide (0 < below) = true := by simp; omega
    rw [hpos]
    have hset := hb.set 1 (.int .i64 ((below : Int) - 1))
    have hfar := hs.farT (p := ⟨p, 1, none⟩) hb (by decide) (.int .i64 ((below : Int) - 1))
    have he : (below : Int) - 1 = ((below - 1 : Nat) : Int) := by omega
    have HE := Lib.hid he
    clear he hpos
    go_enter Try.func41, Try.ntmps41
    go_wp2
    go_ret
    refine ⟨rfl, ⟨A, c, ?_, hfar, hp, by simp only; omega, h2⟩, (Mod.refl _ _).setCell (.inl hp) _⟩
    simp only
    rw [← HE.out]
    simpa using hset

theorem mpop_none (w : World) (p : Nat) (S : Nat → Prop) (most : Nat) (below : Nat) (h : MeetAt w p S most ([], below)) :
    Calls Try.prog 40 #[.pointer (some ⟨p, 0, none⟩)] w fun e w' => e = .returned (.tuple #[.int .i64 (-1), .bool false]) ∧ w = w' := by
  obtain ⟨A, c, hb, hs, hp, h1, h2⟩ := h
  have c0 : w.cell? ⟨p, 0, none⟩ = some (.slice A 0 c) := hb.cell 0
  go_enter Try.func40, Try.ntmps40
  go_wp2
  go_ret2
  exact ⟨rfl, rfl⟩

theorem mpop_some (w : World) (p : Nat) (S : Nat → Prop) (most : Nat) (l : List Nat) (j below : Nat) (h : MeetAt w p S most (l ++ [j], below)) :
    Calls Try.prog 40 #[.pointer (some ⟨p, 0, none⟩)] w fun e w' => e = .returned (.tuple #[.int .i64 (j : Int), .bool true]) ∧ MeetAt w' p S most (l, below) ∧ Mod S w w' := by
  obtain ⟨A, c, hb, hs, hp, h1, h2⟩ := h
  obtain ⟨n, hn⟩ : ∃ n, l.length = n := ⟨_, rfl⟩
  simp only [List.length_append, List.length_cons, List.length_nil, hn, Nat.zero_add] at hb hs h1
  have hle := hs.le
  have hcm := hs.cap_le
  unfold maxLen at hcm
  obtain ⟨g, off, rfl, hg, hlt, hfz, hx⟩ := hs.at (by omega)
  have hx0 : w.cell? ⟨g, off + n, none⟩ = some (.int .i64 (j : Int)) := hx n _ (by simp [← hn])
  have hc : w.cell? ⟨p, 0, none⟩ = some (.slice (some ⟨g, off, none⟩) (n + 1) c) := hb.cell 0
  have hf := hb.frozen 0
  have hd := (hs.take (k := n) (by omega)).farT (p := ⟨p, 0, none⟩) hb (by decide) (.slice (some ⟨g, off, none⟩) n c)
  have HN := Lib.hid hn
  clear hx hfz hn
  go_enter Try.func40, Try.ntmps40
  go_wp2_with fail
  go_ret2
  refine ⟨rfl, ⟨some ⟨g, off, none⟩, c, ?_, ?_, hp, by simp only; rw [HN.out]; omega, h2⟩, (Mod.refl _ _).setCell (.inl hp) _⟩
  · simp only
    rw [HN.out]
    exact hb.set 0 _
  · simp only
    rw [HN.out]
    have e : (il (l ++ [j])).take (n * 1) = il l := by
      rw [Nat.mul_one, ← HN.out, il, List.map_append]
      exact List.take_left' (by simp)
    rw [e] at hd
    exact hd

theorem mpush_full (w : World) (p : Nat) (S : Nat → Prop) (most : Nat) (l : List Nat) (below k : Nat) (h : MeetAt w p S most (l, below)) (hf : below + l.length = most) :
    Calls Try.prog 39 #[.pointer (some ⟨p, 0, none⟩), .int .i64 (k : Int)] w fun e w' => e = .returned (.bool false) ∧ Below w.heap.size w w' := by
  obtain ⟨A, c, hb, hs, hp, h1, h2⟩ := h
  dsimp only at hb hs h1
  have c0 : w.cell? ⟨p, 0, none⟩ = some (.slice A l.length c) := hb.cell 0
  have c1 : w.cell? ⟨p, 1, none⟩ = some (.int .i64 (below : Int)) := hb.cell 1
  have c2 : w.cell? ⟨p, 2, none⟩ = some (.int .i64 (most : Int)) := hb.cell 2
  have hge : (most : Int) ≤ (below : Int) + (l.length : Int) := by omega
  have hbd : (below : Int) ≤ 1000 := by omega
  have hln : (l.length : Int) ≤ 1000 := by omega
  clear hf
  go_enter Try.func39, Try.ntmps39
  go_wp2
  have hw : IntKind.i64.wrap ((below : Int) + (l.length : Int)) = (below : Int) + (l.length : Int) := IntWalk.i64_in _ (by omega)
  go_quiet (fail)
  go_wp2
  go_ret
  exact ⟨rfl, (Mod.refl (fun _ => False) w).drewN _ |>.below (Nat.le_refl _) (fun _ h => h.elim)⟩

theorem mpush_some (w : World) (p : Nat) (S : Nat → Prop) (most : Nat) (l : List Nat) (below k : Nat) (h : MeetAt w p S most (l, below)) (hf : below + l.length < most) :
    Calls Try.prog 39 #[.pointer (some ⟨p, 0, none⟩), .int .i64 (k : Int)] w fun e w' => e = .returned (.bool true) ∧ MeetAt w' p (grow S w w') most (l ++ [k], below) ∧ Mod S w w' := by
  obtain ⟨i0, hi0, hz0, hz1, hz2⟩ := info_parts info_int
  obtain ⟨A, c, hb, hs, hp, h1, h2⟩ := h
  dsimp only at hb hs h1
  obtain ⟨n, hn⟩ : ∃ n, l.length = n := ⟨_, rfl⟩
  rw [hn] at hb hs h1 hf
  have c0 : w.cell? ⟨p, 0, none⟩ = some (.slice A n c) := hb.cell 0
  have c1 : w.cell? ⟨p, 1, none⟩ = some (.int .i64 (below : Int)) := hb.cell 1
  have c2 : w.cell? ⟨p, 2, none⟩ = some (.int .i64 (most : Int)) := hb.cell 2
  have hlt : ¬ (most : Int) ≤ (below : Int) + (n : Int) := by omega
  have hbd : (below : Int) ≤ 1000 := by omega
  have hln : (n : Int) ≤ 1000 := by omega
  have hfz := hb.frozen 0
  have hplt := hb.lt
  have HN := Lib.hid hn
  have hown := hs.off hb (by decide)
  clear hn
  go_enter Try.func39, Try.ntmps39
  go_wp2
  have hw : IntKind.i64.wrap ((below : Int) + (n : Int)) = (below : Int) + (n : Int) := IntWalk.i64_in _ (by omega)
  go_quiet (fail)
  go_wp2_with (at_builtin; refine wpList_append_sl _ rfl (.tmp 24) (.tmp 26) _ rfl 3 i0 _ 1 8 Try.underlying28 hi0 hz0 hz1 hz2 rfl (by omega) A n c _ _ rfl (by exact (hown.alloc _).drewN _) (· = w.heap.size) (some ⟨w.heap.size, 0, none⟩) 1 1 [.int .i64 (k : Int)] rfl (by exact (Rd.lit (sz := 1) w _ #[.int .i64 (k : Int)] 1 rfl).drewN _) (by simp [Value.oneCell']) (by simp only [maxLen]; omega) (by omega) ?_; intro A' c' w1 hown1 hmod1; have hblk1 := (((hb.alloc _).drewN _)).mod hmod1 (by simp); have hc1 : w1.cell? ⟨p, 0, none⟩ = some (.slice A n c) := hblk1.cell 0; have hf1 := hblk1.frozen 0)
  go_ret
  obtain ⟨k1, k2, k3⟩ := field_append (w := w) 0 hp ((Mod.refl _ _).drewN _ |>.alloc _) hblk1 (by decide) hown1 hmod1
  refine ⟨rfl, ⟨A', c', ?_, ?_, .inl hp, by simp [HN.out]; omega, h2⟩, k3⟩
  · simpa [HN.out] using k1
  · simpa [HN.out] using k2

section
variable {B : Nat} {w w' : World} {p most : Nat} {l : List Nat} {below : Nat} {L : List Res}
theorem mpush_s (hB : B ≤ w.heap.size) (h : At B w (meetR p most (l, below) :: L)) (k : Nat) {v : Bool} {st : List Nat × Nat} (hv : decide (below + l.length < most) = v) (hst : (if below + l.length < most then (l ++ [k], below) else (l, below)) = st) :
    Calls Try.prog 39 #[.pointer (some ⟨p, 0, none⟩), .int .i64 (k : Int)] w fun e w' => e = .returned (.bool v) ∧ At B w' (meetR p most st :: L) ∧ Below B w w' :=
  h.step (a' := meetR p most st) hB fun S _ hS => by
    subst hv hst
    by_cases hl : below + l.length < most
    · simp only [hl, decide_true, if_true]
      exact mpush_some w p S most l below k hS hl
    · simp only [hl, decide_false, if_false]
      have hle : below + l.length = most := by obtain ⟨_, _, _, _, _, h1, _⟩ := hS; simp only at h1; omega
      exact (mpush_full w p S most l below k hS hle).mono fun e w' ⟨he, hb⟩ => ⟨he, (stable_meet p most (l, below)).mono ((stable_meet p most (l, below)).keep hS hb) grow_left, Mod.of_below hb⟩
theorem mpop_s (hB : B ≤ w.heap.size) (j : Nat) (h : At B w (meetR p most (l ++ [j], below) :: L)) : Calls Try.prog 40 #[.pointer (some ⟨p, 0, none⟩)] w fun e w' => e = .returned (.tuple #[.int .i64 (j : Int), .bool true]) ∧ At B w' (meetR p most (l, below) :: L) ∧ Below B w w' :=
  h.step (a' := meetR p most (l, below)) hB fun S _ hS => (mpop_some w p S most l j below hS).mono fun _ _ ⟨he, hs, hm⟩ => ⟨he, hs.mono grow_left, hm⟩
theorem mpop0_s (h : At B w (meetR p most ([], below) :: L)) : Calls Try.prog 40 #[.pointer (some ⟨p, 0, none⟩)] w fun e w' => e = .returned (.tuple #[.int .i64 (-1), .bool false]) ∧ w = w' := mpop_none w p _ most below h.get
theorem under_s (hB : B ≤ w.heap.size) (h : At B w (meetR p most (l, below) :: L)) {v : Bool} (hv : decide (0 < below) = v) : Calls Try.prog 41 #[.pointer (some ⟨p, 0, none⟩)] w fun e w' => e = .returned (.bool v) ∧ At B w' (meetR p most (l, below - 1) :: L) ∧ Below B w w' :=
  h.step (a' := meetR p most (l, below - 1)) hB fun S _ hS => (under_any w p S most l below hS).mono fun _ _ ⟨he, hs, hm⟩ => ⟨hv ▸ he, hs.mono grow_left, hm⟩
end
end Go.Proofs.Ytdjehackbebpaaa
