/-
  Lists that skip as things of their own: Insert, Min.
-/
import Derived.Test.YtpelpbnmjciheaaSkipD
namespace Go.Proofs.Ytpelpbnmjciheaa
open Go.RowKit Go.Rp

/-- An item: its value and height. -/
abbrev It := Int × Nat
/-- The list with head s has the towers T, of m that may be. -/
structure SkT (w : World) (s : Nat) (S : Nat → Prop) (m : Nat) (T : List Tw) : Prop where
  links : Links w s T.length m T (linkOf s T) S
  apart : Apart s T
  high : ∀ t ∈ T, 1 ≤ t.2.2 ∧ t.2.2 ≤ 8
  room : T.length ≤ m
  most : m ≤ 1000
  sorted : T.Pairwise fun a b => a.2.1 ≤ b.2.1
def SkAt (w : World) (s : Nat) (S : Nat → Prop) (m : Nat) (L : List It) : Prop := ∃ T : List Tw, T.map (·.2) = L ∧ SkT w s S m T
theorem SkT.mono {w : World} {s m : Nat} {S U : Nat → Prop} {T : List Tw} (h : SkT w s S m T) (hS : ∀ b, S b → U b) : SkT w s U m T := ⟨h.links.mono hS, h.apart, h.high, h.room, h.most, h.sorted⟩
theorem SkT.keep {w w' : World} {s m : Nat} {S : Nat → Prop} {T : List Tw} (h : SkT w s S m T) (hb : Below w.heap.size w w') : SkT w' s S m T := ⟨h.links.keep hb, h.apart, h.high, h.room, h.most, h.sorted⟩
theorem stable_sk (s m : Nat) (L : List It) : Stable (fun w S => SkAt w s S m L) :=
  ⟨fun ⟨T, e, h⟩ hS => ⟨T, e, h.mono hS⟩, fun ⟨T, e, h⟩ hm hd => ⟨T, e, h.links.mod hm hd, h.apart, h.high, h.room, h.most, h.sorted⟩, fun ⟨T, e, h⟩ => ⟨T, e, h.links.lt, h.apart, h.high, h.room, h.most, h.sorted⟩⟩
def skR (s m : Nat) (L : List It) : Res := ⟨fun w S => SkAt w s S m L, stable_sk s m L⟩
theorem skAt_new (w : World) {m : Nat} (hm : m ≤ 1000) : SkAt (w.alloc (.cells (skC (fun _ => none) 0 m) 52)) w.heap.size (fun x => w.heap.size ≤ x ∧ x < (w.alloc (.cells (skC (fun _ => none) 0 m) 52)).heap.size) m [] :=
  ⟨[], rfl, ⟨(skC_congr (g := linkOf w.heap.size [] w.heap.size) fun k _ => by rw [linkOf_head, nxt_nil]) ▸ Blk.new w _ _, ⟨Nat.le_refl _, by simp⟩, nofun⟩, by simp [Apart], by simp, Nat.zero_le _, hm, List.Pairwise.nil⟩

/-- An item put behind all that are no greater. -/
def insL (L : List It) (v : Int) (h : Nat) : List It := L.takeWhile (fun a => decide (a.1 ≤ v)) ++ (v, h) :: L.dropWhile (fun a => decide (a.1 ≤ v))
theorem split_len {α : Type} (p : α → Bool) (L : List α) : (L.takeWhile p).length + (L.dropWhile p).length = L.length := by rw [← List.length_append, List.takeWhile_append_dropWhile]
theorem insL_length (L : List It) (v : Int) (h : Nat) : (insL L v h).length = L.length + 1 := by
  unfold insL
  rw [List.length_append, List.length_cons, ← split_len (fun a : It => decide (a.1 ≤ v)) L]
  rfl
theorem drop_gt {v : Int} : ∀ {T : List Tw}, T.Pairwise (fun a b => a.2.1 ≤ b.2.1) → ∀ t ∈ T.dropWhile (fun t => decide (t.2.1 ≤ v)), v < t.2.1
  | [], _, t, ht => by simp at ht
  | x :: T, hp, t, ht => by
    rw [List.dropWhile_cons] at ht
    split at ht
    · exact drop_gt (List.pairwise_cons.1 hp).2 t ht
    · rename_i hx
      simp at hx
      rcases List.mem_cons.1 ht with rfl | ht
      · exact hx
      · have := (List.pairwise_cons.1 hp).1 t ht; omega
theorem take_le {v : Int} {T : List Tw} : ∀ t ∈ T.takeWhile (fun t => decide (t.2.1 ≤ v)), t.2.1 ≤ v := fun t ht => by
  have := List.all_takeWhile (l := T) (p := fun t => decide (t.2.1 ≤ v))
  rw [List.all_eq_true] at this
  simpa using this t ht
theorem ins_map (T : List Tw) (v : Int) (b h : Nat) : (T.takeWhile (fun t => decide (t.2.1 ≤ v)) ++ (b, v, h) :: T.dropWhile (fun t => decide (t.2.1 ≤ v))).map (·.2) = insL (T.map (·.2)) v h := by
  unfold insL
  rw [List.map_append, List.map_cons, List.takeWhile_map, List.dropWhile_map]
  rfl

/-- Where an item is put. -/
theorem split_it {T : List Tw} (hs : T.Pairwise fun a b => a.2.1 ≤ b.2.1) (v : Int) : ∃ C D : List Tw, T = C ++ D ∧ (∀ t ∈ C, t.2.1 ≤ v) ∧ (∀ t ∈ D, v < t.2.1) ∧ ∀ b h : Nat, (C ++ (b, v, h) :: D).map (·.2) = insL (T.map (·.2)) v h :=
  ⟨_, _, (List.takeWhile_append_dropWhile).symm, take_le, drop_gt hs, ins_map T v⟩
theorem SkT.put {w w' : World} {s m : Nat} {S U : Nat → Prop} {C D : List Tw} {v : Int} {h b : Nat} (hk : SkT w s S m (C ++ D)) (hC : ∀ t ∈ C, t.2.1 ≤ v) (hD : ∀ t ∈ D, v < t.2.1) (hf : (C ++ D).length < m) (h1 : 1 ≤ h) (h8 : h ≤ 8)
    (hl : Links w' s ((C ++ D).length + 1) m (C ++ (b, v, h) :: D) (linkOf s (C ++ (b, v, h) :: D)) U) (ha : Apart s (C ++ (b, v, h) :: D)) : SkT w' s U m (C ++ (b, v, h) :: D) := by
  have hlen : (C ++ (b, v, h) :: D).length = (C ++ D).length + 1 := by simp; omega
  refine ⟨by rw [hlen]; exact hl, ha, fun t ht => ?_, by omega, hk.most, ?_⟩
  · rcases List.mem_append.1 ht with ht | ht
    · exact hk.high t (List.mem_append_left _ ht)
    · rcases List.mem_cons.1 ht with rfl | ht
      · exact ⟨h1, h8⟩
      · exact hk.high t (List.mem_append_right _ ht)
  · obtain ⟨p1, p2, p3⟩ := List.pairwise_append.1 hk.sorted
    refine List.pairwise_append.2 ⟨p1, List.pairwise_cons.2 ⟨fun t ht => ?_, p2⟩, fun x hx y hy => ?_⟩
    · exact Int.le_of_lt (hD t ht)
    · rcases List.mem_cons.1 hy with rfl | hy
      · exact hC x hx
      · exact p3 x hx y hy
/-- A new tower behind a path. -/
theorem put_new {w : World} {s many most : Nat} {A R : List Tw} {S : Nat → Prop} (v : Int) (h : Nat) (hl : Links w s many most (A ++ R) (linkOf s (A ++ R)) S) (ha : Apart s (A ++ R)) (h8 : h ≤ 8) :
    Calls Try.prog 20 #[.agg (linkC fun k => some (lastT k s A)), .pointer (some ⟨w.heap.size, 0, none⟩)] (w.alloc (.cells (towC v h fun _ => none) 50)) fun e w' => e = .returned (.agg (linkC fun k => some (lastT k s (A ++ [(w.heap.size, v, h)])))) ∧
      Links w' s many most (A ++ (w.heap.size, v, h) :: R) (linkOf s (A ++ (w.heap.size, v, h) :: R)) (grow S w w') ∧ Apart s (A ++ (w.heap.size, v, h) :: R) ∧ Mod S w w' := by
  have hs : w.heap.size ≠ s := by have := hl.hd.lt; omega
  have ht : ∀ u ∈ A ++ R, u.1 ≠ w.heap.size := fun u hu => by have := (hl.tw u hu).1.lt; omega
  have ha2 : Apart s (A ++ (w.heap.size, v, h) :: R) := ha.add hs ht
  have h1 : Links (w.alloc (.cells (towC v h fun _ => none) 50)) s many most (A ++ (w.heap.size, v, h) :: R) (linkOf s (A ++ R)) (grow S w (w.alloc (.cells (towC v h fun _ => none) 50))) := by
    have hl1 := hl.alloc (.cells (towC v h fun _ => none) 50)
    refine ⟨hl1.hd, .inl hl.hs, fun t hm => ?_⟩
    rcases List.mem_append.1 hm with hm | hm
    · exact ⟨(hl1.tw t (List.mem_append_left _ hm)).1, .inl (hl.tw t (List.mem_append_left _ hm)).2⟩
    · rcases List.mem_cons.1 hm with rfl | hm
      · refine ⟨?_, .inr ⟨Nat.le_refl _, by simp⟩⟩
        exact blk_congr (Blk.new w _ _) (towC_congr fun k _ => (linkOf_new hs ht k).symm)
      · exact ⟨(hl1.tw t (List.mem_append_right _ hm)).1, .inl (hl.tw t (List.mem_append_right _ hm)).2⟩
  refine (put_any (w.heap.size, v, h) h1 ha2 h8).mono fun e w' ⟨he, hl2, hm⟩ => ⟨he, hl2.mono fun b hb => grow_mono hm.size b hb, ha2, ?_⟩
  exact ((Mod.refl S w).alloc _).trans hm fun b hb => by
    rcases hb with hb | hb
    · exact .inl hb
    · exact .inr hb.1
theorem insert_full {w : World} {s m : Nat} {S : Nat → Prop} {L : List It} (h : SkAt w s S m L) (hf : ¬ L.length < m) (v n : Int) : Calls Try.prog 9 #[.pointer (some ⟨s, 0, none⟩), .int .i32 v, .int .i64 n] w fun e w' => e = .returned (.bool false) ∧ ∃ nq, w' = w.drewN nq := by
  obtain ⟨T, rfl, h⟩ := h
  rw [List.length_map] at hf
  obtain ⟨h1, h2, _⟩ := h.links.sizes
  have hge : (m : Int) ≤ (T.length : Int) := by omega
  generalize T.length = n1 at *
  clear hf h
  have h1' : w.drew.cell? ⟨s, 10, none⟩ = _ := h1
  have h2' : w.drew.cell? ⟨s, 11, none⟩ = _ := h2
  go_enter Try.func9, Try.ntmps9
  go_wp2_with fail
  go_region
  go_wp2_with fail
  go_ret
  exact ⟨rfl, _, rfl⟩
theorem insert_none (w : World) (v n : Int) : Calls Try.prog 9 #[.pointer none, .int .i32 v, .int .i64 n] w fun e w' => e = .returned (.bool false) ∧ ∃ nq, w' = w.drewN nq := by
  go_enter Try.func9, Try.ntmps9
  go_wp2_with fail
  go_region
  go_wp2_with fail
  go_ret
  exact ⟨rfl, _, rfl⟩
theorem insert_any {w : World} {s m : Nat} {S : Nat → Prop} {L : List It} (h : SkAt w s S m L) (hf : L.length < m) (v n : Int) : Calls Try.prog 9 #[.pointer (some ⟨s, 0, none⟩), .int .i32 v, .int .i64 n] w fun e w' => e = .returned (.bool true) ∧ SkAt w' s (grow S w w') m (insL L v (tallI n)) ∧ Mod S w w' := by
  obtain ⟨T, rfl, h⟩ := h
  rw [List.length_map] at hf
  obtain ⟨C, D, hT, hC, hD, hI⟩ := split_it h.sorted v
  have hI2 := fun b => hI b (tallI n)
  obtain ⟨L', hL'⟩ : ∃ L', insL (T.map (·.2)) v (tallI n) = L' := ⟨_, rfl⟩
  simp only [hL'] at hI2 ⊢
  clear hL' hI
  subst hT
  obtain ⟨h1, h2, _⟩ := h.links.sizes
  have hd : decide (m ≤ (C ++ D).length) = false := decide_eq_false (by omega)
  have h1' : w.drew.cell? ⟨s, 10, none⟩ = _ := h1
  have h2' : w.drew.cell? ⟨s, 11, none⟩ = _ := h2
  have hlo := tallI_le n
  obtain ⟨th, hth⟩ : ∃ th, tallI n = th := ⟨_, rfl⟩
  rw [hth] at hI2 hlo
  have hN1 : (C ++ D).length ≤ 1000 := by have := h.most; omega
  have H := Lib.hid h
  have HF := Lib.hid hf
  have HI := Lib.hid hI2
  have HL := Lib.hid hlo
  have HC := Lib.hid hC
  have HD := Lib.hid hD
  have HH := Lib.hid hth
  clear h hf hI2 hlo hC hD hth
  obtain ⟨N, hN⟩ : ∃ N, (C ++ D).length = N := ⟨_, rfl⟩
  rw [hN] at h1 hd h1' hN1
  have HN := Lib.hid hN
  clear hN
  go_enter Try.func9, Try.ntmps9
  go_wp2_with fail
  go_region
  go_wp2_with fail
  have hm0 := H.out.links.drew
  refine (begin_any hm0).mono ?_
  rintro e w1 ⟨rfl, b1⟩
  have hm1 : Links w1 s (C ++ D).length m ([] ++ C ++ D) (linkOf s ([] ++ C ++ D)) S := hm0.keep b1
  clear h1 h2 h1' h2'
  go_wp2_with fail
  refine (on_any (P := []) v hm1 H.out.apart HC.out HD.out).mono ?_
  rintro e w2 ⟨rfl, b2⟩
  have hm2 : Links w2 s (C ++ D).length m (C ++ D) (linkOf s (C ++ D)) S := hm1.keep b2
  have hmod2 : Mod S w w2 := (Mod.of_below (Below.refl _ w).drew).trans ((Mod.of_below (S := S) b1).trans (Mod.of_below (S := S) b2) fun b hb => .inl hb) fun b hb => .inl hb
  clear hm0 hm1
  go_wp2_with fail
  refine (tall_any v n w2).mono ?_
  rintro e w3 ⟨rfl, rfl⟩
  go_wp2_with fail
  rw [HH.out]
  refine (put_new v th hm2 H.out.apart HL.out.2).mono ?_
  rintro e w4 ⟨rfl, hm4, ha4, hmod4⟩
  obtain ⟨g1, g2, g3⟩ := hm4.sizes
  rw [HN.out] at g1
  have hm5 := hm4.setMany ((C ++ D).length + 1)
  have hsk := H.out.put HC.out HD.out HF.out HL.out.1 HL.out.2 hm5 ha4
  have hmod5 := (hmod2.trans hmod4 fun b hb => .inl hb).setCell (p := ⟨s, 10, none⟩) (.inl H.out.links.hs) (.int .i64 (((C ++ D).length + 1 : Nat) : Int))
  have hmod6 := hmod2.size
  rw [HN.out] at hsk hmod5
  clear hm5 hm4 ha4 hm2 hmod2
  go_wp2_with fail
  go_ret
  refine ⟨rfl, ⟨_, HI.out _, hsk.mono fun b hb => ?_⟩, hmod5⟩
  rcases hb with hb | hb
  · exact .inl hb
  · exact .inr ⟨by omega, by simp [World.setCell]; omega⟩
end Go.Proofs.Ytpelpbnmjciheaa
