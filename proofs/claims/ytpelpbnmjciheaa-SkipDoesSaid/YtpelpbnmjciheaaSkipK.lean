/-
  Lists that skip: Batch.
-/
import Derived.Deep.OwnRows
import Derived.Test.YtpelpbnmjciheaaSkipJ
namespace Go.Proofs.Ytpelpbnmjciheaa
open Go.RowKit Go.Rp

theorem made_one (z : Value) (n : Nat) : (madeCells #[z] n).toList = List.replicate n z := by
  have := made_flat #[z] (by simp) n
  rw [show n * (#[z] : Array Value).size = n by simp] at this
  rw [this]
  simp
theorem row_new {B : Nat} {w : World} {n : Nat} {L : List Res} (hB : B ≤ w.heap.size) (hn : n ≤ 100000) {z : Value} (e : TypeId) (h : At B w L) : At B (w.alloc (.cells (madeCells #[z] n) e)) (slRes e 1 (some ⟨w.heap.size, 0, none⟩) n n (List.replicate n z) :: L) :=
  h.made (fun x hx => Nat.le_trans hB hx) ((Below.refl _ w).alloc (Nat.le_refl _) _) (Sl.of_made w e 1 n _ _ (made_one z n) (by simp) (by unfold maxLen; omega) ⟨Nat.le_refl _, by simp⟩)

/-- The links of a list with the towers T. -/
theorem stable_lk (s many m : Nat) (T : List Tw) : Stable (fun w S => Links w s many m T (linkOf s T) S) :=
  ⟨fun h hS => h.mono hS, fun h hm hd => h.mod hm hd, fun h => h.lt⟩
def lkR (s many m : Nat) (T : List Tw) : Res := ⟨fun w S => Links w s many m T (linkOf s T) S, stable_lk s many m T⟩
/-- What of a list's towers hangs on no memory. -/
structure Good (s m : Nat) (T : List Tw) : Prop where
  apart : Apart s T
  high : ∀ t ∈ T, 1 ≤ t.2.2 ∧ t.2.2 ≤ 8
  room : T.length ≤ m
  most : m ≤ 1000
  sorted : T.Pairwise fun a b => a.2.1 ≤ b.2.1
section
variable {B : Nat} {w w' : World} {s m N : Nat} {T : List Tw} {l : List It} {L : List Res}
theorem Sep.res {U : Nat → Prop} {a b : Res} (h : Sep w U (a :: L)) (f : ∀ S, a.Q w S → b.Q w S) : Sep w U (b :: L) := by
  obtain ⟨S, h1, h2, h3⟩ := h
  exact ⟨S, h1, f S h2, h3⟩
theorem sk_open (h : At B w (skR s m l :: L)) : ∃ T : List Tw, T.map (·.2) = l ∧ Good s m T ∧ At B w (lkR s T.length m T :: L) := by
  obtain ⟨S, h1, ⟨T, e, hT⟩, h3⟩ := h
  exact ⟨T, e, ⟨hT.apart, hT.high, hT.room, hT.most, hT.sorted⟩, S, h1, hT.links, h3⟩
theorem sk_shut (hg : Good s m T) (h : At B w (lkR s T.length m T :: L)) : At B w (skR s m (T.map (·.2)) :: L) := by
  obtain ⟨S, h1, h2, h3⟩ := h
  exact ⟨S, h1, ⟨T, rfl, h2, hg.apart, hg.high, hg.room, hg.most, hg.sorted⟩, h3⟩
theorem sk_shut_any {U : Nat → Prop} (hg : Good s m T) (h : Sep w U (lkR s T.length m T :: L)) : Sep w U (skR s m (T.map (·.2)) :: L) := by
  obtain ⟨S, h1, h2, h3⟩ := h
  exact ⟨S, h1, ⟨T, rfl, h2, hg.apart, hg.high, hg.room, hg.most, hg.sorted⟩, h3⟩
theorem Good.put {C D : List Tw} {v : Int} {h b : Nat} (hk : Good s m (C ++ D)) (hC : ∀ t ∈ C, t.2.1 ≤ v) (hD : ∀ t ∈ D, v < t.2.1) (hf : (C ++ D).length < m) (h1 : 1 ≤ h) (h8 : h ≤ 8)
    (ha : Apart s (C ++ (b, v, h) :: D)) : Good s m (C ++ (b, v, h) :: D) := by
  have hlen : (C ++ (b, v, h) :: D).length = (C ++ D).length + 1 := by simp; omega
  refine ⟨ha, fun t ht => ?_, by omega, hk.most, ?_⟩
  · rcases List.mem_append.1 ht with ht | ht
    · exact hk.high t (List.mem_append_left _ ht)
    · rcases List.mem_cons.1 ht with rfl | ht
      · exact ⟨h1, h8⟩
      · exact hk.high t (List.mem_append_right _ ht)
  · obtain ⟨p1, p2, p3⟩ := List.pairwise_append.1 hk.sorted
    refine List.pairwise_append.2 ⟨p1, List.pairwise_cons.2 ⟨fun t ht => Int.le_of_lt (hD t ht), p2⟩, fun x hx y hy => ?_⟩
    rcases List.mem_cons.1 hy with rfl | hy
    · exact hC x hx
    · exact p3 x hx y hy
/-- Where an item is put, behind P at least. -/
theorem split_from {P Q : List Tw} (hs : (P ++ Q).Pairwise fun a b => a.2.1 ≤ b.2.1) {v : Int} (hP : ∀ t ∈ P, t.2.1 ≤ v) : ∃ C D : List Tw, Q = C ++ D ∧ (∀ t ∈ P ++ C, t.2.1 ≤ v) ∧ (∀ t ∈ D, v < t.2.1) ∧ ∀ b h : Nat, (P ++ C ++ (b, v, h) :: D).map (·.2) = insL ((P ++ Q).map (·.2)) v h := by
  have hq := (List.pairwise_append.1 hs).2.1
  refine ⟨_, _, (List.takeWhile_append_dropWhile (p := fun t => decide (t.2.1 ≤ v)) (l := Q)).symm, fun t ht => ?_, drop_gt hq, fun b h => ?_⟩
  · rcases List.mem_append.1 ht with ht | ht
    · exact hP t ht
    · exact take_le t ht
  · have := ins_map (P ++ Q) v b h
    rw [← this]
    have hall : ∀ t ∈ P, decide (t.2.1 ≤ v) = true := fun t ht => decide_eq_true (hP t ht)
    rw [List.takeWhile_append_of_pos hall, List.dropWhile_append_of_pos hall]
theorem begin_s (h : At B w (lkR s N m T :: L)) (hB : B ≤ w.heap.size) : Calls Try.prog 18 #[.pointer (some ⟨s, 0, none⟩)] w fun e w' => e = .returned (.agg (linkC fun j => some (lastT j s []))) ∧ At B w' (lkR s N m T :: L) ∧ Below B w w' :=
  (begin_any (show Links w s N m T (linkOf s T) _ from h.get)).mono fun _ _ ⟨he, hb⟩ => ⟨he, h.keep hb, hb.mono hB⟩
theorem on_s {P C D : List Tw} (v : Int) (h : At B w (lkR s N m (P ++ C ++ D) :: L)) (hB : B ≤ w.heap.size) (ha : Apart s (P ++ C ++ D)) (hC : ∀ t ∈ P ++ C, t.2.1 ≤ v) (hD : ∀ t ∈ D, v < t.2.1) :
    Calls Try.prog 19 #[.agg (linkC fun k => some (lastT k s P)), .int .i32 v] w fun e w' => e = .returned (.agg (linkC fun k => some (lastT k s (P ++ C)))) ∧ At B w' (lkR s N m (P ++ C ++ D) :: L) ∧ Below B w w' :=
  (on_any v (show Links w s N m (P ++ C ++ D) (linkOf s (P ++ C ++ D)) _ from h.get) ha hC hD).mono fun _ _ ⟨he, hb⟩ => ⟨he, h.keep hb, hb.mono hB⟩
theorem put_s {A R : List Tw} (v : Int) (hh : Nat) (h : At B w (lkR s N m (A ++ R) :: L)) (hB : B ≤ w.heap.size) (ha : Apart s (A ++ R)) (h8 : hh ≤ 8) :
    Calls Try.prog 20 #[.agg (linkC fun k => some (lastT k s A)), .pointer (some ⟨w.heap.size, 0, none⟩)] (w.alloc (.cells (towC v hh fun _ => none) 50)) fun e w' => e = .returned (.agg (linkC fun k => some (lastT k s (A ++ [(w.heap.size, v, hh)])))) ∧
      At B w' (lkR s N m (A ++ (w.heap.size, v, hh) :: R) :: L) ∧ Apart s (A ++ (w.heap.size, v, hh) :: R) ∧ Below B w w' := by
  obtain ⟨S, h1, h2, h3⟩ := h.front (a' := lkR s N m (A ++ (w.heap.size, v, hh) :: R)) fun x hx => Nat.le_trans hB hx
  exact (put_new v hh h1 ha h8).mono fun e w' ⟨he, hl, ha2, hm⟩ => ⟨he, h3 w' hl hm, ha2, hm.below hB fun x hx => (h2 x hx).1⟩
/-- How many there are, and may be. -/
theorem lk_many (h : At B w (lkR s N m T :: L)) (hB : B ≤ w.heap.size) : w.cell? ⟨s, 10, none⟩ = some (.int .i64 (N : Int)) ∧ w.cell? ⟨s, 11, none⟩ = some (.int .i64 (m : Int)) ∧ w.frozen? ⟨s, 10, none⟩ = false ∧
    ∀ k : Nat, At B (w.setCell ⟨s, 10, none⟩ (.int .i64 (k : Int))) (lkR s k m T :: L) ∧ Below B w (w.setCell ⟨s, 10, none⟩ (.int .i64 (k : Int))) := by
  have hg : Links w s N m T (linkOf s T) _ := h.get
  obtain ⟨g1, g2, g3⟩ := hg.sizes
  refine ⟨g1, g2, g3, fun k => ?_⟩
  obtain ⟨S, h1, h2, h3⟩ := h.front (a' := lkR s k m T) fun x hx => Nat.le_trans hB hx
  have h1' : Links w s N m T (linkOf s T) S := h1
  have hm := (Mod.refl S w).setCell (p := ⟨s, 10, none⟩) (.inl h1'.hs) (.int .i64 (k : Int))
  exact ⟨h3 _ ((h1'.setMany k).mono grow_left) hm, hm.below hB fun x hx => (h2 x hx).1⟩
/-- A block is written whole. -/
theorem blk_put {b : Nat} {t : TypeId} {cs cs' : Array Value} (h : At B w (blkR b t cs :: L)) (hB : B ≤ w.heap.size) (hb : Blk w' b t cs') (hm : Mod (fun x => x = b) w w') : At B w' (blkR b t cs' :: L) ∧ Below B w w' := by
  obtain ⟨S, h1, h2, h3⟩ := h.front (a' := blkR b t cs') fun x hx => Nat.le_trans hB hx
  have hm' := hm.mono (T := S) (fun x hx => hx ▸ h1.2)
  exact ⟨h3 w' ⟨hb, .inl h1.2⟩ hm', hm'.below hB fun x hx => (h2 x hx).1⟩
end

/-! ### What Batch comes to -/
/-- An item put where there is room. -/
def insB (m : Nat) (L : List It) (v : Int) (h : Nat) : List It := if L.length < m then insL L v h else L
/-- Behind the first k. -/
def batN (m : Nat) (vs hs : List Int) (L : List It) : Nat → List It
  | 0 => L
  | k + 1 => insB m (batN m vs hs L k) (vs.getD k 0) (tallI (hs.getD k 1))
theorem insB_length (m : Nat) (L : List It) (v : Int) (h : Nat) (hL : L.length ≤ m) : (insB m L v h).length = min m (L.length + 1) := by
  unfold insB
  split
  · rw [insL_length]; omega
  · omega
theorem batN_length (m : Nat) (vs hs : List Int) (L : List It) (hL : L.length ≤ m) (k : Nat) : (batN m vs hs L k).length = min m (L.length + k) := by
  induction k with
  | zero => simp [batN]; omega
  | succ k ih => rw [batN, insB_length _ _ _ _ (by omega), ih]; omega
theorem batN_full (m : Nat) (vs hs : List Int) (L : List It) (k : Nat) (hf : ¬ (batN m vs hs L k).length < m) (j : Nat) : batN m vs hs L (k + j) = batN m vs hs L k := by
  induction j with
  | zero => rfl
  | succ j ih => rw [← Nat.add_assoc, batN, ih]; unfold insB; rw [if_neg hf]
/-- What Batch tells. -/
def toldB (m n0 : Nat) (i : Nat) : Value := .bool (decide (n0 + i < m))
/-- All of it. -/
def batL (m : Nat) (vs hs : List Int) (L : List It) : List It := if upB vs then batN m vs hs L vs.length else L
def batT (m : Nat) (vs : List Int) (L : List It) : List Value := (List.range vs.length).map fun i => .bool (upB vs && decide (L.length + i < m))
theorem batT_up {m : Nat} {vs : List Int} {L : List It} {n : Nat} (hn : vs.length = n) (h : upB vs = true) : batT m vs L = fillL n n (toldB m L.length) (.bool false) := by
  rw [fillL_full, ← hn]
  unfold batT toldB
  simp [h]
theorem batT_no {m : Nat} {vs : List Int} {L : List It} {n : Nat} (hn : vs.length = n) (h : upB vs = false) : batT m vs L = List.replicate n (.bool false) := by
  rw [← hn]
  unfold batT
  simp only [h, Bool.false_and]
  rw [List.map_const', List.length_range]
theorem fillL_stop {α : Type} (n k : Nat) (f : Nat → α) (d : α) (h : ∀ j, k ≤ j → f j = d) : fillL n n f d = fillL n k f d := by
  apply List.ext_getElem
  · simp [fillL]
  · intro i h1 h2
    simp only [fillL_length] at h1
    rw [fillL_get _ _ _ _ _ h1, fillL_get _ _ _ _ _ h1, if_pos h1]
    by_cases hk : i < k
    · rw [if_pos hk]
    · rw [if_neg hk, h i (by omega)]
theorem sep_dropL {w : World} {U : Nat → Prop} {a l : List Res} (h : Sep w U (a ++ l)) : Sep w U l := by
  induction a generalizing U with
  | nil => exact h
  | cons x a ih =>
    have h' : Sep w U (x :: (a ++ l)) := h
    exact ih h'.drop
/-- A slice that can be read, whatever is done to things beside it. -/
def Reads (B : Nat) (w : World) (L : List Res) (sz : Nat) (A : Option Addr) (n : Nat) (xs : List Value) : Prop := ∀ (w' : World) (a : List Res), At B w' (a ++ L) → Below B w w' → ∃ R : Nat → Prop, Rd w' R sz A n xs
theorem Reads.of_arg {B : Nat} {w : World} {L : List Res} {sz n : Nat} {A : Option Addr} {xs : List Value} {R : Nat → Prop} (h : Rd w R sz A n xs) (hR : ∀ b, R b → b < B) : Reads B w L sz A n xs := fun _ _ _ hb => ⟨R, h.below hb hR⟩
theorem Reads.own {B : Nat} {w : World} {L : List Res} {e sz n c : Nat} {A : Option Addr} {xs : List Value} (a : List Res) : Reads B w (a ++ slRes e sz A n c xs :: L) sz A n xs := fun w' b h _ => by
  have h1 : At B w' ((b ++ a) ++ slRes e sz A n c xs :: L) := by simpa using h
  exact ⟨_, Sl.read (sep_dropL h1).get⟩
theorem Reads.later {B : Nat} {w w' : World} {L : List Res} {sz n : Nat} {A : Option Addr} {xs : List Value} (h : Reads B w L sz A n xs) (hb : Below B w w') : Reads B w' L sz A n xs := fun w2 a h2 hb2 => h w2 a h2 (hb.trans hb2)
section
variable {B : Nat} {w w' : World} {s m N : Nat} {T : List Tw} {l : List It} {L : List Res}
set_option maxRecDepth 100000 in
set_option maxHeartbeats 2000000 in
theorem batch_s (hB : B ≤ w.heap.size) (h : At B w (skR s m l :: L)) {A1 A2 : Option Addr} {n1 c1 n2 c2 : Nat} {vs hs : List Int} (hv : Reads B w L 1 A1 n1 (iv vs)) (hh : Reads B w L 1 A2 n2 (hs.map (Value.int .i64))) (hl1 : vs.length = n1) (hl2 : hs.length = n2) (hn1 : n1 ≤ 100000) (hn2 : n2 ≤ 100000) :
    Calls Try.prog 25 #[.pointer (some ⟨s, 0, none⟩), .slice A1 n1 c1, .slice A2 n2 c2] w fun e w' => ∃ g, e = .returned (.slice (some ⟨g, 0, none⟩) n1 n1) ∧ At B w' (slRes 4 1 (some ⟨g, 0, none⟩) n1 n1 (batT m vs l) :: skR s m (batL m vs hs l) :: L) ∧ Below B w w' := by
  have hmk := run_make_row' (P := Try.prog) 62 4 (.bool false) 1 Try.underlying62 (by kernel_rfl) rfl .i64 .i64 n1 (by omega) (by omega)
  have s1 := row_new hB hn1 (z := .bool false) 4 h
  have b1 : Below B w (w.alloc (.cells (madeCells #[.bool false] n1) 4)) := (Below.refl _ w).alloc hB _
  have hz1 : (w.alloc (.cells (madeCells #[.bool false] n1) 4)).heap.size = w.heap.size + 1 := by simp
  obtain ⟨g, hg⟩ : ∃ g, w.heap.size = g := ⟨_, rfl⟩
  obtain ⟨w1, hw1⟩ : ∃ w1, w.alloc (.cells (madeCells #[.bool false] n1) 4) = w1 := ⟨_, rfl⟩
  rw [hw1] at s1 b1
  rw [hg] at s1
  obtain ⟨R1, hv1⟩ := hv w1 [_, _] s1 b1
  have HG := Lib.hid hg
  have HW1 := Lib.hid hw1
  have HL1 := Lib.hid hl1
  have HL2 := Lib.hid hl2
  clear hl1 hl2
  go_enter Try.func25, Try.ntmps25
  go_wp2_with fail
  clear hmk hw1 hg
  refine (sorted_any w1 A1 n1 c1 R1 vs hv1 hn1).mono ?_
  rintro e w2 ⟨rfl, nq, rfl⟩
  have s2 := s1.drewN nq
  have b2 := below_drewN b1 nq
  obtain ⟨w2, hw2⟩ : ∃ w2, w1.drewN nq = w2 := ⟨_, rfl⟩
  rw [hw2] at s2 b2 ⊢
  clear hw2 s1 b1 hv1
  rcases hup : upB vs with _ | _
  · have HU := Lib.hid hup
    clear hup
    go_wp2_with fail
    go_ret
    refine ⟨g, rfl, ?_, b2⟩
    rw [batT_no HL1.out HU.out, show batL m vs hs l = l by unfold batL; rw [HU.out]; rfl]
    exact s2
  · have HU := Lib.hid hup
    clear hup
    obtain ⟨T, hT, hgood, s2⟩ := sk_open s2.rot2
    go_wp2_with fail
    refine (begin_s s2 (Nat.le_trans hB b2.size)).mono ?_
    rintro e w3 ⟨rfl, s3, b3⟩
    have b3 := b2.trans b3
    clear s2 b2
    have s4 := s3.alloc (Nat.le_trans hB b3.size) (linkC fun _ => none) 53
    have b4 := b3.alloc (Nat.le_trans hB b3.size) (.cells (linkC fun _ => none) 53)
    go_wp2_with (refine wpList_store_path rfl _ _ rfl rfl rfl s4.blk rfl ?_; intro w5 h5 hm5; obtain ⟨s5, b5⟩ := blk_put s4 (Nat.le_trans hB b4.size) h5 hm5; have b5 := b4.trans b5)
    obtain ⟨pb, hpb⟩ : ∃ pb, w3.heap.size = pb := ⟨_, rfl⟩
    rw [hpb] at s5 ⊢
    clear hpb s3 b3 s4 b4 h5 hm5
    go_loopg [27] n1 (fun gg k wr => ∃ (i : Nat) (P Q : List Tw), i + gg = n1 ∧ k = .int .i64 (i : Int) ∧ Hid ((P ++ Q).map (·.2) = batN m vs hs l i) ∧ Good s m (P ++ Q) ∧ Hid (∀ t ∈ P, ∀ j, i ≤ j → (hj : j < vs.length) → t.2.1 ≤ vs[j]) ∧ At B wr (lkR s (P ++ Q).length m (P ++ Q) :: slRes 4 1 (some ⟨g, 0, none⟩) n1 n1 (fillL n1 i (toldB m l.length) (.bool false)) :: blkR pb 53 (linkC fun j => some (lastT j s P)) :: L) ∧ Below B w wr)
    case atStart => exact ⟨0, [], T, by omega, rfl, Lib.hid (by simpa [batN] using hT), by simpa using hgood, Lib.hid (by simp), by rw [fillL_zero]; exact s5.rot2.cons fun _ => Sep.rot2, b5⟩
    case round =>
      clear s5 b5 hgood hT
      obtain ⟨i, P, Q, hi, rfl, hT, hgood, hle, sr, br⟩ := hrel
      have hlen := congrArg List.length hT.out
      have hl0 : l.length ≤ m := (sk_len h).1
      rw [List.length_map, batN_length m vs hs l hl0] at hlen
      obtain ⟨N, hN⟩ : ∃ N, (P ++ Q).length = N := ⟨_, rfl⟩
      obtain ⟨l0, hl0'⟩ : ∃ l0, l.length = l0 := ⟨_, rfl⟩
      rw [hN] at hlen sr
      rw [hl0'] at hlen sr hl0
      have HN := Lib.hid hN
      have HL0 := Lib.hid hl0'
      clear hN hl0'
      have HLEN := Lib.hid hlen
      have HM := Lib.hid hgood.most
      have HHL := Lib.hid hl0
      clear hlen hl0
      by_cases hlt : i < n1
      · obtain ⟨R1, hv1⟩ := hv wr [_, _, _] sr br
        obtain ⟨b, off, rfl, _, hcells⟩ := hv1.at (by omega)
        have hix : i < vs.length := by rw [HL1.out]; exact hlt
        have hx : wr.cell? ⟨b, off + i, none⟩ = some (.int .i32 vs[i]) := hcells i _ (by simp [hix])
        obtain ⟨x, hxi⟩ : ∃ x, vs[i] = x := ⟨_, rfl⟩
        rw [hxi] at hx
        have HX := Lib.hid hxi
        have HIX := Lib.hid hix
        clear hcells hxi hv1
        obtain ⟨g1, g2, g3, _⟩ := lk_many sr (Nat.le_trans hB br.size)
        have g1' : wr.drew.cell? ⟨s, 10, none⟩ = _ := g1
        have g2' : wr.drew.cell? ⟨s, 11, none⟩ = _ := g2
        by_cases hroom : N < m
        · have hd : decide (m ≤ N) = false := decide_eq_false (by omega)
          have HROOM := Lib.hid hroom
          clear hroom
          obtain ⟨C, D, hQ, hC, hD, hI⟩ := split_from hgood.sorted (v := x) fun t ht => by have := hle.out t ht i (Nat.le_refl _) HIX.out; rw [HX.out] at this; exact this
          subst hQ
          rw [← List.append_assoc] at sr hgood
          have s2 := sr.drew
          have b2 := br.drew
          have HC := Lib.hid hC
          have HD := Lib.hid hD
          have HI := Lib.hid hI
          clear sr br hC hD hI
          by_cases hi2 : i < n2
          · obtain ⟨R2, hh1⟩ := hh wr.drew [_, _, _] s2 b2
            obtain ⟨b', off', rfl, _, hcells⟩ := hh1.at (by omega)
            have hiy : i < hs.length := by rw [HL2.out]; exact hi2
            have hy : wr.drew.cell? ⟨b', off' + i, none⟩ = some (.int .i64 hs[i]) := hcells i _ (by simp [hiy])
            have hgd : hs.getD i 1 = hs[i] := by rw [List.getD_eq_getElem?_getD, List.getElem?_eq_getElem hiy]; rfl
            obtain ⟨y, hyi⟩ : ∃ y, hs[i] = y := ⟨_, rfl⟩
            rw [hyi] at hy hgd
            have hy' : wr.cell? ⟨b', off' + i, none⟩ = some (.int .i64 y) := hy
            have HGD := Lib.hid hgd
            clear hcells hyi hh1 hgd
            have hlo := tallI_le (y)
            obtain ⟨th, hth⟩ : ∃ th, tallI (y) = th := ⟨_, rfl⟩
            rw [hth] at hlo
            have HTH := Lib.hid hth
            have HLO := Lib.hid hlo
            clear hth hlo
            go_wp2_with fail
            go_region
            go_wp2_with (refine wpList_load_path rfl _ rfl rfl s2.rot3.blk ?_)
            refine (on_s x s2 (Nat.le_trans hB b2.size) hgood.apart HC.out HD.out).mono ?_
            rintro e w3 ⟨rfl, s3, b3⟩
            have b3 := b2.trans b3
            clear s2 b2 g1 g2 g1' g2' hx
            go_wp2_with fail
            refine (tall_any x _ w3).mono ?_
            rintro e w4 ⟨rfl, rfl⟩
            go_wp2_with fail
            rw [HTH.out]
            refine (put_s x th s3 (Nat.le_trans hB b3.size) hgood.apart HLO.out.2).mono ?_
            rintro e w5 ⟨rfl, s5, ha5, b5⟩
            have b5 := b3.trans b5
            clear s3 b3
            obtain ⟨tb, htb⟩ : ∃ tb, w3.heap.size = tb := ⟨_, rfl⟩
            rw [htb] at s5 ha5 ⊢
            clear htb
            have s6 := s5.rot3
            go_wp2_with (refine wpList_store_path rfl _ _ rfl rfl rfl s6.blk rfl ?_; intro w7 h7 hm7; obtain ⟨s7, b7⟩ := blk_put s6 (Nat.le_trans hB b5.size) h7 hm7; have b7 := b5.trans b7; have s7 := s7.rot2; obtain ⟨g1, g2, g3, hmany⟩ := lk_many s7 (Nat.le_trans hB b7.size); have hN1 : N + 1 ≤ 1000 := (by have := HROOM.out; have := HM.out; omega); obtain ⟨s8, b8⟩ := hmany (N + 1); have b8 := b7.trans b8; rw [show ((N + 1 : Nat) : Int) = (N : Int) + 1 by omega] at s8 b8; have s8 := s8.rot3; obtain ⟨t1, t2, t3⟩ := s8.slat (Nat.le_trans hB b8.size) i (.bool false) (by rw [List.getElem?_eq_getElem (by rw [fillL_length]; exact hlt), fillL_get _ _ _ _ _ hlt, if_neg (by omega)]); obtain ⟨s9, b9⟩ := t3 (.bool true); have b9 := b8.trans b9; rw [fillL_succ n1 i (toldB m l0) (.bool false) (.bool true) (by unfold toldB; rw [decide_eq_true (by have := HROOM.out; have := HLEN.out; omega)])] at s9; have S9 := Lib.hid s9; have B9 := Lib.hid b9; clear s9 b9 t3 s8 b8 hmany s7 s6 s5 b7 b5)
            go_roundg (n1 - i - 1)
            case measure => omega
            case rel =>
              have hT2 : P ++ C ++ [(tb, x, th)] ++ D = P ++ C ++ (tb, x, th) :: D := by simp
              have hgood2 : Good s m (P ++ C ++ (tb, x, th) :: D) := hgood.put HC.out HD.out (by have := HN.out; rw [← List.append_assoc] at this; rw [this]; exact HROOM.out) HLO.out.1 HLO.out.2 ha5
              have hlen2 : (P ++ C ++ [(tb, x, th)] ++ D).length = N + 1 := by have := HN.out; simp at this ⊢; omega
              refine ⟨i + 1, P ++ C ++ [(tb, x, th)], D, by omega, by go_num, Lib.hid ?_, by rw [hT2]; exact hgood2, Lib.hid ?_, ?_, B9.out⟩
              · rw [hT2, HI.out, batN, ← hT.out]
                unfold insB
                rw [if_pos (by rw [List.length_map, HN.out]; exact HROOM.out), HGD.out, HTH.out, List.getD_eq_getElem?_getD, List.getElem?_eq_getElem HIX.out, HX.out]
                rfl
              · intro t ht j hj hjl
                have hxj : x ≤ vs[j] := by rw [← HX.out]; exact upB_le HU.out (by omega) hjl
                rcases List.mem_append.1 ht with ht | ht
                · have := HC.out t ht; omega
                · rw [List.mem_singleton.1 ht]; exact hxj
              · rw [hlen2, hT2, HL0.out, List.append_assoc P C [(tb, x, th)]]
                exact S9.out.rot2
          · have hgd : hs.getD i 1 = 1 := by rw [List.getD_eq_getElem?_getD, List.getElem?_eq_none (by rw [HL2.out]; omega)]; rfl
            have HGD := Lib.hid hgd
            clear hgd
            have hlo := tallI_le (1)
            obtain ⟨th, hth⟩ : ∃ th, tallI (1) = th := ⟨_, rfl⟩
            rw [hth] at hlo
            have HTH := Lib.hid hth
            have HLO := Lib.hid hlo
            clear hth hlo
            go_wp2_with fail
            go_region
            go_wp2_with (refine wpList_load_path rfl _ rfl rfl s2.rot3.blk ?_)
            refine (on_s x s2 (Nat.le_trans hB b2.size) hgood.apart HC.out HD.out).mono ?_
            rintro e w3 ⟨rfl, s3, b3⟩
            have b3 := b2.trans b3
            clear s2 b2 g1 g2 g1' g2' hx
            go_wp2_with fail
            refine (tall_any x _ w3).mono ?_
            rintro e w4 ⟨rfl, rfl⟩
            go_wp2_with fail
            rw [HTH.out]
            refine (put_s x th s3 (Nat.le_trans hB b3.size) hgood.apart HLO.out.2).mono ?_
            rintro e w5 ⟨rfl, s5, ha5, b5⟩
            have b5 := b3.trans b5
            clear s3 b3
            obtain ⟨tb, htb⟩ : ∃ tb, w3.heap.size = tb := ⟨_, rfl⟩
            rw [htb] at s5 ha5 ⊢
            clear htb
            have s6 := s5.rot3
            go_wp2_with (refine wpList_store_path rfl _ _ rfl rfl rfl s6.blk rfl ?_; intro w7 h7 hm7; obtain ⟨s7, b7⟩ := blk_put s6 (Nat.le_trans hB b5.size) h7 hm7; have b7 := b5.trans b7; have s7 := s7.rot2; obtain ⟨g1, g2, g3, hmany⟩ := lk_many s7 (Nat.le_trans hB b7.size); have hN1 : N + 1 ≤ 1000 := (by have := HROOM.out; have := HM.out; omega); obtain ⟨s8, b8⟩ := hmany (N + 1); have b8 := b7.trans b8; rw [show ((N + 1 : Nat) : Int) = (N : Int) + 1 by omega] at s8 b8; have s8 := s8.rot3; obtain ⟨t1, t2, t3⟩ := s8.slat (Nat.le_trans hB b8.size) i (.bool false) (by rw [List.getElem?_eq_getElem (by rw [fillL_length]; exact hlt), fillL_get _ _ _ _ _ hlt, if_neg (by omega)]); obtain ⟨s9, b9⟩ := t3 (.bool true); have b9 := b8.trans b9; rw [fillL_succ n1 i (toldB m l0) (.bool false) (.bool true) (by unfold toldB; rw [decide_eq_true (by have := HROOM.out; have := HLEN.out; omega)])] at s9; have S9 := Lib.hid s9; have B9 := Lib.hid b9; clear s9 b9 t3 s8 b8 hmany s7 s6 s5 b7 b5)
            go_roundg (n1 - i - 1)
            case measure => omega
            case rel =>
              have hT2 : P ++ C ++ [(tb, x, th)] ++ D = P ++ C ++ (tb, x, th) :: D := by simp
              have hgood2 : Good s m (P ++ C ++ (tb, x, th) :: D) := hgood.put HC.out HD.out (by have := HN.out; rw [← List.append_assoc] at this; rw [this]; exact HROOM.out) HLO.out.1 HLO.out.2 ha5
              have hlen2 : (P ++ C ++ [(tb, x, th)] ++ D).length = N + 1 := by have := HN.out; simp at this ⊢; omega
              refine ⟨i + 1, P ++ C ++ [(tb, x, th)], D, by omega, by go_num, Lib.hid ?_, by rw [hT2]; exact hgood2, Lib.hid ?_, ?_, B9.out⟩
              · rw [hT2, HI.out, batN, ← hT.out]
                unfold insB
                rw [if_pos (by rw [List.length_map, HN.out]; exact HROOM.out), HGD.out, HTH.out, List.getD_eq_getElem?_getD, List.getElem?_eq_getElem HIX.out, HX.out]
                rfl
              · intro t ht j hj hjl
                have hxj : x ≤ vs[j] := by rw [← HX.out]; exact upB_le HU.out (by omega) hjl
                rcases List.mem_append.1 ht with ht | ht
                · have := HC.out t ht; omega
                · rw [List.mem_singleton.1 ht]; exact hxj
              · rw [hlen2, hT2, HL0.out, List.append_assoc P C [(tb, x, th)]]
                exact S9.out.rot2
        · have hd : decide (m ≤ N) = true := decide_eq_true (by omega)
          have HROOM := Lib.hid hroom
          clear hroom
          have s2 := sr.drew
          have b2 := br.drew
          clear sr br
          go_wp2_with fail
          go_region
          go_wp2_with fail
          go_ret
          refine ⟨g, rfl, ?_, b2⟩
          have hfull : ¬ (batN m vs hs l i).length < m := by rw [← hT.out, List.length_map, HN.out]; exact HROOM.out
          have hle0 : m ≤ l0 + i := by have := HROOM.out; have := HLEN.out; omega
          obtain ⟨d, hd2⟩ : ∃ d, vs.length = i + d := ⟨vs.length - i, by have := HIX.out; omega⟩
          have hbl : batL m vs hs l = (P ++ Q).map (·.2) := by
            unfold batL
            rw [HU.out, if_pos rfl, hd2, batN_full m vs hs l i hfull d, ← hT.out]
          rw [batT_up HL1.out HU.out, HL0.out, fillL_stop n1 i _ _ fun j hj => by unfold toldB; rw [decide_eq_false (by omega)], hbl]
          have s3 := s2.rot2.cons fun _ h => h.cons fun _ h => Sep.drop h
          rw [← HN.out] at s3
          exact s3.cons fun _ h => sk_shut_any hgood h
      · obtain rfl : i = n1 := by omega
        go_wp2_with fail
        go_ret
        refine ⟨g, rfl, ?_, br⟩
        have hbl : batL m vs hs l = (P ++ Q).map (·.2) := by
          unfold batL
          rw [HU.out, if_pos rfl, HL1.out, ← hT.out]
        rw [batT_up HL1.out HU.out, HL0.out, hbl]
        have s3 := sr.rot2.cons fun _ h => h.cons fun _ h => Sep.drop h
        rw [← HN.out] at s3
        exact s3.cons fun _ h => sk_shut_any hgood h
end
end Go.Proofs.Ytpelpbnmjciheaa
