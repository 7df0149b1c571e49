/-
  Plain laws on the model's memory: worlds that differ in few blocks alone, blocks that are known whole, slices that read as lists, and append onto such a slice. No program in sight.
-/
import Derived.WalkKit
import Derived.Maps.AppendAt
import Derived.Deep.AppendLies
import Derived.Deep.AppendSrc
import Derived.Deep.Upon
import Derived.Deep.Draws
import Derived.Deep.RegionLaw
namespace Go.Rp
open Go.RowKit

/-- The world w' is w but for the blocks S and new ones. -/
structure Mod (S : Nat → Prop) (w w' : World) : Prop where
  os : w'.os = w.os
  tape : w'.tape = w.tape
  output : w'.output = w.output
  size : w.heap.size ≤ w'.heap.size
  block : ∀ k, k < w.heap.size → ¬ S k → w'.heap[k]? = w.heap[k]?

section
variable {S T : Nat → Prop} {w w' w1 w2 : World}
theorem Mod.refl (S : Nat → Prop) (w : World) : Mod S w w := ⟨rfl, rfl, rfl, Nat.le_refl _, fun _ _ _ => rfl⟩
theorem Mod.trans (h : Mod S w w1) (k : Mod T w1 w2) (hT : ∀ b, T b → S b ∨ w.heap.size ≤ b) : Mod S w w2 :=
  ⟨k.os.trans h.os, k.tape.trans h.tape, k.output.trans h.output, Nat.le_trans h.size k.size, fun b hb hn =>
    (k.block b (Nat.lt_of_lt_of_le hb h.size) (fun ht => by rcases hT b ht with h1 | h1; exact hn h1; omega)).trans (h.block b hb hn)⟩
theorem Mod.mono (h : Mod S w w') (hS : ∀ b, S b → T b) : Mod T w w' := ⟨h.os, h.tape, h.output, h.size, fun b hb hn => h.block b hb (fun hs => hn (hS b hs))⟩
theorem Mod.drew (h : Mod S w w') : Mod S w w'.drew := ⟨h.os, h.tape, h.output, h.size, h.block⟩
theorem Mod.drewN (h : Mod S w w') (n : Nat) : Mod S w (w'.drewN n) := ⟨h.os, h.tape, h.output, h.size, h.block⟩
theorem Mod.alloc (h : Mod S w w') (o : Obj) : Mod S w (w'.alloc o) :=
  ⟨h.os, h.tape, h.output, Nat.le_trans h.size (by simp), fun b hb hn => (Below.heap_alloc w' o b (Nat.lt_of_lt_of_le hb h.size)).trans (h.block b hb hn)⟩
theorem Mod.setCell (h : Mod S w w') {p : Addr} (hp : S p.block ∨ w.heap.size ≤ p.block) (u : Value) : Mod S w (w'.setCell p u) :=
  ⟨h.os, h.tape, h.output, by simpa [World.setCell] using h.size, fun b hb hn => (Below.heap_setCell w' p u b (by
    rintro rfl
    rcases hp with hp | hp
    · exact hn hp
    · omega)).trans (h.block b hb hn)⟩
theorem Mod.below {B : Nat} (h : Mod S w w') (hB : B ≤ w.heap.size) (hS : ∀ b, S b → B ≤ b) : Below B w w' :=
  ⟨h.os, h.tape, h.output, h.size, fun b hb => h.block b (by omega) (fun hs => by have := hS b hs; omega)⟩
theorem Mod.of_below (h : Below w.heap.size w w') : Mod S w w' := ⟨h.os, h.tape, h.output, h.size, fun b hb _ => h.block b hb⟩
theorem Mod.of_grown {row : Option Nat} (h : w.grownBy w' row) (hr : ∀ g, row = some g → S g) : Mod S w w' :=
  ⟨h.os, h.tape, h.output, h.size, fun b hb hn => h.block b hb (fun e => hn (hr b e.symm))⟩
theorem Mod.cell (h : Mod S w w') {p : Addr} (hp : p.block < w.heap.size) (hn : ¬ S p.block) : w'.cell? p = w.cell? p := World.cell?_of_block (w := w) (h.block p.block hp hn)
theorem Mod.frozen (h : Mod S w w') {p : Addr} (hp : p.block < w.heap.size) (hn : ¬ S p.block) : w'.frozen? p = w.frozen? p := World.frozen?_of_block (w := w) (h.block p.block hp hn)
end

/-- S, and what is new. -/
def grow (S : Nat → Prop) (w w' : World) : Nat → Prop := fun b => S b ∨ (w.heap.size ≤ b ∧ b < w'.heap.size)
theorem grow_left {S : Nat → Prop} {w w' : World} : ∀ b, S b → grow S w w' b := fun _ h => .inl h
theorem grow_mono {S : Nat → Prop} {w w1 w2 : World} (h : w1.heap.size ≤ w2.heap.size) : ∀ b, grow S w w1 b → grow S w w2 b := fun b hb => by
  rcases hb with hb | hb
  · exact .inl hb
  · exact .inr ⟨hb.1, by omega⟩
/-- What S may be, and what has come since: S grown twice. -/
theorem grow_grow {S : Nat → Prop} {w w1 w2 w3 : World} (h1 : w.heap.size ≤ w1.heap.size) (h2 : w1.heap.size ≤ w2.heap.size) (h3 : w2.heap.size ≤ w3.heap.size) : ∀ b, grow (grow S w w1) w1 w2 b → grow S w w3 b := fun b hb => by
  rcases hb with (hb | hb) | hb
  · exact .inl hb
  · exact .inr ⟨hb.1, by omega⟩
  · exact .inr ⟨by omega, by omega⟩
theorem Mod.grow {S : Nat → Prop} {w w1 w2 : World} (h : Mod S w w1) (k : Mod (grow S w w1) w1 w2) : Mod S w w2 := h.trans k fun b hb => by
  rcases hb with hb | hb
  · exact .inl hb
  · exact .inr hb.1

theorem below_drewN {B : Nat} {a w : World} (h : Below B a w) (n : Nat) : Below B a (w.drewN n) := ⟨h.os, h.tape, h.output, h.size, h.block⟩

/-- Block g is just the cells cs of element type t, none frozen. -/
def Blk (w : World) (g : Nat) (t : TypeId) (cs : Array Value) : Prop := w.heap[g]? = some (.cells cs t (0, 0))

section
variable {S : Nat → Prop} {w w' : World} {g : Nat} {t : TypeId} {cs : Array Value}
theorem Blk.lt (h : Blk w g t cs) : g < w.heap.size := by
  rcases Nat.lt_or_ge g w.heap.size with hlt | hge
  · exact hlt
  · unfold Blk at h; rw [Array.getElem?_eq_none hge] at h; cases h
theorem Blk.cell (h : Blk w g t cs) (i : Nat) : w.cell? ⟨g, i, none⟩ = cs[i]? := cell_of_row w g i cs t (0, 0) h
theorem Blk.frozen (h : Blk w g t cs) (i : Nat) : w.frozen? ⟨g, i, none⟩ = false := by
  unfold Blk at h
  simp [World.frozen?, h]
theorem Blk.new (w : World) (t : TypeId) (cs : Array Value) : Blk (w.alloc (.cells cs t)) w.heap.size t cs := heap_alloc_new w _
theorem Blk.drew (h : Blk w g t cs) : Blk w.drew g t cs := h
theorem Blk.drewN (h : Blk w g t cs) (n : Nat) : Blk (w.drewN n) g t cs := h
theorem Blk.alloc (h : Blk w g t cs) (o : Obj) : Blk (w.alloc o) g t cs := (Below.heap_alloc w o g h.lt).trans h
theorem Blk.set (h : Blk w g t cs) (i : Nat) (u : Value) : Blk (w.setCell ⟨g, i, none⟩ u) g t (cs.setIfInBounds i u) := by
  unfold Blk at h ⊢
  simp [World.setCell, Array.getElem?_modify, h]
theorem Blk.far (h : Blk w g t cs) {p : Addr} (hp : g ≠ p.block) (u : Value) : Blk (w.setCell p u) g t cs := (Below.heap_setCell w p u g hp).trans h
theorem Blk.mod (h : Blk w g t cs) (hm : Mod S w w') (hg : ¬ S g) : Blk w' g t cs := (hm.block g h.lt hg).trans h
theorem Blk.below {B : Nat} (h : Blk w g t cs) (hb : Below B w w') (hg : g < B) : Blk w' g t cs := (hb.block g hg).trans h
theorem Blk.ne {g' : Nat} {t' : TypeId} {cs' : Array Value} (h : Blk w g t cs) (h' : Blk w g' t' cs') (hne : t ≠ t') : g ≠ g' := by
  rintro rfl
  unfold Blk at h h'
  rw [h] at h'
  injection h' with h'
  injection h' with _ ht
  exact hne ht
end

/-! ### A slice that is read alone: nil let in; its block among R -/
def Rd (w : World) (R : Nat → Prop) (sz : Nat) (A : Option Addr) (n : Nat) (xs : List Value) : Prop :=
  xs.length = n * sz ∧ (0 < n → ∃ b off, A = some ⟨b, off, none⟩ ∧ R b ∧ ∀ j u, xs[j]? = some u → w.cell? ⟨b, off + j, none⟩ = some u)

section
variable {S R R' : Nat → Prop} {w w' : World} {B sz n : Nat} {A : Option Addr} {xs : List Value}
theorem Rd.nil : Rd w R sz A 0 [] := ⟨by simp, fun h => absurd h (by omega)⟩
theorem Rd.at (h : Rd w R sz A n xs) (hn : 0 < n) : ∃ b off, A = some ⟨b, off, none⟩ ∧ R b ∧ ∀ j u, xs[j]? = some u → w.cell? ⟨b, off + j, none⟩ = some u := h.2 hn
theorem Rd.keep (h : Rd w R sz A n xs) (hk : ∀ p : Addr, R p.block → p.block < w.heap.size → w'.cell? p = w.cell? p) : Rd w' R sz A n xs :=
  ⟨h.1, fun hn => by
    obtain ⟨b, off, e, hb, hc⟩ := h.2 hn
    exact ⟨b, off, e, hb, fun j u hu => (hk ⟨b, off + j, none⟩ hb (World.block_lt_of_cell? w _ (hc j u hu))).trans (hc j u hu)⟩⟩
theorem Rd.more (h : Rd w R sz A n xs) (hR : ∀ b, R b → R' b) : Rd w R' sz A n xs :=
  ⟨h.1, fun hn => by
    obtain ⟨b, off, e, hb, hc⟩ := h.2 hn
    exact ⟨b, off, e, hR b hb, hc⟩⟩
theorem Rd.below (h : Rd w R sz A n xs) (hb : Below B w w') (hR : ∀ b, R b → b < B) : Rd w' R sz A n xs := h.keep fun p hp _ => hb.cell (hR _ hp)
theorem Rd.mod (h : Rd w R sz A n xs) (hm : Mod S w w') (hR : ∀ b, R b → ¬ S b) : Rd w' R sz A n xs := h.keep fun p hp hlt => hm.cell hlt (hR _ hp)
theorem Rd.drew (h : Rd w R sz A n xs) : Rd w.drew R sz A n xs := h
theorem Rd.drewN (h : Rd w R sz A n xs) (k : Nat) : Rd (w.drewN k) R sz A n xs := h
theorem Rd.alloc (h : Rd w R sz A n xs) (o : Obj) : Rd (w.alloc o) R sz A n xs := h.keep fun p _ hlt => World.cell?_alloc_lt w o p hlt
theorem Rd.setCell (h : Rd w R sz A n xs) {p : Addr} (hp : ¬ R p.block) (u : Value) : Rd (w.setCell p u) R sz A n xs :=
  h.keep fun q hq _ => World.cell?_setCell_other w p q u (fun e => by subst e; exact hp hq)
/-- The cells that a block known whole has, as a slice's. -/
theorem Rd.of_blk {g : Nat} {t : TypeId} {cs : Array Value} (h : Blk w g t cs) (hg : R g) (m : Nat) (hm : cs.size = m * sz) : Rd w R sz (some ⟨g, 0, none⟩) m cs.toList :=
  ⟨by simpa using hm, fun _ => ⟨g, 0, rfl, hg, fun j u hu => by rw [h.cell, Nat.zero_add]; simpa using hu⟩⟩
/-- The slice that a literal makes. -/
theorem Rd.lit (w : World) (t : TypeId) (cs : Array Value) (m : Nat) (hm : cs.size = m * sz) : Rd (w.alloc (.cells cs t)) (· = w.heap.size) sz (some ⟨w.heap.size, 0, none⟩) m cs.toList :=
  Rd.of_blk (R := (· = w.heap.size)) (Blk.new w t cs) rfl m hm
end

/-! ### A slice of the program's own: its block among S, known whole; spare room behind it -/
def Sl (w : World) (e sz : Nat) (A : Option Addr) (n c : Nat) (xs : List Value) (S : Nat → Prop) : Prop :=
  xs.length = n * sz ∧ n ≤ c ∧ c ≤ maxLen ∧
  ((A = none ∧ n = 0 ∧ c = 0) ∨ ∃ g off cur, A = some ⟨g, off, none⟩ ∧ S g ∧ Blk w g e cur ∧ off + c * sz ≤ cur.size ∧ ∀ j, j < n * sz → cur[off + j]? = xs[j]?)

section
variable {S T : Nat → Prop} {w w' : World} {e sz n c : Nat} {A : Option Addr} {xs : List Value}
theorem Sl.nil (w : World) (e sz : Nat) (S : Nat → Prop) : Sl w e sz none 0 0 [] S := ⟨by simp, Nat.le_refl _, by simp [maxLen], .inl ⟨rfl, rfl, rfl⟩⟩
theorem Sl.le (h : Sl w e sz A n c xs S) : n ≤ c := h.2.1
theorem Sl.cap_le (h : Sl w e sz A n c xs S) : c ≤ maxLen := h.2.2.1
theorem Sl.mono (h : Sl w e sz A n c xs S) (hS : ∀ b, S b → T b) : Sl w e sz A n c xs T := by
  obtain ⟨h1, h2, h3, h4⟩ := h
  refine ⟨h1, h2, h3, ?_⟩
  rcases h4 with h4 | ⟨g, off, cur, hA, hg, r⟩
  · exact .inl h4
  · exact .inr ⟨g, off, cur, hA, hS _ hg, r⟩
theorem Sl.lt (h : Sl w e sz A n c xs S) : Sl w e sz A n c xs (fun b => S b ∧ b < w.heap.size) := by
  obtain ⟨h1, h2, h3, h4⟩ := h
  refine ⟨h1, h2, h3, ?_⟩
  rcases h4 with h4 | ⟨g, off, cur, hA, hg, hb, r⟩
  · exact .inl h4
  · exact .inr ⟨g, off, cur, hA, ⟨hg, hb.lt⟩, hb, r⟩
theorem Sl.map (h : Sl w e sz A n c xs S) (hk : ∀ g, S g → ∀ cur, Blk w g e cur → Blk w' g e cur) : Sl w' e sz A n c xs S := by
  obtain ⟨h1, h2, h3, h4⟩ := h
  refine ⟨h1, h2, h3, ?_⟩
  rcases h4 with h4 | ⟨g, off, cur, hA, hg, hb, r⟩
  · exact .inl h4
  · exact .inr ⟨g, off, cur, hA, hg, hk g hg cur hb, r⟩
theorem Sl.mod (h : Sl w e sz A n c xs S) (hm : Mod T w w') (hd : ∀ b, S b → ¬ T b) : Sl w' e sz A n c xs S := h.map fun g hg _ hb => hb.mod hm (hd g hg)
theorem Sl.drew (h : Sl w e sz A n c xs S) : Sl w.drew e sz A n c xs S := h
theorem Sl.drewN (h : Sl w e sz A n c xs S) (k : Nat) : Sl (w.drewN k) e sz A n c xs S := h
theorem Sl.alloc (h : Sl w e sz A n c xs S) (o : Obj) : Sl (w.alloc o) e sz A n c xs S := h.map fun _ _ _ hb => hb.alloc o
theorem Sl.far (h : Sl w e sz A n c xs S) {p : Addr} (hp : ¬ S p.block) (u : Value) : Sl (w.setCell p u) e sz A n c xs S := h.map fun g hg _ hb => hb.far (fun he => hp (he ▸ hg)) u
/-- A store into a block of another element type. -/
theorem Sl.farT (h : Sl w e sz A n c xs S) {p : Addr} {t : TypeId} {cs : Array Value} (hp : Blk w p.block t cs) (hne : e ≠ t) (u : Value) : Sl (w.setCell p u) e sz A n c xs S :=
  h.map fun _ _ _ hb => hb.far (hb.ne hp hne) u
/-- Its block is none of another element type. -/
theorem Sl.off (h : Sl w e sz A n c xs S) {p : Nat} {t : TypeId} {cs : Array Value} (hp : Blk w p t cs) (hne : e ≠ t) : Sl w e sz A n c xs (fun b => S b ∧ b ≠ p) := by
  obtain ⟨h1, h2, h3, h4⟩ := h
  refine ⟨h1, h2, h3, ?_⟩
  rcases h4 with h4 | ⟨g, off, cur, hA, hg, hb, r⟩
  · exact .inl h4
  · exact .inr ⟨g, off, cur, hA, ⟨hg, hb.ne hp hne⟩, hb, r⟩
theorem Sl.rd (h : Sl w e sz A n c xs S) : Rd w S sz A n xs := by
  obtain ⟨h1, h2, h3, h4⟩ := h
  refine ⟨h1, fun hn => ?_⟩
  rcases h4 with ⟨_, h4, _⟩ | ⟨g, off, cur, hA, hg, hb, _, hc⟩
  · omega
  · refine ⟨g, off, hA, hg, fun j u hu => ?_⟩
    have hj : j < n * sz := by rw [← h1]; exact (List.getElem?_eq_some_iff.1 hu).1
    rw [hb.cell, hc j hj, hu]
/-- Element i's cell j. -/
theorem Sl.at (h : Sl w e sz A n c xs S) (hn : 0 < n) : ∃ g off, A = some ⟨g, off, none⟩ ∧ S g ∧ g < w.heap.size ∧ (∀ i, w.frozen? ⟨g, i, none⟩ = false) ∧ ∀ j u, xs[j]? = some u → w.cell? ⟨g, off + j, none⟩ = some u := by
  obtain ⟨h1, h2, h3, h4⟩ := h
  rcases h4 with ⟨_, h4, _⟩ | ⟨g, off, cur, hA, hg, hb, _, hc⟩
  · omega
  · refine ⟨g, off, hA, hg, hb.lt, hb.frozen, fun j u hu => ?_⟩
    have hj : j < n * sz := by rw [← h1]; exact (List.getElem?_eq_some_iff.1 hu).1
    rw [hb.cell, hc j hj, hu]
/-- 's[k:]', as the model has it: at the capacity's end the address stays. -/
theorem Sl.drop (h : Sl w e sz A n c xs S) {k : Nat} (hk : k ≤ n) : Sl w e sz (if c = k then A else A.map (·.add (k * sz))) (n - k) (c - k) (xs.drop (k * sz)) S := by
  obtain ⟨h1, h2, h3, h4⟩ := h
  refine ⟨by rw [List.length_drop, h1, Nat.sub_mul], by omega, by omega, ?_⟩
  rcases h4 with ⟨rfl, rfl, rfl⟩ | ⟨g, off, cur, rfl, hg, hb, hsz, hc⟩
  · exact .inl ⟨by simp, by omega, by omega⟩
  · right
    by_cases hck : c = k
    · rw [if_pos hck]
      refine ⟨g, off, cur, rfl, hg, hb, ?_, fun j hj => ?_⟩
      · subst hck; simp at hsz ⊢; omega
      · have : n - k = 0 := by omega
        simp [this] at hj
    · rw [if_neg hck]
      refine ⟨g, off + k * sz, cur, ?_, hg, hb, ?_, fun j hj => ?_⟩
      · by_cases h0 : k * sz = 0 <;> simp [Addr.add, h0]
      · rw [Nat.sub_mul]
        have : k * sz ≤ c * sz := Nat.mul_le_mul_right _ (by omega)
        omega
      · rw [List.getElem?_drop, ← hc _ (by rw [Nat.sub_mul] at hj; omega), Nat.add_assoc]
/-- 's[:k]'. -/
theorem Sl.take (h : Sl w e sz A n c xs S) {k : Nat} (hk : k ≤ n) : Sl w e sz A k c (xs.take (k * sz)) S := by
  obtain ⟨h1, h2, h3, h4⟩ := h
  have hkn : k * sz ≤ n * sz := Nat.mul_le_mul_right _ hk
  refine ⟨by rw [List.length_take, h1]; omega, by omega, h3, ?_⟩
  rcases h4 with ⟨rfl, rfl, rfl⟩ | ⟨g, off, cur, rfl, hg, hb, hsz, hc⟩
  · exact .inl ⟨rfl, by omega, rfl⟩
  · refine .inr ⟨g, off, cur, rfl, hg, hb, hsz, fun j hj => ?_⟩
    rw [List.getElem?_take, if_pos hj, hc j (by omega)]
/-- A store into element k's cell. -/
theorem Sl.set (h : Sl w e sz A n c xs S) {g off : Nat} (hA : A = some ⟨g, off, none⟩) (k : Nat) (hk : k < n * sz) (u : Value) : Sl (w.setCell ⟨g, off + k, none⟩ u) e sz A n c (xs.set k u) S := by
  obtain ⟨h1, h2, h3, h4⟩ := h
  refine ⟨by simpa using h1, h2, h3, ?_⟩
  rcases h4 with ⟨rfl, _⟩ | ⟨g', off', cur, rfl, hg, hb, hsz, hc⟩
  · cases hA
  · obtain ⟨rfl, rfl⟩ : g' = g ∧ off' = off := by simpa using hA
    refine .inr ⟨g', off', _, rfl, hg, hb.set _ _, by simpa using hsz, fun j hj => ?_⟩
    have hcn : n * sz ≤ c * sz := Nat.mul_le_mul_right _ h2
    by_cases hjk : j = k
    · subst hjk
      rw [Array.getElem?_setIfInBounds_self_of_lt (by omega), List.getElem?_set_self (by omega)]
    · rw [Array.getElem?_setIfInBounds_ne (by omega), List.getElem?_set_ne (by omega), hc j hj]
/-- A whole block just made, as a slice. -/
theorem Sl.of_blk {g : Nat} {cs : Array Value} (h : Blk w g e cs) (hg : S g) (m c : Nat) (hm : m ≤ c) (hc : c ≤ maxLen) (hz : cs.size = c * sz) : Sl w e sz (some ⟨g, 0, none⟩) m c (cs.toList.take (m * sz)) S := by
  have hmc : m * sz ≤ c * sz := Nat.mul_le_mul_right _ hm
  refine ⟨by rw [List.length_take, Array.length_toList]; omega, hm, hc, .inr ⟨g, 0, cs, rfl, hg, h, by omega, fun j hj => ?_⟩⟩
  rw [List.getElem?_take, if_pos hj]
  simp
end

section
variable {P : Program} (w : World)

theorem setCells_blk {g : Nat} {t : TypeId} (vs : List Value) : ∀ (o : Nat) (w : World) (cs : Array Value), Blk w g t cs → o + vs.length ≤ cs.size →
    ∃ cs', Blk (w.setCells g o vs) g t cs' ∧ cs'.size = cs.size ∧ (∀ j, j < o → cs'[j]? = cs[j]?) ∧ (∀ j, j < vs.length → cs'[o + j]? = vs[j]?) ∧ (w.setCells g o vs).os = w.os ∧ (w.setCells g o vs).tape = w.tape ∧ (w.setCells g o vs).output = w.output ∧
      (w.setCells g o vs).heap.size = w.heap.size ∧ ∀ k, k ≠ g → (w.setCells g o vs).heap[k]? = w.heap[k]? := by
  induction vs with
  | nil => intro o w cs h _; exact ⟨cs, h, rfl, fun _ _ => rfl, fun j hj => by simp at hj, rfl, rfl, rfl, rfl, fun _ _ => rfl⟩
  | cons v vs ih =>
    intro o w cs h ho
    simp only [List.length_cons] at ho
    obtain ⟨cs', h1, h2, h3, h4, h5, h6, h7, h8, h9⟩ := ih (o + 1) (w.setCell ⟨g, o, none⟩ v) _ (h.set o v) (by simp; omega)
    refine ⟨cs', h1, by simpa using h2, fun j hj => ?_, fun j hj => ?_, h5, h6, h7, h8.trans (by simp [World.setCell]), fun k hk => (h9 k hk).trans (Below.heap_setCell w _ v k hk)⟩
    · rw [h3 j (by omega), Array.getElem?_setIfInBounds_ne (by omega)]
    · rcases j with _ | j
      · rw [Nat.add_zero, h3 o (by omega), Array.getElem?_setIfInBounds_self_of_lt (by omega)]
        rfl
      · have := h4 j (by simpa using hj)
        rw [show o + (j + 1) = o + 1 + j by omega, this]
        rfl

/-- append onto a slice of the program's own, of whatever is read. -/
theorem run_append_sl (t ty e : TypeId) (i : TypeInfo) (z : Value) (sz bytes : Nat) (ht : P.underlying t = some (.slice e)) (hi : P.info? e = some i) (hz : i.zero = some z)
    (hsize : i.size = sz) (hby : i.bytes = bytes) (hzs : z.cells.size = sz) (hsz : 0 < sz)
    (A : Option Addr) (n c : Nat) (xs : List Value) (S : Nat → Prop) (hown : Sl w e sz A n c xs S)
    (R : Nat → Prop) (A2 : Option Addr) (m c2 : Nat) (news : List Value) (hr : Rd w R sz A2 m news) (h1 : ∀ u ∈ news, u.oneCell' = true)
    (h63 : n + m ≤ maxLen) (hbytes : (n + m) * bytes ≤ 140737488355328) :
    ∃ A' c' w', (Builtin.append_ #[t, t] ty #[.slice A n c, .slice A2 m c2]).run P w = .ok (.slice A' (n + m) c') w' ∧
      Sl w' e sz A' (n + m) c' (xs ++ news) (grow S w w') ∧ Mod S w w' := by
  subst hsize
  subst hby
  have hsrc : Src P i.size t (.slice A2 m c2) m news w := by
    refine ⟨.inl ⟨e, ht⟩, fun _ => rfl, ?_, ?_, hr.1, h1⟩
    all_goals
      rcases Nat.eq_zero_or_pos m with h0 | h0
      · subst h0
        have hn : news = [] := List.eq_nil_of_length_eq_zero (by simpa using hr.1)
        subst hn
        rcases A2 with _ | a
        · exact run_firstCells_none _ _ 0 0 c2
        · exact run_firstCells_some _ _ 0 a 0 c2 [] (by simp) (by simp)
      · obtain ⟨b, off, rfl, _, hc⟩ := hr.2 h0
        refine run_firstCells_some _ _ m _ m c2 news hr.1 fun j u hu => ?_
        have := hc j u hu
        simp only [Addr.add]
        split
        · rename_i hj; subst hj; simpa using this
        · simpa using this
  obtain ⟨hl, hnc, hcm, hA⟩ := hown
  have hlen : (xs ++ news).length = (n + m) * i.size := by rw [List.length_append, hl, hr.1, Nat.add_mul]
  by_cases hroom : n + m ≤ c
  · rcases hA with ⟨rfl, rfl, rfl⟩ | ⟨g, off, cur, rfl, hg, hb, hcs, hcur⟩
    · obtain rfl : m = 0 := by omega
      have hn : news = [] := List.eq_nil_of_length_eq_zero (by simpa using hr.1)
      have hx : xs = [] := List.eq_nil_of_length_eq_zero (by simpa using hl)
      subst hn hx
      refine ⟨none, 0, w, ?_, Sl.nil _ _ _ _, Mod.refl _ _⟩
      simp [Builtin.append_, run_underlying ht, sizeOf, typeInfo, hi, hsrc.len, hsrc.cells]
    · have hfit : off + n * i.size + news.length ≤ cur.size := by
        rw [hr.1]
        have : (n + m) * i.size ≤ c * i.size := Nat.mul_le_mul_right _ hroom
        rw [Nat.add_mul] at this
        omega
      have hrun := run_append_room_src (P := P) w t t ty e i ht hi g off n c (.slice A2 m c2) m news hsrc hroom
        (fun j hj => by rw [hb.cell, Array.getElem?_eq_getElem (by omega)]; rfl) (fun j _ => hb.frozen _)
      obtain ⟨cs', k1, k2, k3, k4, k5, k6, k7, k8, k9⟩ := setCells_blk (g := g) (t := e) news (off + n * i.size) w cur hb hfit
      refine ⟨_, c, _, hrun, ⟨hlen, hroom, hcm, .inr ⟨g, off, cs', rfl, .inl hg, k1, by omega, fun j hj => ?_⟩⟩, ⟨k5, k6, k7, by omega, fun k _ hk => k9 k (fun he => hk (he ▸ hg))⟩⟩
      rcases Nat.lt_or_ge j (n * i.size) with hjn | hjn
      · rw [k3 _ (by omega), hcur j hjn, List.getElem?_append_left (by omega)]
      · rw [Nat.add_mul] at hj
        rw [List.getElem?_append_right (by omega), hl, ← k4 (j - n * i.size) (by rw [hr.1]; omega)]
        congr 1
        omega
  · have hold : (Builtin.firstCells i.size n (.slice A n c)).run P w.drew = .ok xs.toArray w.drew := by
      rcases hA with ⟨rfl, rfl, rfl⟩ | ⟨g, off, cur, rfl, hg, hb, hcs, hcur⟩
      · have hx : xs = [] := List.eq_nil_of_length_eq_zero (by simpa using hl)
        subst hx
        exact run_firstCells_none _ _ 0 0 0
      · refine run_firstCells_some _ _ n _ n c xs hl fun j u hu => ?_
        have hj : j < n * i.size := by rw [← hl]; exact (List.getElem?_eq_some_iff.1 hu).1
        have hcell : w.drew.cell? ⟨g, off + j, none⟩ = some u := by rw [hb.drew.cell, hcur j hj, hu]
        simp only [Addr.add]
        split
        · rename_i h0; subst h0; simpa using hcell
        · simpa using hcell
    have hge := grownCap_ge w (n + m) c e
    have hcapm : grownCap w (n + m) c e ≤ maxLen := grownCap_le_maxLen w (n + m) c e h63
    have hrun := run_append_grow_src (P := P) w t t ty e i z ht hi hz A n c xs hold (.slice A2 m c2) m news hsrc (by omega) (by simp only [maxLen] at h63; omega) (growslice_fits (by omega) hbytes)
    have hblk : Blk (w.drew.alloc (.cells ((xs ++ news).toArray ++ Builtin.zeroCells z.cells (grownCap w (n + m) c e - (n + m))) e)) w.heap.size e ((xs ++ news).toArray ++ Builtin.zeroCells z.cells (grownCap w (n + m) c e - (n + m))) := Blk.new w.drew _ _
    refine ⟨_, _, _, hrun, ?_, ⟨rfl, rfl, rfl, by simp, fun k hk _ => Below.heap_alloc w.drew _ k hk⟩⟩
    have hs := Sl.of_blk (S := grow S w (w.drew.alloc (.cells ((xs ++ news).toArray ++ Builtin.zeroCells z.cells (grownCap w (n + m) c e - (n + m))) e))) (sz := i.size) hblk (.inr ⟨Nat.le_refl _, by simp⟩) (n + m) (grownCap w (n + m) c e) hge hcapm (by
      rw [Array.size_append, size_zeroCells, hzs, List.size_toArray, hlen, ← Nat.add_mul]
      congr 1
      omega)
    have htake : ((xs ++ news).toArray ++ Builtin.zeroCells z.cells (grownCap w (n + m) c e - (n + m))).toList.take ((n + m) * i.size) = xs ++ news := by
      rw [Array.toList_append, ← hlen]
      exact List.take_left
    rw [htake] at hs
    exact hs

theorem wp_append_sl {o : Oper} {a : Act} {K : Act → World → Prop} {Q : Exit → Act → World → Prop} (s x : Operand) (t : TypeId)
    (ho : o.op = .call { callee := .builtin .append, args := #[s, x], argTypes := #[t, t] })
    (e : TypeId) (i : TypeInfo) (z : Value) (sz bytes : Nat) (ht : P.underlying t = some (.slice e)) (hi : P.info? e = some i) (hz : i.zero = some z)
    (hsize : i.size = sz) (hby : i.bytes = bytes) (hzs : z.cells.size = sz) (hsz : 0 < sz)
    (A : Option Addr) (n c : Nat) (xs : List Value) (S : Nat → Prop) (hs : a.eval s = .slice A n c) (hown : Sl w e sz A n c xs S)
    (R : Nat → Prop) (A2 : Option Addr) (m c2 : Nat) (news : List Value) (hx : a.eval x = .slice A2 m c2) (hr : Rd w R sz A2 m news) (h1 : ∀ u ∈ news, u.oneCell' = true)
    (h63 : n + m ≤ maxLen) (hbytes : (n + m) * bytes ≤ 140737488355328)
    (h : ∀ A' c' w', Sl w' e sz A' (n + m) c' (xs ++ news) (grow S w w') → Mod S w w' → K (a.put o.dst (.slice A' (n + m) c')) w') : o.wp P a w K Q := by
  obtain ⟨A', c', w', hrun, h2, h3⟩ := run_append_sl (P := P) w t o.type e i z sz bytes ht hi hz hsize hby hzs hsz A n c xs S hown R A2 m c2 news hr h1 h63 hbytes
  unfold Oper.wp execOp
  simp only [ho, resolve, invoke, builtin, Sem.run_bind, Sem.run_pure, Result.andThen_ok, List.map_toArray, List.map_cons, List.map_nil, hs, hx, hrun]
  exact h A' c' w' h2 h3

theorem wpList_append_sl {ops : Array Oper} {rest : List Oper} {o : Oper} {a : Act} {Q : Exit → Act → World → Prop} (hgd : o.guard = none) (s x : Operand) (t : TypeId)
    (ho : o.op = .call { callee := .builtin .append, args := #[s, x], argTypes := #[t, t] })
    (e : TypeId) (i : TypeInfo) (z : Value) (sz bytes : Nat) (ht : P.underlying t = some (.slice e)) (hi : P.info? e = some i) (hz : i.zero = some z)
    (hsize : i.size = sz) (hby : i.bytes = bytes) (hzs : z.cells.size = sz) (hsz : 0 < sz)
    (A : Option Addr) (n c : Nat) (xs : List Value) (S : Nat → Prop) (hs : a.eval s = .slice A n c) (hown : Sl w e sz A n c xs S)
    (R : Nat → Prop) (A2 : Option Addr) (m c2 : Nat) (news : List Value) (hx : a.eval x = .slice A2 m c2) (hr : Rd w R sz A2 m news) (h1 : ∀ u ∈ news, u.oneCell' = true)
    (h63 : n + m ≤ maxLen) (hbytes : (n + m) * bytes ≤ 140737488355328)
    (h : ∀ A' c' w', Sl w' e sz A' (n + m) c' (xs ++ news) (grow S w w') → Mod S w w' → wpList P ops Q rest (a.put o.dst (.slice A' (n + m) c')) w') : wpList P ops Q (o :: rest) a w :=
  wpList_plain hgd fun _ hK => wp_append_sl w s x t ho e i z sz bytes ht hi hz hsize hby hzs hsz A n c xs S hs hown R A2 m c2 news hx hr h1 h63 hbytes fun A' c' w' h2 h3 => hK _ _ (h A' c' w' h2 h3)

theorem step_append_sl {ops : Array Oper} {o : Oper} {a : Act} {K : Act → World → Prop} {Q : Exit → Act → World → Prop} {E : Prop} (hgd : o.guard = none) (s x : Operand) (t : TypeId)
    (ho : o.op = .call { callee := .builtin .append, args := #[s, x], argTypes := #[t, t] })
    (e : TypeId) (i : TypeInfo) (z : Value) (sz bytes : Nat) (ht : P.underlying t = some (.slice e)) (hi : P.info? e = some i) (hz : i.zero = some z)
    (hsize : i.size = sz) (hby : i.bytes = bytes) (hzs : z.cells.size = sz) (hsz : 0 < sz)
    (A : Option Addr) (n c : Nat) (xs : List Value) (S : Nat → Prop) (hs : a.eval s = .slice A n c) (hown : Sl w e sz A n c xs S)
    (R : Nat → Prop) (A2 : Option Addr) (m c2 : Nat) (news : List Value) (hx : a.eval x = .slice A2 m c2) (hr : Rd w R sz A2 m news) (h1 : ∀ u ∈ news, u.oneCell' = true)
    (h63 : n + m ≤ maxLen) (hbytes : (n + m) * bytes ≤ 140737488355328)
    (h : ∀ A' c' w', Sl w' e sz A' (n + m) c' (xs ++ news) (grow S w w') → Mod S w w' → K (a.put o.dst (.slice A' (n + m) c')) w') :
    if Region.wanted o (yielded ops a.tmps) = true then Oper.wp P o a w K Q else E := by
  have hw : Region.wanted o (yielded ops a.tmps) = true := by simp [Region.wanted, hgd]
  rw [if_pos hw]
  exact wp_append_sl w s x t ho e i z sz bytes ht hi hz hsize hby hzs hsz A n c xs S hs hown R A2 m c2 news hx hr h1 h63 hbytes h
end

/-- 'x.f = append(x.f, ..)' behind the append and the store: wx is the world ahead of the append, w the world that one started from. -/
theorem field_append {w wx w1 : World} {p : Nat} {S : Nat → Prop} {t e sz m c' : Nat} {cs : Array Value} {A' : Option Addr} {xs : List Value} (k : Nat) (hS : S p) (hx : Mod S w wx) (hblk1 : Blk w1 p t cs) (hne : e ≠ t)
    (hown1 : Sl w1 e sz A' m c' xs (grow (fun b => S b ∧ b ≠ p) wx w1)) (hmod1 : Mod (fun b => S b ∧ b ≠ p) wx w1) :
    Blk (w1.setCell ⟨p, k, none⟩ (.slice A' m c')) p t (cs.setIfInBounds k (.slice A' m c')) ∧
    Sl (w1.setCell ⟨p, k, none⟩ (.slice A' m c')) e sz A' m c' xs (grow S w (w1.setCell ⟨p, k, none⟩ (.slice A' m c'))) ∧
    Mod S w (w1.setCell ⟨p, k, none⟩ (.slice A' m c')) := by
  have hz2 : (w1.setCell ⟨p, k, none⟩ (.slice A' m c')).heap.size = w1.heap.size := by simp [World.setCell]
  refine ⟨hblk1.set k _, (hown1.farT (p := ⟨p, k, none⟩) hblk1 hne _).mono fun b hb => ?_, (hx.trans hmod1 fun b hb => .inl hb.1).setCell (.inl hS) _⟩
  rcases hb with hb | hb
  · exact .inl hb.1
  · have := hx.size
    exact .inr ⟨by omega, by rw [hz2]; exact hb.2⟩

/-- The slice of no elements that a literal makes. -/
theorem Sl.lit0 (w : World) (e sz : Nat) {S : Nat → Prop} (hS : S w.heap.size) : Sl (w.alloc (.cells #[] e)) e sz (some ⟨w.heap.size, 0, none⟩) 0 0 [] S :=
  ⟨by simp, Nat.le_refl _, by simp [maxLen], .inr ⟨w.heap.size, 0, #[], rfl, hS, Blk.new _ _ _, by simp, fun j hj => by simp at hj⟩⟩

/-- What is told is a slice of new memory that reads so; nothing else has turned. -/
def NewSl (w : World) (e sz n : Nat) (xs : List Value) (en : Ending) (w' : World) : Prop :=
  ∃ A' c', en = .returned (.slice A' n c') ∧ Sl w' e sz A' n c' xs (fun b => w.heap.size ≤ b ∧ b < w'.heap.size) ∧ Below w.heap.size w w'

/-! ### Something that lies in the blocks S -/
/-- What is said of a world and of blocks S, and hangs on these alone. -/
structure Stable (Q : World → (Nat → Prop) → Prop) : Prop where
  mono : ∀ {w : World} {S T : Nat → Prop}, Q w S → (∀ b, S b → T b) → Q w T
  mod : ∀ {w w' : World} {S T : Nat → Prop}, Q w S → Mod T w w' → (∀ b, S b → ¬ T b) → Q w' S
  lt : ∀ {w : World} {S : Nat → Prop}, Q w S → Q w (fun b => S b ∧ b < w.heap.size)

section
variable {Q Q' Q2 Q2' : World → (Nat → Prop) → Prop} {w w' w1 w2 : World} {S T : Nat → Prop} {B : Nat}
theorem Stable.keep (st : Stable Q) (h : Q w S) (hb : Below w.heap.size w w') : Q w' S :=
  st.mono (st.mod (T := fun b => w.heap.size ≤ b) (st.lt h) (Mod.of_below hb) (fun b hb => by omega)) fun _ hb => hb.1
theorem Stable.alloc (st : Stable Q) (h : Q w S) (o : Obj) : Q (w.alloc o) S := st.keep h ((Below.refl _ w).alloc (Nat.le_refl _) o)
/-- A call behind new blocks (a result's, a parameter's, a table's): what it left, where these have turned besides. -/
theorem Stable.wrap (st : Stable Q) {wx : World} (hx : Below w.heap.size w wx) (h : Q w1 (grow (fun b => S b ∧ b < w.heap.size) wx w1)) (m : Mod (fun b => S b ∧ b < w.heap.size) wx w1) (m2 : Mod (fun b => w.heap.size ≤ b ∧ b < wx.heap.size) w1 w2) :
    Q w2 (grow S w w2) ∧ Mod S w w2 := by
  have hz := m.size
  have hz1 := hx.size
  have hz2 := m2.size
  refine ⟨st.mono (st.mod h m2 ?_) ?_, ?_⟩
  · rintro b (hb | hb) hc
    · omega
    · omega
  · rintro b (hb | hb)
    · exact .inl hb.1
    · exact .inr ⟨by omega, by omega⟩
  · refine (((Mod.of_below hx).trans m fun b hb => .inl hb.1).trans m2 fun b hb => .inr (by omega))
/-- A step at something of the law's own, whose blocks all lie from B on. -/
theorem step_base {P : Program} {f : FuncId} {args : Array Value} {r : Ending} (st : Stable Q') (hB : B ≤ w.heap.size)
    (hc : Calls P f args w fun e w' => e = r ∧ Q' w' (grow (fun b => B ≤ b) w w') ∧ Mod (fun b => B ≤ b) w w') :
    Calls P f args w fun e w' => e = r ∧ Q' w' (fun b => B ≤ b) ∧ Below B w w' :=
  hc.mono fun e w' ⟨he, hq, hm⟩ => ⟨he, st.mono hq fun b hb => by
    rcases hb with hb | hb
    · exact hb
    · exact Nat.le_trans hB hb.1, hm.below hB fun _ hb => hb⟩

/-- Two things, no block of the one among the other's; all from B on. -/
def Both (B : Nat) (w : World) (Q Q2 : World → (Nat → Prop) → Prop) : Prop :=
  ∃ S T : Nat → Prop, Q w S ∧ Q2 w T ∧ (∀ b, S b → ¬ T b) ∧ (∀ b, S b → B ≤ b) ∧ ∀ b, T b → B ≤ b
theorem Both.symm (h : Both B w Q Q2) : Both B w Q2 Q := by
  obtain ⟨S, T, h1, h2, h3, h4, h5⟩ := h
  exact ⟨T, S, h2, h1, fun b ht hs => h3 b hs ht, h5, h4⟩
theorem Both.keep (h : Both B w Q Q2) (st : Stable Q) (st2 : Stable Q2) (hb : Below w.heap.size w w') : Both B w' Q Q2 := by
  obtain ⟨S, T, h1, h2, h3⟩ := h
  exact ⟨S, T, st.keep h1 hb, st2.keep h2 hb, h3⟩
theorem Both.fst (h : Both B w Q Q2) (st : Stable Q) : Q w (fun b => B ≤ b) := by
  obtain ⟨S, T, h1, _, _, h4, _⟩ := h
  exact st.mono h1 h4
theorem Both.snd (h : Both B w Q Q2) (st2 : Stable Q2) : Q2 w (fun b => B ≤ b) := h.symm.fst st2
theorem Both.left {P : Program} {f : FuncId} {args : Array Value} {r : Ending} (h : Both B w Q Q2) (st2 : Stable Q2) (hB : B ≤ w.heap.size)
    (hc : ∀ S : Nat → Prop, (∀ b, S b → B ≤ b) → Q w S → Calls P f args w fun e w' => e = r ∧ Q' w' (grow S w w') ∧ Mod S w w') :
    Calls P f args w fun e w' => e = r ∧ Both B w' Q' Q2 ∧ Below B w w' := by
  obtain ⟨S, T, h1, h2, h3, h4, h5⟩ := h
  refine (hc S h4 h1).mono fun e w' ⟨he, hp, hm⟩ => ⟨he, ⟨_, fun b => T b ∧ b < w.heap.size, hp, st2.mod (st2.lt h2) hm (fun b hb hs => h3 b hs hb.1), ?_, ?_, fun b hb => h5 b hb.1⟩, hm.below hB h4⟩
  · rintro b (hb | hb) ht
    · exact h3 b hb ht.1
    · omega
  · rintro b (hb | hb)
    · exact h4 b hb
    · exact Nat.le_trans hB hb.1
theorem Both.right {P : Program} {f : FuncId} {args : Array Value} {r : Ending} (h : Both B w Q Q2) (st : Stable Q) (hB : B ≤ w.heap.size)
    (hc : ∀ S : Nat → Prop, (∀ b, S b → B ≤ b) → Q2 w S → Calls P f args w fun e w' => e = r ∧ Q2' w' (grow S w w') ∧ Mod S w w') :
    Calls P f args w fun e w' => e = r ∧ Both B w' Q Q2' ∧ Below B w w' :=
  (h.symm.left st hB hc).mono fun _ _ ⟨he, h1, h2⟩ => ⟨he, h1.symm, h2⟩
/-- Something that has just been made beside something else. -/
theorem Both.made (st : Stable Q) (hB : B ≤ w.heap.size) (h : Q w (fun b => B ≤ b)) (h2 : Q2 w' (fun b => w.heap.size ≤ b ∧ b < w'.heap.size)) (hb : Below w.heap.size w w') : Both B w' Q Q2 := by
  refine ⟨fun b => B ≤ b ∧ b < w.heap.size, _, st.mod (T := fun b => w.heap.size ≤ b) (st.lt h) (Mod.of_below hb) (fun b hb => by omega), h2, fun b hb hc => by omega, fun b hb => hb.1, fun b hb => by omega⟩

theorem Both.next (h : Both B w Q Q2) (st : Stable Q) (hB : B ≤ w.heap.size) (hb : Below w.heap.size w w') (hq : ∀ T : Nat → Prop, Q2 w T → Q2' w' (grow T w w')) : Both B w' Q Q2' := by
  obtain ⟨S, T, h1, h2, h3, h4, h5⟩ := h
  refine ⟨fun b => S b ∧ b < w.heap.size, _, st.keep (st.lt h1) hb, hq T h2, ?_, fun b hb => h4 b hb.1, ?_⟩
  · rintro b hs (ht | ht)
    · exact h3 b hs.1 ht
    · omega
  · rintro b (ht | ht)
    · exact h5 b ht
    · exact Nat.le_trans hB ht.1
end

/-- A slice that is read alone is such a thing. -/
theorem stable_rd (sz : Nat) (hsz : 0 < sz) (A : Option Addr) (n : Nat) (xs : List Value) : Stable (fun w R => Rd w R sz A n xs) :=
  ⟨fun h hS => h.more hS, fun h hm hd => h.mod hm hd, fun {w S} h => ⟨h.1, fun hn => by
    obtain ⟨b, off, e, hb, hc⟩ := h.2 hn
    have hl : 0 < xs.length := by rw [h.1]; exact Nat.mul_pos hn hsz
    exact ⟨b, off, e, ⟨hb, World.block_lt_of_cell? w _ (hc 0 _ (List.getElem?_eq_getElem hl))⟩, hc⟩⟩⟩
theorem Rd.kept {w w' : World} {R : Nat → Prop} {sz n : Nat} {A : Option Addr} {xs : List Value} (h : Rd w R sz A n xs) (hb : Below w.heap.size w w') : Rd w' R sz A n xs := h.keep fun _ _ hlt => hb.cell hlt

/-- Two cells written, of a block of two. -/
theorem two_cells {w : World} {R : Nat} {t : TypeId} {v0 v1 : Value} (a b : Value) (h : Blk w R t #[v0, v1]) :
    ((w.setCell ⟨R, 0, none⟩ a).setCell ⟨R, 1, none⟩ b).cell? ⟨R, 0, none⟩ = some a ∧ ((w.setCell ⟨R, 0, none⟩ a).setCell ⟨R, 1, none⟩ b).cell? ⟨R, 1, none⟩ = some b ∧
    Mod (fun x => x = R) w ((w.setCell ⟨R, 0, none⟩ a).setCell ⟨R, 1, none⟩ b) :=
  ⟨((h.set 0 a).set 1 b).cell 0, ((h.set 0 a).set 1 b).cell 1, ((Mod.refl (fun x => x = R) w).setCell (p := ⟨R, 0, none⟩) (.inl rfl) _).setCell (p := ⟨R, 1, none⟩) (.inl rfl) _⟩

theorem Sl.none_ {w : World} {e sz n c : Nat} {A : Option Addr} {xs : List Value} {S : Nat → Prop} (h : Sl w e sz A n c xs S) : A = none → n = 0 ∧ c = 0 := by
  rintro rfl
  rcases h.2.2.2 with h | ⟨_, _, _, h, _⟩
  · exact h.2
  · cases h
/-- What slices.Clone ends in. -/
theorem NewSl.cloned {w w1 : World} {e sz n c' : Nat} {A' : Option Addr} {xs : List Value} {o : Obj}
    (hown1 : Sl w1 e sz A' n c' xs (grow (fun b => b = w.heap.size) (w.alloc o) w1)) (hmod1 : Mod (fun b => b = w.heap.size) (w.alloc o) w1) : NewSl w e sz n xs (.returned (.slice A' n c')) w1 := by
  have hz := hmod1.size
  simp at hz
  refine ⟨A', c', rfl, ?_, ?_⟩
  · refine hown1.mono fun b hb => ?_
    rcases hb with hb | hb
    · exact ⟨by omega, by omega⟩
    · simp at hb; exact ⟨by omega, hb.2⟩
  · exact ((Below.refl _ w).alloc (Nat.le_refl _) _).trans (hmod1.below (by simp) (fun b hb => by omega))
end Go.Rp
