/-
  Lists that skip in memory: links, the list's object, a path as a value, stores into links.
-/
import Derived.Test.YtpelpbnmjciheaaSkipP
namespace Go.Proofs.Ytpelpbnmjciheaa
open Go.RowKit Go.Rp

/-- A link as a value. -/
def np : Option Nat → Value
  | none => .pointer none
  | some b => .pointer (some ⟨b, 0, none⟩)
theorem np_none : np none = .pointer none := rfl
theorem np_some (b : Nat) : np (some b) = .pointer (some ⟨b, 0, none⟩) := rfl
def towC (v : Int) (h : Nat) (f : Nat → Option Nat) : Array Value := #[.int .i32 v, .int .i64 (h : Int), np (f 0), np (f 1), np (f 2), np (f 3), np (f 4), np (f 5), np (f 6), np (f 7)]
def skC (f : Nat → Option Nat) (many most : Nat) : Array Value := #[.int .i32 0, .int .i64 0, np (f 0), np (f 1), np (f 2), np (f 3), np (f 4), np (f 5), np (f 6), np (f 7), .int .i64 (many : Int), .int .i64 (most : Int)]
/-- A path's cells. -/
def linkC (f : Nat → Option Nat) : Array Value := #[np (f 0), np (f 1), np (f 2), np (f 3), np (f 4), np (f 5), np (f 6), np (f 7)]
def pathC (p : Nat → Nat) : Array Value := linkC fun k => some (p k)
def upd (g : Nat → Nat → Option Nat) (x k : Nat) (y : Option Nat) : Nat → Nat → Option Nat := fun a j => if a = x ∧ j = k then y else g a j

theorem towC_at (v : Int) (h : Nat) (f : Nat → Option Nat) {k : Nat} (hk : k < 8) : (towC v h f)[2 + k]? = some (np (f k)) := by
  match k, hk with
  | 0, _ | 1, _ | 2, _ | 3, _ | 4, _ | 5, _ | 6, _ | 7, _ => rfl
theorem skC_at (f : Nat → Option Nat) (many most : Nat) {k : Nat} (hk : k < 8) : (skC f many most)[2 + k]? = some (np (f k)) := by
  match k, hk with
  | 0, _ | 1, _ | 2, _ | 3, _ | 4, _ | 5, _ | 6, _ | 7, _ => rfl
theorem pathC_at (p : Nat → Nat) {k : Nat} (hk : k < 8) : (pathC p)[k]? = some (.pointer (some ⟨p k, 0, none⟩)) := by
  match k, hk with
  | 0, _ | 1, _ | 2, _ | 3, _ | 4, _ | 5, _ | 6, _ | 7, _ => rfl
theorem towC_set (v : Int) (h : Nat) (f : Nat → Option Nat) {k : Nat} (hk : k < 8) (y : Option Nat) : (towC v h f).setIfInBounds (2 + k) (np y) = towC v h fun j => if j = k then y else f j := by
  match k, hk with
  | 0, _ | 1, _ | 2, _ | 3, _ | 4, _ | 5, _ | 6, _ | 7, _ => rfl
theorem skC_set (f : Nat → Option Nat) (many most : Nat) {k : Nat} (hk : k < 8) (y : Option Nat) : (skC f many most).setIfInBounds (2 + k) (np y) = skC (fun j => if j = k then y else f j) many most := by
  match k, hk with
  | 0, _ | 1, _ | 2, _ | 3, _ | 4, _ | 5, _ | 6, _ | 7, _ => rfl
theorem pathC_set (p : Nat → Nat) {k : Nat} (hk : k < 8) (y : Nat) : (pathC p).setIfInBounds k (.pointer (some ⟨y, 0, none⟩)) = pathC fun j => if j = k then y else p j := by
  match k, hk with
  | 0, _ | 1, _ | 2, _ | 3, _ | 4, _ | 5, _ | 6, _ | 7, _ => rfl
theorem linkC_set (f : Nat → Option Nat) {k : Nat} (hk : k < 8) (y : Option Nat) : (linkC f).setIfInBounds k (np y) = linkC fun j => if j = k then y else f j := by
  match k, hk with
  | 0, _ | 1, _ | 2, _ | 3, _ | 4, _ | 5, _ | 6, _ | 7, _ => rfl
theorem linkC_congr {f g : Nat → Option Nat} (h : ∀ k, k < 8 → f k = g k) : linkC f = linkC g := by
  unfold linkC
  rw [h 0 (by omega), h 1 (by omega), h 2 (by omega), h 3 (by omega), h 4 (by omega), h 5 (by omega), h 6 (by omega), h 7 (by omega)]
theorem linkC_at (f : Nat → Option Nat) {k : Nat} (hk : k < 8) : (linkC f)[k]? = some (np (f k)) := by
  match k, hk with
  | 0, _ | 1, _ | 2, _ | 3, _ | 4, _ | 5, _ | 6, _ | 7, _ => rfl
theorem pathC_congr {p q : Nat → Nat} (h : ∀ k, k < 8 → p k = q k) : pathC p = pathC q := by
  exact linkC_congr fun k hk => by rw [h k hk]
theorem towC_congr {v : Int} {h : Nat} {f g : Nat → Option Nat} (e : ∀ k, k < 8 → f k = g k) : towC v h f = towC v h g := by
  unfold towC
  rw [e 0 (by omega), e 1 (by omega), e 2 (by omega), e 3 (by omega), e 4 (by omega), e 5 (by omega), e 6 (by omega), e 7 (by omega)]
theorem skC_congr {m n : Nat} {f g : Nat → Option Nat} (e : ∀ k, k < 8 → f k = g k) : skC f m n = skC g m n := by
  unfold skC
  rw [e 0 (by omega), e 1 (by omega), e 2 (by omega), e 3 (by omega), e 4 (by omega), e 5 (by omega), e 6 (by omega), e 7 (by omega)]

/-- A path's cells, one by one. -/
theorem path_cells {w : World} {b : Nat} {t : TypeId} {p : Nat → Nat} (h : Blk w b t (pathC p)) :
    w.cell? ⟨b, 0, none⟩ = some (.pointer (some ⟨p 0, 0, none⟩)) ∧ w.cell? ⟨b, 1, none⟩ = some (.pointer (some ⟨p 1, 0, none⟩)) ∧ w.cell? ⟨b, 2, none⟩ = some (.pointer (some ⟨p 2, 0, none⟩)) ∧ w.cell? ⟨b, 3, none⟩ = some (.pointer (some ⟨p 3, 0, none⟩)) ∧
    w.cell? ⟨b, 4, none⟩ = some (.pointer (some ⟨p 4, 0, none⟩)) ∧ w.cell? ⟨b, 5, none⟩ = some (.pointer (some ⟨p 5, 0, none⟩)) ∧ w.cell? ⟨b, 6, none⟩ = some (.pointer (some ⟨p 6, 0, none⟩)) ∧ w.cell? ⟨b, 7, none⟩ = some (.pointer (some ⟨p 7, 0, none⟩)) :=
  ⟨h.cell 0, h.cell 1, h.cell 2, h.cell 3, h.cell 4, h.cell 5, h.cell 6, h.cell 7⟩
/-- The head at block s and the towers T, linked as g says. -/
structure Links (w : World) (s many most : Nat) (T : List Tw) (g : Nat → Nat → Option Nat) (S : Nat → Prop) : Prop where
  hd : Blk w s 52 (skC (g s) many most)
  hs : S s
  tw : ∀ t ∈ T, Blk w t.1 50 (towC t.2.1 t.2.2 (g t.1)) ∧ S t.1
/-- The head or a tower. -/
def Node (s : Nat) (T : List Tw) (x : Nat) : Prop := x = s ∨ ∃ t ∈ T, t.1 = x
section
variable {w w' : World} {s many most : Nat} {T : List Tw} {g g' : Nat → Nat → Option Nat} {S U : Nat → Prop}
theorem Links.mono (h : Links w s many most T g S) (hS : ∀ b, S b → U b) : Links w s many most T g U := ⟨h.hd, hS _ h.hs, fun t ht => ⟨(h.tw t ht).1, hS _ (h.tw t ht).2⟩⟩
theorem Links.mod (h : Links w s many most T g S) (hm : Mod U w w') (hd : ∀ b, S b → ¬ U b) : Links w' s many most T g S := ⟨h.hd.mod hm (hd _ h.hs), h.hs, fun t ht => ⟨(h.tw t ht).1.mod hm (hd _ (h.tw t ht).2), (h.tw t ht).2⟩⟩
theorem Links.lt (h : Links w s many most T g S) : Links w s many most T g (fun b => S b ∧ b < w.heap.size) := ⟨h.hd, ⟨h.hs, h.hd.lt⟩, fun t ht => ⟨(h.tw t ht).1, (h.tw t ht).2, (h.tw t ht).1.lt⟩⟩
theorem Links.keep (h : Links w s many most T g S) (hb : Below w.heap.size w w') : Links w' s many most T g S :=
  ⟨h.hd.below hb h.hd.lt, h.hs, fun t ht => ⟨(h.tw t ht).1.below hb (h.tw t ht).1.lt, (h.tw t ht).2⟩⟩
theorem Links.alloc (h : Links w s many most T g S) (o : Obj) : Links (w.alloc o) s many most T g S := h.keep ((Below.refl _ w).alloc (Nat.le_refl _) _)
theorem Links.drewN (h : Links w s many most T g S) (n : Nat) : Links (w.drewN n) s many most T g S := ⟨h.hd, h.hs, h.tw⟩
theorem Links.drew (h : Links w s many most T g S) : Links w.drew s many most T g S := ⟨h.hd, h.hs, h.tw⟩
theorem Links.far (h : Links w s many most T g S) {p : Addr} {t : TypeId} {cs : Array Value} (hp : Blk w p.block t cs) (h1 : 52 ≠ t) (h2 : 50 ≠ t) (u : Value) : Links (w.setCell p u) s many most T g S :=
  ⟨h.hd.far (h.hd.ne hp h1) u, h.hs, fun t ht => ⟨(h.tw t ht).1.far ((h.tw t ht).1.ne hp h2) u, (h.tw t ht).2⟩⟩
theorem Links.congr (h : Links w s many most T g S) (e : ∀ x k, k < 8 → g x k = g' x k) : Links w s many most T g' S :=
  ⟨by rw [← skC_congr (e s)]; exact h.hd, h.hs, fun t ht => ⟨by rw [← towC_congr (e t.1)]; exact (h.tw t ht).1, (h.tw t ht).2⟩⟩
theorem Links.node (h : Links w s many most T g S) {x k : Nat} (hx : Node s T x) (hk : k < 8) : w.cell? ⟨x, 2 + k, none⟩ = some (np (g x k)) ∧ w.frozen? ⟨x, 2 + k, none⟩ = false := by
  rcases hx with rfl | ⟨t, ht, rfl⟩
  · exact ⟨(h.hd.cell _).trans (skC_at _ _ _ hk), h.hd.frozen _⟩
  · exact ⟨((h.tw t ht).1.cell _).trans (towC_at _ _ _ hk), (h.tw t ht).1.frozen _⟩
theorem Links.val (h : Links w s many most T g S) {t : Tw} (ht : t ∈ T) : w.cell? ⟨t.1, 0, none⟩ = some (.int .i32 t.2.1) ∧ w.cell? ⟨t.1, 1, none⟩ = some (.int .i64 (t.2.2 : Int)) := ⟨(h.tw t ht).1.cell 0, (h.tw t ht).1.cell 1⟩
theorem Links.sizes (h : Links w s many most T g S) : w.cell? ⟨s, 10, none⟩ = some (.int .i64 (many : Int)) ∧ w.cell? ⟨s, 11, none⟩ = some (.int .i64 (most : Int)) ∧ w.frozen? ⟨s, 10, none⟩ = false := ⟨h.hd.cell 10, h.hd.cell 11, h.hd.frozen 10⟩
/-- A node's value and height, whichever it is. -/
theorem Links.any (h : Links w s many most T g S) {x : Nat} (hx : Node s T x) : ∃ (v : Int) (n : Nat), w.cell? ⟨x, 0, none⟩ = some (.int .i32 v) ∧ w.cell? ⟨x, 1, none⟩ = some (.int .i64 (n : Int)) := by
  rcases hx with rfl | ⟨t, ht, rfl⟩
  · exact ⟨0, 0, h.hd.cell 0, h.hd.cell 1⟩
  · exact ⟨_, _, h.val ht⟩
theorem Links.setMany (h : Links w s many most T g S) (m : Nat) : Links (w.setCell ⟨s, 10, none⟩ (.int .i64 (m : Int))) s m most T g S :=
  ⟨h.hd.set 10 _, h.hs, fun t ht => ⟨(h.tw t ht).1.far ((h.tw t ht).1.ne h.hd (by decide)) _, (h.tw t ht).2⟩⟩
/-- A store into a link. -/
theorem Links.set (h : Links w s many most T g S) {x k : Nat} (hx : Node s T x) (hk : k < 8) (y : Option Nat) : Links (w.setCell ⟨x, 2 + k, none⟩ (np y)) s many most T (upd g x k y) S := by
  have hsame : (fun j => if j = k then y else g x j) = upd g x k y x := by funext j; simp [upd]
  have hoth : ∀ z, z ≠ x → g z = upd g x k y z := fun z hz => by funext j; simp [upd, hz]
  refine ⟨?_, h.hs, fun t ht => ⟨?_, (h.tw t ht).2⟩⟩
  · by_cases e : s = x
    · subst e
      have := h.hd.set (2 + k) (np y)
      rwa [skC_set _ _ _ hk, hsame] at this
    · rw [← hoth s e]; exact h.hd.far e _
  · by_cases e : t.1 = x
    · subst e
      have := (h.tw t ht).1.set (2 + k) (np y)
      rwa [towC_set _ _ _ hk, hsame] at this
    · rw [← hoth t.1 e]; exact (h.tw t ht).1.far e _
theorem Links.nodeS (h : Links w s many most T g S) {x : Nat} (hx : Node s T x) : S x := by
  rcases hx with rfl | ⟨t, ht, rfl⟩
  · exact h.hs
  · exact (h.tw t ht).2
theorem Links.nodeLt (h : Links w s many most T g S) {x : Nat} (hx : Node s T x) : x < w.heap.size := by
  rcases hx with rfl | ⟨t, ht, rfl⟩
  · exact h.hd.lt
  · exact (h.tw t ht).1.lt
end
theorem node_last (k s : Nat) (A R : List Tw) : Node s (A ++ R) (lastT k s A) := by
  rcases lastT_cases k s A with ⟨e, _⟩ | ⟨B, y, C, e, _, h, _⟩
  · exact .inl e
  · exact .inr ⟨y, by rw [e]; simp, h.symm⟩

/-- The links while a tower is put on its levels, one after another. -/
def mixed (s : Nat) (A R : List Tw) (t : Tw) (k : Nat) : Nat → Nat → Option Nat := fun x j => if j < k then linkOf s (A ++ t :: R) x j else linkOf s (A ++ R) x j
theorem lastT_ne {s : Nat} {A R : List Tw} {t : Tw} (h : Apart s (A ++ t :: R)) (k : Nat) : lastT k s A ≠ t.1 := by
  rcases lastT_cases k s A with ⟨e, _⟩ | ⟨B, y, C, e, _, h2, _⟩
  · rw [e]; exact fun e => h.ne (t := t) (by simp) e.symm
  · rw [h2]; exact h.ahead y (by rw [e]; simp)
theorem mixed_at {s : Nat} {A R : List Tw} {t : Tw} (h : Apart s (A ++ t :: R)) (k : Nat) : mixed s A R t k (lastT k s A) k = nxt k R := by
  unfold mixed
  rw [if_neg (by omega), linkOf_last h.drop]
theorem mixed_step {s : Nat} {A R : List Tw} {t : Tw} (h : Apart s (A ++ t :: R)) {k : Nat} (hk : k < t.2.2) :
    upd (upd (mixed s A R t k) t.1 k (nxt k R)) (lastT k s A) k (some t.1) = mixed s A R t (k + 1) := by
  funext x j
  unfold upd mixed
  by_cases hj : j = k
  · subst hj
    rw [if_neg (by omega : ¬ j < j), if_pos (by omega : j < j + 1), link_put h hk x]
    simp only [and_true]
  · simp only [hj, and_false, if_false]
    by_cases hlt : j < k
    · rw [if_pos hlt, if_pos (by omega)]
    · rw [if_neg hlt, if_neg (by omega)]
theorem mixed_zero (s : Nat) (A R : List Tw) (t : Tw) : mixed s A R t 0 = linkOf s (A ++ R) := by
  funext x j
  unfold mixed
  rw [if_neg (by omega)]
theorem mixed_full {s : Nat} {A R : List Tw} {t : Tw} (h : Apart s (A ++ t :: R)) (x j : Nat) : mixed s A R t t.2.2 x j = linkOf s (A ++ t :: R) x j := by
  unfold mixed
  by_cases hj : j < t.2.2
  · rw [if_pos hj]
  · rw [if_neg hj, link_put_above h hj]
theorem linkOf_new {s : Nat} {T : List Tw} {b : Nat} (hs : b ≠ s) (h : ∀ u ∈ T, u.1 ≠ b) (k : Nat) : linkOf s T b k = none := by
  unfold linkOf
  rw [if_neg hs, linkT_not h]

/-- One step on: nobody further, one that is too far, or one to stop at. -/
theorem on_step (k s : Nat) (U V D : List Tw) :
    (nxt k (V ++ D) = none ∧ lastT k s (U ++ V) = lastT k s U) ∨ (∃ y ∈ D, nxt k (V ++ D) = some y.1 ∧ lastT k s (U ++ V) = lastT k s U) ∨
    (∃ C y V2, V = C ++ y :: V2 ∧ k < y.2.2 ∧ nxt k (V ++ D) = some y.1 ∧ lastT k s (U ++ C ++ [y]) = y.1) := by
  rcases nxt_cases k V with ⟨_, h2⟩ | ⟨C, y, V2, e, h1, h2, h3⟩
  · rw [nxt_off h2, lastT_append, lastT_off h2]
    rcases nxt_cases k D with ⟨e, _⟩ | ⟨C, y, D2, e, h1, h3, _⟩
    · exact .inl ⟨e, rfl⟩
    · exact .inr (.inl ⟨y, by rw [e]; simp, h3, rfl⟩)
  · refine .inr (.inr ⟨C, y, V2, e, h1, ?_, lastT_snoc_on h1⟩)
    rw [e, List.append_assoc, List.cons_append, nxt_off h3, nxt_cons, if_pos h1]
/-- Where a level's walk begins: at the path's own place .. -/
theorem on_begin {k s : Nat} {A : List Tw} : ∃ U V, A = U ++ V ∧ lastT (k + 1) s A = lastT k s U := by
  rcases lastT_cases (k + 1) s A with ⟨e, _⟩ | ⟨B, y, C, e, h1, h2, _⟩
  · exact ⟨[], A, rfl, by rw [e]; rfl⟩
  · exact ⟨B ++ [y], C, by rw [e]; simp, by rw [h2, lastT_snoc_on (by omega)]⟩
end Go.Proofs.Ytpelpbnmjciheaa
