/-
  A memory whose rows are all of their types, from a block on; slices in rows have bounds by their elements' type. Plain laws: no program in sight.
-/
import Derived.Test.YtmcnccfbligeaaaMem
import Derived.Test.YtmcnccfbligeaaaMore
namespace Go.Tz
open Go.Rp
open Go.RowKit

/-- What a cell may hold. -/
inductive CT where
  | int (k : IntKind) (lo hi : Int)
  | bool
  | sl (e : TypeId)
  | slb (e : TypeId) (m : Nat)
  | nil
  deriving DecidableEq
/-- How long slices in rows are at most, by their elements' type. -/
abbrev Bounds := TypeId → Nat
/-- The cells of each type; those without are not looked at. -/
structure Lay where
  fn : TypeId → List CT
  w0 : World
instance : CoeFun Lay fun _ => TypeId → List CT := ⟨Lay.fn⟩

section
variable (lay : Lay) (B : Nat) (K : Bounds)
/-- A slice of elements e: in a block of them, from B on. -/
def SlOK (w : World) (e : TypeId) (A : Option Addr) (n c : Nat) : Prop :=
  n ≤ c ∧ c ≤ maxLen ∧ ((A = none ∧ n = 0 ∧ c = 0) ∨ ∃ b off arr, A = some ⟨b, off, none⟩ ∧ B ≤ b ∧ Blk w b e arr ∧ off % (lay e).length = 0 ∧ off + c * (lay e).length ≤ arr.size)
def CellOK (w : World) (o : Option CT) (v : Value) : Prop :=
  match o with
  | some (.int k lo hi) => ∃ x, v = .int k x ∧ lo ≤ x ∧ x ≤ hi
  | some .bool => ∃ b, v = .bool b
  | some (.sl e) => ∃ A n c, v = .slice A n c ∧ n ≤ K e ∧ SlOK lay B w e A n c
  | some (.slb e m) => ∃ A n c, v = .slice A n c ∧ n ≤ m ∧ SlOK lay B w e A n c
  | some .nil => v = .slice none 0 0
  | none => True
def RowOK (w : World) (t : TypeId) (arr : Array Value) : Prop := ∀ j u, arr[j]? = some u → CellOK lay B K w ((lay t)[j % (lay t).length]?) u
structure Typed (w : World) : Prop where
  size : B ≤ w.heap.size
  row : ∀ b t arr, B ≤ b → Blk w b t arr → RowOK lay B K w t arr
  froz : ∀ ad : Addr, ad.block < B → w.cell? ad = lay.w0.cell? ad
end
/-- The blocks of cells stay, with their types and sizes. -/
def Keeps (w w' : World) : Prop := ∀ b t arr, Blk w b t arr → ∃ arr', Blk w' b t arr' ∧ arr'.size = arr.size
/-- From F on, or none. -/
def FreshA (F : Nat) (A : Option Addr) : Prop := ∀ a, A = some a → F ≤ a.block

section
variable {lay : Lay} {B F : Nat} {K : Bounds} {w w' : World} {e t : TypeId} {A : Option Addr} {n c : Nat}
theorem Keeps.refl (w : World) : Keeps w w := fun _ _ arr h => ⟨arr, h, rfl⟩
theorem Keeps.trans {w1 : World} (h : Keeps w w1) (k : Keeps w1 w') : Keeps w w' := fun b t arr hb => by
  obtain ⟨a1, h1, e1⟩ := h b t arr hb
  obtain ⟨a2, h2, e2⟩ := k b t a1 h1
  exact ⟨a2, h2, e2.trans e1⟩
theorem Keeps.below (h : Below w.heap.size w w') : Keeps w w' := fun _ _ arr hb => ⟨arr, hb.below h hb.lt, rfl⟩
theorem Keeps.drew (h : Keeps w w') : Keeps w w'.drew := h
theorem Keeps.drewN (h : Keeps w w') (n : Nat) : Keeps w (w'.drewN n) := h
theorem Keeps.alloc (w : World) (o : Obj) : Keeps w (w.alloc o) := fun _ _ arr hb => ⟨arr, hb.alloc o, rfl⟩
theorem Keeps.set {p : Nat} {cs : Array Value} (hp : Blk w p t cs) (i : Nat) (u : Value) : Keeps w (w.setCell ⟨p, i, none⟩ u) := fun b t' arr hb => by
  by_cases h : b = p
  · subst h
    obtain ⟨rfl, rfl⟩ : arr = cs ∧ t' = t := by have := hb.symm.trans hp; simpa using this
    exact ⟨_, hb.set i u, by simp⟩
  · exact ⟨arr, hb.far (p := ⟨p, i, none⟩) h u, rfl⟩
theorem SlOK.keeps (h : SlOK lay B w e A n c) (k : Keeps w w') : SlOK lay B w' e A n c := by
  obtain ⟨h1, h2, h3⟩ := h
  refine ⟨h1, h2, h3.imp id fun ⟨b, off, arr, hA, hB, hb, h4, h5⟩ => ?_⟩
  obtain ⟨arr', hb', hs⟩ := k _ _ _ hb
  exact ⟨b, off, arr', hA, hB, hb', h4, by omega⟩
theorem CellOK.keeps {o : Option CT} {v : Value} (h : CellOK lay B K w o v) (k : Keeps w w') : CellOK lay B K w' o v := by
  unfold CellOK at h ⊢
  split at h
  · exact h
  · exact h
  · obtain ⟨A, n, c, h1, h2, h3⟩ := h
    exact ⟨A, n, c, h1, h2, h3.keeps k⟩
  · obtain ⟨A, n, c, h1, h2, h3⟩ := h
    exact ⟨A, n, c, h1, h2, h3.keeps k⟩
  · exact h
  · trivial
theorem CellOK.le {o : Option CT} {v : Value} {K' : Bounds} (h : CellOK lay B K w o v) (k : ∀ e, K e ≤ K' e) : CellOK lay B K' w o v := by
  unfold CellOK at h ⊢
  split at h
  · exact h
  · exact h
  · obtain ⟨A, n, c, h1, h2, h3⟩ := h
    exact ⟨A, n, c, h1, Nat.le_trans h2 (k _), h3⟩
  · exact h
  · exact h
  · trivial
theorem RowOK.keeps {arr : Array Value} (h : RowOK lay B K w t arr) (k : Keeps w w') : RowOK lay B K w' t arr := fun j u hu => (h j u hu).keeps k
theorem Typed.le {K' : Bounds} (h : Typed lay B K w) (k : ∀ e, K e ≤ K' e) : Typed lay B K' w := ⟨h.size, fun b t arr hB hb j u hu => (h.row b t arr hB hb j u hu).le k, h.froz⟩
theorem Typed.drew (h : Typed lay B K w) : Typed lay B K w.drew := ⟨h.size, fun b t arr hB hb => (h.row b t arr hB hb).keeps (Keeps.refl w).drew, h.froz⟩
theorem Typed.drewN (h : Typed lay B K w) (n : Nat) : Typed lay B K (w.drewN n) := ⟨h.size, fun b t arr hB hb => (h.row b t arr hB hb).keeps ((Keeps.refl w).drewN n), h.froz⟩
theorem Typed.alloc (h : Typed lay B K w) (cs : Array Value) (t : TypeId) (hc : RowOK lay B K w t cs) : Typed lay B K (w.alloc (.cells cs t)) := by
  refine ⟨by have := h.size; simp; omega, fun b t' arr hB hb => ?_, fun ad had => ?_⟩
  rotate_right
  · rw [← h.froz ad had]
    unfold World.cell?
    rw [Below.heap_alloc w (.cells cs t) ad.block (by have := h.size; omega)]
  by_cases hlt : b < w.heap.size
  · have hb' : Blk w b t' arr := (Below.heap_alloc w (.cells cs t) b hlt).symm.trans hb
    exact (h.row b t' arr hB hb').keeps (Keeps.alloc w _)
  · have hl := hb.lt
    simp at hl
    obtain rfl : b = w.heap.size := by omega
    obtain ⟨rfl, rfl⟩ : arr = cs ∧ t' = t := by have := hb.symm.trans (Blk.new w t cs); simpa using this
    exact hc.keeps (Keeps.alloc w _)
theorem Typed.free (h : Typed lay B K w) (cs : Array Value) (t : TypeId) (ht : lay t = []) : Typed lay B K (w.alloc (.cells cs t)) :=
  h.alloc cs t fun j u _ => by rw [ht]; trivial
theorem Typed.set (h : Typed lay B K w) {p : Nat} {cs : Array Value} (hp : Blk w p t cs) (hBp : B ≤ p) (i : Nat) (u : Value) (hu : CellOK lay B K w ((lay t)[i % (lay t).length]?) u) : Typed lay B K (w.setCell ⟨p, i, none⟩ u) := by
  refine ⟨by have := h.size; simp [World.setCell]; exact this, fun b t' arr hB hb => ?_, fun ad had => ?_⟩
  rotate_right
  · rw [← h.froz ad had]
    unfold World.cell?
    rw [Below.heap_setCell w ⟨p, i, none⟩ u ad.block (by show ad.block ≠ p; omega)]
  by_cases hbp : b = p
  · subst hbp
    obtain ⟨rfl, rfl⟩ : arr = cs.setIfInBounds i u ∧ t' = t := by have := hb.symm.trans (hp.set i u); simpa using this
    intro j v hv
    by_cases hj : j = i
    · subst hj
      rw [Array.getElem?_setIfInBounds_self] at hv
      split at hv
      · obtain rfl : u = v := by simpa using hv
        exact hu.keeps (Keeps.set hp j u)
      · cases hv
    · rw [Array.getElem?_setIfInBounds_ne (by omega)] at hv
      exact (h.row _ _ _ hB hp j v hv).keeps (Keeps.set hp i u)
  · have hb' : Blk w b t' arr := (Below.heap_setCell w ⟨p, i, none⟩ u b hbp).symm.trans hb
    exact (h.row b t' arr hB hb').keeps (Keeps.set hp i u)
theorem Typed.setFree (h : Typed lay B K w) {p : Nat} {cs : Array Value} (hp : Blk w p t cs) (hBp : B ≤ p) (ht : lay t = []) (i : Nat) (u : Value) : Typed lay B K (w.setCell ⟨p, i, none⟩ u) :=
  h.set hp hBp i u (by rw [ht]; trivial)
/-- What is read there. -/
theorem SlOK.at (hs : SlOK lay B w e A n c) (h : Typed lay B K w) {k : Nat} (hk : k < n) : ∃ b off, A = some ⟨b, off, none⟩ ∧ B ≤ b ∧ b < w.heap.size ∧ (∃ arr, Blk w b e arr) ∧ off % (lay e).length = 0 ∧ ∀ i ct, (lay e)[i]? = some ct → ∃ u, w.cell? ⟨b, off + k * (lay e).length + i, none⟩ = some u ∧ CellOK lay B K w (some ct) u := by
  obtain ⟨h1, h2, h3⟩ := hs
  rcases h3 with ⟨_, h4, _⟩ | ⟨b, off, arr, rfl, hB, hb, h4, h5⟩
  · omega
  · refine ⟨b, off, rfl, hB, hb.lt, ⟨arr, hb⟩, h4, fun i ct hi => ?_⟩
    have hil := (List.getElem?_eq_some_iff.1 hi).1
    have hm : (k + 1) * (lay e).length ≤ c * (lay e).length := Nat.mul_le_mul_right _ (by omega)
    rw [Nat.succ_mul] at hm
    have hlt : off + k * (lay e).length + i < arr.size := by omega
    refine ⟨arr[off + k * (lay e).length + i], by rw [hb.cell, Array.getElem?_eq_getElem hlt], ?_⟩
    have := h.row b e arr hB hb (off + k * (lay e).length + i) _ (Array.getElem?_eq_getElem hlt)
    rwa [show (off + k * (lay e).length + i) % (lay e).length = i by rw [Nat.add_mod, Nat.add_mod off, h4, Nat.mul_mod_left]; simp [Nat.mod_eq_of_lt hil], hi] at this
theorem SlOK.nil (w : World) (e : TypeId) : SlOK lay B w e none 0 0 := ⟨Nat.le_refl _, by simp [maxLen], .inl ⟨rfl, rfl, rfl⟩⟩
theorem SlOK.le (h : SlOK lay B w e A n c) : n ≤ c := h.1
theorem SlOK.cap (h : SlOK lay B w e A n c) : c ≤ maxLen := h.2.1
/-- A whole block, as a slice. -/
theorem SlOK.blk {g : Nat} {cs : Array Value} (h : Blk w g e cs) (hB : B ≤ g) (m c : Nat) (hm : m ≤ c) (hc : c ≤ maxLen) (hz : c * (lay e).length ≤ cs.size) : SlOK lay B w e (some ⟨g, 0, none⟩) m c :=
  ⟨hm, hc, .inr ⟨g, 0, cs, rfl, hB, h, by simp, by omega⟩⟩
theorem SlOK.take (h : SlOK lay B w e A n c) {k : Nat} (hk : k ≤ n) : SlOK lay B w e A k c := ⟨Nat.le_trans hk h.1, h.2.1, h.2.2.imp (fun ⟨a, b, d⟩ => ⟨a, by omega, d⟩) id⟩
theorem SlOK.drop (h : SlOK lay B w e A n c) {k : Nat} (hk : k ≤ n) : SlOK lay B w e (if c = k then A else A.map (·.add (k * (lay e).length))) (n - k) (c - k) := by
  obtain ⟨h1, h2, h3⟩ := h
  refine ⟨by omega, by omega, ?_⟩
  rcases h3 with ⟨rfl, rfl, rfl⟩ | ⟨b, off, arr, rfl, hB, hb, h4, h5⟩
  · exact .inl ⟨by simp, by omega, by omega⟩
  · by_cases he : c = k
    · subst he
      rw [if_pos rfl]
      exact .inr ⟨b, off, arr, rfl, hB, hb, h4, by simp; omega⟩
    · rw [if_neg he]
      refine .inr ⟨b, off + k * (lay e).length, arr, by simp [Addr.add], hB, hb, by rw [Nat.add_mod, h4, Nat.mul_mod_left]; simp, ?_⟩
      rw [Nat.sub_mul]
      have : k * (lay e).length ≤ c * (lay e).length := Nat.mul_le_mul_right _ (by omega)
      omega
theorem FreshA.none_ (F : Nat) : FreshA F none := fun _ h => by cases h
end
end Go.Tz
/-
  append and make in a memory whose rows are of their types.
-/
namespace Go.Tz
open Go.Rp
open Go.RowKit

section
variable {lay : Lay} {B F : Nat} {K : Bounds} {w w' : World} {e t : TypeId} {A : Option Addr} {n c : Nat}
theorem mod_less {j q s : Nat} (h : q * s ≤ j) : (j - q * s) % s = j % s := by
  obtain ⟨r, rfl⟩ : ∃ r, j = r + q * s := ⟨j - q * s, by omega⟩
  rw [Nat.add_sub_cancel, Nat.add_mul_mod_self_right]
theorem Typed.sets {g : Nat} (vs : List Value) : ∀ (o : Nat) (w : World) (cs : Array Value), Typed lay B K w → B ≤ g → Blk w g t cs → (∀ j v, vs[j]? = some v → CellOK lay B K w ((lay t)[(o + j) % (lay t).length]?) v) → Typed lay B K (w.setCells g o vs) := by
  induction vs with
  | nil => intro o w cs h _ _ _; exact h
  | cons v vs ih =>
    intro o w cs h hBg hb hv
    refine ih (o + 1) (w.setCell ⟨g, o, none⟩ v) _ (h.set hb hBg o v (hv 0 v rfl)) hBg (hb.set o v) fun j u hu => ?_
    have := hv (j + 1) u (by simpa using hu)
    rw [show o + (j + 1) = o + 1 + j by omega] at this
    exact this.keeps (Keeps.set hb o v)
/-- The cells of a slice. -/
theorem SlOK.cells (hs : SlOK lay B w e A n c) (h : Typed lay B K w) : ∃ xs : List Value, xs.length = n * (lay e).length ∧ (∀ j u, xs[j]? = some u → CellOK lay B K w ((lay e)[j % (lay e).length]?) u) ∧ Sl w e (lay e).length A n c xs (fun b => ∃ a, A = some a ∧ a.block = b) := by
  obtain ⟨h1, h2, h3⟩ := hs
  rcases h3 with ⟨rfl, rfl, rfl⟩ | ⟨b, off, arr, rfl, hB, hb, h4, h5⟩
  · exact ⟨[], by simp, by simp, Sl.nil _ _ _ _⟩
  · have hnc : n * (lay e).length ≤ c * (lay e).length := Nat.mul_le_mul_right _ h1
    have hx : ∀ j, j < n * (lay e).length → ((arr.toList.drop off).take (n * (lay e).length))[j]? = arr[off + j]? := fun j hj => by
      rw [List.getElem?_take, if_pos hj, List.getElem?_drop]
      simp
    refine ⟨(arr.toList.drop off).take (n * (lay e).length), by simp; omega, fun j u hu => ?_, by simp; omega, h1, h2, .inr ⟨b, off, arr, rfl, ⟨_, rfl, rfl⟩, hb, h5, fun j hj => (hx j hj).symm⟩⟩
    have hj : j < n * (lay e).length := by have := (List.getElem?_eq_some_iff.1 hu).1; simp at this; omega
    rw [hx j hj] at hu
    have := h.row b e arr hB hb (off + j) u hu
    rwa [Nat.add_mod, h4, Nat.zero_add, Nat.mod_mod] at this
theorem CellOK.one {ct : CT} {v : Value} (h : CellOK lay B K w (some ct) v) : v.oneCell' = true := by
  rcases ct with _ | _ | e | _ | _
  · obtain ⟨x, rfl, _⟩ := h; rfl
  · obtain ⟨x, rfl⟩ := h; rfl
  · obtain ⟨A, n, c, rfl, _⟩ := h; rfl
  · obtain ⟨A, n, c, rfl, _⟩ := h; rfl
  · obtain rfl := h; rfl
theorem cells_one {xs : List Value} (hsz : 0 < (lay e).length) (h : ∀ j u, xs[j]? = some u → CellOK lay B K w ((lay e)[j % (lay e).length]?) u) : ∀ u ∈ xs, u.oneCell' = true := by
  intro u hu
  obtain ⟨j, hj, rfl⟩ := List.mem_iff_getElem.1 hu
  have h1 := h j _ (List.getElem?_eq_getElem hj)
  rw [List.getElem?_eq_getElem (Nat.mod_lt _ hsz)] at h1
  exact h1.one
/-- All the cells of a slice. -/
def InsAt (w : World) (A : Option Addr) (N : Nat) (p : Value → Prop) : Prop := ∀ j, j < N → ∃ b off u, A = some ⟨b, off, none⟩ ∧ w.cell? ⟨b, off + j, none⟩ = some u ∧ p u
theorem InsAt.list {N : Nat} {p : Value → Prop} {sz : Nat} {S : Nat → Prop} {xs : List Value} (h : InsAt w A N p) (hs : Sl w e sz A n c xs S) (hN : N = n * sz) (hl : xs.length = N) : ∀ (j : Nat) (u : Value), xs[j]? = some u → p u := fun j u hu => by
  have hj : j < N := by rw [← hl]; exact (List.getElem?_eq_some_iff.1 hu).1
  obtain ⟨b, off, v, e1, e2, e3⟩ := h j hj
  obtain ⟨_, _, _, hA⟩ := hs
  rcases hA with ⟨h1, _, _⟩ | ⟨g, off', cur, h1, _, hb, _, hc⟩
  · rw [h1] at e1; cases e1
  · rw [h1] at e1
    obtain ⟨rfl, rfl⟩ : g = b ∧ off' = off := by simpa using e1
    rw [hb.cell, hc j (by omega), hu] at e2
    rw [Option.some.inj e2]
    exact e3
/-- What is needed of an element's type. -/
structure Elem (lay : Lay) (P : Program) (t e : TypeId) (bytes : Nat) : Prop where
  und : P.underlying t = some (.slice e)
  pos : 0 < (lay e).length
  info : ∃ i z, P.info? e = some i ∧ i.zero = some z ∧ i.size = (lay e).length ∧ i.bytes = bytes ∧ z.cells.size = (lay e).length ∧ ∀ (B : Nat) (K : Bounds) (w : World) (j : Nat) (u : Value), z.cells[j]? = some u → CellOK lay B K w ((lay e)[j]?) u

theorem run_append_ty {P : Program} {t : TypeId} (ty : TypeId) {bytes : Nat} (el : Elem lay P t e bytes) (h : Typed lay B K w) (hs : SlOK lay B w e A n c) (hf : FreshA F A) (hF : F ≤ w.heap.size) (hBF : B ≤ F) {A2 : Option Addr} {m c2 : Nat} (hs2 : SlOK lay B w e A2 m c2)
    (h63 : n + m ≤ maxLen) (hbytes : (n + m) * bytes ≤ 140737488355328) :
    ∃ A' c' w', (Builtin.append_ #[t, t] ty #[.slice A n c, .slice A2 m c2]).run P w = .ok (.slice A' (n + m) c') w' ∧
      SlOK lay B w' e A' (n + m) c' ∧ FreshA F A' ∧ Typed lay B K w' ∧ Below F w w' ∧ Keeps w w' ∧ (∀ ad : Addr, ad.block < w.heap.size → (∀ x, A = some x → ad.block ≠ x.block) → w'.cell? ad = w.cell? ad) ∧ (∀ ad, A' = some ad → (∃ x, A = some x ∧ x.block = ad.block) ∨ w.heap.size ≤ ad.block) ∧ ∀ p : Value → Prop, InsAt w A (n * (lay e).length) p → InsAt w A2 (m * (lay e).length) p → InsAt w' A' ((n + m) * (lay e).length) p := by
  obtain ⟨ht, hpos, i, z, hi, hz, hsize, hby, hzs, hzr⟩ := el
  obtain ⟨xs, hl, hx, hown⟩ := hs.cells h
  obtain ⟨news, hl2, hx2, hsl2⟩ := hs2.cells h
  have hown0 := hown
  have hall : ∀ p : Value → Prop, InsAt w A (n * (lay e).length) p → InsAt w A2 (m * (lay e).length) p → ∀ (j : Nat) (u : Value), (xs ++ news)[j]? = some u → p u := fun p p1 p2 j u hu => by
    rw [List.getElem?_append] at hu
    split at hu
    · exact InsAt.list p1 hown0 rfl hl j u hu
    · exact InsAt.list p2 hsl2 rfl hl2 _ u hu
  have hr := hsl2.rd
  have h1 := cells_one hpos hx2
  have hcle := hs.1
  have hcap := hs.2.1
  subst hby
  have hsrc : Src P i.size t (.slice A2 m c2) m news w := by
    refine ⟨.inl ⟨e, ht⟩, fun _ => rfl, ?_, ?_, by rw [hl2, hsize], h1⟩
    all_goals
      rcases Nat.eq_zero_or_pos m with h0 | h0
      · subst h0
        have hn : news = [] := List.eq_nil_of_length_eq_zero (by simpa using hl2)
        subst hn
        rcases A2 with _ | a
        · exact run_firstCells_none _ _ 0 0 c2
        · exact run_firstCells_some _ _ 0 a 0 c2 [] (by simp) (by simp)
      · obtain ⟨b, off, rfl, _, hc⟩ := hr.2 h0
        refine run_firstCells_some _ _ m _ m c2 news (by rw [hl2, hsize]) fun j u hu => ?_
        have := hc j u hu
        simp only [Addr.add]
        split
        · rename_i hj; subst hj; simpa using this
        · simpa using this
  obtain ⟨_, hnc, hcm, hA⟩ := hown
  by_cases hroom : n + m ≤ c
  · rcases hs.2.2 with ⟨rfl, rfl, rfl⟩ | ⟨g, off, cur, rfl, hg, hb, hmod, hcs⟩
    · obtain rfl : m = 0 := by omega
      refine ⟨none, 0, w, ?_, SlOK.nil _ _, FreshA.none_ _, h, Below.refl _ _, Keeps.refl _, fun _ _ _ => rfl, (fun _ h => by cases h), (fun p _ _ j hj => by simp at hj)⟩
      have hn : news = [] := List.eq_nil_of_length_eq_zero (by simpa using hl2)
      subst hn
      simp [Builtin.append_, run_underlying ht, sizeOf, typeInfo, hi, hsrc.len, hsrc.cells]
    · have hFg : F ≤ g := hf _ rfl
      have hfit : off + n * i.size + news.length ≤ cur.size := by
        rw [hl2, hsize]
        have : (n + m) * (lay e).length ≤ c * (lay e).length := Nat.mul_le_mul_right _ hroom
        rw [Nat.add_mul] at this
        omega
      have hrun := run_append_room_src (P := P) w t t ty e i ht hi g off n c (.slice A2 m c2) m news hsrc hroom
        (fun j hj => by rw [hb.cell, Array.getElem?_eq_getElem (by omega)]; rfl) (fun j _ => hb.frozen _)
      obtain ⟨cs', k1, k2, k3, k4, k5, k6, k7, k8, k9⟩ := setCells_blk (g := g) (t := e) news (off + n * i.size) w cur hb hfit
      have hkeep : Keeps w (w.setCells g (off + n * i.size) news) := fun b t' arr hb' => by
        by_cases hbg : b = g
        · subst hbg
          obtain ⟨rfl, rfl⟩ : arr = cur ∧ t' = e := by have := hb'.symm.trans hb; simpa using this
          exact ⟨cs', k1, k2⟩
        · exact ⟨arr, (k9 b hbg).trans hb', rfl⟩
      refine ⟨_, c, _, hrun, ⟨hroom, hcm, .inr ⟨g, off, cs', rfl, hg, k1, hmod, by omega⟩⟩, hf, h.sets news _ _ _ hg hb fun j v hv => ?_, ⟨k5, k6, k7, by omega, fun k hk => k9 k (by omega)⟩, hkeep, fun ad _ had => ?_, fun ad ha => .inl ⟨_, rfl, by cases ha; rfl⟩, fun p p1 p2 j hj => ?_⟩
      · have := hx2 j v hv
        rwa [show (off + n * i.size + j) % (lay e).length = j % (lay e).length by rw [hsize, Nat.add_mod, Nat.add_mod off, hmod, Nat.mul_mod_left]; simp]
      · unfold World.cell?
        rw [k9 ad.block (had _ rfl)]
      · have hjl : j < (xs ++ news).length := by rw [List.length_append, hl, hl2, ← Nat.add_mul]; exact hj
        have hcase : cs'[off + j]? = (xs ++ news)[j]? := by
          rcases hA with ⟨h0, _, _⟩ | ⟨g2, off2, cur2, h0, _, hb2, _, hcur⟩
          · cases h0
          · obtain ⟨rfl, rfl⟩ : g = g2 ∧ off = off2 := by simpa using h0
            obtain ⟨rfl, _⟩ : cur2 = cur ∧ e = e := by have := hb2.symm.trans hb; simpa using this
            rcases Nat.lt_or_ge j (n * (lay e).length) with hjn | hjn
            · rw [k3 _ (by rw [hsize]; omega), hcur j hjn, List.getElem?_append_left (by omega)]
            · rw [List.getElem?_append_right (by omega), hl, ← k4 (j - n * (lay e).length) (by rw [hl2]; rw [Nat.add_mul] at hj; omega)]
              congr 1
              rw [hsize]
              omega
        exact ⟨g, off, _, rfl, by rw [k1.cell, hcase]; exact List.getElem?_eq_getElem hjl, hall p p1 p2 j _ (List.getElem?_eq_getElem hjl)⟩
  · have hold : (Builtin.firstCells i.size n (.slice A n c)).run P w.drew = .ok xs.toArray w.drew := by
      rcases hA with ⟨rfl, rfl, rfl⟩ | ⟨g, off, cur, rfl, hg, hb, hcs, hcur⟩
      · have hx : xs = [] := List.eq_nil_of_length_eq_zero (by simpa using hl)
        subst hx
        exact run_firstCells_none _ _ 0 0 0
      · refine run_firstCells_some _ _ n _ n c xs (by rw [hl, hsize]) fun j u hu => ?_
        have hj : j < n * (lay e).length := by rw [← hl]; exact (List.getElem?_eq_some_iff.1 hu).1
        have hcell : w.drew.cell? ⟨g, off + j, none⟩ = some u := by rw [hb.drew.cell, hcur j hj, hu]
        simp only [Addr.add]
        split
        · rename_i h0; subst h0; simpa using hcell
        · simpa using hcell
    have hge := grownCap_ge w (n + m) c e
    have hcapm : grownCap w (n + m) c e ≤ maxLen := grownCap_le_maxLen w (n + m) c e h63
    have hrun := run_append_grow_src (P := P) w t t ty e i z ht hi hz A n c xs hold (.slice A2 m c2) m news hsrc (by omega) (by simp only [maxLen] at h63; omega) (growslice_fits (by omega) hbytes)
    obtain ⟨G, hG⟩ : ∃ G, grownCap w (n + m) c e = G := ⟨_, rfl⟩
    rw [hG] at hrun hge hcapm
    have hlen : (xs ++ news).length = (n + m) * (lay e).length := by rw [List.length_append, hl, hl2, Nat.add_mul]
    have hzsz : (Builtin.zeroCells z.cells (G - (n + m))).size = (G - (n + m)) * (lay e).length := by rw [size_zeroCells, hzs]
    have hrow : RowOK lay B K w e ((xs ++ news).toArray ++ Builtin.zeroCells z.cells (G - (n + m))) := fun j u hu => by
      rw [Array.getElem?_append] at hu
      split at hu
      · rw [List.getElem?_toArray, List.getElem?_append] at hu
        split at hu
        · exact hx j u hu
        · have := hx2 _ u hu
          rename_i hlt
          rw [hl] at this hlt
          rwa [mod_less (show n * (lay e).length ≤ j by omega)] at this
      · rename_i hlt
        rw [List.size_toArray, hlen] at hu hlt
        obtain ⟨hj, rfl⟩ := Array.getElem?_eq_some_iff.1 hu
        unfold Builtin.zeroCells
        have hmm : (j - (n + m) * (lay e).length) % (lay e).length = j % (lay e).length := mod_less (by omega)
        have hml : j % (lay e).length < z.cells.size := by rw [hzs]; exact Nat.mod_lt _ hpos
        have := hzr B K w (j % (lay e).length) _ (Array.getElem?_eq_getElem hml)
        simp only [Array.getElem_map, Array.getElem_range, hzs, hmm]
        rwa [getElem!_pos z.cells _ hml]
    have hblk := Blk.new w.drew e ((xs ++ news).toArray ++ Builtin.zeroCells z.cells (G - (n + m)))
    refine ⟨_, _, _, hrun, SlOK.blk hblk (by have := h.size; simpa using this) _ _ hge hcapm ?_, fun a ha => ?_, h.drew.alloc _ _ hrow, ((Below.refl F w).drew).alloc (by simpa using hF) _, (Keeps.refl w).drew.trans (Keeps.alloc w.drew _), fun ad hlt _ => World.cell?_alloc_lt w.drew _ ad hlt, fun ad ha => .inr (by cases ha; simp), fun p p1 p2 j hj => ?_⟩
    · rw [Array.size_append, hzsz, List.size_toArray, hlen, ← Nat.add_mul]
      exact Nat.mul_le_mul_right _ (by omega)
    · cases ha
      simpa using hF
    · have hjl : j < (xs ++ news).length := by rw [hlen]; exact hj
      refine ⟨_, 0, _, rfl, ?_, hall p p1 p2 j _ (List.getElem?_eq_getElem hjl)⟩
      refine (hblk.cell _).trans ?_
      rw [Nat.zero_add, Array.getElem?_append_left (by simpa using hjl), List.getElem?_toArray, List.getElem?_eq_getElem hjl]
/-- make. -/
theorem made_ty {z : Array Value} (h : Typed lay B K w) (hz : z.size = (lay e).length) (hpos : 0 < (lay e).length) (hzr : ∀ (j : Nat) (u : Value), z[j]? = some u → CellOK lay B K w ((lay e)[j]?) u) {arr : Array Value} {n : Nat} (harr : arr.toList = (List.replicate n z.toList).flatten) (hn : n ≤ maxLen) :
    Typed lay B K (w.alloc (.cells arr e)) ∧ SlOK lay B (w.alloc (.cells arr e)) e (some ⟨w.heap.size, 0, none⟩) n n := by
  have hsz : arr.size = n * (lay e).length := by rw [← Array.length_toList, harr]; simp [hz]
  refine ⟨h.alloc _ _ fun j u hu => ?_, SlOK.blk (Blk.new w e arr) h.size _ _ (Nat.le_refl _) hn (by omega)⟩
  have hj := (Array.getElem?_eq_some_iff.1 hu).1
  rw [← Array.getElem?_toList, harr, flatten_rep z.toList (by simpa [hz] using hpos) n j (by simp [hz]; omega)] at hu
  simp [hz] at hu
  exact hzr _ u hu
end
end Go.Tz
/-
  append(x, make([]T, n)...): append of so many zeros.
-/
namespace Go.Tz
open Go.Rp
open Go.RowKit

section
variable {P : Program} {lay : Lay} {B F : Nat} {K : Bounds} {w : World} {e t tx : TypeId} {A : Option Addr} {n c m : Nat}
theorem run_zeros_room (ty : TypeId) (i : TypeInfo) (z : Value) (ht : P.underlying t = some (.slice e)) {k : IntKind} (hk : P.underlying tx = some (.int k)) (hi : P.info? e = some i) (hz : i.zero = some z) (b off : Nat) (hm : 0 < m) (hm2 : m ≤ 1000) (hsz : 0 < i.size) (hby : i.bytes ≤ 1000) (hone : ∀ u ∈ (Builtin.zeroCells z.cells m).toList, u.oneCell' = true)
    (hroom : n + m ≤ c) (hc : ∀ j, j < (Builtin.zeroCells z.cells m).toList.length → (w.cell? ⟨b, off + n * i.size + j, none⟩).isSome = true) (hf : ∀ j, j < (Builtin.zeroCells z.cells m).toList.length → w.frozen? ⟨b, off + n * i.size + j, none⟩ = false) :
    (Builtin.append_ #[t, tx] ty #[.slice (some ⟨b, off, none⟩) n c, .int .i64 (m : Int)]).run P w = .ok (.slice (some ⟨b, off, none⟩) (n + m) c) (w.setCells b (off + n * i.size) (Builtin.zeroCells z.cells m).toList) := by
  have hst := run_storeCells_cells (P := P) b (off + n * i.size) (Builtin.zeroCells z.cells m).toList 0 w (by simpa using hc) (by simpa using hf) hone
  simp only [Nat.add_zero] at hst
  have hw : IntKind.i64.wrap (m : Int) = (m : Int) := IntWalk.i64_in _ (by omega)
  have h1 : ¬ ((m : Int) < 0) := by omega
  have h2 : ¬ (281474976710656 < (m : Int) * (i.bytes : Int)) := by
    have : m * i.bytes ≤ 1000 * 1000 := Nat.mul_le_mul hm2 hby
    have e : ((m : Int) * (i.bytes : Int)) = ((m * i.bytes : Nat) : Int) := (Int.natCast_mul ..).symm
    omega
  have h3 : ¬ (m * i.size = 0) := by
    have : 0 < m * i.size := Nat.mul_pos hm hsz
    omega
  have h4 : ¬ (m = 0 ∨ i.size = 0) := by omega
  simp [Builtin.append_, run_underlying ht, run_underlying hk, sizeOf, typeInfo, zeroValue, asInt, asIntOf, hi, hz, hw, h1, h2, h3, h4, hroom, Addr.add_lit, hst]
theorem run_zeros_grow (ty : TypeId) (i : TypeInfo) (z : Value) (ht : P.underlying t = some (.slice e)) {k : IntKind} (hk : P.underlying tx = some (.int k)) (hi : P.info? e = some i) (hz : i.zero = some z) (olds : List Value)
    (hold : (Builtin.firstCells i.size n (.slice A n c)).run P w.drew = .ok olds.toArray w.drew) (hm : 0 < m) (hm2 : m ≤ 1000) (hsz : 0 < i.size) (hby : i.bytes ≤ 1000)
    (hg : c < n + m) (h63 : ((n + m : Nat) : Int) ≤ 9223372036854775807) (hfit : Builtin.nextslicecap (n + m) c * i.bytes ≤ 281474976710656) :
    (Builtin.append_ #[t, tx] ty #[.slice A n c, .int .i64 (m : Int)]).run P w =
      .ok (.slice (some ⟨w.heap.size, 0, none⟩) (n + m) (grownCap w (n + m) c e))
        (w.drew.alloc (.cells ((olds ++ (Builtin.zeroCells z.cells m).toList).toArray ++ Builtin.zeroCells z.cells (grownCap w (n + m) c e - (n + m))) e)) := by
  have hn : ¬ (n + m ≤ c) := by omega
  have h63' : ¬ (9223372036854775807 < ((n : Int) + (m : Int))) := by omega
  have h63'' : ¬ (9223372036854775807 < ((n : Int) + max (m : Int) 0)) := by omega
  have h48' : ¬ (281474976710656 < Builtin.nextslicecap (n + m) c * i.bytes) := by omega
  have hw : IntKind.i64.wrap (m : Int) = (m : Int) := IntWalk.i64_in _ (by omega)
  have h1 : ¬ ((m : Int) < 0) := by omega
  have h2 : ¬ (281474976710656 < (m : Int) * (i.bytes : Int)) := by
    have : m * i.bytes ≤ 1000 * 1000 := Nat.mul_le_mul hm2 hby
    have e : ((m : Int) * (i.bytes : Int)) = ((m * i.bytes : Nat) : Int) := (Int.natCast_mul ..).symm
    omega
  have h4 : ¬ (m = 0 ∨ i.size = 0) := by omega
  simp [Builtin.append_, run_underlying ht, run_underlying hk, sizeOf, typeInfo, zeroValue, asInt, asIntOf, hi, hz, hw, h1, h2, h4, hn, h63', h63'', h48', Question.forced, hold, newRow, grownCap]
  rw [if_neg (by have : 0 < m * i.size := Nat.mul_pos hm hsz; omega)]
  congr 3
  apply Array.ext'
  simp [List.append_assoc]
/-- append of zeros in a memory whose rows are of their types. -/
theorem run_zeros_ty (ty : TypeId) {bytes : Nat} (el : Elem lay P t e bytes) {k : IntKind} (hk : P.underlying tx = some (.int k)) (h : Typed lay B K w) (hs : SlOK lay B w e A n c) (hf : FreshA F A) (hF : F ≤ w.heap.size) (hBF : B ≤ F) (hm : 0 < m) (hm2 : m ≤ 1000) (hby' : bytes ≤ 1000)
    (h63 : n + m ≤ maxLen) (hbytes : (n + m) * bytes ≤ 140737488355328) :
    ∃ A' c' w', (Builtin.append_ #[t, tx] ty #[.slice A n c, .int .i64 (m : Int)]).run P w = .ok (.slice A' (n + m) c') w' ∧
      SlOK lay B w' e A' (n + m) c' ∧ FreshA F A' ∧ Typed lay B K w' ∧ Below F w w' ∧ Keeps w w' ∧ ∀ g t' cs, t' ≠ e → Blk w g t' cs → Blk w' g t' cs := by
  obtain ⟨ht, hpos, i, z, hi, hz, hsize, hby, hzs, hzr⟩ := el
  obtain ⟨xs, hl, hx, hown⟩ := hs.cells h
  have hcle := hs.1
  have hcap := hs.2.1
  subst hby
  obtain ⟨news, hnews⟩ : ∃ news, (Builtin.zeroCells z.cells m).toList = news := ⟨_, rfl⟩
  have hl2 : news.length = m * (lay e).length := by rw [← hnews, Array.length_toList, size_zeroCells, hzs]
  have hx2 : ∀ j u, news[j]? = some u → CellOK lay B K w ((lay e)[j % (lay e).length]?) u := fun j u hu => by
    rw [← hnews, Array.getElem?_toList] at hu
    obtain ⟨hj, rfl⟩ := Array.getElem?_eq_some_iff.1 hu
    unfold Builtin.zeroCells
    have hml : j % (lay e).length < z.cells.size := by rw [hzs]; exact Nat.mod_lt _ hpos
    have := hzr B K w (j % (lay e).length) _ (Array.getElem?_eq_getElem hml)
    simp only [Array.getElem_map, Array.getElem_range, hzs]
    rwa [getElem!_pos z.cells _ hml]
  have h1 := cells_one hpos hx2
  obtain ⟨_, hnc, hcm, hA⟩ := hown
  by_cases hroom : n + m ≤ c
  · rcases hs.2.2 with ⟨rfl, rfl, rfl⟩ | ⟨g, off, cur, rfl, hg, hb, hmod, hcs⟩
    · omega
    · have hFg : F ≤ g := hf _ rfl
      have hfit : off + n * i.size + news.length ≤ cur.size := by
        rw [hl2, hsize]
        have : (n + m) * (lay e).length ≤ c * (lay e).length := Nat.mul_le_mul_right _ hroom
        rw [Nat.add_mul] at this
        omega
      have hrun := run_zeros_room (P := P) (w := w) ty i z ht hk hi hz g off hm hm2 (by omega) hby' (by rw [hnews]; exact h1) hroom
        (fun j hj => by rw [hb.cell, Array.getElem?_eq_getElem (by rw [hnews] at hj; omega)]; rfl) (fun j _ => hb.frozen _)
      rw [hnews] at hrun
      obtain ⟨cs', k1, k2, k3, k4, k5, k6, k7, k8, k9⟩ := setCells_blk (g := g) (t := e) news (off + n * i.size) w cur hb hfit
      have hkeep : Keeps w (w.setCells g (off + n * i.size) news) := fun b t' arr hb' => by
        by_cases hbg : b = g
        · subst hbg
          obtain ⟨rfl, rfl⟩ : arr = cur ∧ t' = e := by have := hb'.symm.trans hb; simpa using this
          exact ⟨cs', k1, k2⟩
        · exact ⟨arr, (k9 b hbg).trans hb', rfl⟩
      refine ⟨_, c, _, hrun, ⟨hroom, hcm, .inr ⟨g, off, cs', rfl, hg, k1, hmod, by omega⟩⟩, hf, h.sets news _ _ _ hg hb fun j v hv => ?_, ⟨k5, k6, k7, by omega, fun k hk => k9 k (by omega)⟩, hkeep, fun g' t' cs hne hb' => ?_⟩
      · have := hx2 j v hv
        rwa [show (off + n * i.size + j) % (lay e).length = j % (lay e).length by rw [hsize, Nat.add_mod, Nat.add_mod off, hmod, Nat.mul_mod_left]; simp]
      · refine (k9 g' fun he => ?_).trans hb'
        subst he
        exact hne (by have := hb'.symm.trans hb; simp at this; exact this.2)
  · have hold : (Builtin.firstCells i.size n (.slice A n c)).run P w.drew = .ok xs.toArray w.drew := by
      rcases hA with ⟨rfl, rfl, rfl⟩ | ⟨g, off, cur, rfl, hg, hb, hcs, hcur⟩
      · have hx : xs = [] := List.eq_nil_of_length_eq_zero (by simpa using hl)
        subst hx
        exact run_firstCells_none _ _ 0 0 0
      · refine run_firstCells_some _ _ n _ n c xs (by rw [hl, hsize]) fun j u hu => ?_
        have hj : j < n * (lay e).length := by rw [← hl]; exact (List.getElem?_eq_some_iff.1 hu).1
        have hcell : w.drew.cell? ⟨g, off + j, none⟩ = some u := by rw [hb.drew.cell, hcur j hj, hu]
        simp only [Addr.add]
        split
        · rename_i h0; subst h0; simpa using hcell
        · simpa using hcell
    have hge := grownCap_ge w (n + m) c e
    have hcapm : grownCap w (n + m) c e ≤ maxLen := grownCap_le_maxLen w (n + m) c e h63
    have hrun := run_zeros_grow (P := P) (w := w) ty i z ht hk hi hz xs hold hm hm2 (by omega) hby' (by omega) (by simp only [maxLen] at h63; omega) (growslice_fits (by omega) hbytes)
    rw [hnews] at hrun
    obtain ⟨G, hG⟩ : ∃ G, grownCap w (n + m) c e = G := ⟨_, rfl⟩
    rw [hG] at hrun hge hcapm
    have hlen : (xs ++ news).length = (n + m) * (lay e).length := by rw [List.length_append, hl, hl2, Nat.add_mul]
    have hzsz : (Builtin.zeroCells z.cells (G - (n + m))).size = (G - (n + m)) * (lay e).length := by rw [size_zeroCells, hzs]
    have hrow : RowOK lay B K w e ((xs ++ news).toArray ++ Builtin.zeroCells z.cells (G - (n + m))) := fun j u hu => by
      rw [Array.getElem?_append] at hu
      split at hu
      · rw [List.getElem?_toArray, List.getElem?_append] at hu
        split at hu
        · exact hx j u hu
        · have := hx2 _ u hu
          rename_i hlt
          rw [hl] at this hlt
          rwa [mod_less (show n * (lay e).length ≤ j by omega)] at this
      · rename_i hlt
        rw [List.size_toArray, hlen] at hu hlt
        obtain ⟨hj, rfl⟩ := Array.getElem?_eq_some_iff.1 hu
        unfold Builtin.zeroCells
        have hmm : (j - (n + m) * (lay e).length) % (lay e).length = j % (lay e).length := mod_less (by omega)
        have hml : j % (lay e).length < z.cells.size := by rw [hzs]; exact Nat.mod_lt _ hpos
        have := hzr B K w (j % (lay e).length) _ (Array.getElem?_eq_getElem hml)
        simp only [Array.getElem_map, Array.getElem_range, hzs, hmm]
        rwa [getElem!_pos z.cells _ hml]
    have hblk := Blk.new w.drew e ((xs ++ news).toArray ++ Builtin.zeroCells z.cells (G - (n + m)))
    refine ⟨_, _, _, hrun, SlOK.blk hblk (by have := h.size; simpa using this) _ _ hge hcapm ?_, fun a ha => ?_, h.drew.alloc _ _ hrow, ((Below.refl F w).drew).alloc (by simpa using hF) _, (Keeps.refl w).drew.trans (Keeps.alloc w.drew _), fun g t' cs _ hb => hb.drew.alloc _⟩
    · rw [Array.size_append, hzsz, List.size_toArray, hlen, ← Nat.add_mul]
      exact Nat.mul_le_mul_right _ (by omega)
    · cases ha
      simpa using hF
end
end Go.Tz
