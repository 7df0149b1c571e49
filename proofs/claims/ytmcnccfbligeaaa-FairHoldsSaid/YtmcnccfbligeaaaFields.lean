/-
  What a law's arguments read as: slices of structs that came in.
-/
import Derived.Test.YtmcnccfbligeaaaIn
import Derived.Deep.Slices
import Derived.SizedLaws
namespace Go.Rp
open Go.RowKit Go.Deep

/-- A slice that came in, whose elements' cells are f of what is listed; nil let in. -/
structure InRows {α : Type} (sz : Nat) (f : α → List Value) (ok : α → Prop) (w : World) (a : Option Addr) (n c : Nat) (xs : List α) : Prop where
  nil : a = none → n = 0 ∧ c = 0
  le : n ≤ c
  cap : c ≤ maxLen
  len : xs.length = n
  rd : Rd w (· < w.heap.size) sz a n (xs.flatMap f)
  ok : ∀ x ∈ xs, ok x
  reach : n ≤ 140737488351232

section
variable {α : Type} {sz : Nat} {f : α → List Value} {ok : α → Prop} {w : World}
theorem InRows.none_ : InRows sz f ok w none 0 0 [] := ⟨fun _ => ⟨rfl, rfl⟩, Nat.le_refl _, by simp [maxLen], rfl, ⟨by simp, fun h => absurd h (by omega)⟩, by simp, by omega⟩
theorem rows_of {H : Type} {enc : TypeId × Value → H} {P : Program} {base : Nat} {spare : Nat → Bool} {held : Bool} {e : TypeId} {a : Addr} {m n : Nat} {D : Nat → DataW H} {Pl : Nat → List MemPlace} (hC : P.cellsOf e = sz)
    (hdec : ∀ fuel cs x, DataW.trod enc P w base spare held fuel e cs = some x → ∃ r, cs = f r ∧ ok r)
    (hi : ∀ i, i < m → ∃ cs', w.cells? base (a.add (i * P.cellsOf e)) (P.cellsOf e) = some cs' ∧ DataW.trod enc P w base spare held n e cs' = some (D i, Pl i)) :
    ∀ len, len ≤ m → ∃ xs : List α, xs.length = len ∧ (∀ x ∈ xs, ok x) ∧ (xs.flatMap f).length = len * sz ∧ ∀ j u, (xs.flatMap f)[j]? = some u → w.cell? (a.add j) = some u := by
  intro len
  induction len with
  | zero => exact fun _ => ⟨[], rfl, by simp, by simp, by simp⟩
  | succ len ih =>
    intro hm
    obtain ⟨xs, h1, h2, h3, h4⟩ := ih (by omega)
    obtain ⟨cs', hc, ht⟩ := hi len (by omega)
    obtain ⟨r, rfl, hr⟩ := hdec _ _ _ ht
    rw [hC] at hc
    obtain ⟨_, hcl, hat⟩ := World.cells?_some hc
    refine ⟨xs ++ [r], by simp [h1], ?_, ?_, ?_⟩
    · intro x hx
      rcases List.mem_append.1 hx with hx | hx
      · exact h2 x hx
      · rw [List.mem_singleton.1 hx]; exact hr
    · rw [List.flatMap_append, List.length_append, h3]
      simp [hcl, Nat.succ_mul]
    · intro j u hu
      rw [List.flatMap_append, List.getElem?_append] at hu
      split at hu
      · exact h4 j u hu
      · rename_i hj
        rw [h3] at hu hj
        simp only [List.flatMap_cons, List.flatMap_nil, List.append_nil] at hu
        have hlt : j - len * sz < sz := by
          have := (List.getElem?_eq_some_iff.1 hu).1
          omega
        have h5 := hat (j - len * sz) hlt
        rw [hu, add_add, show len * sz + (j - len * sz) = j by omega] at h5
        exact h5
theorem rows_of2 {H : Type} {enc : TypeId × Value → H} {P : Program} {base : Nat} {spare : Nat → Bool} {held : Bool} {e : TypeId} {a : Addr} {m n : Nat} {D : Nat → DataW H} {Pl : Nat → List MemPlace} (hC : P.cellsOf e = sz)
    (top : Nat) (hdec : ∀ i cs, i < top → DataW.trod enc P w base spare held n e cs = some (D i, Pl i) → ∃ r, cs = f r ∧ ok r)
    (hi : ∀ i, i < m → ∃ cs', w.cells? base (a.add (i * P.cellsOf e)) (P.cellsOf e) = some cs' ∧ DataW.trod enc P w base spare held n e cs' = some (D i, Pl i)) :
    ∀ len, len ≤ m → len ≤ top → ∃ xs : List α, xs.length = len ∧ (∀ x ∈ xs, ok x) ∧ (xs.flatMap f).length = len * sz ∧ ∀ j u, (xs.flatMap f)[j]? = some u → w.cell? (a.add j) = some u := by
  intro len
  induction len with
  | zero => exact fun _ _ => ⟨[], rfl, by simp, by simp, by simp⟩
  | succ len ih =>
    intro hm ht0
    obtain ⟨xs, h1, h2, h3, h4⟩ := ih (by omega) (by omega)
    obtain ⟨cs', hc, ht⟩ := hi len (by omega)
    obtain ⟨r, rfl, hr⟩ := hdec len _ (by omega) ht
    rw [hC] at hc
    obtain ⟨_, hcl, hat⟩ := World.cells?_some hc
    refine ⟨xs ++ [r], by simp [h1], ?_, ?_, ?_⟩
    · intro x hx
      rcases List.mem_append.1 hx with hx | hx
      · exact h2 x hx
      · rw [List.mem_singleton.1 hx]; exact hr
    · rw [List.flatMap_append, List.length_append, h3]
      simp [hcl, Nat.succ_mul]
    · intro j u hu
      rw [List.flatMap_append, List.getElem?_append] at hu
      split at hu
      · exact h4 j u hu
      · rename_i hj
        rw [h3] at hu hj
        simp only [List.flatMap_cons, List.flatMap_nil, List.append_nil] at hu
        have hlt : j - len * sz < sz := by
          have := (List.getElem?_eq_some_iff.1 hu).1
          omega
        have h5 := hat (j - len * sz) hlt
        rw [hu, add_add, show len * sz + (j - len * sz) = j by omega] at h5
        exact h5
theorem InRows.of_row (hsz : 0 < sz) {len cap : Nat} {x : Addr} (hl : len ≤ cap) (hm : cap ≤ maxLen) (hreach : len ≤ 140737488351232)
    (h : ∃ xs : List α, xs.length = len ∧ (∀ x ∈ xs, ok x) ∧ (xs.flatMap f).length = len * sz ∧ ∀ j u, (xs.flatMap f)[j]? = some u → w.cell? (x.add j) = some u) :
    ∃ xs, InRows sz f ok w (some x) len cap xs := by
  obtain ⟨xs, h1, h2, h3, h4⟩ := h
  refine ⟨xs, by simp, hl, hm, h1, ⟨h3, fun hn => ?_⟩, h2, hreach⟩
  obtain ⟨b, off, spot⟩ := x
  have hpos : 0 < (xs.flatMap f).length := by rw [h3]; exact Nat.mul_pos hn hsz
  have h0 := h4 0 _ (List.getElem?_eq_getElem hpos)
  have hspot : spot = none := by simpa [Addr.add] using World.cell?_spot h0
  subst hspot
  refine ⟨b, off, rfl, ?_, fun j u hu => ?_⟩
  · have := World.block_lt_of_cell? w _ h0
    simpa [Addr.add] using this
  · have h1 := h4 j u hu
    rw [← h1]
    by_cases h0 : j = 0 <;> simp [Addr.add, h0]
end

/-- What a slice's elements weigh is borne by the whole. -/
theorem weights_all {H : Type} {P : Program} {e : TypeId} : ∀ {ds : List (DataW H)} {d : DataW H}, d ∈ ds → ∀ n ∈ d.weights P e, n ∈ DataW.weightsAll P e ds
  | d0 :: ds, d, hd, n, hn => by
    rcases List.mem_cons.1 hd with rfl | hd
    · simp only [DataW.weightsAll, List.mem_append]; exact .inl hn
    · simp only [DataW.weightsAll, List.mem_append]; exact .inr (weights_all hd n hn)
theorem sized_elems {H : Type} {P : Program} {ts : List TypeId} {ds : List (DataW H)} (h : (DataW.weightsEach P ts ds).all (· ≤ reachBytes) = true) {j : Nat} {t e : TypeId} {elems spare : List (DataW H)} (ht : ts[j]? = some t) (hd : ds[j]? = some (.slice elems spare)) (hu : P.underlying t = some (.slice e)) :
    ∀ d ∈ elems, ∀ n ∈ d.weights P e, n ≤ reachBytes := fun d hm n hn => by
  have := List.all_eq_true.1 h _ (DataW.weights_mem_each ht hd n (by simp only [DataW.weights, hu]; exact List.mem_cons_of_mem _ (List.mem_append.2 (.inl (weights_all hm n hn)))))
  simpa using this

/-- A cell that reads as a slice of integers. -/
theorem inInts_of {H : Type} {enc : TypeId × Value → H} {P : Program} {w : World} {base : Nat} {spare : Nat → Bool} {held : Bool} {fuel : Nat} {t e : TypeId} {k : IntKind} {v : Value} {x : DataW H × List MemPlace} (ht : P.underlying t = some (.slice e)) (he : P.underlying e = some (.int k)) (hc : P.cellsOf e = 1) (b : Nat) (hb : P.bytesOf e = b) (hb0 : 0 < b) (hsp : ∀ g, spare g = true)
    (h : DataW.trod enc P w base spare held fuel t [v] = some x) (hw : ∀ q ∈ x.1.weights P t, q ≤ reachBytes) : ∃ a n c zs, v = .slice a n c ∧ InInts k w a n c zs := by
  rcases ChangeShapes.open_ints ht he hc h with ⟨hcs, _⟩ | ⟨y, l, c, zs, hcs, _, hl, hm, hz, hx, hcell, hwz⟩
  · simp at hcs
    exact ⟨none, 0, 0, [], hcs, InInts.none_ _ _⟩
  · simp at hcs
    rw [hsp, if_pos rfl] at hz
    have hx1 := congrArg Prod.fst hx
    simp only at hx1
    rw [hx1] at hw
    have h1 := hw _ (by simp only [DataW.weights, ht]; exact List.mem_cons_self)
    rw [hb] at h1
    have h2 : l ≤ 140737488351232 := by
      have h3 : l ≤ reachBytes := by
        refine Nat.le_trans ?_ h1
        refine Nat.le_trans ?_ (Nat.le_mul_of_pos_right _ hb0)
        simp only [ChangeShapes.lits, List.length_map, List.length_take, List.length_drop]
        omega
      unfold reachBytes at h3; omega
    exact ⟨some y, l, c, _, hcs, InInts.of_row ⟨y, rfl, hl, hm, by simpa using hz, hcell, hwz⟩ h2⟩

/-- An operation that came in. -/
def opIn (o : Int × Int) : List Value := [.int .u8 o.1, .int .i32 o.2]
def opOk (o : Int × Int) : Prop := (Lit.int .u8 o.1).wf = true ∧ (Lit.int .i32 o.2).wf = true
end Go.Rp
