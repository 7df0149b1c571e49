/-
  What values and temporaries are said to be; reading, writing and making variables in a memory whose rows are of their types. Plain laws.
-/
import Derived.Test.YtmcnccfbligeaaaTzZ
import Derived.Deep.MidRow
import Derived.Great.BuildSlice
namespace Go.Tz
open Go.Rp Go.RowKit

abbrev LIM : Nat := 68719476736
def CT.sub : CT → CT → Bool
  | .int k lo hi, .int k' lo' hi' => decide (k = k') && (decide (lo' ≤ lo) && decide (hi ≤ hi'))
  | .bool, .bool => true
  | .sl e, .sl e' => decide (e = e')
  | .nil, .nil => true
  | .nil, .sl _ => true
  | .slb e m, .slb e' m' => decide (e = e') && decide (m ≤ m')
  | .nil, .slb _ _ => true
  | _, _ => false
def subs : List CT → List CT → Bool
  | [], [] => true
  | c :: cs, d :: ds => CT.sub c d && subs cs ds
  | _, _ => false
/-- What may make slices in rows longer. -/
inductive Gr where
  | add (e : TypeId) (j : Nat)
  | fn (f : FuncId)
  | mul (e : TypeId) (c : Nat) (es : List TypeId)
  deriving DecidableEq
def prodK (K : Bounds) : List TypeId → Nat
  | [] => 1
  | x :: xs => (K x + 1) * prodK K xs
theorem prodK_mono {K K' : Bounds} : ∀ (l : List TypeId), (∀ x ∈ l, K x ≤ K' x) → prodK K l ≤ prodK K' l
  | [], _ => Nat.le_refl _
  | x :: xs, h => Nat.mul_le_mul (by have := h x (List.mem_cons_self ..); omega) (prodK_mono xs fun y hy => h y (List.mem_cons_of_mem _ hy))
def Gr.den (G : FuncId → Bounds → Bounds) : Gr → Bounds → Bounds
  | .add e j, K => fun x => if x = e then K x + j else K x
  | .fn f, K => G f K
  | .mul e c es, K => fun x => if x = e then K x + c * prodK K es else K x
def den (G : FuncId → Bounds → Bounds) : List Gr → Bounds → Bounds
  | [], K => K
  | g :: gs, K => den G gs (g.den G K)
structure GOK (G : FuncId → Bounds → Bounds) : Prop where
  up : ∀ f K e, K e ≤ G f K e
  mono : ∀ f K K', (∀ e, K e ≤ K' e) → ∀ e, G f K e ≤ G f K' e
section
theorem Gr.den_up {G : FuncId → Bounds → Bounds} (hG : GOK G) (g : Gr) (K : Bounds) (e : TypeId) : K e ≤ g.den G K e := by
  cases g with
  | add e' j => simp only [Gr.den]; split <;> omega
  | fn f => exact hG.up f K e
  | mul e' c es => simp only [Gr.den]; split <;> omega
theorem Gr.den_mono {G : FuncId → Bounds → Bounds} (hG : GOK G) (g : Gr) {K K' : Bounds} (h : ∀ e, K e ≤ K' e) (e : TypeId) : g.den G K e ≤ g.den G K' e := by
  cases g with
  | add e' j => have := h e; simp only [Gr.den]; split <;> omega
  | fn f => exact hG.mono f K K' h e
  | mul e' c es =>
    have h1 := h e
    have h2 : c * prodK K es ≤ c * prodK K' es := Nat.mul_le_mul_left _ (prodK_mono es fun x _ => h x)
    simp only [Gr.den]
    split <;> omega
theorem den_up {G : FuncId → Bounds → Bounds} (hG : GOK G) (gs : List Gr) : ∀ (K : Bounds) (e : TypeId), K e ≤ den G gs K e := by
  induction gs with
  | nil => intro K e; exact Nat.le_refl _
  | cons g gs ih => intro K e; exact Nat.le_trans (g.den_up hG K e) (ih _ e)
theorem den_mono {G : FuncId → Bounds → Bounds} (hG : GOK G) (gs : List Gr) : ∀ {K K' : Bounds}, (∀ e, K e ≤ K' e) → ∀ e, den G gs K e ≤ den G gs K' e := by
  induction gs with
  | nil => intro K K' h e; exact h e
  | cons g gs ih => intro K K' h e; exact ih (g.den_mono hG h) e
end
theorem den_append (G : FuncId → Bounds → Bounds) (gs hs : List Gr) : ∀ K, den G (gs ++ hs) K = den G hs (den G gs K) := by
  induction gs with
  | nil => intro K; rfl
  | cons g gs ih => intro K; exact ih _

inductive A0 where
  | val (agg : Bool) (cs : List CT)
  | sli (e : TypeId) (abs : Bool) (j : Nat)
  | ptr (cs : List CT)
  | rd (cs : List CT)
  | slf (e : TypeId)
  | inp
  | inpp
  deriving DecidableEq
inductive AT where
  | one (t : A0)
  | tup (ts : List A0)
  deriving DecidableEq
section
variable (lay : Lay) (B F : Nat) (K : Bounds) (w : World)
def Ofs (cs : List CT) (vs : List Value) : Prop := vs.length = cs.length ∧ ∀ (j : Nat) (c : CT) (u : Value), cs[j]? = some c → vs[j]? = some u → CellOK lay B K w (some c) u
def VOK : A0 → Value → Prop
  | .val false cs, v => Ofs lay B K w cs [v]
  | .val true cs, v => ∃ arr, v = .agg arr ∧ Ofs lay B K w cs arr.toList
  | .sli e abs j, v => ∃ A n c, v = .slice A n c ∧ SlOK lay B w e A n c ∧ FreshA F A ∧ n ≤ (if abs then j else K e + j)
  | .ptr cs, v => ∃ b off t arr, v = .pointer (some ⟨b, off, none⟩) ∧ F ≤ b ∧ Blk w b t arr ∧ off + cs.length ≤ arr.size ∧ ∀ (i : Nat) (c : CT), cs[i]? = some c → (lay t)[(off + i) % (lay t).length]? = some c
  | .rd cs, v => ∃ b off t arr, v = .pointer (some ⟨b, off, none⟩) ∧ B ≤ b ∧ Blk w b t arr ∧ off + cs.length ≤ arr.size ∧ ∀ (i : Nat) (c : CT), cs[i]? = some c → (lay t)[(off + i) % (lay t).length]? = some c
  | .slf e, v => ∃ A n c, v = .slice A n c ∧ SlOK lay B w e A n c ∧ FreshA F A
  | .inp, v => ∃ A n c, v = .slice A n c ∧ n ≤ maxLen ∧ ∀ j, j < n → ∃ b off x, A = some ⟨b, off, none⟩ ∧ b < B ∧ lay.w0.cell? ⟨b, off + j, none⟩ = some (.int .u8 x) ∧ 0 ≤ x ∧ x ≤ 255
  | .inpp, v => ∃ b off x, v = .pointer (some ⟨b, off, none⟩) ∧ b < B ∧ lay.w0.cell? ⟨b, off, none⟩ = some (.int .u8 x) ∧ 0 ≤ x ∧ x ≤ 255
def VOKs : List A0 → List Value → Prop
  | [], [] => True
  | t :: ts, v :: vs => VOK lay B F K w t v ∧ VOKs ts vs
  | _, _ => False
def TOK : AT → Value → Prop
  | .one t, v => VOK lay B F K w t v
  | .tup ts, v => ∃ vs, v = .tuple vs ∧ VOKs lay B F K w ts vs.toList
end
section
variable {lay : Lay} {B F : Nat} {K K' : Bounds} {w w' : World}
theorem Ofs.keeps {cs : List CT} {vs : List Value} (h : Ofs lay B K w cs vs) (k : Keeps w w') (l : ∀ e, K e ≤ K' e) : Ofs lay B K' w' cs vs :=
  ⟨h.1, fun j c u hc hu => ((h.2 j c u hc hu).keeps k).le l⟩
theorem VOK.keeps {t : A0} {v : Value} (h : VOK lay B F K w t v) (k : Keeps w w') (l : ∀ e, K e ≤ K' e) : VOK lay B F K' w' t v := by
  match t, h with
  | .val false cs, h => exact Ofs.keeps h k l
  | .val true cs, ⟨arr, h1, h2⟩ => exact ⟨arr, h1, h2.keeps k l⟩
  | .sli e abs j, ⟨A, n, c, h1, h2, h3, h4⟩ =>
    refine ⟨A, n, c, h1, h2.keeps k, h3, ?_⟩
    have := l e
    cases abs <;> simp at h4 ⊢ <;> omega
  | .ptr cs, ⟨b, off, t, arr, h1, h2, h3, h4, h5⟩ =>
    obtain ⟨arr', h6, h7⟩ := k _ _ _ h3
    exact ⟨b, off, t, arr', h1, h2, h6, by omega, h5⟩
  | .rd cs, ⟨b, off, t, arr, h1, h2, h3, h4, h5⟩ =>
    obtain ⟨arr', h6, h7⟩ := k _ _ _ h3
    exact ⟨b, off, t, arr', h1, h2, h6, by omega, h5⟩
  | .slf e, ⟨A, n, c, h1, h2, h3⟩ => exact ⟨A, n, c, h1, h2.keeps k, h3⟩
  | .inp, h => exact h
  | .inpp, h => exact h
theorem VOK.from {F' : Nat} {t : A0} {v : Value} (h : VOK lay B F' K w t v) (hF : F ≤ F') : VOK lay B F K w t v := by
  match t, h with
  | .val false cs, h => exact h
  | .val true cs, h => exact h
  | .sli e abs j, ⟨A, n, c, h1, h2, h3, h4⟩ => exact ⟨A, n, c, h1, h2, fun a ha => Nat.le_trans hF (h3 a ha), h4⟩
  | .ptr cs, ⟨b, off, t, arr, h1, h2, h3⟩ => exact ⟨b, off, t, arr, h1, Nat.le_trans hF h2, h3⟩
  | .rd cs, h => exact h
  | .slf e, ⟨A, n, c, h1, h2, h3⟩ => exact ⟨A, n, c, h1, h2, fun a ha => Nat.le_trans hF (h3 a ha)⟩
  | .inp, h => exact h
  | .inpp, h => exact h
theorem VOKs.keeps : ∀ {ts : List A0} {vs : List Value}, VOKs lay B F K w ts vs → Keeps w w' → (∀ e, K e ≤ K' e) → VOKs lay B F K' w' ts vs
  | [], [], _, _, _ => trivial
  | _ :: _, _ :: _, h, k, l => ⟨h.1.keeps k l, VOKs.keeps h.2 k l⟩
theorem VOKs.from {F' : Nat} : ∀ {ts : List A0} {vs : List Value}, VOKs lay B F' K w ts vs → F ≤ F' → VOKs lay B F K w ts vs
  | [], [], _, _ => trivial
  | _ :: _, _ :: _, h, l => ⟨h.1.from l, VOKs.from h.2 l⟩
theorem VOKs.at : ∀ {ts : List A0} {vs : List Value}, VOKs lay B F K w ts vs → vs.length = ts.length ∧ ∀ (i : Nat) (t : A0), ts[i]? = some t → ∃ v, vs[i]? = some v ∧ VOK lay B F K w t v
  | [], [], _ => ⟨rfl, fun _ _ h => by cases h⟩
  | t :: ts, v :: vs, h => by
    obtain ⟨h1, h2⟩ := VOKs.at h.2
    refine ⟨by simp [h1], fun i t' ht => ?_⟩
    rcases i with _ | i
    · obtain rfl : t = t' := by simpa using ht
      exact ⟨v, rfl, h.1⟩
    · exact h2 i t' (by simpa using ht)
theorem TOK.keeps {t : AT} {v : Value} (h : TOK lay B F K w t v) (k : Keeps w w') (l : ∀ e, K e ≤ K' e) : TOK lay B F K' w' t v := by
  match t, h with
  | .one t, h => exact VOK.keeps h k l
  | .tup ts, ⟨vs, h1, h2⟩ => exact ⟨vs, h1, h2.keeps k l⟩
theorem CT.sub_ok {c d : CT} {u : Value} (h : CT.sub c d = true) (hu : CellOK lay B K w (some c) u) : CellOK lay B K w (some d) u := by
  match c, d, h with
  | .int k lo hi, .int k' lo' hi', h =>
    simp only [CT.sub, Bool.and_eq_true, decide_eq_true_eq] at h
    obtain ⟨rfl, h1, h2⟩ := h
    obtain ⟨x, hx, h3, h4⟩ := hu
    exact ⟨x, hx, by omega, by omega⟩
  | .bool, .bool, _ => exact hu
  | .sl e, .sl e', h => have he : e = e' := of_decide_eq_true h; exact he ▸ hu
  | .nil, .nil, _ => exact hu
  | .nil, .sl e, _ => obtain rfl := hu; exact ⟨none, 0, 0, rfl, Nat.zero_le _, SlOK.nil _ _⟩
  | .nil, .slb e m, _ => obtain rfl := hu; exact ⟨none, 0, 0, rfl, Nat.zero_le _, SlOK.nil _ _⟩
  | .slb e m, .slb e' m', h =>
    simp only [CT.sub, Bool.and_eq_true, decide_eq_true_eq] at h
    obtain ⟨rfl, h1⟩ := h
    obtain ⟨A, n, c, e1, e2, e3⟩ := hu
    exact ⟨A, n, c, e1, by omega, e3⟩
theorem subs_at : ∀ {cs ds : List CT}, subs cs ds = true → cs.length = ds.length ∧ ∀ (j : Nat) (d : CT), ds[j]? = some d → ∃ c, cs[j]? = some c ∧ CT.sub c d = true
  | [], [], _ => ⟨rfl, fun _ _ h => by cases h⟩
  | c :: cs, d :: ds, h => by
    simp only [subs, Bool.and_eq_true] at h
    obtain ⟨h1, h2⟩ := subs_at h.2
    refine ⟨by simp [h1], fun j d' hd => ?_⟩
    rcases j with _ | j
    · obtain rfl : d = d' := by simpa using hd
      exact ⟨c, rfl, h.1⟩
    · exact h2 j d' (by simpa using hd)
theorem Ofs.sub {cs ds : List CT} {vs : List Value} (h : Ofs lay B K w cs vs) (hs : subs cs ds = true) : Ofs lay B K w ds vs := by
  obtain ⟨h1, h2⟩ := subs_at hs
  refine ⟨h.1.trans h1, fun j d u hd hu => ?_⟩
  obtain ⟨c, hc, hcd⟩ := h2 j d hd
  exact CT.sub_ok hcd (h.2 j c u hc hu)
theorem Ofs.row {t : TypeId} {arr : Array Value} (h : Ofs lay B K w (lay t) arr.toList) : RowOK lay B K w t arr := fun j u hu => by
  have hj := (Array.getElem?_eq_some_iff.1 hu).1
  have hl : arr.size = (lay t).length := by simpa using h.1
  rw [Nat.mod_eq_of_lt (by omega), List.getElem?_eq_getElem (by omega)]
  exact h.2 j _ u (List.getElem?_eq_getElem (by omega)) (by simpa using hu)
theorem Ofs.one {cs : List CT} {vs : List Value} (h : Ofs lay B K w cs vs) : ∀ v ∈ vs, v.oneCell' = true := fun v hv => by
  obtain ⟨j, hj, rfl⟩ := List.mem_iff_getElem.1 hv
  exact (h.2 j _ _ (List.getElem?_eq_getElem (by have := h.1; omega)) (List.getElem?_eq_getElem hj)).one
theorem cells_one' {v : Value} (h : v.oneCell' = true) : v.cells = #[v] := by cases v <;> first | rfl | cases h
/-- Does it go into cells of these kinds? What it makes longer. -/
def fit : A0 → List CT → Option (List Gr)
  | .val _ cs, ds => if subs cs ds then some [] else none
  | .sli e abs j, [.sl e'] => if e = e' then (if abs = false ∧ j = 0 then some [] else some [.add e j]) else none
  | .sli e true j, [.slb e' m] => if e = e' ∧ j ≤ m then some [] else none
  | _, _ => none
theorem fit_ok {G : FuncId → Bounds → Bounds} {t : A0} {ds : List CT} {gr : List Gr} {v : Value} (h : fit t ds = some gr) (hv : VOK lay B F K w t v) :
    Ofs lay B (den G gr K) w ds v.cells.toList ∧ ∀ e, K e ≤ den G gr K e := by
  match t, h, hv with
  | .val false cs, h, hv =>
    by_cases hs : subs cs ds = true
    · simp only [fit, if_pos hs] at h
      obtain rfl : [] = gr := by simpa using h
      have h1 : v.oneCell' = true := Ofs.one hv v (by simp)
      rw [cells_one' h1]
      exact ⟨Ofs.sub hv hs, fun _ => Nat.le_refl _⟩
    · simp [fit, hs] at h
  | .val true cs, h, ⟨arr, h1, h2⟩ =>
    by_cases hs : subs cs ds = true
    · simp only [fit, if_pos hs] at h
      obtain rfl : [] = gr := by simpa using h
      subst h1
      exact ⟨h2.sub hs, fun _ => Nat.le_refl _⟩
    · simp [fit, hs] at h
  | .sli e abs j, h, ⟨A, n, c, h1, h2, h3, h4⟩ =>
    subst h1
    match ds, h with
    | [.sl e'], h =>
      by_cases he : e = e'
      · subst he
        have key : n ≤ den G gr K e ∧ ∀ x, K x ≤ den G gr K x := by
          by_cases hj : abs = false ∧ j = 0
          · obtain ⟨rfl, rfl⟩ := hj
            simp [fit] at h
            subst h
            exact ⟨by simpa [den] using h4, fun _ => Nat.le_refl _⟩
          · simp [fit, hj] at h
            subst h
            refine ⟨?_, fun x => ?_⟩
            · simp only [den, Gr.den, if_pos]
              cases abs <;> simp at h4 <;> omega
            · simp only [den, Gr.den]
              split <;> omega
        refine ⟨⟨rfl, fun i c' u hc hu => ?_⟩, key.2⟩
        rcases i with _ | i
        · obtain rfl : CT.sl e = c' := by simpa using hc
          obtain rfl : Value.slice A n c = u := by simpa [Value.cells] using hu
          exact ⟨A, n, c, rfl, key.1, h2⟩
        · cases hc
      · simp [fit, he] at h
    | [.slb e' m], h =>
      cases abs with
      | false => simp [fit] at h
      | true =>
        by_cases he : e = e' ∧ j ≤ m
        · obtain ⟨rfl, hjm⟩ := he
          simp [fit, hjm] at h
          subst h
          refine ⟨⟨rfl, fun i c' u hc hu => ?_⟩, fun _ => Nat.le_refl _⟩
          rcases i with _ | i
          · obtain rfl : CT.slb e m = c' := by simpa using hc
            obtain rfl : Value.slice A n c = u := by simpa [Value.cells] using hu
            exact ⟨A, n, c, rfl, by simp at h4; omega, h2⟩
          · cases hc
        · simp [fit, he] at h
  | .ptr cs, h, _ => simp [fit] at h
  | .rd cs, h, _ => simp [fit] at h
  | .slf e, h, _ => simp [fit] at h
  | .inp, h, _ => simp [fit] at h
  | .inpp, h, _ => simp [fit] at h
/-! ### Variables -/
section
variable {P : Program} {v : Value} {cs : List CT}
theorem ptr_cells (h : Typed lay B K w) {b off : Nat} {t : TypeId} {arr : Array Value} (hB : B ≤ b) (hb : Blk w b t arr) (hs : off + cs.length ≤ arr.size) (hl : ∀ (i : Nat) (c : CT), cs[i]? = some c → (lay t)[(off + i) % (lay t).length]? = some c) :
    ∃ vs : List Value, w.rangeAt b off vs ∧ Ofs lay B K w cs vs := by
  refine ⟨(arr.toList.drop off).take cs.length, fun j u hu => ?_, by simp; omega, fun j c u hc hu => ?_⟩
  all_goals
    rw [List.getElem?_take] at hu
    split at hu
    · rw [List.getElem?_drop, Array.getElem?_toList] at hu
      first
        | (rw [hb.cell]; exact hu)
        | (have := h.row b t arr hB hb (off + j) u hu
           rwa [hl j c hc] at this)
    · cases hu
theorem rd_of_ptr (hBF : B ≤ F) (h : VOK lay B F K w (.ptr cs) v) : VOK lay B F K w (.rd cs) v := by
  obtain ⟨b, off, t, arr, h1, h2, h3⟩ := h
  exact ⟨b, off, t, arr, h1, Nat.le_trans hBF h2, h3⟩
theorem load_ok (h : Typed lay B K w) (hv : VOK lay B F K w (.rd cs) v) {ty : TypeId} {d : TypeDesc} {i : TypeInfo} (hu : P.underlying ty = some d) (hi : P.info? ty = some i) (hsz : i.size = cs.length) (hd : d.isRow = false → cs.length = 1) :
    ∃ u, (Instr.loadAt ty v).run P w = .ok u w ∧ VOK lay B F K w (.val d.isRow cs) u ∧ ∃ b off, v = .pointer (some ⟨b, off, none⟩) ∧ ∀ (j : Nat) (x : Value), u.cells[j]? = some x → w.cell? ⟨b, off + j, none⟩ = some x := by
  obtain ⟨b, off, t, arr, rfl, hF, hb, hs, hl⟩ := hv
  obtain ⟨vs, hr, ho⟩ := ptr_cells h hF hb hs hl
  cases hrow : d.isRow with
  | true =>
    exact ⟨_, run_loadAt_mid w b off ty vs d hr hu hrow (by simp [hi, hsz, ho.1]), ⟨vs.toArray, rfl, by simpa using ho⟩, b, off, rfl, fun j x hx => hr j x (by simpa [Value.cells] using hx)⟩
  | false =>
    have h1 := hd hrow
    have hvl : vs.length = 1 := ho.1.trans h1
    obtain ⟨u, rfl⟩ : ∃ u, vs = [u] := List.length_eq_one_iff.1 hvl
    have hc : w.cell? ⟨b, off, none⟩ = some u := hr 0 u rfl
    refine ⟨u, ?_, ho, b, off, rfl, fun j x hx => ?_⟩
    · have hagg : (isAgg ty).run P w = .ok false w := by
        unfold isAgg
        rw [Sem.run_bind, run_underlying hu w]
        cases d <;> simp_all
      simp [Instr.loadAt, Instr.sureAddr, loadVar, hagg, hc]
    · rw [cells_one' (Ofs.one ho u (by simp))] at hx
      rcases j with _ | j
      · obtain rfl : u = x := by simpa using hx
        exact hc
      · simp at hx
theorem setCells_behind {g : Nat} {t : TypeId} (vs : List Value) : ∀ (o : Nat) (w : World) (cs cs' : Array Value), Blk w g t cs → Blk (w.setCells g o vs) g t cs' → ∀ j, o + vs.length ≤ j → cs'[j]? = cs[j]? := by
  induction vs with
  | nil => intro o w cs cs' h h' j _; obtain rfl : cs' = cs := by have := h'.symm.trans h; simpa using this
           rfl
  | cons v vs ih =>
    intro o w cs cs' h h' j hj
    simp only [List.length_cons] at hj
    rw [ih (o + 1) (w.setCell ⟨g, o, none⟩ v) _ cs' (h.set o v) h' j (by omega), Array.getElem?_setIfInBounds_ne (by omega)]
theorem store_ok (h : Typed lay B K w) (hBF : B ≤ F) {p : Value} (hp : VOK lay B F K w (.ptr cs) p) {ty : TypeId} {i : TypeInfo} (hi : P.info? ty = some i) (hsz : i.size = cs.length) (hv : Ofs lay B K w cs v.cells.toList) :
    ∃ w', (Instr.storeAt ty p v).run P w = .ok () w' ∧ Typed lay B K w' ∧ Below F w w' ∧ Keeps w w' ∧ ∃ b off, p = .pointer (some ⟨b, off, none⟩) ∧ (∀ (j : Nat) (x : Value), v.cells[j]? = some x → w'.cell? ⟨b, off + j, none⟩ = some x) ∧ ∀ ad : Addr, ad.block ≠ b ∨ ad.off < off ∨ off + v.cells.size ≤ ad.off → w'.cell? ad = w.cell? ad := by
  obtain ⟨b, off, t, arr, rfl, hF, hb, hs, hl⟩ := hp
  have hlen : v.cells.toList.length = cs.length := hv.1
  have hst := run_storeCells_cells (P := P) b off v.cells.toList 0 w (fun j hj => by rw [hb.cell, Array.getElem?_eq_getElem (by omega)]; rfl) (fun j _ => hb.frozen _) hv.one
  obtain ⟨cs', k1, k2, k3, k4, k5, k6, k7, k8, k9⟩ := setCells_blk (g := b) (t := t) v.cells.toList off w arr hb (by omega)
  have k8' : ∀ j, off + v.cells.toList.length ≤ j → cs'[j]? = arr[j]? := setCells_behind v.cells.toList off w arr cs' hb k1
  refine ⟨w.setCells b off v.cells.toList, ?_, h.sets _ _ _ _ (Nat.le_trans hBF hF) hb fun j u hu => ?_, ⟨k5, k6, k7, by omega, fun k hk => k9 k (by omega)⟩, fun b' t' arr' hb' => ?_, b, off, rfl, fun j x hx => ?_, fun ad had => ?_⟩
  · have hz : v.cells.size = i.size := by rw [← Array.length_toList, hlen, hsz]
    simp only [Nat.add_zero] at hst
    simp [Instr.storeAt, Instr.sureAddr, storeVar, sizeOf, typeInfo, hi, hz, hst]
  · have hj : j < cs.length := by rw [← hlen]; exact (List.getElem?_eq_some_iff.1 hu).1
    rw [hl j _ (List.getElem?_eq_getElem hj)]
    exact hv.2 j _ u (List.getElem?_eq_getElem hj) hu
  · by_cases hbb : b' = b
    · subst hbb
      obtain ⟨rfl, rfl⟩ : arr' = arr ∧ t' = t := by have := hb'.symm.trans hb; simpa using this
      exact ⟨cs', k1, k2⟩
    · exact ⟨arr', (k9 b' hbb).trans hb', rfl⟩
  · have hj : j < v.cells.toList.length := by have := (Array.getElem?_eq_some_iff.1 hx).1; simpa using this
    rw [k1.cell, k4 j hj]
    simpa using hx
  · obtain ⟨ab, ao, sp⟩ := ad
    by_cases hbb : ab = b
    · subst hbb
      have hout : ao < off ∨ off + v.cells.toList.length ≤ ao := by simpa using had
      have e : cs'[ao]? = arr[ao]? := by
        rcases hout with ho | ho
        · exact k3 ao ho
        · exact k8' ao ho
      unfold World.cell?
      rw [k1, hb]
      simp only [e]
    · unfold World.cell?
      rw [k9 ab hbb]
/-- A new variable. -/
theorem new_ok (h : Typed lay B K w) (hF : F ≤ w.heap.size) {ty : TypeId} (hv : Ofs lay B K w (lay ty) v.cells.toList) :
    ∃ ad w', (newVar ty v).run P w = .ok ad w' ∧ (ad = ⟨w.heap.size, 0, none⟩ ∧ w' = w.alloc (.cells v.cells ty)) ∧ VOK lay B F K w' (.ptr (lay ty)) (.pointer (some ad)) ∧ Typed lay B K w' ∧ Below F w w' ∧ Keeps w w' := by
  refine ⟨⟨w.heap.size, 0, none⟩, w.alloc (.cells v.cells ty), ?_, ⟨rfl, rfl⟩, ⟨w.heap.size, 0, ty, v.cells, rfl, hF, Blk.new w ty v.cells, by have := hv.1; simp at this; omega, fun i c hc => ?_⟩, h.alloc _ _ (Ofs.row hv), (Below.refl F w).alloc hF _, Keeps.alloc w _⟩
  · simp [newVar, newRow]
  · have hi := (List.getElem?_eq_some_iff.1 hc).1
    rw [Nat.zero_add, Nat.mod_eq_of_lt hi]
    exact hc
end
end
end Go.Tz
/-
  An operation is looked at: what it needs of the temporaries, what it makes; and that it is so. Plain laws.
-/
namespace Go.Tz
open Go.Rp Go.RowKit

abbrev Gd := Option (Nat × Bool)
abbrev Env := List (Nat × Gd × AT)
def find : Env → Nat → Option (Gd × AT)
  | [], _ => none
  | (j, x) :: Γ, i => bif Nat.beq j i then some x else find Γ i
def look (Γ : Env) (g : Gd) (i : Nat) : Option AT :=
  match find Γ i with
  | some (none, t) => some t
  | some (some d, t) => if g = some d then some t else none
  | none => none
def constC : Value → Option CT
  | .int k n => some (.int k n n)
  | .bool _ => some .bool
  | .slice none 0 0 => some .nil
  | _ => none
def constCs : List Value → Option (List CT)
  | [] => some []
  | v :: vs => match constC v, constCs vs with
    | some c, some cs => some (c :: cs)
    | _, _ => none
def constT : Value → Option A0
  | .agg arr => (constCs arr.toList).map (.val true)
  | v => (constC v).map fun c => .val false [c]
def opnd (Γ : Env) (g : Gd) : Operand → Option A0
  | .tmp i => match look Γ g i with
    | some (.one t) => some t
    | _ => none
  | .const v => constT v
  | _ => none
/-- What a function takes and gives. -/
structure Sg where
  ins : List A0
  outs : List A0
  flat : Bool
def retT : List A0 → AT
  | [t] => .one t
  | ts => .tup ts
def asFresh : A0 → TypeId → Option (Bool × Nat)
  | .val false [.nil], _ => some (true, 0)
  | .sli e' abs j, e => if e = e' then some (abs, j) else none
  | _, _ => none
def asRd : A0 → Option (List CT)
  | .ptr cs => some cs
  | .rd cs => some cs
  | _ => none
def asAny : A0 → TypeId → Option (Bool × Nat)
  | .val false [.sl e'], e => if e = e' then some (false, 0) else none
  | .val false [.slb e' m], e => if e = e' then some (true, m) else none
  | t, e => asFresh t e
def fitA : A0 → A0 → Option (List Gr)
  | .val agg' cs, .val agg ds => if agg' = agg ∧ subs cs ds = true then some [] else none
  | .sli e abs j, .val false ds => fit (.sli e abs j) ds
  | .inp, .inp => some []
  | _, _ => none
def fitAs (Γ : Env) (g : Gd) : List Operand → List A0 → Option (List Gr)
  | [], [] => some []
  | x :: xs, t :: ts => match opnd Γ g x with
    | some u => match fitA u t, fitAs Γ g xs ts with
      | some gr, some grs => some (gr ++ grs)
      | _, _ => none
    | none => none
  | _, _ => none
def setT (cs : List CT) (off : Nat) (ds : List CT) : List CT := cs.take off ++ (ds ++ cs.drop (off + ds.length))
def fillT (place : Nat → Option (Nat × Nat)) (cs : List CT) : List (Nat × List CT) → Option (List CT)
  | [] => some cs
  | (i, ds) :: rest => match place i with
    | none => none
    | some (off, size) => if ds.length = size ∧ off + ds.length ≤ cs.length then fillT place (setT cs off ds) rest else none
def partsT (Γ : Env) (g : Gd) : List (Nat × Operand) → Option (List (Nat × List CT))
  | [] => some []
  | (i, x) :: ps => match opnd Γ g x, partsT Γ g ps with
    | some (.val _ ds), some rest => some ((i, ds) :: rest)
    | _, _ => none
def fullT (k : IntKind) : A0 := .val false [.int k k.min k.max]
def boolT : A0 := .val false [.bool]
def rngT (k : IntKind) (lo hi : Int) : A0 := if k.min ≤ lo ∧ hi ≤ k.max then .val false [.int k lo hi] else fullT k
def binT (op : BinOp) (k : IntKind) (lo hi lo' hi' : Int) : Option A0 :=
  match op with
  | .add => some (rngT k (lo + lo') (hi + hi'))
  | .sub => some (rngT k (lo - hi') (hi - lo'))
  | .mul => some (if 0 ≤ lo ∧ 0 ≤ lo' then rngT k 0 (hi * hi') else fullT k)
  | .quo => if lo' = hi' ∧ lo' ≠ 0 then some (if 0 ≤ lo ∧ 0 < lo' then rngT k 0 (hi / lo') else fullT k) else none
  | .rem => if lo' = hi' ∧ 0 < lo' ∧ 0 ≤ lo then some (.val false [.int k 0 (lo' - 1)]) else if lo' = hi' ∧ 0 < lo' then some (.val false [.int k (1 - lo') (lo' - 1)]) else if 0 < lo' ∧ 0 ≤ lo then some (.val false [.int k 0 (hi' - 1)]) else if 0 < lo' then some (.val false [.int k (1 - hi') (hi' - 1)]) else none
  | .xor | .and | .or | .andNot => some (fullT k)
  | .eql | .neq | .lss | .leq | .gtr | .geq => some boolT
  | _ => none
/-- What a choice of two comes to. -/
def joinA (t u : A0) : Option A0 :=
  match t, u with
  | .val a cs, .val a' ds => if a = a' then (if subs cs ds = true then some (.val a ds) else if subs ds cs = true then some (.val a cs) else none) else none
  | t, u => if t = u then some t else none

section
variable (P : Program) (lay : Lay) (els : List (TypeId × TypeId × Nat)) (Fs : FuncId → Option Sg)
def pickT (Γ : Env) (g : Gd) (d : Nat) (b : Bool) (x : Operand) : Option A0 :=
  match opnd Γ g x with
  | some t => some t
  | none => opnd Γ (some (d, b)) x
def chkCall (Γ : Env) (g : Gd) (c : Call) : Option (AT × List Gr) :=
  match c.callee with
  | .value (.func f) => match Fs f with
    | some s => match fitAs Γ g c.args.toList s.ins with
      | some gr => some (retT s.outs, if s.flat then gr else gr ++ [.fn f])
      | none => none
    | none => none
  | .builtin .append => match c.args.toList, c.argTypes.toList with
    | [x, y], [t, t'] => match opnd Γ g x, opnd Γ g y, els.find? (fun p => Nat.beq p.1 t) with
      | some tx, some ty, some (_, e, by_) => match asFresh tx e, asAny ty e with
        | some (b, j), some (b', j') => if t = t' ∧ (b = true ∨ b' = true) ∧ j ≤ 206158430208 ∧ j' ≤ 206158430208 ∧ by_ ≤ 200 then some (.one (.sli e (b && b') (j + j')), []) else none
        | _, _ => none
      | _, _, _ => none
    | _, _ => none
  | .builtin .len => match c.args.toList, c.argTypes.toList with
    | [x], [t] => match P.underlying t, opnd Γ g x with
      | some (.slice _), some (.val false [.sl _]) => some (.one (.val false [.int .i64 0 9223372036854775807]), [])
      | some (.slice _), some (.val false [.slb _ _]) => some (.one (.val false [.int .i64 0 9223372036854775807]), [])
      | some (.slice _), some (.slf _) => some (.one (.val false [.int .i64 0 9223372036854775807]), [])
      | some (.slice _), some (.val false [.nil]) => some (.one (.val false [.int .i64 0 9223372036854775807]), [])
      | some (.slice _), some (.sli _ _ _) => some (.one (.val false [.int .i64 0 9223372036854775807]), [])
      | some (.slice _), some .inp => some (.one (.val false [.int .i64 0 9223372036854775807]), [])
      | _, _ => none
    | _, _ => none
  | .builtin .min => match c.args.toList with
    | [x, y] => match opnd Γ g x, opnd Γ g y with
      | some (.val false [.int k lo hi]), some (.val false [.int k' lo' hi']) => if k = k' then some (.one (.val false [.int k (if lo ≤ lo' then lo else lo') (if hi ≤ hi' then hi else hi')]), []) else none
      | _, _ => none
    | _ => none
  | .builtin .max => match c.args.toList with
    | [x, y] => match opnd Γ g x, opnd Γ g y with
      | some (.val false [.int k lo hi]), some (.val false [.int k' lo' hi']) => if k = k' then some (.one (.val false [.int k (if lo ≤ lo' then lo' else lo) (if hi ≤ hi' then hi' else hi)]), []) else none
      | _, _ => none
    | _ => none
  | _ => none
/-- What an operation makes (none: nothing), and what it makes longer. -/
def chkOp (Γ : Env) (g : Gd) (o : Oper) : Option (Option AT × List Gr) :=
  match o.op with
  | .move x | .assign x => match x with
    | .tmp i => (look Γ g i).map fun t => (some t, [])
    | x => (opnd Γ g x).map fun t => (some (.one t), [])
  | .pick c x y => match c with
    | .tmp d => match look Γ g d with
      | some (.one (.val false [.bool])) => match pickT Γ g d true x, pickT Γ g d false y with
        | some t, some u => (joinA t u).map fun r => (some (.one r), [])
        | _, _ => none
      | _ => none
    | _ => none
  | .alloc e => match P.info? e with
    | some i => match i.zero with
      | some z => match constCs z.cells.toList with
        | some zs => if subs zs (lay e) = true then some (some (.one (.ptr (lay e))), []) else none
        | none => none
      | none => none
    | none => none
  | .box e x => match opnd Γ g x with
    | some t => match fit t (lay e) with
      | some gr => some (some (.one (.ptr (lay e))), gr)
      | none => none
    | none => none
  | .build t parts => match P.info? t, P.underlying t with
    | some it, some (.struct fields) => match it.zero, fields.toList.mapM (fun f => (P.info? f.type).map fun i => (f.offset, i.size)), partsT Γ g parts.toList with
      | some z, some places, some ps => match constCs z.cells.toList with
        | some zs => (fillT (places.toArray[·]?) zs ps).map fun r => (some (.one (.val true r)), [])
        | none => none
      | _, _, _ => none
    | _, _ => none
  | .buildSlice t n parts => match P.underlying t with
    | some (.slice e) => match P.info? e with
      | some ie => match ie.zero, partsT Γ g parts.toList with
        | some z, some ps => match constCs z.cells.toList with
          | some zs => match fillT (fun i => some (i * ie.size, ie.size)) zs ps with
            | some r => if n = 1 ∧ z.cells.size = ie.size ∧ 0 < ie.size ∧ ie.size ≤ 1000 ∧ subs r (lay e) = true then some (some (.one (.sli e true 1)), []) else none
            | none => none
          | none => none
        | _, _ => none
      | none => none
    | _ => none
  | .load t x => match (opnd Γ g x).bind asRd, P.underlying t, P.info? t with
    | some cs, some d, some i => if i.size = cs.length ∧ (d.isRow = true ∨ cs.length = 1) then some (some (.one (.val d.isRow cs)), []) else none
    | _, _, _ => none
  | .store t x y => match opnd Γ g x, opnd Γ g y, P.info? t with
    | some (.ptr cs), some u, some i => if i.size = cs.length then (fit u cs).map fun gr => (none, gr) else none
    | _, _, _ => none
  | .binOp op _ x y _ => match opnd Γ g x, opnd Γ g y with
    | some (.val false [.int k lo hi]), some (.val false [.int k' lo' hi']) =>
      if op = .shr then (if 0 ≤ lo ∧ 0 ≤ lo' then some (some (.one (.val false [.int k 0 hi])), []) else none)
      else if k = k' then (binT op k lo hi lo' hi').map fun t => (some (.one t), []) else none
    | _, _ => none
  | .unOp .not _ x => match opnd Γ g x with
    | some (.val false [.bool]) => some (some (.one boolT), [])
    | _ => none
  | .convert src dst x => match P.underlying src, P.underlying dst, opnd Γ g x with
    | some _, some (.int k), some (.val false [.int _ lo hi]) => some (some (.one (rngT k lo hi)), [])
    | _, _, _ => none
  | .extract x i => match x with
    | .tmp j => match look Γ g j with
      | some (.tup ts) => (ts[i]?).map fun t => (some (.one t), [])
      | _ => none
    | _ => none
  | .fieldAddr s x f => match P.underlying s, opnd Γ g x with
    | some (.struct fields), some (.ptr cs) => match fields[f]? with
      | some fd => match P.info? fd.type with
        | some i => if i.size ≠ 0 ∧ fd.offset + i.size ≤ cs.length then some (some (.one (.ptr ((cs.drop fd.offset).take i.size))), []) else none
        | none => none
      | none => none
    | some (.struct fields), some (.rd cs) => match fields[f]? with
      | some fd => match P.info? fd.type with
        | some i => if i.size ≠ 0 ∧ fd.offset + i.size ≤ cs.length then some (some (.one (.rd ((cs.drop fd.offset).take i.size))), []) else none
        | none => none
      | none => none
    | _, _ => none
  | .call c => (chkCall P els Fs Γ g c).map fun r => (some r.1, r.2)
  | _ => none
end
end Go.Tz
/-
  An operation that was looked at runs, and makes what was said. Plain laws.
-/
namespace Go.Tz
open Go.Rp Go.RowKit

def GH (a : Act) : Gd → Prop
  | none => True
  | some (d, b) => a.eval (.tmp d) = .bool b
section
variable {P : Program} {lay : Lay} {B F : Nat} {K K' : Bounds} {w w' : World} {G : FuncId → Bounds → Bounds} {Γ : Env} {a : Act} {S : Nat → Prop} {g : Gd}
def EOK (lay : Lay) (B F : Nat) (K : Bounds) (w : World) (S : Nat → Prop) (Γ : Env) (a : Act) : Prop :=
  ∀ i g t, S i → (i, g, t) ∈ Γ → GH a g → TOK lay B F K w t (a.eval (.tmp i))
theorem find_mem : ∀ {Γ : Env} {i : Nat} {x : Gd × AT}, find Γ i = some x → (i, x) ∈ Γ
  | [], _, _, h => by cases h
  | (j, y) :: Γ, i, x, h => by
    unfold find at h
    cases hb : Nat.beq j i with
    | true =>
      rw [hb] at h
      obtain rfl : y = x := by simpa using h
      rw [Nat.eq_of_beq_eq_true hb]
      exact List.mem_cons_self ..
    | false =>
      rw [hb] at h
      exact List.mem_cons_of_mem _ (find_mem (by simpa using h))
theorem look_ok (hE : EOK lay B F K w S Γ a) (hg : GH a g) {i : Nat} (hS : S i) {t : AT} (h : look Γ g i = some t) : TOK lay B F K w t (a.eval (.tmp i)) := by
  unfold look at h
  split at h
  · rename_i t' hf
    obtain rfl : t' = t := by simpa using h
    exact hE i none t' hS (find_mem hf) trivial
  · rename_i d t' hf
    split at h
    · rename_i hd
      obtain rfl : t' = t := by simpa using h
      exact hE i (some d) t' hS (find_mem hf) (hd ▸ hg)
    · cases h
  · cases h
theorem constC_ok {v : Value} {c : CT} (h : constC v = some c) : CellOK lay B K w (some c) v := by
  unfold constC at h
  split at h
  · obtain rfl := Option.some.inj h
    exact ⟨_, rfl, Int.le_refl _, Int.le_refl _⟩
  · obtain rfl := Option.some.inj h
    exact ⟨_, rfl⟩
  · obtain rfl := Option.some.inj h
    rfl
  · cases h
theorem constCs_ok : ∀ {vs : List Value} {cs : List CT}, constCs vs = some cs → Ofs lay B K w cs vs
  | [], cs, h => by
    obtain rfl : [] = cs := by simpa [constCs] using h
    exact ⟨rfl, fun j c u hc => by cases hc⟩
  | v :: vs, cs, h => by
    unfold constCs at h
    split at h
    · rename_i c cs' h1 h2
      obtain rfl := Option.some.inj h
      have := constCs_ok (vs := vs) h2
      refine ⟨by simp [this.1], fun j c' u hc hu => ?_⟩
      rcases j with _ | j
      · obtain rfl : c = c' := by simpa using hc
        obtain rfl : v = u := by simpa using hu
        exact constC_ok h1
      · exact this.2 j c' u (by simpa using hc) (by simpa using hu)
    · cases h
theorem constT_ok {v : Value} {t : A0} (h : constT v = some t) : VOK lay B F K w t v := by
  unfold constT at h
  split at h
  · rename_i arr
    obtain ⟨cs, h1, rfl⟩ := Option.map_eq_some_iff.1 h
    exact ⟨arr, rfl, constCs_ok h1⟩
  · obtain ⟨c, h1, rfl⟩ := Option.map_eq_some_iff.1 h
    refine ⟨rfl, fun j c' u hc hu => ?_⟩
    rcases j with _ | j
    · obtain rfl : c = c' := by simpa using hc
      obtain rfl : v = u := by simpa using hu
      exact constC_ok h1
    · cases hc
theorem opnd_ok (hE : EOK lay B F K w S Γ a) (hg : GH a g) {x : Operand} (hS : ∀ i, x = .tmp i → S i) {t : A0} (h : opnd Γ g x = some t) : VOK lay B F K w t (a.eval x) := by
  unfold opnd at h
  split at h
  · rename_i i
    split at h
    · rename_i t' hl
      obtain rfl := Option.some.inj h
      exact look_ok hE hg (hS i rfl) hl
    · cases h
  · exact constT_ok h
  · cases h
theorem VOK.int {k : IntKind} {lo hi : Int} {v : Value} (h : VOK lay B F K w (.val false [.int k lo hi]) v) : ∃ x, v = .int k x ∧ lo ≤ x ∧ x ≤ hi := h.2 0 _ v rfl rfl
theorem VOK.bool {v : Value} (h : VOK lay B F K w (.val false [.bool]) v) : ∃ b, v = .bool b := h.2 0 _ v rfl rfl
theorem vok_cell {c : CT} {v : Value} (h : CellOK lay B K w (some c) v) : VOK lay B F K w (.val false [c]) v := ⟨rfl, fun j c' u hc hu => by
  rcases j with _ | j
  · obtain rfl : c = c' := by simpa using hc
    obtain rfl : v = u := by simpa using hu
    exact h
  · cases hc⟩
theorem vok_int {k : IntKind} {lo hi x : Int} (h1 : lo ≤ x) (h2 : x ≤ hi) : VOK lay B F K w (.val false [.int k lo hi]) (.int k x) := vok_cell ⟨x, rfl, h1, h2⟩
theorem vok_bool (b : Bool) : VOK lay B F K w boolT (.bool b) := vok_cell ⟨b, rfl⟩
theorem wrap_in (k : IntKind) (x : Int) : k.min ≤ k.wrap x ∧ k.wrap x ≤ k.max := by
  cases k <;> simp [IntKind.wrap, IntKind.min, IntKind.max, IntKind.bits, IntKind.signed] <;> omega
theorem vok_full (k : IntKind) (x : Int) : VOK lay B F K w (fullT k) (.int k (k.wrap x)) := vok_int (wrap_in k x).1 (wrap_in k x).2
theorem wrap_id {k : IntKind} {x : Int} (h1 : k.min ≤ x) (h2 : x ≤ k.max) : k.wrap x = x := by
  cases k <;> simp [IntKind.wrap, IntKind.min, IntKind.max, IntKind.bits, IntKind.signed] at h1 h2 ⊢ <;> omega
theorem vok_rng {k : IntKind} {lo hi x : Int} (h1 : lo ≤ x) (h2 : x ≤ hi) : VOK lay B F K w (rngT k lo hi) (.int k (k.wrap x)) := by
  unfold rngT
  split
  · rename_i h
    rw [wrap_id (by omega) (by omega)]
    exact vok_int h1 h2
  · exact vok_full k x
theorem asRd_ok (hBF : B ≤ F) {t : A0} {cs : List CT} (h : asRd t = some cs) {v : Value} (hv : VOK lay B F K w t v) : VOK lay B F K w (.rd cs) v := by
  unfold asRd at h
  split at h
  · obtain rfl := Option.some.inj h
    exact rd_of_ptr hBF hv
  · obtain rfl := Option.some.inj h
    exact hv
  · cases h
theorem asFresh_ok {t : A0} {e : TypeId} {b : Bool} {j : Nat} (h : asFresh t e = some (b, j)) {v : Value} (hv : VOK lay B F K w t v) :
    ∃ A n c, v = .slice A n c ∧ SlOK lay B w e A n c ∧ FreshA F A ∧ n ≤ (if b then j else K e + j) := by
  unfold asFresh at h
  split at h
  · simp at h
    obtain ⟨rfl, rfl⟩ := h
    obtain rfl := hv.2 0 _ v rfl rfl
    exact ⟨none, 0, 0, rfl, SlOK.nil _ _, FreshA.none_ _, by simp⟩
  · split at h
    · rename_i he
      subst he
      simp at h
      obtain ⟨rfl, rfl⟩ := h
      exact hv
    · cases h
  · cases h
theorem asAny_ok {t : A0} {e : TypeId} {b : Bool} {j : Nat} (h : asAny t e = some (b, j)) {v : Value} (hv : VOK lay B F K w t v) :
    ∃ A n c, v = .slice A n c ∧ SlOK lay B w e A n c ∧ n ≤ (if b then j else K e + j) := by
  unfold asAny at h
  split at h
  · split at h
    · rename_i he
      subst he
      simp at h
      obtain ⟨rfl, rfl⟩ := h
      obtain ⟨A, n, c, rfl, h1, h2⟩ := hv.2 0 _ v rfl rfl
      exact ⟨A, n, c, rfl, h2, by simpa using h1⟩
    · cases h
  · split at h
    · rename_i he
      subst he
      simp at h
      obtain ⟨rfl, rfl⟩ := h
      obtain ⟨A, n, c, rfl, h1, h2⟩ := hv.2 0 _ v rfl rfl
      exact ⟨A, n, c, rfl, h2, by simpa using h1⟩
    · cases h
  · obtain ⟨A, n, c, h1, h2, _, h4⟩ := asFresh_ok h hv
    exact ⟨A, n, c, h1, h2, h4⟩
theorem fitA_ok {t want : A0} {gr : List Gr} (h : fitA t want = some gr) {v : Value} (hv : VOK lay B F K w t v) : VOK lay B F (den G gr K) w want v ∧ ∀ e, K e ≤ den G gr K e := by
  unfold fitA at h
  split at h
  · rename_i agg' cs agg ds
    split at h
    · rename_i hs
      obtain rfl := Option.some.inj h
      obtain ⟨rfl, hs⟩ := hs
      refine ⟨?_, fun _ => Nat.le_refl _⟩
      cases agg' with
      | false => exact Ofs.sub hv hs
      | true => obtain ⟨arr, h1, h2⟩ := hv; exact ⟨arr, h1, h2.sub hs⟩
    · cases h
  · rename_i e abs j ds
    obtain ⟨h1, h2⟩ := fit_ok (G := G) h hv
    obtain ⟨A, n, c, rfl, _⟩ := hv
    exact ⟨by show Ofs lay B (den G gr K) w ds [Value.slice A n c]; simpa [Value.cells] using h1, h2⟩
  · obtain rfl := Option.some.inj h
    exact ⟨hv, fun _ => Nat.le_refl _⟩
  · cases h
theorem fitAs_ok : ∀ {xs : List Operand} {ts : List A0} {gr : List Gr} {K : Bounds}, EOK lay B F K w S Γ a → GH a g → (∀ i, .tmp i ∈ xs → S i) → fitAs Γ g xs ts = some gr → VOKs lay B F (den G gr K) w ts (xs.map a.eval) ∧ ∀ e, K e ≤ den G gr K e
  | [], [], gr, K, _, _, _, h => by
    obtain rfl : [] = gr := by simpa [fitAs] using h
    exact ⟨trivial, fun _ => Nat.le_refl _⟩
  | x :: xs, t :: ts, gr, K, hE, hg, hS, h => by
    unfold fitAs at h
    split at h
    · rename_i u hu
      split at h
      · rename_i gr1 gr2 h1 h2
        obtain rfl := Option.some.inj h
        obtain ⟨k1, k2⟩ := fitA_ok (G := G) h1 (opnd_ok hE hg (fun i hi => hS i (by simp [hi])) hu)
        have hE' : EOK lay B F (den G gr1 K) w S Γ a := fun i g t hi hf hh => (hE i g t hi hf hh).keeps (Keeps.refl _) k2
        obtain ⟨k3, k4⟩ := fitAs_ok hE' hg (fun i hi => hS i (by simp [hi])) h2
        rw [den_append]
        exact ⟨⟨k1.keeps (Keeps.refl _) k4, k3⟩, fun e => Nat.le_trans (k2 e) (k4 e)⟩
      · cases h
    · cases h
  | [], _ :: _, _, _, _, _, _, h => by simp [fitAs] at h
  | _ :: _, [], _, _, _, _, _, h => by simp [fitAs] at h
/-! ### Literals -/
theorem foldl_put (l : List Value) : ∀ (k off : Nat) (cs : Array Value), off + k + l.length ≤ cs.size →
    ((l.zipIdx k).foldl (fun cs p => cs.setIfInBounds (off + p.2) p.1) cs).size = cs.size ∧ ∀ j, ((l.zipIdx k).foldl (fun cs p => cs.setIfInBounds (off + p.2) p.1) cs)[j]? = if off + k ≤ j ∧ j < off + k + l.length then l[j - (off + k)]? else cs[j]? := by
  induction l with
  | nil => intro k off cs _; exact ⟨rfl, fun j => by rw [if_neg (by simp only [List.length_nil]; omega)]; rfl⟩
  | cons v l ih =>
    intro k off cs h
    simp only [List.length_cons] at h
    obtain ⟨h1, h2⟩ := ih (k + 1) off (cs.setIfInBounds (off + k) v) (by simp; omega)
    simp only [List.zipIdx_cons, List.foldl_cons]
    refine ⟨by rw [h1]; simp, fun j => ?_⟩
    rw [h2 j]
    by_cases hj : j = off + k
    · subst hj
      rw [if_neg (by omega), if_pos (by simp only [List.length_cons]; omega), Nat.sub_self]
      simp [Array.getElem?_setIfInBounds_self_of_lt (show off + k < cs.size by omega)]
    · by_cases hr : off + (k + 1) ≤ j ∧ j < off + (k + 1) + l.length
      · rw [if_pos hr, if_pos (by simp; omega), show j - (off + k) = (j - (off + (k + 1))) + 1 by omega]
        simp
      · rw [if_neg hr, if_neg (by simp; omega), Array.getElem?_setIfInBounds_ne (by omega)]
theorem setT_ok {cs ds : List CT} {cells vs : Array Value} {off : Nat} (h : Ofs lay B K w cs cells.toList) (hv : Ofs lay B K w ds vs.toList) (hoff : off + ds.length ≤ cs.length) :
    Ofs lay B K w (setT cs off ds) (vs.zipIdx.foldl (fun cs p => cs.setIfInBounds (off + p.2) p.1) cells).toList := by
  have hl : vs.size = ds.length := by simpa using hv.1
  have hl' : cells.size = cs.length := by simpa using h.1
  have e : vs.zipIdx.foldl (fun cs p => cs.setIfInBounds (off + p.2) p.1) cells = (vs.toList.zipIdx 0).foldl (fun cs p => cs.setIfInBounds (off + p.2) p.1) cells := by
    rw [← Array.foldl_toList]; simp
  obtain ⟨h1, h2⟩ := foldl_put vs.toList 0 off cells (by simp; omega)
  rw [e]
  refine ⟨by rw [Array.length_toList, h1, hl']; simp [setT]; omega, fun j c u hc hu => ?_⟩
  rw [Array.getElem?_toList, h2 j] at hu
  unfold setT at hc
  by_cases hr : off + 0 ≤ j ∧ j < off + 0 + vs.toList.length
  · rw [if_pos hr] at hu
    simp at hr
    rw [List.getElem?_append_right (by simp; omega), List.getElem?_append_left (by simp; omega)] at hc
    have e1 : j - (List.take off cs).length = j - (off + 0) := by simp; omega
    rw [e1] at hc
    exact hv.2 _ c u hc hu
  · rw [if_neg hr] at hu
    simp at hr
    have hu' : cells.toList[j]? = some u := by simpa using hu
    by_cases hj : j < off
    · rw [List.getElem?_append_left (by simp; omega), List.getElem?_take, if_pos hj] at hc
      exact h.2 j c u hc hu'
    · rw [List.getElem?_append_right (by simp; omega), List.getElem?_append_right (by simp; omega), List.getElem?_drop] at hc
      have e2 : off + ds.length + (j - (List.take off cs).length - ds.length) = j := by simp; omega
      rw [e2] at hc
      exact h.2 j c u hc hu'
/-- Parts and their kinds. -/
def Parts (lay : Lay) (B : Nat) (K : Bounds) (w : World) : List (Nat × List CT) → List (Nat × Value) → Prop
  | [], [] => True
  | (i, ds) :: ps, (i', v) :: vs => i = i' ∧ Ofs lay B K w ds v.cells.toList ∧ Parts lay B K w ps vs
  | _, _ => False
theorem fill_ok {place : Nat → Option (Nat × Nat)} : ∀ {ps : List (Nat × List CT)} {vs : List (Nat × Value)} {cs cs' : List CT} {cells : Array Value}, Parts lay B K w ps vs → Ofs lay B K w cs cells.toList → fillT place cs ps = some cs' →
    ∃ r, Instr.fill place cells vs = some r ∧ Ofs lay B K w cs' r.toList
  | [], [], cs, cs', cells, _, h, hf => by
    obtain rfl : cs = cs' := by simpa [fillT] using hf
    exact ⟨cells, rfl, h⟩
  | (i, ds) :: ps, (i', v) :: vs, cs, cs', cells, hp, h, hf => by
    obtain ⟨rfl, hv, hp⟩ := hp
    unfold fillT at hf
    split at hf
    · cases hf
    · rename_i off size hpl
      split at hf
      · rename_i hc
        have hl : v.cells.size = ds.length := by simpa using hv.1
        have hl' : cells.size = cs.length := by simpa using h.1
        obtain ⟨r, h1, h2⟩ := fill_ok hp (setT_ok h hv hc.2) hf
        refine ⟨r, ?_, h2⟩
        simp only [Instr.fill, hpl]
        rw [if_neg (by simp; omega)]
        exact h1
      · cases hf
  | [], _ :: _, _, _, _, hp, _, _ => hp.elim
  | _ :: _, [], _, _, _, hp, _, _ => hp.elim
theorem VOK.cells {agg : Bool} {cs : List CT} {v : Value} (h : VOK lay B F K w (.val agg cs) v) : Ofs lay B K w cs v.cells.toList := by
  cases agg with
  | false => have h1 : v.oneCell' = true := Ofs.one h v (by simp); rw [cells_one' h1]; exact h
  | true => obtain ⟨arr, rfl, h2⟩ := h; exact h2
theorem partsT_ok (hE : EOK lay B F K w S Γ a) (hg : GH a g) : ∀ {ps : List (Nat × Operand)} {r : List (Nat × List CT)}, (∀ i, .tmp i ∈ ps.map (·.2) → S i) → partsT Γ g ps = some r → Parts lay B K w r (ps.map fun (i, x) => (i, a.eval x))
  | [], r, _, h => by
    obtain rfl : [] = r := by simpa [partsT] using h
    trivial
  | (i, x) :: ps, r, hS, h => by
    unfold partsT at h
    split at h
    · rename_i agg ds rest h1 h2
      obtain rfl := Option.some.inj h
      exact ⟨rfl, (opnd_ok hE hg (fun i hi => hS i (by simp [hi])) h1).cells, partsT_ok hE hg (fun i hi => hS i (by simp at hi ⊢; exact .inr hi)) h2⟩
    · cases h
end
end Go.Tz
/-
  An operation that was looked at runs, and makes what was said. Plain laws.
-/
namespace Go.Tz
open Go.Rp Go.RowKit

/-- What is known of a function. -/
structure FnOK (P : Program) (lay : Lay) (G : FuncId → Bounds → Bounds) (f : FuncId) (s : Sg) : Prop where
  enter : ∀ (args : Array Value) (w : World), (callFunc f args).run P w = .ok (.enter f args) w
  flat : s.flat = true → ∀ K, G f K = K
  run : ∀ (B : Nat) (K : Bounds) (w : World) (args : Array Value), (∀ e, G f K e ≤ LIM) → Typed lay B K w → VOKs lay B 0 K w s.ins args.toList →
    Calls P f args w fun e w' => ∃ v, e = .returned v ∧ TOK lay B w.heap.size (G f K) w' (retT s.outs) v ∧ Typed lay B (G f K) w' ∧ Below w.heap.size w w'
section
variable {P : Program} {lay : Lay} {els : List (TypeId × TypeId × Nat)} {Fs : FuncId → Option Sg} {B F : Nat} {K K' : Bounds} {w w' : World} {G : FuncId → Bounds → Bounds} {Γ : Env} {a : Act} {S : Nat → Prop} {g : Gd} {o : Oper} {next : Act → World → Prop} {Q : Exit → Act → World → Prop}
theorem wp_value {v : Value} (h : (execOp a.eval o).run P w = .ok (.value v) w') (k : next (a.put o.dst v) w') : o.wp P a w next Q := by
  unfold Oper.wp; rw [h]; exact k
theorem wp_skipped (h : (execOp a.eval o).run P w = .ok .skip w') (k : next (a.put o.dst undef) w') : o.wp P a w next Q := by
  unfold Oper.wp; rw [h]; exact k
theorem pickT_ok (hE : EOK lay B F K w S Γ a) (hg : GH a g) {d : Nat} {b : Bool} (hd : a.eval (.tmp d) = .bool b) {x : Operand} (hS : ∀ i, x = .tmp i → S i) {t : A0} (h : pickT Γ g d b x = some t) : VOK lay B F K w t (a.eval x) := by
  unfold pickT at h
  split at h
  · rename_i t' ht
    obtain rfl := Option.some.inj h
    exact opnd_ok hE hg hS ht
  · exact opnd_ok hE (g := some (d, b)) hd hS h
theorem joinA_ok {t u r : A0} (h : joinA t u = some r) {v : Value} (hv : VOK lay B F K w t v ∨ VOK lay B F K w u v) : VOK lay B F K w r v := by
  unfold joinA at h
  split at h
  · rename_i a1 cs a2 ds
    split at h
    · rename_i ha
      subst ha
      split at h
      · rename_i hs
        obtain rfl := Option.some.inj h
        rcases hv with hv | hv
        · cases a1 with
          | false => exact Ofs.sub hv hs
          | true => obtain ⟨arr, h1, h2⟩ := hv; exact ⟨arr, h1, h2.sub hs⟩
        · exact hv
      · split at h
        · rename_i hs
          obtain rfl := Option.some.inj h
          rcases hv with hv | hv
          · exact hv
          · cases a1 with
            | false => exact Ofs.sub hv hs
            | true => obtain ⟨arr, h1, h2⟩ := hv; exact ⟨arr, h1, h2.sub hs⟩
        · cases h
    · cases h
  · split at h
    · rename_i he
      obtain rfl := Option.some.inj h
      rcases hv with hv | hv
      · exact hv
      · exact he ▸ hv
    · cases h
theorem binT_ok {op : BinOp} {k : IntKind} {lo hi lo' hi' x y : Int} {t : A0} (h : binT op k lo hi lo' hi' = some t) (h1 : lo ≤ x) (h2 : x ≤ hi) (h3 : lo' ≤ y) (h4 : y ≤ hi') (xt : TypeId) (ox oy : Operand) :
    ∃ v, (do eqGuard op xt ox oy (.int k x) (.int k y); binOp op xt (.int k x) (.int k y) : Sem Value).run P w = .ok v w ∧ VOK lay B F K w t v := by
  have hq : (eqGuard op xt ox oy (.int k x) (.int k y)).run P w = .ok () w := by unfold eqGuard; split <;> rfl
  rw [Sem.run_bind, hq, Result.andThen_ok]
  unfold binT at h
  split at h
  · obtain rfl := Option.some.inj h; exact ⟨_, by simp [binOp, Op.intArith]; rfl, vok_rng (by omega) (by omega)⟩
  · obtain rfl := Option.some.inj h; exact ⟨_, by simp [binOp, Op.intArith]; rfl, vok_rng (by omega) (by omega)⟩
  · obtain rfl := Option.some.inj h
    refine ⟨_, by simp [binOp, Op.intArith]; rfl, ?_⟩
    split
    · rename_i hc
      exact vok_rng (Int.mul_nonneg (by omega) (by omega)) (Int.mul_le_mul h2 h4 (by omega) (by omega))
    · exact vok_full k _
  · split at h
    · rename_i hl
      obtain rfl := Option.some.inj h
      have hy : y ≠ 0 := by omega
      refine ⟨_, by simp [binOp, Op.intDiv, hy]; rfl, ?_⟩
      split
      · rename_i hc
        obtain rfl : y = lo' := by omega
        rw [Int.tdiv_eq_ediv_of_nonneg (by omega)]
        exact vok_rng (Int.ediv_nonneg (by omega) (by omega)) (Int.ediv_le_ediv (by omega) h2)
      · exact vok_full k _
    · cases h
  · split at h
    · rename_i hl
      obtain rfl := Option.some.inj h
      have hy : y ≠ 0 := by omega
      refine ⟨.int k (x.tmod y), by simp [binOp, Op.intDiv, hy], ?_⟩
      have e := Int.tmod_eq_emod_of_nonneg (a := x) (b := y) (by omega)
      have := Int.emod_nonneg x hy
      have := Int.emod_lt_of_pos x (show 0 < y by omega)
      exact vok_int (by omega) (by omega)
    · split at h
      · rename_i hl
        obtain rfl := Option.some.inj h
        have hy : y ≠ 0 := by omega
        refine ⟨.int k (x.tmod y), by simp [binOp, Op.intDiv, hy], ?_⟩
        have h5 := Int.lt_tmod_of_pos x (show 0 < y by omega)
        have h6 := Int.tmod_lt_of_pos x (show 0 < y by omega)
        exact vok_int (by omega) (by omega)
      · split at h
        · rename_i hl
          obtain rfl := Option.some.inj h
          have hy : y ≠ 0 := by omega
          refine ⟨.int k (x.tmod y), by simp [binOp, Op.intDiv, hy], ?_⟩
          have e := Int.tmod_eq_emod_of_nonneg (a := x) (b := y) (by omega)
          have := Int.emod_nonneg x hy
          have := Int.emod_lt_of_pos x (show 0 < y by omega)
          exact vok_int (by omega) (by omega)
        · split at h
          · rename_i hl
            obtain rfl := Option.some.inj h
            have hy : y ≠ 0 := by omega
            refine ⟨.int k (x.tmod y), by simp [binOp, Op.intDiv, hy], ?_⟩
            have h5 := Int.lt_tmod_of_pos x (show 0 < y by omega)
            have h6 := Int.tmod_lt_of_pos x (show 0 < y by omega)
            exact vok_int (by omega) (by omega)
          · cases h
  all_goals first
    | (obtain rfl := Option.some.inj h; exact ⟨_, by simp [binOp, Op.intBits]; rfl, vok_full k _⟩)
    | (obtain rfl := Option.some.inj h; exact ⟨_, by simp [binOp, Op.intCmp]; rfl, vok_bool _⟩)
    | cases h
theorem arr_of {α : Type} {xs : Array α} {l : List α} (h : xs.toList = l) : xs = l.toArray := by rw [← h]
def isWrite (o : Oper) : Bool := match o.op with
  | .store _ _ _ => true
  | .call { callee := .builtin .append, .. } => true
  | _ => false
def Inf0 (P : Program) (o : Oper) (a : Act) (w : World) (v : Value) (w' : World) : Prop :=
  (execOp a.eval o).run P w = .ok (.value v) w' ∨ ((execOp a.eval o).run P w = .ok .skip w' ∧ v = undef) ∨ ∃ f args, (execOp a.eval o).run P w = .ok (.enter f args) w ∧ Below w.heap.size w w'
/-- How it came about. -/
def Inf (P : Program) (o : Oper) (a : Act) (w : World) (v : Value) (w' : World) : Prop :=
  Inf0 P o a w v w' ∧ (isWrite o = false → ∀ ad : Addr, ad.block < w.heap.size → w'.cell? ad = w.cell? ad)
/-- What is to be shown of an operation. -/
def Does (P : Program) (lay : Lay) (B F : Nat) (G : FuncId → Bounds → Bounds) (K : Bounds) (o : Oper) (a : Act) (w : World) (rt : Option AT) (gr : List Gr) : Prop :=
  ∀ (next : Act → World → Prop) (Q : Exit → Act → World → Prop), (∀ v w', (∀ t, rt = some t → TOK lay B F (den G gr K) w' t v) → Typed lay B (den G gr K) w' → Below F w w' → Keeps w w' → Inf P o a w v w' → next (a.put o.dst v) w') → o.wp P a w next Q
theorem does_value (hT : Typed lay B K w) {v : Value} {t : AT} (h : (execOp a.eval o).run P w = .ok (.value v) w) (hv : TOK lay B F K w t v) : Does P lay B F G K o a w (some t) [] := fun next Q hn =>
  wp_value h (hn v w (fun t' ht => by obtain rfl := Option.some.inj ht; exact hv) hT (Below.refl _ _) (Keeps.refl _) ⟨.inl h, fun _ _ _ => rfl⟩)
theorem den_lim (hG : GOK G) {gr : List Gr} (hfit : ∀ e, den G gr K e ≤ LIM) (e : TypeId) : K e ≤ LIM := Nat.le_trans (den_up hG gr K e) (hfit e)
theorem minmax_in (a b x : Int) : (if a ≤ b then a else b) ≤ a ∧ (if a ≤ b then a else b) ≤ b ∧ a ≤ (if a ≤ b then b else a) ∧ b ≤ (if a ≤ b then b else a) := by split <;> omega
theorem chkCall_ok (hG : GOK G) (hFs : ∀ f s, Fs f = some s → FnOK P lay G f s) (hel : ∀ p ∈ els, Elem lay P p.1 p.2.1 p.2.2) (hT : Typed lay B K w) (hBF : B ≤ F) (hF : F ≤ w.heap.size) (hE : EOK lay B F K w S Γ a) (hg : GH a g) {c : Call} (ho : o.op = .call c)
    (hS : ∀ i, .tmp i ∈ c.args.toList → S i) {rt : AT} {gr : List Gr} (hc : chkCall P els Fs Γ g c = some (rt, gr)) (hfit : ∀ e, den G gr K e ≤ LIM) : Does P lay B F G K o a w (some rt) gr := by
  obtain ⟨callee, args, ats⟩ := c
  unfold chkCall at hc
  dsimp only at hc hS
  split at hc
  · rename_i f
    split at hc
    · rename_i s hs
      obtain ⟨h1, h2, h3⟩ := hFs f s hs
      split at hc
      · rename_i gr0 hgr
        simp only [Option.some.injEq, Prod.mk.injEq] at hc
        obtain ⟨rfl, rfl⟩ := hc
        obtain ⟨k1, k2⟩ := fitAs_ok (G := G) hE hg hS hgr
        have hGK : den G (if s.flat = true then gr0 else gr0 ++ [.fn f]) K = G f (den G gr0 K) := by
          split
          · rename_i hfl; rw [h2 hfl]
          · rw [den_append]; rfl
        rw [hGK] at hfit
        intro next Q hn
        rw [hGK] at hn
        have hT' := hT.le k2
        have hx : (execOp a.eval o).run P w = .ok (.enter f (args.map a.eval)) w := by
          have e : execOp a.eval o = callFunc f (#[] ++ args.map a.eval ++ #[]) := by
            unfold execOp
            simp only [ho]
            rfl
          rw [e, h1]
          simp
        unfold Oper.wp
        rw [hx]
        refine (h3 B (den G gr0 K) w (args.map a.eval) hfit hT' (by simpa using k1.from (Nat.zero_le _))).mono ?_
        rintro e w' ⟨v, rfl, hv, hT2, hb⟩
        refine hn v w' (fun t ht => ?_) hT2 (hb.mono hF) (Keeps.below hb) ⟨.inr (.inr ⟨_, _, hx, hb⟩), fun _ ad had => hb.cell had⟩
        obtain rfl := Option.some.inj ht
        match hr : retT s.outs, hv with
        | .one t, hv => exact VOK.from hv hF
        | .tup ts, ⟨vs, e1, e2⟩ => exact ⟨vs, e1, e2.from hF⟩
      · cases hc
    · cases hc
  · split at hc
    · rename_i x y t t' hxs hts
      split at hc
      · rename_i tx ty p1 e by_ hx hy hf
        have hmem := List.mem_of_find?_eq_some hf
        have hp : p1 = t := by have := List.find?_some hf; exact Nat.eq_of_beq_eq_true this
        subst hp
        split at hc
        · rename_i b j b' j' hax hay
          split at hc
          · rename_i hcond
            obtain ⟨rfl, hb, hj, hj', hby⟩ := hcond
            simp only [Option.some.injEq, Prod.mk.injEq] at hc
            obtain ⟨rfl, rfl⟩ := hc
            have hargs := arr_of hxs
            have hats := arr_of hts
            subst hargs hats
            obtain ⟨A, n, c, ex, hs, hfr, hn⟩ := asFresh_ok hax (opnd_ok hE hg (fun i hi => hS i (by simp [hi])) hx)
            obtain ⟨A2, m, c2, ey, hs2, hm⟩ := asAny_ok hay (opnd_ok hE hg (fun i hi => hS i (by simp [hi])) hy)
            have hKe : K e ≤ LIM := den_lim hG hfit e
            simp only [LIM] at hKe
            have hnm : n + m ≤ 68719476736 + 412316860416 := by cases b <;> cases b' <;> simp at hb hn hm <;> omega
            have hby2 : (n + m) * by_ ≤ 140737488355328 := Nat.le_trans (Nat.mul_le_mul hnm hby) (by decide)
            obtain ⟨A', c', w', hrun, r1, r2, r3, r4, r5, _⟩ := run_append_ty (P := P) (w := w) o.type (hel _ hmem) hT hs hfr hF hBF hs2 (by simp only [maxLen]; omega) hby2
            intro next Q hnx
            have hx : (execOp a.eval o).run P w = .ok (.value (.slice A' (n + m) c')) w' := by
              unfold execOp
              simp only [ho, resolve, invoke, builtin, Sem.run_bind, Sem.run_pure, Result.andThen_ok, List.map_toArray, List.map_cons, List.map_nil, ex, ey, hrun]
            refine wp_value (v := .slice A' (n + m) c') (w' := w') hx (hnx _ _ (fun t ht => ?_) r3 r4 r5 ⟨.inl hx, fun h => by simp [isWrite, ho] at h⟩)
            · obtain rfl := Option.some.inj ht
              refine ⟨A', n + m, c', rfl, r1, r2, ?_⟩
              simp only [den]
              cases b <;> cases b' <;> simp at hb hn hm ⊢ <;> omega
          · cases hc
        · cases hc
      · cases hc
    · cases hc
  · split at hc
    · rename_i x t hxs hts
      have hargs := arr_of hxs
      have hats := arr_of hts
      subst hargs hats
      have key : ∀ (A : Option Addr) (n c : Nat) (e : TypeId), P.underlying t = some (.slice e) → a.eval x = .slice A n c → n ≤ 9223372036854775807 → Does P lay B F G K o a w (some (.one (.val false [.int .i64 0 9223372036854775807]))) [] := fun A n c e hu hv hn => by
        refine does_value (F := F) hT (v := .int .i64 n) ?_ (vok_int (F := F) (by omega) (by omega))
        unfold execOp
        simp [ho, resolve, invoke, builtin, hv, Builtin.len_, run_underlying hu, goInt]
      split at hc
      · rename_i e hu hx
        simp only [Option.some.injEq, Prod.mk.injEq] at hc
        obtain ⟨rfl, rfl⟩ := hc
        have hv := opnd_ok hE hg (fun i hi => hS i (by simp [hi])) hx
        obtain ⟨A, n, c, hv, h1, h2⟩ := hv.2 0 _ _ rfl rfl
        exact key A n c _ hu hv (by have := h2.1; have := h2.2.1; simp only [maxLen] at this; omega)
      · rename_i e _ _ hu hx
        simp only [Option.some.injEq, Prod.mk.injEq] at hc
        obtain ⟨rfl, rfl⟩ := hc
        have hv := opnd_ok hE hg (fun i hi => hS i (by simp [hi])) hx
        obtain ⟨A, n, c, hv, h1, h2⟩ := hv.2 0 _ _ rfl rfl
        exact key A n c _ hu hv (by have := h2.1; have := h2.2.1; simp only [maxLen] at this; omega)
      · rename_i e _ hu hx
        simp only [Option.some.injEq, Prod.mk.injEq] at hc
        obtain ⟨rfl, rfl⟩ := hc
        obtain ⟨A, n, c, hv, h1, h2⟩ := opnd_ok hE hg (fun i hi => hS i (by simp [hi])) hx
        exact key A n c _ hu hv (by have := h1.1; have := h1.2.1; simp only [maxLen] at this; omega)
      · rename_i e hu hx
        simp only [Option.some.injEq, Prod.mk.injEq] at hc
        obtain ⟨rfl, rfl⟩ := hc
        have hv := opnd_ok hE hg (fun i hi => hS i (by simp [hi])) hx
        exact key none 0 0 _ hu (hv.2 0 _ _ rfl rfl) (by omega)
      · rename_i e _ _ _ hu hx
        simp only [Option.some.injEq, Prod.mk.injEq] at hc
        obtain ⟨rfl, rfl⟩ := hc
        obtain ⟨A, n, c, hv, h1, h2, h3⟩ := opnd_ok hE hg (fun i hi => hS i (by simp [hi])) hx
        exact key A n c _ hu hv (by have := h1.1; have := h1.2.1; simp only [maxLen] at this; omega)
      · rename_i e hu hx
        simp only [Option.some.injEq, Prod.mk.injEq] at hc
        obtain ⟨rfl, rfl⟩ := hc
        obtain ⟨A, n, c, hv, h1, _⟩ := opnd_ok hE hg (fun i hi => hS i (by simp [hi])) hx
        exact key A n c _ hu hv (by simp only [maxLen] at h1; omega)
      · cases hc
    · cases hc
  · split at hc
    · rename_i x y hxs
      have hargs := arr_of hxs
      subst hargs
      split at hc
      · rename_i k lo hi k' lo' hi' hx hy
        split at hc
        · rename_i hk
          subst hk
          simp only [Option.some.injEq, Prod.mk.injEq] at hc
          obtain ⟨rfl, rfl⟩ := hc
          obtain ⟨u, eu, u1, u2⟩ := (opnd_ok hE hg (fun i hi => hS i (by simp [hi])) hx).int
          obtain ⟨v, ev, v1, v2⟩ := (opnd_ok hE hg (fun i hi => hS i (by simp [hi])) hy).int
          refine does_value (F := F) hT (v := .int k (if v < u then v else u)) ?_ ?_
          · unfold execOp
            simp [ho, resolve, invoke, builtin, eu, ev, Builtin.min_, Builtin.min2]
          · exact vok_int (F := F) (by repeat' split <;> try omega) (by repeat' split <;> try omega)
        · cases hc
      · cases hc
    · cases hc
  · split at hc
    · rename_i x y hxs
      have hargs := arr_of hxs
      subst hargs
      split at hc
      · rename_i k lo hi k' lo' hi' hx hy
        split at hc
        · rename_i hk
          subst hk
          simp only [Option.some.injEq, Prod.mk.injEq] at hc
          obtain ⟨rfl, rfl⟩ := hc
          obtain ⟨u, eu, u1, u2⟩ := (opnd_ok hE hg (fun i hi => hS i (by simp [hi])) hx).int
          obtain ⟨v, ev, v1, v2⟩ := (opnd_ok hE hg (fun i hi => hS i (by simp [hi])) hy).int
          refine does_value (F := F) hT (v := .int k (if v > u then v else u)) ?_ ?_
          · unfold execOp
            simp [ho, resolve, invoke, builtin, eu, ev, Builtin.max_, Builtin.max2]
          · exact vok_int (F := F) (by repeat' split <;> try omega) (by repeat' split <;> try omega)
        · cases hc
      · cases hc
    · cases hc
  · cases hc
end
end Go.Tz
