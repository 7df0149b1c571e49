/-
  How long it takes, in plain Lean: what Session, Bound, Fair and Held come to. No program in sight.
-/
import Derived.Test.YtmcnccfbligeaaaFields
namespace Go.Rp
open Go.RowKit

/-- An operation from when to when. -/
structure Span where
  th : Int
  sq : Int
  ok : Int
  ov : Int
  rc : Int
  rv : Int
  fr : Int
  to : Int
def spanIn (s : Span) : List Value := [.int .i64 s.th, .int .i64 s.sq, .int .u8 s.ok, .int .i32 s.ov, .int .u8 s.rc, .int .i32 s.rv, .int .i64 s.fr, .int .i64 s.to]
structure spanOk (s : Span) : Prop where
  th : (Lit.int .i64 s.th).wf = true
  sq : (Lit.int .i64 s.sq).wf = true
  ok : (Lit.int .u8 s.ok).wf = true
  ov : (Lit.int .i32 s.ov).wf = true
  rc : (Lit.int .u8 s.rc).wf = true
  rv : (Lit.int .i32 s.rv).wf = true
  fr : (Lit.int .i64 s.fr).wf = true
  to : (Lit.int .i64 s.to).wf = true

/-- How many steps. -/
def sesI (t p : Int) : Int := if t < 1 ∨ 64 < t ∨ p < 1 ∨ 1000 < p then 0 else p * (13 * t + 8) + 7 * t + 3
/-- In how many picks. -/
def bndI (t b p : Int) : Int := if sesI t p = 0 ∨ b < 1 ∨ 1000000 < b then 0 else b * (3 * sesI t p + 32)

theorem sesI_in {t p : Int} (h1 : 1 ≤ t) (h2 : t ≤ 64) (h3 : 1 ≤ p) (h4 : p ≤ 1000) : sesI t p = p * (13 * t + 8) + 7 * t + 3 := by
  unfold sesI; rw [if_neg (by omega)]
theorem sesI_out {t p : Int} (h : t < 1 ∨ 64 < t ∨ p < 1 ∨ 1000 < p) : sesI t p = 0 := if_pos h
theorem sesI_prod {t p : Int} (h1 : 1 ≤ t) (h2 : t ≤ 64) (h3 : 1 ≤ p) (h4 : p ≤ 1000) : 0 ≤ p * (13 * t + 8) ∧ p * (13 * t + 8) ≤ 1000 * 840 :=
  ⟨Int.mul_nonneg (by omega) (by omega), Int.mul_le_mul (by omega) (by omega) (by omega) (by omega)⟩
theorem sesI_bd (t p : Int) : 0 ≤ sesI t p ∧ sesI t p ≤ 840451 := by
  unfold sesI
  split
  · omega
  · rename_i h
    have := sesI_prod (t := t) (p := p) (by omega) (by omega) (by omega) (by omega)
    omega
theorem bndI_prod {s b : Int} (h0 : 0 ≤ s) (h1 : s ≤ 840451) (h2 : 1 ≤ b) (h3 : b ≤ 1000000) : 0 ≤ b * (3 * s + 32) ∧ b * (3 * s + 32) ≤ 1000000 * 2521385 :=
  ⟨Int.mul_nonneg (by omega) (by omega), Int.mul_le_mul (by omega) (by omega) (by omega) (by omega)⟩
theorem bndI_bd (t b p : Int) : 0 ≤ bndI t b p ∧ bndI t b p ≤ 1000000 * 2521385 := by
  unfold bndI
  split
  · omega
  · have := sesI_bd t p
    exact bndI_prod this.1 this.2 (by omega) (by omega)

theorem sesI_pos {t p : Int} (h1 : 1 ≤ t) (h2 : t ≤ 64) (h3 : 1 ≤ p) (h4 : p ≤ 1000) : 10 ≤ sesI t p := by
  rw [sesI_in h1 h2 h3 h4]
  have := (sesI_prod h1 h2 h3 h4).1
  omega
theorem bndI_in {t b p : Int} (h1 : 1 ≤ t) (h2 : t ≤ 64) (h3 : 1 ≤ p) (h4 : p ≤ 1000) (h5 : 1 ≤ b) (h6 : b ≤ 1000000) : bndI t b p = b * (3 * sesI t p + 32) := by
  unfold bndI
  have := sesI_pos h1 h2 h3 h4
  rw [if_neg (by omega)]
theorem sesI_mono_t {t p : Int} (h1 : 1 ≤ t) (h2 : t ≤ 63) (h3 : 1 ≤ p) (h4 : p ≤ 1000) : sesI t p < sesI (t + 1) p := by
  rw [sesI_in h1 (by omega) h3 h4, sesI_in (by omega) (by omega) h3 h4]
  have : p * (13 * (t + 1) + 8) = p * (13 * t + 8) + p * 13 := by rw [← Int.mul_add]; congr 1; omega
  omega
theorem sesI_mono_p {t p : Int} (h1 : 1 ≤ t) (h2 : t ≤ 64) (h3 : 1 ≤ p) (h4 : p ≤ 999) : sesI t p < sesI t (p + 1) := by
  rw [sesI_in h1 h2 h3 (by omega), sesI_in h1 h2 (by omega) (by omega), Int.add_mul]
  omega
theorem mul_lt_right {b x y : Int} (hb : 1 ≤ b) (h : x < y) : b * (3 * x + 32) < b * (3 * y + 32) := Int.mul_lt_mul_of_pos_left (by omega) (by omega)

/-- Does an operation wait all through a window, and is not picked? -/
def missB (picks : List Int) (at_ b : Nat) (s : Span) : Bool :=
  decide (s.fr ≤ (at_ : Int)) && (decide (s.to < 0) || decide (((at_ + b : Nat) : Int) ≤ s.to)) && !((picks.drop at_).take b).contains s.th
def winB (picks : List Int) (spans : List Span) (at_ b : Nat) : Bool := spans.all fun s => !missB picks at_ b s
/-- Are all picked often enough? -/
def fairN (picks : List Int) (spans : List Span) (fr to b : Nat) : Bool := (List.range (to + 1 - b - fr)).all fun i => winB picks spans (fr + i) b
def fairI (picks : List Int) (spans : List Span) (fr to b : Int) : Bool :=
  if fr < 0 ∨ (picks.length : Int) < to ∨ to < fr ∨ b < 1 then false else fairN picks spans fr.toNat to.toNat b.toNat
/-- Was whoever waited told in time? -/
def lateB (picks : List Int) (spans : List Span) (n b : Int) (s : Span) : Bool :=
  decide (0 ≤ s.fr) && decide (s.fr ≤ (picks.length : Int) - n) && (decide (s.to < 0) || decide (s.fr + n ≤ s.to)) && fairI picks spans s.fr (s.fr + n) b
def heldI (t p : Int) (picks : List Int) (spans : List Span) (b : Int) : Bool :=
  if bndI t b p = 0 ∨ (picks.length : Int) < bndI t b p then true else spans.all fun s => !lateB picks spans (bndI t b p) b s

theorem fairN_iff {picks : List Int} {spans : List Span} {fr to b : Nat} : fairN picks spans fr to b = true ↔ ∀ k, fr ≤ k → k + b ≤ to → winB picks spans k b = true := by
  unfold fairN
  rw [List.all_eq_true]
  constructor
  · intro h k h1 h2
    have := h (k - fr) (List.mem_range.2 (by omega))
    rwa [show fr + (k - fr) = k by omega] at this
  · intro h i hi
    rw [List.mem_range] at hi
    exact h _ (by omega) (by omega)
theorem fairN_false {picks : List Int} {spans : List Span} {fr to b k : Nat} (h1 : fr ≤ k) (h2 : k + b ≤ to) (h : winB picks spans k b = false) : fairN picks spans fr to b = false := by
  cases hf : fairN picks spans fr to b with
  | false => rfl
  | true => rw [fairN_iff.1 hf k h1 h2] at h; cases h
theorem winB_iff {picks : List Int} {spans : List Span} {k b : Nat} : winB picks spans k b = true ↔ ∀ s ∈ spans, missB picks k b s = false := by
  unfold winB; rw [List.all_eq_true]; simp
theorem winB_false {picks : List Int} {spans : List Span} {k b i : Nat} (hi : i < spans.length) (h : missB picks k b spans[i] = true) : winB picks spans k b = false := by
  cases hw : winB picks spans k b with
  | false => rfl
  | true => rw [winB_iff.1 hw _ (List.getElem_mem hi)] at h; cases h
theorem missB_iff {picks : List Int} {k b : Nat} {s : Span} : missB picks k b s = true ↔ s.fr ≤ (k : Int) ∧ (s.to < 0 ∨ ((k + b : Nat) : Int) ≤ s.to) ∧ s.th ∉ (picks.drop k).take b := by
  unfold missB; simp [and_assoc]
theorem fairI_in {picks : List Int} {spans : List Span} {fr to b : Nat} (h1 : to ≤ picks.length) (h2 : fr ≤ to) (h3 : 1 ≤ b) : fairI picks spans fr to b = fairN picks spans fr to b := by
  unfold fairI; rw [if_neg (by omega)]; rfl
theorem fairI_out {picks : List Int} {spans : List Span} {fr to b : Int} (h : fr < 0 ∨ (picks.length : Int) < to ∨ to < fr ∨ b < 1) : fairI picks spans fr to b = false := if_pos h
theorem fairN_wide {picks : List Int} {spans : List Span} {fr to b : Nat} (h : to < fr + b) : fairN picks spans fr to b = true := fairN_iff.2 fun k h1 h2 => by omega

/-- Who is picked in windows is picked in wider ones. -/
theorem missB_wide {picks : List Int} {k b c : Nat} {s : Span} (h : missB picks k (b + c) s = true) : missB picks k b s = true := by
  rw [missB_iff] at h ⊢
  refine ⟨h.1, by omega, fun hm => h.2.2 ?_⟩
  have : (picks.drop k).take b = ((picks.drop k).take (b + c)).take b := by rw [List.take_take]; congr 1; omega
  rw [this] at hm
  exact List.mem_of_mem_take hm
theorem fairN_more {picks : List Int} {spans : List Span} {fr to b c : Nat} (h : fairN picks spans fr to b = true) : fairN picks spans fr to (b + c) = true :=
  fairN_iff.2 fun k h1 h2 => winB_iff.2 fun s hs => by
    cases hm : missB picks k (b + c) s with
    | false => rfl
    | true => rw [← missB_wide hm, winB_iff.1 (fairN_iff.1 h k h1 (by omega)) s hs]
theorem fairN_part {picks : List Int} {spans : List Span} {fr x to b : Nat} (hx : fr ≤ x) (h : fairN picks spans fr to b = true) : fairN picks spans x to b = true :=
  fairN_iff.2 fun k h1 h2 => fairN_iff.1 h k (by omega) h2
theorem fairN_none {picks : List Int} {fr to b : Nat} : fairN picks [] fr to b = true := fairN_iff.2 fun k _ _ => by simp [winB]

/-- How often x is among them. -/
def cnt (l : List Int) (x : Int) : Nat := l.count x
theorem win_snoc (picks : List Int) (fr en : Nat) (h1 : fr ≤ en) (h2 : en < picks.length) : (picks.take (en + 1)).drop fr = (picks.take en).drop fr ++ [picks[en]] := by
  rw [List.take_succ_eq_append_getElem h2, List.drop_append_of_le_length (by simp; omega)]
theorem win_cons (picks : List Int) (fr en : Nat) (h1 : fr < en) (h2 : en ≤ picks.length) : (picks.take en).drop fr = picks[fr]'(by omega) :: (picks.take en).drop (fr + 1) := by
  rw [List.drop_eq_getElem_cons (by simp; omega)]
  simp
theorem win_is (picks : List Int) (fr b : Nat) : (picks.take (fr + b)).drop fr = (picks.drop fr).take b := by
  rw [List.drop_take]; congr 1; omega
theorem cnt_zero (l : List Int) (x : Int) : (cnt l x = 0) ↔ x ∉ l := List.count_eq_zero
/-! ### Rounds -/
def picksOf (T m : Nat) : List Int := (List.range m).map fun i => ((i % T : Nat) : Int)
theorem picksOf_length (T m : Nat) : (picksOf T m).length = m := by simp [picksOf]
theorem picksOf_succ (T m : Nat) : picksOf T (m + 1) = picksOf T m ++ [((m % T : Nat) : Int)] := by simp [picksOf, List.range_succ]
theorem picksOf_get (T m i : Nat) (h : i < m) : (picksOf T m)[i]'(by rw [picksOf_length]; exact h) = ((i % T : Nat) : Int) := by simp [picksOf]
theorem picksOf_wf (T m : Nat) (hT : 0 < T) (hT2 : T ≤ 1000) : ∀ z ∈ picksOf T m, (Lit.int .i64 z).wf = true := by
  intro z hz
  obtain ⟨i, _, rfl⟩ := List.mem_map.1 hz
  have := Nat.mod_lt i hT
  exact WalkArith.wf_i64 (by omega)
/-- Every residue is in each window of T or more. -/
theorem picksOf_mem (T m k b : Nat) (hb : T ≤ b) (hk : k + b ≤ m) (x : Nat) (hx : x < T) : ((x : Nat) : Int) ∈ ((picksOf T m).drop k).take b := by
  obtain ⟨i, h1, h2, h3⟩ : ∃ i, k ≤ i ∧ i < k + T ∧ i % T = x := by
    have hT : 0 < T := by omega
    have hd := Nat.div_add_mod k T
    have hm := Nat.mod_lt k hT
    by_cases h : k % T ≤ x
    · refine ⟨T * (k / T) + x, by omega, by omega, ?_⟩
      rw [Nat.mul_add_mod]; exact Nat.mod_eq_of_lt hx
    · refine ⟨T * (k / T) + x + T, by omega, by omega, ?_⟩
      rw [Nat.add_mod_right, Nat.mul_add_mod]; exact Nat.mod_eq_of_lt hx
  rw [List.mem_iff_getElem]
  refine ⟨i - k, by simp [picksOf_length]; omega, ?_⟩
  rw [List.getElem_take, List.getElem_drop]
  simp only [picksOf, List.getElem_map, List.getElem_range]
  rw [show k + (i - k) = i by omega, h3]
theorem fair_rounds (T m b : Nat) (hb : T ≤ b) (spans : List Span) (hs : ∀ s ∈ spans, ∃ x : Nat, x < T ∧ s.th = (x : Int)) : fairN (picksOf T m) spans 0 m b = true :=
  fairN_iff.2 fun k _ h2 => winB_iff.2 fun s hsm => by
    cases hm : missB (picksOf T m) k b s with
    | false => rfl
    | true =>
      obtain ⟨x, hx, he⟩ := hs s hsm
      exact absurd (he ▸ picksOf_mem T m k b hb (by omega) x hx) (missB_iff.1 hm).2.2
theorem fair_short (T m b : Nat) (hT : 0 < T) (hb : b < T) (hm : T ≤ m) (s : Span) (h0 : s.fr = 0) (h1 : s.to = -1) (hth : s.th = ((T - 1 : Nat) : Int)) : fairN (picksOf T m) [s] 0 m b = false := by
  refine fairN_false (k := 0) (by omega) (by omega) (winB_false (i := 0) (by simp) ?_)
  rw [missB_iff]
  simp only [List.getElem_cons_zero]
  refine ⟨by omega, by omega, fun hmem => ?_⟩
  rw [List.drop_zero, hth] at hmem
  obtain ⟨i, hi, he⟩ := List.getElem_of_mem hmem
  rw [List.getElem_take] at he
  simp [picksOf_length] at hi
  simp [picksOf] at he
  have : i % T = i := Nat.mod_eq_of_lt (by omega)
  omega
/-- A thread brought among those that are. -/
def normS (T : Int) (s : Span) : Span := { s with th := s.th.tmod T % T }
theorem normS_ok {T : Int} (h0 : 0 < T) (h1 : T ≤ 1000) {s : Span} (h : spanOk s) : spanOk (normS T s) :=
  ⟨WalkArith.wf_i64 (by
    have a := Int.emod_nonneg (s.th.tmod T) (b := T) (by omega)
    have b := Int.emod_lt_of_pos (s.th.tmod T) h0
    simp only [normS]
    omega), h.sq, h.ok, h.ov, h.rc, h.rv, h.fr, h.to⟩
theorem normS_th (T : Nat) (h0 : 0 < T) (s : Span) : ∃ x : Nat, x < T ∧ (normS (T : Int) s).th = (x : Int) := by
  have a := Int.emod_nonneg (s.th.tmod (T : Int)) (b := (T : Int)) (by omega)
  have b := Int.emod_lt_of_pos (s.th.tmod (T : Int)) (b := (T : Int)) (by omega)
  exact ⟨((s.th.tmod (T : Int)) % (T : Int)).toNat, by omega, by simp only [normS]; omega⟩
theorem tmod_bd (x : Int) {T : Int} (h0 : 0 < T) : -T < x.tmod T ∧ x.tmod T < T := by
  constructor
  · have := Int.lt_tmod_of_pos x h0; omega
  · exact Int.tmod_lt_of_pos x h0
theorem Rd.lit1 (w : World) (o : Obj) (t : TypeId) (cs : Array Value) (sz m : Nat) (hm : cs.size = m * sz) : Rd ((w.alloc o).alloc (.cells cs t)) (· = w.heap.size + 1) sz (some ⟨w.heap.size + 1, 0, none⟩) m cs.toList := by
  have := Rd.lit (sz := sz) (w.alloc o) t cs m hm
  rw [World.size_alloc] at this
  exact this
theorem flat8 (ss : List Span) : (ss.flatMap spanIn).length = ss.length * 8 := by
  induction ss with
  | nil => rfl
  | cons a l ih => simp only [List.flatMap_cons, List.length_append, ih, List.length_cons]; simp [spanIn]; omega
end Go.Rp
