/-
  A batch at a deque is as its operations one by one, in plain Lean.
-/
import Derived.Test.YtgaomaaloaglpaaEndsQ
import Derived.Test.YtgaomaaloaglpaaRingP
import Derived.Test.YtgaomaaloaglpaaMore
namespace Go.Rp
open Go.RowKit

/-- The items of a deque: those that wait at the left end, those between, those that wait at the right end. -/
def vS (val : Nat → Int) (st : ES) (rg : List Int) : List Int := (st.1.map val).reverse ++ rg ++ st.2.2.map val
/-- What is between behind a step. -/
def rgStep (o : Int) (r : ES × Int × Int) (rg : List Int) : List Int := if r.2 = (-1, 2) then (if o = 3 then rg.tail else rg.dropLast) else rg
/-- What the step tells. -/
def mV (val : Nat → Int) (o : Int) (r : ES × Int × Int) (rg : List Int) : Int := if 0 ≤ r.2.1 then val r.2.1.toNat else if r.2.2 = 2 then (if o = 3 then rg.headD 0 else rg.getLastD 0) else 0
theorem vS_len (val : Nat → Int) (st : ES) (rg : List Int) (h : rg.length = st.2.1) : (vS val st rg).length = sizeE st := by unfold vS sizeE; simp; omega
theorem rgStep_keep {o : Int} {r : ES × Int × Int} {rg : List Int} (h : r.2 ≠ (-1, 2)) : rgStep o r rg = rg := if_neg h
theorem mV_met {val : Nat → Int} {o : Int} {r : ES × Int × Int} {rg : List Int} {j : Nat} {c : Int} (h : r.2 = ((j : Int), c)) : mV val o r rg = val j := by unfold mV; rw [h]; simp
theorem met_ne {r : ES × Int × Int} {j : Nat} {c : Int} (h : r.2 = ((j : Int), c)) : r.2 ≠ (-1, 2) := by rw [h]; simp <;> omega
theorem mV_no {val : Nat → Int} {o : Int} {r : ES × Int × Int} {rg : List Int} {c : Int} (h : r.2 = (-1, c)) (hc : c ≠ 2) : mV val o r rg = 0 := by unfold mV; rw [h]; simp [hc]
theorem no_ne {r : ES × Int × Int} {c : Int} (h : r.2 = (-1, c)) (hc : c ≠ 2) : r.2 ≠ (-1, 2) := by rw [h]; simp [hc]

theorem push1_same (val : Nat → Int) (most k : Nat) (v : Int) (st : ES) (rg : List Int) (hl : rg.length = st.2.1) (hv : val k = v) :
    rDo most (vS val st rg) 1 v = (vS val (mStep most k 1 st).1 (rgStep 1 (mStep most k 1 st) rg), (mStep most k 1 st).2.2, mV val 1 (mStep most k 1 st) rg) ∧ (rgStep 1 (mStep most k 1 st) rg).length = (mStep most k 1 st).1.2.1 := by
  have hL := vS_len val st rg hl
  by_cases h : sizeE st < most
  · have e : mStep most k 1 st = ((st.1 ++ [k], st.2), -1, 1) := by show pushE most k st = _; unfold pushE; rw [if_pos h]
    rw [e, rgStep_keep (no_ne rfl (by decide)), mV_no rfl (by decide)]
    refine ⟨?_, hl⟩
    unfold rDo
    rw [if_pos rfl, if_neg (by rw [hL]; omega)]
    simp [vS, hv]
  · have e : mStep most k 1 st = (st, -1, 3) := by show pushE most k st = _; unfold pushE; rw [if_neg h]
    rw [e, rgStep_keep (no_ne rfl (by decide)), mV_no rfl (by decide)]
    refine ⟨?_, hl⟩
    unfold rDo
    rw [if_pos rfl, if_pos (by rw [hL]; omega)]
theorem push2_same (val : Nat → Int) (most k : Nat) (v : Int) (st : ES) (rg : List Int) (hl : rg.length = st.2.1) (hv : val k = v) :
    rDo most (vS val st rg) 2 v = (vS val (mStep most k 2 st).1 (rgStep 2 (mStep most k 2 st) rg), (mStep most k 2 st).2.2, mV val 2 (mStep most k 2 st) rg) ∧ (rgStep 2 (mStep most k 2 st) rg).length = (mStep most k 2 st).1.2.1 := by
  have hL := vS_len val st rg hl
  by_cases h : sizeE st < most
  · have e : mStep most k 2 st = ((st.1, st.2.1, st.2.2 ++ [k]), -1, 1) := by show back (pushE most k (flip st)) = _; unfold pushE; rw [sizeE_flip, if_pos h]; rfl
    rw [e, rgStep_keep (no_ne rfl (by decide)), mV_no rfl (by decide)]
    refine ⟨?_, hl⟩
    unfold rDo
    rw [if_neg (by decide), if_pos rfl, if_neg (by rw [hL]; omega)]
    simp [vS, hv]
  · have e : mStep most k 2 st = (st, -1, 3) := by show back (pushE most k (flip st)) = _; unfold pushE; rw [sizeE_flip, if_neg h]; rfl
    rw [e, rgStep_keep (no_ne rfl (by decide)), mV_no rfl (by decide)]
    refine ⟨?_, hl⟩
    unfold rDo
    rw [if_neg (by decide), if_pos rfl, if_pos (by rw [hL]; omega)]
theorem rDo_pop3 (most : Nat) (x v : Int) (l : List Int) : rDo most (x :: l) 3 v = (l, 2, x) := by simp [rDo]
/-- The four ways of a pop. -/
theorem popE_near (l : List Nat) (j b : Nat) (r : List Nat) : popE (l ++ [j], b, r) = ((l, b, r), (j : Int), 2) := by simp [popE]
theorem popE_btw (b : Nat) (r : List Nat) (hb : 0 < b) : popE ([], b, r) = (([], b - 1, r), -1, 2) := by simp [popE, hb]
theorem popE_far (j : Nat) (r : List Nat) : popE ([], 0, j :: r) = (([], 0, r), (j : Int), 2) := by simp [popE]
theorem popE_no : popE ([], 0, []) = (([], 0, []), -1, 4) := by simp [popE]
theorem pop3_same (val : Nat → Int) (most k : Nat) (v : Int) (st : ES) (rg : List Int) (hl : rg.length = st.2.1) :
    rDo most (vS val st rg) 3 v = (vS val (mStep most k 3 st).1 (rgStep 3 (mStep most k 3 st) rg), (mStep most k 3 st).2.2, mV val 3 (mStep most k 3 st) rg) ∧ (rgStep 3 (mStep most k 3 st) rg).length = (mStep most k 3 st).1.2.1 := by
  have e0 : mStep most k 3 st = popE st := rfl
  rw [e0]
  obtain ⟨wl, b, wr⟩ := st
  dsimp only at hl
  rcases List.eq_nil_or_concat wl with rfl | ⟨l, j, hlj⟩
  · rcases rg with _ | ⟨x, t⟩
    · obtain rfl : b = 0 := by simpa using hl.symm
      rcases wr with _ | ⟨j, r⟩
      · rw [popE_no, rgStep_keep (no_ne rfl (by decide)), mV_no rfl (by decide)]
        exact ⟨by simp [vS, rDo], rfl⟩
      · rw [popE_far, rgStep_keep (met_ne rfl), mV_met rfl]
        refine ⟨?_, rfl⟩
        show rDo most (val j :: r.map val) 3 v = _
        rw [rDo_pop3]
        rfl
    · have hb : 0 < b := by simp at hl; omega
      rw [popE_btw b wr hb]
      have e1 : rgStep 3 ((([] : List Nat), b - 1, wr), (-1 : Int), (2 : Int)) (x :: t) = t := rfl
      have e2 : mV val 3 ((([] : List Nat), b - 1, wr), (-1 : Int), (2 : Int)) (x :: t) = x := rfl
      rw [e1, e2]
      refine ⟨?_, by simp at hl ⊢; omega⟩
      show rDo most (x :: (t ++ wr.map val)) 3 v = _
      rw [rDo_pop3]
      rfl
  · rw [List.concat_eq_append] at hlj
    subst hlj
    rw [popE_near, rgStep_keep (met_ne rfl), mV_met rfl]
    refine ⟨?_, hl⟩
    have e1 : vS val (l ++ [j], b, wr) rg = val j :: vS val (l, b, wr) rg := by simp [vS]
    rw [e1, rDo_pop3]
theorem pop4_same (val : Nat → Int) (most k : Nat) (v : Int) (st : ES) (rg : List Int) (hl : rg.length = st.2.1) :
    rDo most (vS val st rg) 4 v = (vS val (mStep most k 4 st).1 (rgStep 4 (mStep most k 4 st) rg), (mStep most k 4 st).2.2, mV val 4 (mStep most k 4 st) rg) ∧ (rgStep 4 (mStep most k 4 st) rg).length = (mStep most k 4 st).1.2.1 := by
  have e0 : mStep most k 4 st = back (popE (flip st)) := rfl
  rw [e0]
  obtain ⟨wl, b, wr⟩ := st
  dsimp only at hl
  show _ = (vS val (back (popE (wr, b, wl))).1 (rgStep 4 (back (popE (wr, b, wl))) rg), (back (popE (wr, b, wl))).2.2, mV val 4 (back (popE (wr, b, wl))) rg) ∧ (rgStep 4 (back (popE (wr, b, wl))) rg).length = (back (popE (wr, b, wl))).1.2.1
  rcases List.eq_nil_or_concat wr with rfl | ⟨l, j, hlj⟩
  · rcases List.eq_nil_or_concat rg with rfl | ⟨t, x, hx⟩
    · obtain rfl : b = 0 := by simpa using hl.symm
      rcases wl with _ | ⟨j, r⟩
      · rw [popE_no, rgStep_keep (no_ne rfl (by decide)), mV_no (c := 4) rfl (by decide)]
        exact ⟨by simp [vS, rDo, back, flip], rfl⟩
      · rw [popE_far, rgStep_keep (met_ne (j := j) rfl), mV_met (j := j) rfl]
        refine ⟨?_, rfl⟩
        have e1 : vS val (j :: r, 0, []) [] = (r.map val).reverse ++ [val j] := by simp [vS]
        rw [e1, rDo_popR]
        simp [vS, back, flip]
    · rw [List.concat_eq_append] at hx
      subst hx
      have hb : 0 < b := by simp at hl; omega
      rw [popE_btw b wl hb]
      have e1 : rgStep 4 (back ((([] : List Nat), b - 1, wl), (-1 : Int), (2 : Int))) (t ++ [x]) = t := by simp [rgStep, back]
      have e2 : mV val 4 (back ((([] : List Nat), b - 1, wl), (-1 : Int), (2 : Int))) (t ++ [x]) = x := by simp [mV, back]
      rw [e1, e2]
      refine ⟨?_, by simp [back, flip] at hl ⊢; omega⟩
      have e3 : vS val (wl, b, []) (t ++ [x]) = ((wl.map val).reverse ++ t) ++ [x] := by simp [vS]
      rw [e3, rDo_popR]
      simp [vS, back, flip]
  · rw [List.concat_eq_append] at hlj
    subst hlj
    rw [popE_near, rgStep_keep (met_ne (j := j) rfl), mV_met (j := j) rfl]
    refine ⟨?_, hl⟩
    have e1 : vS val (wl, b, l ++ [j]) rg = ((wl.map val).reverse ++ rg ++ l.map val) ++ [val j] := by simp [vS]
    rw [e1, rDo_popR]
    rfl
theorem step_same' (val : Nat → Int) (most k : Nat) (o v : Int) (st : ES) (rg : List Int) (hl : rg.length = st.2.1) (hv : val k = v) :
    rDo most (vS val st rg) o v = (vS val (mStep most k o st).1 (rgStep o (mStep most k o st) rg), (mStep most k o st).2.2, mV val o (mStep most k o st) rg) ∧ (rgStep o (mStep most k o st) rg).length = (mStep most k o st).1.2.1 := by
  by_cases h1 : o = 1
  · subst h1; exact push1_same val most k v st rg hl hv
  · by_cases h2 : o = 2
    · subst h2; exact push2_same val most k v st rg hl hv
    · by_cases h3 : o = 3
      · subst h3; exact pop3_same val most k v st rg hl
      · by_cases h4 : o = 4
        · subst h4; exact pop4_same val most k v st rg hl
        · have e : mStep most k o st = (st, -1, 5) := by unfold mStep; rw [if_neg h1, if_neg h2, if_neg h3, if_neg h4]
          rw [e, rgStep_keep (no_ne rfl (by decide)), mV_no rfl (by decide)]
          refine ⟨?_, hl⟩
          unfold rDo
          rw [if_neg h1, if_neg h2, if_neg h3, if_neg h4]

def valAt (ops : List (Int × Int)) (k : Nat) : Int := (ops[k]?.map Prod.snd).getD 0
theorem valAt_lt {ops : List (Int × Int)} {k : Nat} (h : k < ops.length) : valAt ops k = ops[k].2 := by simp [valAt, h]
/-- What is between ahead of operation k. -/
def rgAt (l0 : List Int) (mo : Nat) (ops : List (Int × Int)) : Nat → List Int
  | 0 => l0
  | k + 1 => if k < ops.length then rgStep (kindAt ops k) (mStep mo k (kindAt ops k) (mAt mo l0.length ops k)) (rgAt l0 mo ops k) else rgAt l0 mo ops k
theorem rgAt_succ {l0 : List Int} {mo : Nat} {ops : List (Int × Int)} {k : Nat} (h : k < ops.length) : rgAt l0 mo ops (k + 1) = rgStep (kindAt ops k) (mStep mo k (kindAt ops k) (mAt mo l0.length ops k)) (rgAt l0 mo ops k) := if_pos h
/-- What operation k is told, beside its code. -/
def mVal (l0 : List Int) (mo : Nat) (ops : List (Int × Int)) (k : Nat) : Int := mV (valAt ops) (kindAt ops k) (mStep mo k (kindAt ops k) (mAt mo l0.length ops k)) (rgAt l0 mo ops k)
/-- The deque ahead of operation k. -/
def dqAt (l0 : List Int) (mo : Nat) (ops : List (Int × Int)) (k : Nat) : List Int := vS (valAt ops) (mAt mo l0.length ops k) (rgAt l0 mo ops k)
theorem rgAt_len (l0 : List Int) (mo : Nat) (ops : List (Int × Int)) (k : Nat) (h : k ≤ ops.length) : (rgAt l0 mo ops k).length = (mAt mo l0.length ops k).2.1 := by
  induction k with
  | zero => rfl
  | succ k ih =>
    have hk : k < ops.length := h
    rw [rgAt_succ hk, mAt_succ hk]
    exact (step_same' (valAt ops) mo k (kindAt ops k) (valAt ops k) _ _ (ih (by omega)) rfl).2
/-- One by one: what operation k is told, and what stays. -/
theorem same_told {l0 : List Int} {mo : Nat} {ops : List (Int × Int)} {k : Nat} (hk : k < ops.length) :
    rDo mo (dqAt l0 mo ops k) ops[k].1 ops[k].2 = (dqAt l0 mo ops (k + 1), mCode mo l0.length ops k, mVal l0 mo ops k) := by
  have h := (step_same' (valAt ops) mo k (kindAt ops k) (valAt ops k) (mAt mo l0.length ops k) (rgAt l0 mo ops k) (rgAt_len l0 mo ops k (by omega)) rfl).1
  rw [← valAt_lt hk, ← kindAt_lt hk]
  unfold dqAt
  rw [rgAt_succ hk, mAt_succ hk]
  exact h
theorem dqAt_zero (l0 : List Int) (mo : Nat) (ops : List (Int × Int)) : dqAt l0 mo ops 0 = l0 := by simp [dqAt, vS, mAt, rgAt]
theorem dqAt_len (l0 : List Int) (mo : Nat) (ops : List (Int × Int)) (k : Nat) (h : k ≤ ops.length) : (dqAt l0 mo ops k).length = sizeE (mAt mo l0.length ops k) := vS_len _ _ _ (rgAt_len l0 mo ops k h)
theorem mVal_none {l0 : List Int} {mo : Nat} {ops : List (Int × Int)} {k : Nat} (h : mCode mo l0.length ops k ≠ 2) : mVal l0 mo ops k = 0 := by
  have hp : mPair mo l0.length ops k = -1 := pair_code h
  unfold mVal mV
  unfold mPair at hp
  unfold mCode at h
  rw [hp, if_neg (by omega), if_neg h]
theorem rgAt_same {l0 : List Int} {mo : Nat} {ops : List (Int × Int)} {k : Nat} (hk : k < ops.length) (h : (mStep mo k (kindAt ops k) (mAt mo l0.length ops k)).2 ≠ (-1, 2)) : rgAt l0 mo ops (k + 1) = rgAt l0 mo ops k := by rw [rgAt_succ hk, rgStep_keep h]
/-- What is told, the values of the first k. -/
def toldK (n : Nat) (code val : Nat → Int) (k : Nat) : List (Int × Int) := (List.range n).map fun i => (code i, if i < k then val i else 0)
theorem toldK_len (n : Nat) (code val : Nat → Int) (k : Nat) : (toldK n code val k).length = n := by simp [toldK]
theorem toldK_get (n : Nat) (code val : Nat → Int) (k i : Nat) (h : i < n) : (toldK n code val k)[i]'(by rw [toldK_len]; exact h) = (code i, if i < k then val i else 0) := by simp [toldK]
theorem toldK_zero (n : Nat) (code val : Nat → Int) : toldK n code val 0 = fillL n n (fun i => (code i, 0)) (0, 0) := by
  apply List.ext_getElem
  · simp [toldK, fillL]
  · intro i h1 h2; simp [toldK] at h1; simp [toldK, fillL, h1]
theorem toldK_set (n : Nat) (code val : Nat → Int) (k : Nat) : (toldK n code val k).set k (code k, val k) = toldK n code val (k + 1) := by
  apply List.ext_getElem
  · simp [toldK]
  · intro i h1 h2
    simp only [toldK_len] at h2
    rw [List.getElem_set]
    split
    · rename_i h; subst h; rw [toldK_get _ _ _ _ _ h2, if_pos (by omega)]
    · rename_i h
      rw [toldK_get _ _ _ _ _ h2, toldK_get _ _ _ _ _ h2]
      by_cases hk : i < k
      · rw [if_pos hk, if_pos (by omega)]
      · rw [if_neg hk, if_neg (by omega)]
/-- A pop that meets: who it is waits ahead of it. -/
theorem popE_met {st : ES} {j : Nat} {c : Int} (h : (popE st).2 = ((j : Int), c)) : j ∈ st.1 ∨ j ∈ st.2.2 := by
  obtain ⟨wl, b, wr⟩ := st
  rcases List.eq_nil_or_concat wl with rfl | ⟨l, i, hli⟩
  · rcases Nat.eq_zero_or_pos b with rfl | hb
    · rcases wr with _ | ⟨i, r⟩
      · rw [popE_no] at h; simp at h <;> omega
      · rw [popE_far] at h; simp at h; obtain ⟨h, _⟩ := h; right; simp; left; omega
    · rw [popE_btw b wr hb] at h; simp at h <;> omega
  · rw [List.concat_eq_append] at hli
    subst hli
    rw [popE_near] at h
    simp at h
    obtain ⟨h, _⟩ := h
    left; simp; right; omega
theorem popE_sub (st : ES) : (∀ j ∈ (popE st).1.1, j ∈ st.1) ∧ ∀ j ∈ (popE st).1.2.2, j ∈ st.2.2 := by
  obtain ⟨wl, b, wr⟩ := st
  rcases List.eq_nil_or_concat wl with rfl | ⟨l, i, hli⟩
  · rcases Nat.eq_zero_or_pos b with rfl | hb
    · rcases wr with _ | ⟨i, r⟩
      · rw [popE_no]; exact ⟨fun _ h => h, fun _ h => h⟩
      · rw [popE_far]; exact ⟨fun _ h => h, fun j h => List.mem_cons_of_mem _ h⟩
    · rw [popE_btw b wr hb]; exact ⟨fun _ h => h, fun _ h => h⟩
  · rw [List.concat_eq_append] at hli
    subst hli
    rw [popE_near]
    exact ⟨fun j h => List.mem_append_left _ h, fun _ h => h⟩
theorem mAt_lt (most below : Nat) (ops : List (Int × Int)) (k : Nat) : (∀ j ∈ (mAt most below ops k).1, j < k) ∧ ∀ j ∈ (mAt most below ops k).2.2, j < k := by
  induction k with
  | zero => simp [mAt]
  | succ k ih =>
    by_cases h : k < ops.length
    · rw [mAt_succ h]
      generalize mAt most below ops k = st at *
      generalize kindAt ops k = o at *
      have up : ∀ (l : List Nat), (∀ j ∈ l, j < k) → ∀ j ∈ l, j < k + 1 := fun l h j hj => Nat.lt_succ_of_lt (h j hj)
      unfold mStep
      split
      · unfold pushE
        split
        · refine ⟨fun j hj => ?_, up _ ih.2⟩
          rcases List.mem_append.1 hj with h | h
          · exact up _ ih.1 j h
          · simp at h; omega
        · exact ⟨up _ ih.1, up _ ih.2⟩
      · split
        · unfold pushE
          split
          · refine ⟨up _ ih.1, fun j hj => ?_⟩
            rcases List.mem_append.1 hj with h | h
            · exact up _ ih.2 j h
            · simp at h; omega
          · exact ⟨up _ ih.1, up _ ih.2⟩
        · split
          · exact ⟨fun j hj => up _ ih.1 j ((popE_sub st).1 j hj), fun j hj => up _ ih.2 j ((popE_sub st).2 j hj)⟩
          · split
            · exact ⟨fun j hj => up _ ih.1 j ((popE_sub (flip st)).2 j hj), fun j hj => up _ ih.2 j ((popE_sub (flip st)).1 j hj)⟩
            · exact ⟨up _ ih.1, up _ ih.2⟩
    · have : ops[k]? = none := List.getElem?_eq_none (by omega)
      have e : mAt most below ops (k + 1) = mAt most below ops k := by simp [mAt, this]
      rw [e]
      exact ⟨fun j hj => Nat.lt_succ_of_lt (ih.1 j hj), fun j hj => Nat.lt_succ_of_lt (ih.2 j hj)⟩
/-- A pair with a push: that one waits ahead. -/
theorem step_met {most k : Nat} {o : Int} {st : ES} {j : Nat} {c : Int} (h : (mStep most k o st).2 = ((j : Int), c)) : j ∈ st.1 ∨ j ∈ st.2.2 := by
  unfold mStep at h
  split at h
  · unfold pushE at h; split at h <;> · simp at h <;> omega
  · split at h
    · unfold pushE at h; split at h <;> · simp [back] at h <;> omega
    · split at h
      · exact popE_met h
      · split at h
        · have := popE_met (st := flip st) (j := j) (c := c) h
          exact this.symm
        · simp at h <;> omega
/-- One between is taken. -/
theorem step_btw {most k : Nat} {o : Int} {st : ES} {rg : List Int} (h : (mStep most k o st).2 = (-1, 2)) (hl : rg.length = st.2.1) : (o = 3 ∧ ∃ x t, rg = x :: t) ∨ (o = 4 ∧ ∃ t x, rg = t ++ [x]) := by
  have key : ∀ st' : ES, (popE st').2 = (-1, 2) → 0 < st'.2.1 := fun st' hp => by
    obtain ⟨wl, b, wr⟩ := st'
    rcases List.eq_nil_or_concat wl with rfl | ⟨l, i, hli⟩
    · rcases Nat.eq_zero_or_pos b with rfl | hb
      · rcases wr with _ | ⟨i, r⟩
        · rw [popE_no] at hp; simp at hp
        · rw [popE_far] at hp; simp at hp <;> omega
      · exact hb
    · rw [List.concat_eq_append] at hli
      subst hli
      rw [popE_near] at hp
      simp at hp <;> omega
  unfold mStep at h
  split at h
  · unfold pushE at h; split at h <;> · simp at h
  · split at h
    · unfold pushE at h; split at h <;> · simp [back] at h
    · split at h
      · rename_i h3
        left
        refine ⟨h3, ?_⟩
        have := key st h
        rcases rg with _ | ⟨x, t⟩
        · simp at hl; omega
        · exact ⟨x, t, rfl⟩
      · split at h
        · rename_i h4
          right
          refine ⟨h4, ?_⟩
          have : 0 < st.2.1 := key (flip st) h
          rcases List.eq_nil_or_concat rg with rfl | ⟨t, x, hx⟩
          · simp at hl; omega
          · exact ⟨t, x, by rw [hx, List.concat_eq_append]⟩
        · simp at h
end Go.Rp
