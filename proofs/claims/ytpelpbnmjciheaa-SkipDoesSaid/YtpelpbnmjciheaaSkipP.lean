/-
  Lists that skip, in plain Lean: towers, links of levels, paths. No program in sight.
-/
import Derived.Test.YtpelpbnmjciheaaFields
import Derived.Test.YtpelpbnmjciheaaMore
namespace Go.Rp
open Go.RowKit

/-- A tower: its block, value and height. -/
abbrev Tw := Nat × Int × Nat
/-- The first of a level. -/
def nxt (k : Nat) (T : List Tw) : Option Nat := (T.find? fun t => decide (k < t.2.2)).map fun t => t.1
/-- The last one on a level, or the head. -/
def lastT (k : Nat) (s : Nat) : List Tw → Nat
  | [] => s
  | t :: R => lastT k (if k < t.2.2 then t.1 else s) R
theorem nxt_nil (k : Nat) : nxt k [] = none := rfl
theorem nxt_cons (k : Nat) (t : Tw) (R : List Tw) : nxt k (t :: R) = if k < t.2.2 then some t.1 else nxt k R := by
  unfold nxt
  rw [List.find?_cons]
  by_cases h : k < t.2.2
  · simp [h]
  · rw [if_neg h, decide_eq_false h]
theorem nxt_off {k : Nat} {C : List Tw} (h : ∀ t ∈ C, ¬ k < t.2.2) (R : List Tw) : nxt k (C ++ R) = nxt k R := by
  induction C with
  | nil => rfl
  | cons t C ih =>
    rw [List.cons_append, nxt_cons, if_neg (h t (by simp)), ih fun x hx => h x (by simp [hx])]
theorem lastT_append (k s : Nat) (A B : List Tw) : lastT k s (A ++ B) = lastT k (lastT k s A) B := by
  induction A generalizing s with
  | nil => rfl
  | cons t A ih => rw [List.cons_append]; exact ih _
theorem lastT_off {k s : Nat} {C : List Tw} (h : ∀ t ∈ C, ¬ k < t.2.2) : lastT k s C = s := by
  induction C with
  | nil => rfl
  | cons t C ih =>
    show lastT k (if k < t.2.2 then t.1 else s) C = s
    rw [if_neg (h t (by simp))]
    exact ih fun x hx => h x (by simp [hx])
theorem lastT_snoc_on {k s : Nat} {A : List Tw} {t : Tw} (h : k < t.2.2) : lastT k s (A ++ [t]) = t.1 := by
  rw [lastT_append]
  show (if k < t.2.2 then t.1 else _) = _
  rw [if_pos h]
theorem lastT_snoc_off {k s : Nat} {A : List Tw} {t : Tw} (h : ¬ k < t.2.2) : lastT k s (A ++ [t]) = lastT k s A := by
  rw [lastT_append]
  show (if k < t.2.2 then t.1 else _) = _
  rw [if_neg h]
/-- Either the head, and nobody on the level, or a tower, and nobody on the level behind it. -/
theorem lastT_cases (k s : Nat) (A : List Tw) : (lastT k s A = s ∧ ∀ t ∈ A, ¬ k < t.2.2) ∨ ∃ B y C, A = B ++ y :: C ∧ k < y.2.2 ∧ lastT k s A = y.1 ∧ ∀ t ∈ C, ¬ k < t.2.2 := by
  induction A generalizing s with
  | nil => exact .inl ⟨rfl, by simp⟩
  | cons t A ih =>
    rcases ih (if k < t.2.2 then t.1 else s) with ⟨h1, h2⟩ | ⟨B, y, C, e, h1, h2, h3⟩
    · by_cases ht : k < t.2.2
      · rw [if_pos ht] at h1
        exact .inr ⟨[], t, A, rfl, ht, by show lastT k (if k < t.2.2 then t.1 else s) A = _; rw [if_pos ht]; exact h1, h2⟩
      · rw [if_neg ht] at h1
        refine .inl ⟨by show lastT k (if k < t.2.2 then t.1 else s) A = _; rw [if_neg ht]; exact h1, fun x hx => ?_⟩
        rcases List.mem_cons.1 hx with rfl | hx
        · exact ht
        · exact h2 x hx
    · exact .inr ⟨t :: B, y, C, by rw [e]; rfl, h1, h2, h3⟩
/-- The next of a level: it, those ahead of it that are lower, those behind it. -/
theorem nxt_cases (k : Nat) (R : List Tw) : (nxt k R = none ∧ ∀ t ∈ R, ¬ k < t.2.2) ∨ ∃ C y D, R = C ++ y :: D ∧ k < y.2.2 ∧ nxt k R = some y.1 ∧ ∀ t ∈ C, ¬ k < t.2.2 := by
  induction R with
  | nil => exact .inl ⟨rfl, by simp⟩
  | cons t R ih =>
    rw [nxt_cons]
    by_cases ht : k < t.2.2
    · rw [if_pos ht]
      exact .inr ⟨[], t, R, rfl, ht, rfl, by simp⟩
    · rw [if_neg ht]
      rcases ih with ⟨h1, h2⟩ | ⟨C, y, D, e, h1, h2, h3⟩
      · refine .inl ⟨h1, fun x hx => ?_⟩
        rcases List.mem_cons.1 hx with rfl | hx
        · exact ht
        · exact h2 x hx
      · refine .inr ⟨t :: C, y, D, by rw [e]; rfl, h1, h2, fun x hx => ?_⟩
        rcases List.mem_cons.1 hx with rfl | hx
        · exact ht
        · exact h3 x hx

/-- What stands behind block x; the tower of block x. -/
def afterT (x : Nat) : List Tw → List Tw
  | [] => []
  | t :: R => if t.1 = x then R else afterT x R
def linkT (x k : Nat) : List Tw → Option Nat
  | [] => none
  | t :: R => if t.1 = x then (if k < t.2.2 then nxt k R else none) else linkT x k R
/-- The links of a list with head s. -/
def linkOf (s : Nat) (T : List Tw) (x k : Nat) : Option Nat := if x = s then nxt k T else linkT x k T
theorem linkT_not {x k : Nat} {T : List Tw} (h : ∀ t ∈ T, t.1 ≠ x) : linkT x k T = none := by
  induction T with
  | nil => rfl
  | cons t R ih =>
    unfold linkT
    rw [if_neg (h t (by simp)), ih fun y hy => h y (by simp [hy])]
theorem linkT_skip {x k : Nat} {A T : List Tw} (h : ∀ t ∈ A, t.1 ≠ x) : linkT x k (A ++ T) = linkT x k T := by
  induction A with
  | nil => rfl
  | cons t R ih =>
    rw [List.cons_append]
    show (if t.1 = x then _ else linkT x k (R ++ T)) = _
    rw [if_neg (h t (by simp)), ih fun y hy => h y (by simp [hy])]
theorem linkT_at {k : Nat} {A R : List Tw} {t : Tw} (h : ∀ u ∈ A, u.1 ≠ t.1) : linkT t.1 k (A ++ t :: R) = if k < t.2.2 then nxt k R else none := by
  rw [linkT_skip h]
  show (if t.1 = t.1 then _ else _) = _
  rw [if_pos rfl]
/-- All blocks differ, and from the head's. -/
def Apart (s : Nat) (T : List Tw) : Prop := (s :: T.map fun t => t.1).Nodup
theorem Apart.ne {s : Nat} {T : List Tw} (h : Apart s T) {t : Tw} (ht : t ∈ T) : t.1 ≠ s := by
  intro e
  have := (List.nodup_cons.1 h).1
  exact this (List.mem_map.2 ⟨t, ht, e⟩)
theorem Apart.ahead {s : Nat} {A R : List Tw} {t : Tw} (h : Apart s (A ++ t :: R)) : ∀ u ∈ A, u.1 ≠ t.1 := by
  intro u hu e
  have h2 := (List.nodup_cons.1 h).2
  rw [List.map_append, List.map_cons, List.nodup_append] at h2
  exact h2.2.2 u.1 (List.mem_map.2 ⟨u, hu, rfl⟩) t.1 (by simp) e
theorem Apart.behind {s : Nat} {A R : List Tw} {t : Tw} (h : Apart s (A ++ t :: R)) : ∀ u ∈ R, u.1 ≠ t.1 := by
  intro u hu e
  have h2 := (List.nodup_cons.1 h).2
  rw [List.map_append, List.map_cons, List.nodup_append] at h2
  exact (List.nodup_cons.1 h2.2.1).1 (List.mem_map.2 ⟨u, hu, e⟩)
theorem Apart.drop {s : Nat} {A R : List Tw} {t : Tw} (h : Apart s (A ++ t :: R)) : Apart s (A ++ R) := by
  unfold Apart at *
  refine List.Nodup.sublist ?_ h
  refine List.Sublist.cons_cons _ (List.Sublist.map _ ?_)
  exact List.Sublist.append_left (List.sublist_cons_self t R) A
theorem Apart.add {s : Nat} {A R : List Tw} {t : Tw} (h : Apart s (A ++ R)) (hs : t.1 ≠ s) (ht : ∀ u ∈ A ++ R, u.1 ≠ t.1) : Apart s (A ++ t :: R) := by
  unfold Apart at *
  have hp : (s :: (A ++ t :: R).map fun t => t.1).Perm (t.1 :: s :: (A ++ R).map fun t => t.1) := by
    rw [List.map_append, List.map_cons, List.map_append]
    exact (List.Perm.cons s List.perm_middle).trans (List.Perm.swap t.1 s _)
  rw [hp.nodup_iff, List.nodup_cons]
  refine ⟨fun hm => ?_, h⟩
  rcases List.mem_cons.1 hm with e | hm
  · exact hs e
  · obtain ⟨u, hu, e⟩ := List.mem_map.1 hm
    exact ht u hu e
theorem linkOf_head (s : Nat) (T : List Tw) (k : Nat) : linkOf s T s k = nxt k T := if_pos rfl
theorem linkOf_at {s k : Nat} {A R : List Tw} {t : Tw} (h : Apart s (A ++ t :: R)) : linkOf s (A ++ t :: R) t.1 k = if k < t.2.2 then nxt k R else none := by
  unfold linkOf
  rw [if_neg (h.ne (by simp)), linkT_at h.ahead]
/-- The last one on a level points to the first one behind. -/
theorem linkOf_last {s k : Nat} {A R : List Tw} (h : Apart s (A ++ R)) : linkOf s (A ++ R) (lastT k s A) k = nxt k R := by
  rcases lastT_cases k s A with ⟨e, h2⟩ | ⟨B, y, C, e, h1, h2, h3⟩
  · rw [e, linkOf_head, nxt_off h2]
  · rw [h2]
    subst e
    have hA : B ++ y :: C ++ R = B ++ y :: (C ++ R) := by simp
    rw [hA] at h ⊢
    rw [linkOf_at h, if_pos h1, nxt_off h3]
/-- What a tower that is put changes on a level below its height. -/
theorem link_put {s k : Nat} {A R : List Tw} {t : Tw} (h : Apart s (A ++ t :: R)) (hk : k < t.2.2) (x : Nat) :
    linkOf s (A ++ t :: R) x k = if x = lastT k s A then some t.1 else if x = t.1 then nxt k R else linkOf s (A ++ R) x k := by
  have hd := h.drop
  have hlt : lastT k s A ≠ t.1 := by
    rcases lastT_cases k s A with ⟨e, _⟩ | ⟨B, y, C, e, _, h2, _⟩
    · rw [e]; exact fun e => h.ne (t := t) (by simp) e.symm
    · rw [h2]; exact h.ahead y (by rw [e]; simp)
  by_cases hx : x = lastT k s A
  · rw [if_pos hx, hx]
    have h2 := linkOf_last (k := k) h
    rw [h2, nxt_cons, if_pos hk]
  · rw [if_neg hx]
    by_cases hxt : x = t.1
    · rw [if_pos hxt, hxt, linkOf_at h, if_pos hk]
    · rw [if_neg hxt]
      by_cases hxs : x = s
      · subst hxs
        rw [linkOf_head, linkOf_head]
        rcases nxt_cases k A with ⟨e, h2⟩ | ⟨C, y, D, e, h1, h2, h3⟩
        · exact absurd (lastT_off h2).symm hx
        · subst e
          have e1 : C ++ y :: D ++ t :: R = C ++ y :: (D ++ t :: R) := by simp
          have e2 : C ++ y :: D ++ R = C ++ y :: (D ++ R) := by simp
          rw [e1, e2, nxt_off h3, nxt_off h3, nxt_cons, nxt_cons, if_pos h1, if_pos h1]
      · unfold linkOf
        rw [if_neg hxs, if_neg hxs]
        by_cases hA : ∃ u ∈ A, u.1 = x
        · obtain ⟨u, hu, rfl⟩ := hA
          obtain ⟨B, C, e⟩ := List.append_of_mem hu
          subst e
          have e1 : B ++ u :: C ++ t :: R = B ++ u :: (C ++ t :: R) := by simp
          have e2 : B ++ u :: C ++ R = B ++ u :: (C ++ R) := by simp
          rw [e1] at h ⊢
          rw [e2] at hd ⊢
          rw [linkT_at h.ahead, linkT_at hd.ahead]
          by_cases hu2 : k < u.2.2
          · rw [if_pos hu2, if_pos hu2]
            rcases nxt_cases k C with ⟨e, h2⟩ | ⟨C1, y, D, e, h1, h2, h3⟩
            · exfalso
              apply hx
              have e3 : B ++ u :: C = (B ++ [u]) ++ C := by simp
              rw [e3, lastT_append, lastT_off h2, lastT_snoc_on hu2]
            · subst e
              have e3 : C1 ++ y :: D ++ t :: R = C1 ++ y :: (D ++ t :: R) := by simp
              have e4 : C1 ++ y :: D ++ R = C1 ++ y :: (D ++ R) := by simp
              rw [e3, e4, nxt_off h3, nxt_off h3, nxt_cons, nxt_cons, if_pos h1, if_pos h1]
          · rw [if_neg hu2, if_neg hu2]
        · have hA2 : ∀ u ∈ A, u.1 ≠ x := fun u hu e => hA ⟨u, hu, e⟩
          rw [linkT_skip hA2, linkT_skip hA2]
          show (if t.1 = x then _ else linkT x k R) = _
          rw [if_neg (fun e => hxt e.symm)]
/-- Above its height nothing changes. -/
theorem link_put_above {s k : Nat} {A R : List Tw} {t : Tw} (h : Apart s (A ++ t :: R)) (hk : ¬ k < t.2.2) (x : Nat) : linkOf s (A ++ t :: R) x k = linkOf s (A ++ R) x k := by
  have hd := h.drop
  have hnx : ∀ C : List Tw, nxt k (C ++ t :: R) = nxt k (C ++ R) := fun C => by
    induction C with
    | nil => show nxt k (t :: R) = nxt k R; rw [nxt_cons, if_neg hk]
    | cons y C ih => rw [List.cons_append, List.cons_append, nxt_cons, nxt_cons, ih]
  unfold linkOf
  by_cases hxs : x = s
  · rw [if_pos hxs, if_pos hxs, hnx]
  · rw [if_neg hxs, if_neg hxs]
    by_cases hA : ∃ u ∈ A, u.1 = x
    · obtain ⟨u, hu, rfl⟩ := hA
      obtain ⟨B, C, e⟩ := List.append_of_mem hu
      subst e
      have e1 : B ++ u :: C ++ t :: R = B ++ u :: (C ++ t :: R) := by simp
      have e2 : B ++ u :: C ++ R = B ++ u :: (C ++ R) := by simp
      rw [e1] at h ⊢
      rw [e2] at hd ⊢
      rw [linkT_at h.ahead, linkT_at hd.ahead, hnx]
    · have hA2 : ∀ u ∈ A, u.1 ≠ x := fun u hu e => hA ⟨u, hu, e⟩
      rw [linkT_skip hA2, linkT_skip hA2]
      show (if t.1 = x then _ else linkT x k R) = _
      by_cases hxt : t.1 = x
      · subst hxt
        rw [if_pos rfl, if_neg hk, linkT_not h.behind]
      · rw [if_neg hxt]
/-- Without the first one. -/
theorem link_min {s k : Nat} {R : List Tw} {t : Tw} (h : Apart s (t :: R)) (x : Nat) (hx : x ≠ t.1) : linkOf s R x k = if x = s then (if k < t.2.2 then linkOf s (t :: R) t.1 k else linkOf s (t :: R) s k) else linkOf s (t :: R) x k := by
  by_cases hs : x = s
  · rw [if_pos hs, hs, linkOf_head, linkOf_head]
    have := linkOf_at (A := []) (k := k) h
    rw [List.nil_append] at this
    rw [this, nxt_cons]
    split <;> rfl
  · rw [if_neg hs]
    unfold linkOf
    rw [if_neg hs, if_neg hs]
    show _ = (if t.1 = x then _ else linkT x k R)
    rw [if_neg (fun e => hx e.symm)]
end Go.Rp
