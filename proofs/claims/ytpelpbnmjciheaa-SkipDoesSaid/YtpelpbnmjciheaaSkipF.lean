/-
  Lists that skip: the first item is taken.
-/
import Derived.Test.YtpelpbnmjciheaaSkipE
namespace Go.Proofs.Ytpelpbnmjciheaa
open Go.RowKit Go.Rp

/-- The links while the first tower goes off its levels. -/
def minG (s : Nat) (R : List Tw) (t : Tw) (m : Nat) : Nat → Nat → Option Nat := fun x j => if x = s ∧ j < m then linkOf s (t :: R) t.1 j else linkOf s (t :: R) x j
theorem minG_step {s : Nat} {R : List Tw} {t : Tw} (h : Apart s (t :: R)) {m : Nat} (hm : m < t.2.2) : upd (minG s R t m) s m (nxt m R) = minG s R t (m + 1) := by
  have e := linkOf_at (A := []) (k := m) h
  rw [List.nil_append, if_pos hm] at e
  funext x j
  unfold upd minG
  by_cases hx : x = s
  · by_cases hj : j = m
    · rw [if_pos ⟨hx, hj⟩, if_pos ⟨hx, by omega⟩, hj, e]
    · rw [if_neg (by simp [hj])]
      by_cases hlt : j < m
      · rw [if_pos ⟨hx, hlt⟩, if_pos ⟨hx, by omega⟩]
      · rw [if_neg (by simp [hlt]), if_neg (by simp; omega)]
  · rw [if_neg (by simp [hx]), if_neg (by simp [hx]), if_neg (by simp [hx])]
theorem minG_full {s : Nat} {R : List Tw} {t : Tw} (h : Apart s (t :: R)) {x k : Nat} (hx : x ≠ t.1) : minG s R t t.2.2 x k = linkOf s R x k := by
  rw [link_min h x hx]
  unfold minG
  by_cases e : x = s
  · subst e
    rw [if_pos rfl]
    by_cases hk : k < t.2.2
    · rw [if_pos ⟨rfl, hk⟩, if_pos hk]
    · rw [if_neg (by simp [hk]), if_neg hk]
  · rw [if_neg (by simp [e]), if_neg e]
theorem Links.drop1 {w : World} {s many most : Nat} {t : Tw} {R : List Tw} {g g' : Nat → Nat → Option Nat} {S : Nat → Prop} (h : Links w s many most (t :: R) g S) (ha : Apart s (t :: R)) (e : ∀ x k, x ≠ t.1 → g x k = g' x k) : Links w s many most R g' S :=
  ⟨by rw [← skC_congr fun k _ => e s k fun e => ha.ne (t := t) (by simp) e.symm]; exact h.hd, h.hs, fun u hu => ⟨by
    rw [← towC_congr fun k _ => e u.1 k (Apart.behind (A := []) ha u hu)]; exact (h.tw u (by simp [hu])).1, (h.tw u (by simp [hu])).2⟩⟩
theorem SkT.tail {w w' : World} {s m : Nat} {S U : Nat → Prop} {t : Tw} {R : List Tw} (h : SkT w s S m (t :: R)) (hl : Links w' s R.length m R (linkOf s R) U) : SkT w' s U m R :=
  ⟨hl, Apart.drop (A := []) h.apart, fun u hu => h.high u (by simp [hu]), by have := h.room; simp at this; omega, h.most, (List.pairwise_cons.1 h.sorted).2⟩

theorem min_empty {w : World} {s m : Nat} {S : Nat → Prop} (h : SkAt w s S m []) : Calls Try.prog 26 #[.pointer (some ⟨s, 0, none⟩)] w fun e w' => e = .returned (.tuple #[.int .i32 0, .bool false]) ∧ w' = w := by
  obtain ⟨T, hT, h⟩ := h
  obtain rfl : T = [] := by simpa using hT
  have hlen := len_any h.links
  simp only [List.length_nil] at hlen
  go_enter Try.func26, Try.ntmps26
  go_wp2_with fail
  refine hlen.mono ?_
  rintro e w1 ⟨rfl, rfl⟩
  go_wp2_with fail
  go_ret2
  exact ⟨rfl, rfl⟩
theorem min_none (w : World) : Calls Try.prog 26 #[.pointer none] w fun e w' => e = .returned (.tuple #[.int .i32 0, .bool false]) ∧ w' = w := by
  go_enter Try.func26, Try.ntmps26
  go_wp2_with fail
  refine (len_none w).mono ?_
  rintro e w1 ⟨rfl, rfl⟩
  go_wp2_with fail
  go_ret2
  exact ⟨rfl, rfl⟩
theorem min_any {w : World} {s M : Nat} {S : Nat → Prop} {v : Int} {hh : Nat} {L : List It} (h : SkAt w s S M ((v, hh) :: L)) : Calls Try.prog 26 #[.pointer (some ⟨s, 0, none⟩)] w fun e w' => e = .returned (.tuple #[.int .i32 v, .bool true]) ∧ SkAt w' s S M L ∧ Mod S w w' := by
  obtain ⟨T, hT, h⟩ := h
  rcases T with _ | ⟨⟨tb, tv, th⟩, R⟩
  · simp at hT
  · simp only [List.map_cons, List.cons.injEq, Prod.mk.injEq] at hT
    obtain ⟨⟨rfl, rfl⟩, rfl⟩ := hT
    have hlen := len_any h.links
    have hap := h.apart
    have h8 := h.high (tb, tv, th) (by simp)
    simp only at h8
    have hn0 : Node s ((tb, tv, th) :: R) s := .inl rfl
    have c0 := (h.links.node hn0 (k := 0) (by omega)).1
    rw [linkOf_head, nxt_cons, if_pos (by simp only; omega), np_some] at c0
    have hv := (h.links.val (t := (tb, tv, th)) (by simp)).2
    have hroom : R.length + 1 ≤ 1000 := by have := h.room; have := h.most; simp at *; omega
    simp only at c0 hv
    simp only [List.length_cons] at hlen
    have H := Lib.hid h
    have HR := Lib.hid hroom
    obtain ⟨N, hN⟩ : ∃ N, R.length = N := ⟨_, rfl⟩
    rw [hN] at hlen
    have HN := Lib.hid hN
    have h0 : ¬ ((N : Int) + 1 = 0) := by omega
    clear hN h hroom
    go_enter Try.func26, Try.ntmps26
    go_wp2_with fail
    refine hlen.mono ?_
    rintro e w1 ⟨rfl, rfl⟩
    go_wp2_with fail
    go_loopg [19] th (fun g k wr => ∃ m' : Nat, m' + g = th ∧ k = .int .i64 (m' : Int) ∧ Links wr s (N + 1) M ((tb, tv, th) :: R) (minG s R (tb, tv, th) m') S ∧ Mod S w1 wr)
    case atStart =>
      refine ⟨0, by omega, rfl, ?_, Mod.refl _ _⟩
      have := H.out.links
      rw [List.length_cons, HN.out] at this
      exact this.congr fun x k _ => by unfold minG; rw [if_neg (by omega)]
    case round =>
      obtain ⟨m, hm, rfl, hL, hmod⟩ := hrel
      by_cases hlt2 : m < th
      · have hm8 : m < 8 := by omega
        have hn1 : Node s ((tb, tv, th) :: R) s := .inl rfl
        have hn2 : Node s ((tb, tv, th) :: R) tb := .inr ⟨(tb, tv, th), by simp, rfl⟩
        have hne : tb ≠ s := hap.ne (t := (tb, tv, th)) (by simp)
        obtain ⟨c1, f1⟩ := hL.node hn1 hm8
        obtain ⟨c2, f2⟩ := hL.node hn2 hm8
        have e2 : minG s R (tb, tv, th) m tb m = nxt m R := by
          have e := linkOf_at (A := []) (k := m) hap
          rw [List.nil_append] at e
          unfold minG
          rw [if_neg (by simp [hne])]
          simpa [hlt2] using e
        rw [e2] at c2
        obtain ⟨y, hy⟩ : ∃ y, nxt m R = y := ⟨_, rfl⟩
        rw [hy] at c2
        have HY := Lib.hid hy
        have HL := Lib.hid hL
        have HM := Lib.hid hm
        have hmi : (m : Int) < 8 := by omega
        clear hy hL hm hn1 hn2 e2
        have c1' : wr.drew.cell? ⟨s, 2 + m, none⟩ = _ := c1
        have f1' : wr.drew.frozen? ⟨s, 2 + m, none⟩ = false := f1
        cases y with
        | none =>
          rw [np_none] at c2
          have c2' : wr.drew.cell? ⟨tb, 2 + m, none⟩ = _ := c2
          go_wp2_with fail
          go_region
          go_wp2_with fail
          have hy := HY.out
          have hL := HL.out
          have hm := HM.out
          have hn1 : Node s ((tb, tv, th) :: R) s := .inl rfl
          have hs2 := minG_step (R := R) hap hlt2
          have hL2 := hL.set hn1 hm8 (none)
          rw [← hy, hs2] at hL2
          have hq := hL.nodeS hn1
          go_roundg (gk - 1)
          case measure => omega
          case rel => exact ⟨m + 1, by omega, by go_num, by rw [hy] at hL2; exact hL2.drew, (hmod.setCell (p := ⟨s, 2 + m, none⟩) (.inl hq) ((.pointer none))).drew⟩
        | some y =>
          rw [np_some] at c2
          have c2' : wr.drew.cell? ⟨tb, 2 + m, none⟩ = _ := c2
          go_wp2_with fail
          go_region
          go_wp2_with fail
          have hy := HY.out
          have hL := HL.out
          have hm := HM.out
          have hn1 : Node s ((tb, tv, th) :: R) s := .inl rfl
          have hs2 := minG_step (R := R) hap hlt2
          have hL2 := hL.set hn1 hm8 ((some y))
          rw [← hy, hs2] at hL2
          have hq := hL.nodeS hn1
          go_roundg (gk - 1)
          case measure => omega
          case rel => exact ⟨m + 1, by omega, by go_num, by rw [hy] at hL2; exact hL2.drew, (hmod.setCell (p := ⟨s, 2 + m, none⟩) (.inl hq) ((.pointer (some ⟨y, 0, none⟩)))).drew⟩
      · obtain rfl : m = th := by omega
        obtain ⟨g1, g2, g3⟩ := hL.sizes
        have hv := (hL.val (t := (tb, tv, m)) (by simp)).1
        have hne : tb ≠ s := hap.ne (t := (tb, tv, m)) (by simp)
        have hne2 : ¬ s = tb := fun e => hne e.symm
        have hN1 : N + 1 ≤ 1000 := by have := HR.out; rw [HN.out] at this; exact this
        have hL1 := (hL.drop1 (g' := linkOf s R) hap fun x k hx => minG_full hap hx).setMany N
        have hm2 := hmod.setCell (p := ⟨s, 10, none⟩) (.inl hL.hs) (.int .i64 (N : Int))
        have hw : IntKind.i64.wrap ((N : Int) + 1 - 1) = (N : Int) := by rw [Int.add_sub_cancel]; exact IntWalk.i64_in _ (by omega)
        simp only at hv
        clear hL hm
        go_wp2_with fail
        go_ret2
        have hl2 := H.out.tail (w' := wr.setCell ⟨s, 10, none⟩ (.int .i64 (N : Int))) (U := S) (by rw [HN.out]; exact hL1)
        exact ⟨rfl, ⟨R, rfl, hl2⟩, hm2⟩
end Go.Proofs.Ytpelpbnmjciheaa
