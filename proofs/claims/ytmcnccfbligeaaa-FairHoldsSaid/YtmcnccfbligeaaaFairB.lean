/-
  The walks of misses, open and Fair.
-/
import Derived.Test.YtmcnccfbligeaaaFairA
namespace Go.Proofs.Ytmcnccfbligeaaa
open Go.RowKit Go.Rp Go.Maps

abbrev At (B : Nat) (w : World) (L : List Res) : Prop := Sep w (fun x => B ≤ x) L
/-- Picks that are read. -/
structure Picks (w : World) (A : Option Addr) (n : Nat) (picks : List Int) : Prop where
  rd : ∃ R, Rd w R 1 A n (picks.map fun x => Value.int .i64 x)
  len : picks.length = n
  reach : n ≤ 140737488351232
  wf : ∀ z ∈ picks, (Lit.int .i64 z).wf = true
theorem Picks.old {w : World} {A : Option Addr} {n : Nat} {picks : List Int} (h : Picks w A n picks) : Rd w (· < w.heap.size) 1 A n (picks.map fun x => Value.int .i64 x) := by
  obtain ⟨R, h1⟩ := h.rd
  exact ((stable_rd 1 (by omega) A n _).lt h1).more fun b h => h.2
theorem Picks.keep {w w' : World} {A : Option Addr} {n : Nat} {picks : List Int} (h : Picks w A n picks) (hb : Below w.heap.size w w') : Picks w' A n picks := by
  obtain ⟨⟨R, h1⟩, h2, h3, h4⟩ := h
  exact ⟨⟨R, h1.kept hb⟩, h2, h3, h4⟩
/-- Operations that are read. -/
structure Spans (w : World) (A : Option Addr) (n : Nat) (spans : List Span) : Prop where
  rd : ∃ R, Rd w R 8 A n (spans.flatMap spanIn)
  len : spans.length = n
  reach : n ≤ 140737488351232
  ok : ∀ s ∈ spans, spanOk s
theorem Spans.keep {w w' : World} {A : Option Addr} {n : Nat} {spans : List Span} (h : Spans w A n spans) (hb : Below w.heap.size w w') : Spans w' A n spans := by
  obtain ⟨⟨R, h1⟩, h2, h3, h4⟩ := h
  exact ⟨⟨R, h1.kept hb⟩, h2, h3, h4⟩
theorem span_at (spans : List Span) (k : Nat) (hk : k < spans.length) (j : Nat) (hj : j < 8) : (spans.flatMap spanIn)[k * 8 + j]? = (spanIn spans[k])[j]? := by
  induction spans generalizing k with
  | nil => simp at hk
  | cons o l ih =>
    rcases k with _ | k
    · simp only [List.flatMap_cons, Nat.zero_mul, Nat.zero_add, List.getElem_cons_zero]
      rw [List.getElem?_append_left (by simpa [spanIn] using hj)]
    · have := ih k (by simpa using hk)
      simp only [List.flatMap_cons, List.getElem_cons_succ]
      rw [List.getElem?_append_right (by simp [spanIn]; omega), ← this]
      congr 1
      simp [spanIn]
      omega
theorem Spans.at {w : World} {A : Option Addr} {n : Nat} {spans : List Span} (h : Spans w A n spans) {k : Nat} (hk : k < spans.length) :
    ∃ b off, A = some ⟨b, off, none⟩ ∧ ∀ j u, (spanIn spans[k])[j]? = some u → w.cell? ⟨b, off + k * 8 + j, none⟩ = some u := by
  obtain ⟨⟨R, h1⟩, h2, h3, h4⟩ := h
  obtain ⟨b, off, rfl, _, hc⟩ := h1.at (by omega)
  refine ⟨b, off, rfl, fun j u hu => ?_⟩
  have hj : j < 8 := by have := (List.getElem?_eq_some_iff.1 hu).1; simpa [spanIn] using this
  rw [Nat.add_assoc]
  exact hc _ _ ((span_at spans k hk j hj).trans hu)
abbrev spanV (s : Span) : Value := .agg #[.int .i64 s.th, .int .i64 s.sq, .int .u8 s.ok, .int .i32 s.ov, .int .u8 s.rc, .int .i32 s.rv, .int .i64 s.fr, .int .i64 s.to]

set_option maxRecDepth 100000 in
theorem open_any (w : World) (A : Option Addr) (n c : Nat) (picks : List Int) (h : Picks w A n picks) (fr b : Nat) (hle : fr + b ≤ n) :
    Calls Try.prog 21 #[.slice A n c, .int .i64 (fr : Int), .int .i64 (b : Int)] w fun e w' => ∃ p, e = .returned (.pointer (some ⟨p, 0, none⟩)) ∧ WinAt w' p (fun x => w.heap.size ≤ x ∧ x < w'.heap.size) A n c picks fr (fr + b) ∧ Below w.heap.size w w' := by
  obtain ⟨⟨R, hr⟩, hn, hm, hwf⟩ := h
  have hmm := @run_makeMap Try.prog
  have HN := Lib.hid hn
  clear hn
  go_enter Try.func21, Try.ntmps21
  go_wp2_with fail
  go_loopw [15] (fun i wr => ∃ m : Nat, m ≤ b ∧ i = .int .i64 (m : Int) ∧ WinAt wr (w.heap.size + 1) (fun x => w.heap.size ≤ x ∧ x < wr.heap.size) (A) n c picks fr (fr + m) ∧ Below w.heap.size w wr) (fun i _ => b - (intOf i).toNat)
  case atStart =>
    refine ⟨0, by omega, rfl, ⟨w.heap.size, 0, ?_, ?_, by omega, ⟨by omega, by simp⟩, ⟨by omega, by simp; omega⟩⟩, ((Below.refl _ _).alloc (Nat.le_refl _) _).alloc (by simp) _⟩
    · have := Blk.new (w.alloc (.map #[] 0)) 65 #[.slice A n c, .int .i64 (fr : Int), .int .i64 (fr : Int), .map (some w.heap.size)]
      simpa using this
    · refine ((MapI.mk w).block (w' := (w.alloc (.map #[] 0)).alloc _) (Below.heap_alloc _ _ _ (by simp))).congr fun y => ?_
      have : (picks.take (fr + 0)).drop fr = [] := List.drop_eq_nil_of_le (by simp; omega)
      rw [this]
      rfl
  case round =>
    obtain ⟨m, hm', rfl, hw, hb⟩ := hrel
    by_cases hlt : m < b
    · have ht := take_any wr (w.heap.size + 1) _ A n c picks fr (fr + m) hw R (hr.kept hb) HN.out hm hwf (by omega) (by omega)
      go_wp2_with fail
      refine ht.mono ?_
      rintro e w1 ⟨rfl, hw1, hm1⟩
      clear ht
      go_wp2_with fail
      go_roundw
      case rel => exact ⟨m + 1, by omega, by go_num, hw1.mono fun x hx => ⟨hx.1, Nat.lt_of_lt_of_le hx.2 hm1.size⟩, hb.trans (hm1.below hb.size fun x hx => hx.1)⟩
      case measure => simp [intOf]; omega
    · obtain rfl : m = b := by omega
      go_wp2_with fail
      go_ret
      exact ⟨_, rfl, hw, hb⟩

set_option maxRecDepth 100000 in
theorem misses_any (w : World) (p : Nat) (S : Nat → Prop) (A : Option Addr) (n c : Nat) (picks : List Int) (fr en : Nat) (h : WinAt w p S A n c picks fr en) (s : Span) (hok : spanOk s) :
    Calls Try.prog 22 #[.pointer (some ⟨p, 0, none⟩), spanV s] w fun e w' => e = .returned (.bool (decide (s.fr ≤ (fr : Int)) && (decide (s.to < 0) || decide ((en : Int) ≤ s.to)) && !((picks.take en).drop fr).contains s.th)) ∧ Below w.heap.size w w' := by
  obtain ⟨B, k, hb, hM, hk, hp, hB⟩ := h
  have hblk := hb.alloc (.cells #[.int .i64 s.th, .int .i64 s.sq, .int .u8 s.ok, .int .i32 s.ov, .int .u8 s.rc, .int .i32 s.rv, .int .i64 s.fr, .int .i64 s.to] 30)
  have g1 := hblk.cell 1
  have g2 := hblk.cell 2
  have g3 := hblk.cell 3
  have hlt := hb.lt
  have hrun : ∀ nq, Sem.run Try.prog (Instr.lookup 63 (Value.map (some B)) (Value.int IntKind.i64 s.th) false) ((w.alloc (.cells #[.int .i64 s.th, .int .i64 s.sq, .int .u8 s.ok, .int .i32 s.ov, .int .u8 s.rc, .int .i32 s.rv, .int .i64 s.fr, .int .i64 s.to] 30)).drewN nq) = .ok (.int .i64 ((((picks.take en).drop fr).count s.th : Nat) : Int)) _ := fun nq => (hM.block (w' := (w.alloc _).drewN nq) (Below.heap_alloc _ _ _ hM.lt)).look hok.th
  have hcon : ((picks.take en).drop fr).contains s.th = !(((((picks.take en).drop fr).count s.th : Nat) : Int) == 0) := by
    rw [Bool.eq_iff_iff]
    simp [List.count_eq_zero]
  rw [hcon]
  clear hcon hM hb hblk hok
  generalize ((picks.take en).drop fr).count s.th = q at *
  obtain ⟨th, sq, ok, ov, rc, rv, sf, st⟩ := s
  dsimp only at *
  by_cases h1 : sf ≤ (fr : Int)
  · have d1 : decide (sf ≤ (fr : Int)) = true := decide_eq_true h1
    by_cases h2 : st < 0
    · have d2 : decide (st < 0) = true := decide_eq_true h2
      by_cases h4 : q = 0
      · have d4 : ((q : Int) == 0) = true := by simpa using h4
        go_enter Try.func22, Try.ntmps22
        go_wp2_with fail
        go_quiet (fail)
        go_wp2_with fail
        go_ret
        exact ⟨by (simp_all <;> omega), below_drewN ((Below.refl _ _).alloc (Nat.le_refl _) _) _⟩
      · have d4 : ((q : Int) == 0) = false := by simpa using h4
        go_enter Try.func22, Try.ntmps22
        go_wp2_with fail
        go_quiet (fail)
        go_wp2_with fail
        go_ret
        exact ⟨by (simp_all <;> omega), below_drewN ((Below.refl _ _).alloc (Nat.le_refl _) _) _⟩
    · have d2 : decide (st < 0) = false := decide_eq_false h2
      by_cases h3 : (en : Int) ≤ st
      · have d3 : decide ((en : Int) ≤ st) = true := decide_eq_true h3
        by_cases h4 : q = 0
        · have d4 : ((q : Int) == 0) = true := by simpa using h4
          go_enter Try.func22, Try.ntmps22
          go_wp2_with fail
          go_quiet (fail)
          go_wp2_with fail
          go_ret
          exact ⟨by (simp_all <;> omega), below_drewN ((Below.refl _ _).alloc (Nat.le_refl _) _) _⟩
        · have d4 : ((q : Int) == 0) = false := by simpa using h4
          go_enter Try.func22, Try.ntmps22
          go_wp2_with fail
          go_quiet (fail)
          go_wp2_with fail
          go_ret
          exact ⟨by (simp_all <;> omega), below_drewN ((Below.refl _ _).alloc (Nat.le_refl _) _) _⟩
      · have d3 : decide ((en : Int) ≤ st) = false := decide_eq_false h3
        go_enter Try.func22, Try.ntmps22
        go_wp2_with fail
        go_quiet (fail)
        go_wp2_with fail
        go_ret
        exact ⟨by (simp_all <;> omega), below_drewN ((Below.refl _ _).alloc (Nat.le_refl _) _) _⟩
  · have d1 : decide (sf ≤ (fr : Int)) = false := decide_eq_false h1
    go_enter Try.func22, Try.ntmps22
    go_wp2_with fail
    go_quiet (fail)
    go_wp2_with fail
    go_ret
    exact ⟨by (simp_all <;> omega), below_drewN ((Below.refl _ _).alloc (Nat.le_refl _) _) _⟩

theorem misses_b (w : World) (p : Nat) (S : Nat → Prop) (A : Option Addr) (n c : Nat) (picks : List Int) (fr b : Nat) (h : WinAt w p S A n c picks fr (fr + b)) (s : Span) (hok : spanOk s) :
    Calls Try.prog 22 #[.pointer (some ⟨p, 0, none⟩), spanV s] w fun e w' => e = .returned (.bool (missB picks fr b s)) ∧ Below w.heap.size w w' := by
  have := misses_any w p S A n c picks fr (fr + b) h s hok
  rw [win_is] at this
  exact this

end Go.Proofs.Ytmcnccfbligeaaa
