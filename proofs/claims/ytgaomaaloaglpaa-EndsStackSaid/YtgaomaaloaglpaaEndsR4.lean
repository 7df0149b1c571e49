/-
  The deque at things apart: items, a copy, a run of operations; two rows of items compared; no deque.
-/
import Derived.Test.YtgaomaaloaglpaaEndsR3
import Derived.Laws.EntriesVeiled
namespace Go.Proofs.Ytgaomaaloaglpaa
open Go.RowKit Go.Rp

theorem Same_any (w : World) (A A' : Option Addr) (n n' c c' : Nat) (R R' : Nat → Prop) (xs ys : List Int) (hx : Rd w R 1 A n (xs.map fun x => Value.int .i32 x)) (hy : Rd w R' 1 A' n' (ys.map fun x => Value.int .i32 x)) (hn : n ≤ 1000000) (hn' : n' ≤ 1000000) :
    Calls Try.prog 35 #[.slice A n c, .slice A' n' c'] w fun e w' => e = .returned (.bool (decide (xs = ys))) ∧ Below w.heap.size w w' := by
  have l1 : xs.length = n := by simpa using hx.1
  have l2 : ys.length = n' := by simpa using hy.1
  by_cases hnn : n = n'
  · subst hnn
    have hne : ((n : Int) != (n : Int)) = false := by simp
    have H1 := Lib.hid l1
    have H2 := Lib.hid l2
    clear l1 l2
    go_enter Try.func35, Try.ntmps35
    go_wp2
    clear hne
    go_loopw [5] (fun k wr => ∃ m : Nat, m ≤ n ∧ k = .int .i64 (m : Int) ∧ Below w.heap.size w wr ∧ Hid (xs.take m = ys.take m)) (fun k _ => n - (intOf k).toNat)
    case atStart => exact ⟨0, by omega, rfl, Below.refl _ _, Lib.hid rfl⟩
    case round =>
      obtain ⟨m, hm, rfl, hb, heq⟩ := hrel
      by_cases hlt : m < n
      · obtain ⟨b1, o1, rfl, _, h1⟩ := (hx.kept hb).at (by omega)
        obtain ⟨b2, o2, rfl, _, h2⟩ := (hy.kept hb).at (by omega)
        have hm1 : m < xs.length := by rw [H1.out]; exact hlt
        have hm2 : m < ys.length := by rw [H2.out]; exact hlt
        have g1 : wr.cell? ⟨b1, o1 + m, none⟩ = some (.int .i32 xs[m]) := h1 m _ (by simp [hm1])
        have g2 : wr.cell? ⟨b2, o2 + m, none⟩ = some (.int .i32 ys[m]) := h2 m _ (by simp [hm2])
        have t1 := Lib.hid (List.take_succ_eq_append_getElem hm1)
        have t2 := Lib.hid (List.take_succ_eq_append_getElem hm2)
        generalize xs[m] = x at *
        generalize ys[m] = y at *
        clear h1 h2 hm1 hm2
        by_cases hxy : x = y
        · subst hxy
          go_wp2
          go_quiet (fail)
          go_wp2
          go_roundw
          case rel => exact ⟨m + 1, by omega, by go_num, below_drewN hb _, Lib.hid (by rw [t1.out, t2.out, heq.out])⟩
          case measure => simp [intOf]; omega
        · have hxy' : (x != y) = true := by simpa using hxy
          have hd : decide (xs = ys) = false := by
            simp only [decide_eq_false_iff_not]
            intro he
            have e1 := t1.out
            have e2 := t2.out
            rw [he, e2] at e1
            simp at e1
            exact hxy e1.symm
          have HD := Lib.hid hd
          clear hd hxy
          go_wp2
          go_quiet (fail)
          go_wp2
          go_ret
          rw [HD.out]
          exact ⟨rfl, below_drewN hb _⟩
      · have : m = n := by omega
        subst this
        have hd : decide (xs = ys) = true := by
          have := heq.out
          rw [List.take_of_length_le (by rw [H1.out]; omega), List.take_of_length_le (by rw [H2.out]; omega)] at this
          simpa using this
        go_wp2
        go_ret
        rw [hd]
        exact ⟨rfl, hb⟩
  · have hne : ((n : Int) != (n' : Int)) = true := by simp; omega
    have hd : decide (xs = ys) = false := by
      simp
      rintro rfl
      omega
    rw [hd]
    have H1 := Lib.hid l1
    have H2 := Lib.hid l2
    clear l1 l2 hd
    go_enter Try.func35, Try.ntmps35
    go_wp2
    go_ret
    exact ⟨rfl, Below.refl _ _⟩

/-- Items of the program's own. -/
abbrev ownI (A : Option Addr) (n c : Nat) (l : List Int) : Res := slRes 21 1 A n c (iv l)

theorem pushL_nil (w : World) (v : Int) : Calls Try.prog 30 #[.pointer none, .int .i32 v] w fun e w' => e = .returned (.bool false) ∧ w = w' := by
  go_enter Try.func30, Try.ntmps30
  go_wp2_with fail
  refine (rlen_nil _).mono ?_
  rintro e w1 ⟨rfl, rfl⟩
  go_wp2_with fail
  refine (rmost_nil _).mono ?_
  rintro e w1 ⟨rfl, rfl⟩
  go_wp2_with fail
  go_ret
  exact ⟨rfl, rfl⟩
theorem pushR_nil (w : World) (v : Int) : Calls Try.prog 31 #[.pointer none, .int .i32 v] w fun e w' => e = .returned (.bool false) ∧ w = w' := by
  go_enter Try.func31, Try.ntmps31
  go_wp2_with fail
  refine (rlen_nil _).mono ?_
  rintro e w1 ⟨rfl, rfl⟩
  go_wp2_with fail
  refine (rmost_nil _).mono ?_
  rintro e w1 ⟨rfl, rfl⟩
  go_wp2_with fail
  go_ret
  exact ⟨rfl, rfl⟩
theorem popL_nil (w : World) : Calls Try.prog 28 #[.pointer none] w fun e w' => e = .returned (.tuple #[.int .i32 0, .bool false]) ∧ w = w' := by
  go_enter Try.func28, Try.ntmps28
  go_wp2_with fail
  refine (rlen_nil _).mono ?_
  rintro e w1 ⟨rfl, rfl⟩
  go_wp2_with fail
  go_ret2
  exact ⟨rfl, rfl⟩
theorem popR_nil (w : World) : Calls Try.prog 29 #[.pointer none] w fun e w' => e = .returned (.tuple #[.int .i32 0, .bool false]) ∧ w = w' := by
  go_enter Try.func29, Try.ntmps29
  go_wp2_with fail
  refine (rlen_nil _).mono ?_
  rintro e w1 ⟨rfl, rfl⟩
  go_wp2_with fail
  go_ret2
  exact ⟨rfl, rfl⟩

section
variable {B : Nat} {w w' : World} {p N : Nat} {l : List Int} {L : List Res}
theorem items_s (hB : B ≤ w.heap.size) (h : At B w (ringR p N l :: L)) {n : Nat} (hn : l.length = n) : Calls Try.prog 36 #[.pointer (some ⟨p, 0, none⟩)] w fun e w' => ∃ A c, e = .returned (.slice A n c) ∧ At B w' (ownI A n c l :: ringR p N l :: L) ∧ Below B w w' := by
  subst hn
  exact (items_any w p N _ l h.get).mono fun e w' ⟨A, c, he, hs, hb⟩ => ⟨A, c, he, h.made (fun x hx => Nat.le_trans hB hx) hb hs, hb.mono hB⟩
theorem Same_s (hB : B ≤ w.heap.size) (h : At B w L) {A A' : Option Addr} {n n' c c' : Nat} {R R' : Nat → Prop} {xs ys : List Int} (hx : Rd w R 1 A n (iv xs)) (hy : Rd w R' 1 A' n' (iv ys)) (hn : n ≤ 1000000) (hn' : n' ≤ 1000000) :
    Calls Try.prog 35 #[.slice A n c, .slice A' n' c'] w fun e w' => e = .returned (.bool (decide (xs = ys))) ∧ At B w' L ∧ Below B w w' :=
  (Same_any w A A' n n' c c' R R' xs ys hx hy hn hn').mono fun _ _ ⟨he, hb⟩ => ⟨he, h.keep hb, hb.mono hB⟩
theorem Same_t (hB : B ≤ w.heap.size) (h : At B w L) {A A' : Option Addr} {n n' c c' : Nat} {R R' : Nat → Prop} {xs : List Int} (hx : Rd w R 1 A n (iv xs)) (hy : Rd w R' 1 A' n' (iv xs)) (hn : n ≤ 1000000) (hn' : n' ≤ 1000000) :
    Calls Try.prog 35 #[.slice A n c, .slice A' n' c'] w fun e w' => e = .returned (.bool true) ∧ At B w' L ∧ Below B w w' := by
  have := Same_s hB h hx hy hn hn' (c := c) (c' := c')
  rwa [decide_eq_true rfl] at this
theorem Sl.read {e sz n c : Nat} {A : Option Addr} {xs : List Value} {S : Nat → Prop} (h : (slRes e sz A n c xs).Q w S) : Rd w S sz A n xs := Sl.rd h
end
theorem ops_at {B : Nat} {w : World} {L : List Res} {b off n k : Nat} {ops : List (Int × Int)} (h : At B w (opsR (some ⟨b, off, none⟩) n ops :: L)) (hk : k < ops.length) :
    w.cell? ⟨b, off + k * 2, none⟩ = some (.int .u8 ops[k].1) ∧ w.cell? ⟨b, off + k * 2 + 1, none⟩ = some (.int .i32 ops[k].2) := by
  have hr : Rd w _ 2 (some ⟨b, off, none⟩) n (ops.flatMap opIn) := h.get
  have hl : (ops.flatMap opIn).length = ops.length * 2 := by
    clear hk hr h
    induction ops with
    | nil => rfl
    | cons o l ih => simp only [List.flatMap_cons, List.length_append, ih, List.length_cons]; simp [opIn]; omega
  have hln := hr.1
  rw [hl] at hln
  obtain ⟨b', o', e, _, hc⟩ := hr.at (by omega)
  simp at e
  obtain ⟨rfl, rfl⟩ := e
  clear hr h hl hln
  have : (ops.flatMap opIn)[k * 2]? = some (.int .u8 ops[k].1) ∧ (ops.flatMap opIn)[k * 2 + 1]? = some (.int .i32 ops[k].2) := by
    clear hc
    induction ops generalizing k with
    | nil => simp at hk
    | cons o l ih =>
      rcases k with _ | k
      · simp [opIn]
      · have := ih (by simpa using hk)
        simp only [List.flatMap_cons, opIn, List.cons_append, List.nil_append, List.getElem_cons_succ]
        rw [show (k + 1) * 2 = k * 2 + 2 by omega]
        simpa [opIn] using this
  exact ⟨hc _ _ this.1, hc _ _ this.2⟩

end Go.Proofs.Ytgaomaaloaglpaa
