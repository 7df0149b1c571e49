/-
  The stack's statements: the document's own functions, and the runs of operations.
-/
import Derived.Test.YtgnpchafcalkgaaStackB
import Derived.Test.YtgnpchafcalkgaaIn
namespace Go.Proofs.Ytgnpchafcalkgaa
open Go.RowKit Go.Rp

/-- Operations' cells. -/
def opCells (o : Int × Int) : List Value := [.int .u8 o.1, .int .i32 o.2]
theorem opCells_len (l : List (Int × Int)) : (l.flatMap opCells).length = l.length * 2 := by
  induction l with
  | nil => rfl
  | cons o l ih => simp [opCells, ih]; omega
theorem opCells_at (l : List (Int × Int)) (k : Nat) (hk : k < l.length) : (l.flatMap opCells)[k * 2]? = some (.int .u8 l[k].1) ∧ (l.flatMap opCells)[k * 2 + 1]? = some (.int .i32 l[k].2) := by
  induction l generalizing k with
  | nil => simp at hk
  | cons o l ih =>
    rcases k with _ | k
    · simp [opCells]
    · have := ih k (by simpa using hk)
      simp only [List.flatMap_cons, opCells, List.cons_append, List.nil_append, List.getElem_cons_succ]
      rw [show (k + 1) * 2 = k * 2 + 2 by omega]
      simpa [opCells] using this

theorem Same_any (w : World) (A A' : Option Addr) (n n' c c' : Nat) (R R' : Nat → Prop) (xs ys : List Int) (hx : Rd w R 1 A n (xs.map fun x => Value.int .i32 x)) (hy : Rd w R' 1 A' n' (ys.map fun x => Value.int .i32 x)) (hn : n ≤ 1000000) (hn' : n' ≤ 1000000) :
    Calls Try.prog 17 #[.slice A n c, .slice A' n' c'] w fun e w' => e = .returned (.bool (decide (xs = ys))) ∧ Below w.heap.size w w' := by
  have l1 : xs.length = n := by simpa using hx.1
  have l2 : ys.length = n' := by simpa using hy.1
  by_cases hnn : n = n'
  · subst hnn
    have hne : ((n : Int) != (n : Int)) = false := by simp
    have H1 := Lib.hid l1
    have H2 := Lib.hid l2
    clear l1 l2
    go_enter Try.func17, Try.ntmps17
    go_wp2
    clear hne
    go_loopw [5] (fun k wr => ∃ m : Nat, m ≤ n ∧ k = .int .i64 (m : Int) ∧ Below w.heap.size w wr ∧ Hid (xs.take m = ys.take m)) (fun k _ => n - (intOf k).toNat)
    case atStart => exact ⟨0, by omega, rfl, Below.refl _ _, Lib.hid rfl⟩
    case round =>
      obtain ⟨m, hm, rfl, hb, heq⟩ := hrel
      by_cases hlt : m < n
      · obtain ⟨b1, o1, rfl, _, h1⟩ := (hx.kept hb).at (by omega)
        obtain ⟨b2, o2, rfl, _, h2⟩ := (hy.kept hb).at (by omega)
        have hm1 : m < xs.length := by rw [H1.out]; exact hlt
        have hm2 : m < ys.length := by rw [H2.out]; exact hlt
        have g1 : wr.cell? ⟨b1, o1 + m, none⟩ = some (.int .i32 xs[m]) := h1 m _ (by simp [hm1])
        have g2 : wr.cell? ⟨b2, o2 + m, none⟩ = some (.int .i32 ys[m]) := h2 m _ (by simp [hm2])
        have t1 := Lib.hid (List.take_succ_eq_append_getElem hm1)
        have t2 := Lib.hid (List.take_succ_eq_append_getElem hm2)
        generalize xs[m] = x at *
        generalize ys[m] = y at *
        clear h1 h2 hm1 hm2
        by_cases hxy : x = y
        · subst hxy
          go_wp2
          go_quiet (fail)
          go_wp2
          go_roundw
          case rel => exact ⟨m + 1, by omega, by go_num, below_drewN hb _, Lib.hid (by rw [t1.out, t2.out, heq.out])⟩
          case measure => simp [intOf]; omega
        · have hxy' : (x != y) = true := by simpa using hxy
          have hd : decide (xs = ys) = false := by
            simp only [decide_eq_false_iff_not]
            intro he
            have e1 := t1.out
            have e2 := t2.out
            rw [he, e2] at e1
            simp at e1
            exact hxy e1.symm
          have HD := Lib.hid hd
          clear hd hxy
          go_wp2
          go_quiet (fail)
          go_wp2
          go_ret
          rw [HD.out]
          exact ⟨rfl, below_drewN hb _⟩
      · have : m = n := by omega
        subst this
        have hd : decide (xs = ys) = true := by
          have := heq.out
          rw [List.take_of_length_le (by rw [H1.out]; omega), List.take_of_length_le (by rw [H2.out]; omega)] at this
          simpa using this
        go_wp2
        go_ret
        rw [hd]
        exact ⟨rfl, hb⟩
  · have hne : ((n : Int) != (n' : Int)) = true := by simp; omega
    have hd : decide (xs = ys) = false := by
      simp
      rintro rfl
      omega
    rw [hd]
    have H1 := Lib.hid l1
    have H2 := Lib.hid l2
    clear l1 l2 hd
    go_enter Try.func17, Try.ntmps17
    go_wp2
    go_ret
    exact ⟨rfl, Below.refl _ _⟩

def runs (most : Nat) (l : List Int) (ops : List (Int × Int)) : List Int := ops.foldl (fun l o => (sDo most l o.1 o.2).1) l

theorem runs_snoc (most : Nat) (l : List Int) (ops : List (Int × Int)) (m : Nat) (hm : m < ops.length) : runs most l (ops.take (m + 1)) = (sDo most (runs most l (ops.take m)) ops[m].1 ops[m].2).1 := by
  unfold runs
  rw [List.take_succ_eq_append_getElem hm, List.foldl_append]
  rfl

theorem run_any (w : World) (p : Nat) (S : Nat → Prop) (most : Nat) (l : List Int) (h : StackAt w p S most l) (A : Option Addr) (n c : Nat) (R : Nat → Prop) (ops : List (Int × Int)) (hn : ops.length = n) (hr : Rd w R 2 A n (ops.flatMap opCells)) (hR : ∀ b, R b → ¬ S b) (hk : ∀ o ∈ ops, 0 ≤ o.1 ∧ o.1 ≤ 255) (hlen : n ≤ 1000000) :
    Calls Try.prog 20 #[.pointer (some ⟨p, 0, none⟩), .slice A n c] w fun e w' => e = .returned (.tuple #[]) ∧ StackAt w' p (grow S w w') most (runs most l ops) ∧ Mod S w w' := by
  have HN := Lib.hid hn
  clear hn
  go_enter Try.func20, Try.ntmps20
  go_wp2_with fail
  go_loopw [4] (fun k wr => ∃ m : Nat, m ≤ n ∧ k = .int .i64 (m : Int) ∧ StackAt wr p (grow S w wr) most (runs most l (ops.take m)) ∧ Mod S w wr) (fun k _ => n - (intOf k).toNat)
  case atStart => exact ⟨0, by omega, rfl, by simpa [runs] using h.mono grow_left, Mod.refl _ _⟩
  case round =>
    obtain ⟨m, hm, rfl, hs, hmod⟩ := hrel
    by_cases hlt : m < n
    · obtain ⟨b, off, rfl, hbR, hcells⟩ := (hr.mod hmod hR).at (by omega)
      have hlt' : m < ops.length := by rw [HN.out]; exact hlt
      obtain ⟨c0, c1⟩ := opCells_at ops m hlt'
      obtain ⟨k0, k1⟩ := hk _ (List.getElem_mem hlt')
      have g0 : wr.cell? ⟨b, off + m * 2, none⟩ = some (.int .u8 ops[m].1) := hcells _ _ c0
      have g1 : wr.cell? ⟨b, off + m * 2 + 1, none⟩ = some (.int .i32 ops[m].2) := hcells _ _ c1
      have hsnoc := Lib.hid (runs_snoc most l ops m hlt')
      clear hcells c0 c1
      generalize hom : ops[m] = o at *
      clear hom
      obtain ⟨k, v⟩ := o
      simp only at *
      go_wp2_with fail
      refine (do_any wr p _ most _ k v k0 k1 hs).mono ?_
      rintro e w2 ⟨rfl, h2, m2⟩
      go_wp2_with fail
      go_roundw
      case rel =>
        refine ⟨m + 1, by omega, by go_num, ?_, hmod.grow m2⟩
        rw [hsnoc.out]
        exact h2.mono (grow_grow hmod.size m2.size (Nat.le_refl _))
      case measure => simp [intOf]; omega
    · have : m = n := by omega
      subst this
      rw [List.take_of_length_le (by rw [HN.out]; omega)] at hs
      go_wp2_with fail
      go_end0
      exact ⟨rfl, hs, hmod⟩
end Go.Proofs.Ytgnpchafcalkgaa
