/-
  What four bytes say, the comparison of entries, picks: the walks.
-/
import Derived.Test.YtefenbmchfbohaaProg
import Derived.Test.YtefenbmchfbohaaScrP
import Derived.Test.YtefenbmchfbohaaApp
import Derived.WalkKit
import Derived.WalkLawsBesides
import Derived.WalkSpells
import Derived.Lib.Hide
import Derived.Deep.QuietTactic
import Derived.BigQuiet
import Derived.Deep.LoopGhost
import Derived.StillTailTactics
namespace Go.Proofs.Ytefenbmchfbohaa
open Go.RowKit Go.Rp

/-- An entry as a value. -/
abbrev entV (e : Ent) : Value := .agg #[.int .u8 e.1, .int .i64 e.2.1, .int .u8 e.2.2.1, .int .i32 e.2.2.2.1, .int .u8 e.2.2.2.2]
theorem entry_raw (w : World) (b off c : Nat) (x0 x1 x2 x3 : Int) (h0 : w.cell? ⟨b, off, none⟩ = some (.int .u8 x0)) (h1 : w.cell? ⟨b, off + 1, none⟩ = some (.int .u8 x1)) (h2 : w.cell? ⟨b, off + 2, none⟩ = some (.int .u8 x2)) (h3 : w.cell? ⟨b, off + 3, none⟩ = some (.int .u8 x3))
    (hb : b < w.heap.size) (k1 : 0 ≤ x1 ∧ x1 ≤ 255) (k3 : 0 ≤ x3 ∧ x3 ≤ 255) :
    Calls Try.prog 22 #[.slice (some ⟨b, off, none⟩) 4 c] w fun e w' => e = .returned (entV (entryOf x0 x1 x2 x3)) ∧ Below w.heap.size w w' := by
  obtain ⟨k1, k1'⟩ := k1
  obtain ⟨k3, k3'⟩ := k3
  have e1 : IntKind.i64.wrap x1 = x1 := IntWalk.i64_in _ (by omega)
  have e3 : IntKind.i32.wrap x3 = x3 := IntWalk.i32_in _ (by omega)
  by_cases hx : x0 = 1
  · subst hx
    have hE : entryOf 1 x1 x2 x3 = (1, x1, x2, x3, 0) := rfl
    rw [hE]
    have HA : Hid (∀ k, k < 4 → (w.alloc (.cells #[.int .u8 0, .int .i64 0, .int .u8 0, .int .i32 0, .int .u8 0] 30)).cell? ⟨b, off + k, none⟩ = w.cell? ⟨b, off + k, none⟩) := Lib.hid fun k _ => World.cell?_alloc_lt w _ ⟨b, off + k, none⟩ hb
    go_enter Try.func22, Try.ntmps22
    go_wp2
    have q1 := (HA.out 1 (by omega)).trans h1
    have q2 := (HA.out 2 (by omega)).trans h2
    have q3 := (HA.out 3 (by omega)).trans h3
    generalize hW : w.alloc (.cells #[.int .u8 0, .int .i64 0, .int .u8 0, .int .i32 0, .int .u8 0] 30) = W at *
    go_still_tail 14, (by kernel_rfl)
    change wpList _ _ _ _ _ W.drew
    subst hW
    go_wp2
    exact bodyPost_ret (v := entV (1, x1, x2, x3, 0)) (by simp [results, Try.results22, go_sem]) rfl ⟨rfl, ((Below.refl _ _).alloc (Nat.le_refl _) _).drew⟩
  · by_cases hx2 : x0 = 2
    · subst hx2
      have hE : entryOf 2 x1 x2 x3 = (2, x1, 0, 0, 0) := rfl
      rw [hE]
      go_enter Try.func22, Try.ntmps22
      go_wp2
      exact bodyPost_ret (v := entV (2, x1, 0, 0, 0)) (by simp [results, Try.results22, go_sem]) rfl ⟨rfl, (Below.refl _ _).alloc (Nat.le_refl _) _⟩
    · by_cases hx3 : x0 = 3
      · subst hx3
        have hE : entryOf 3 x1 x2 x3 = (3, 0, 0, 0, x3) := rfl
        rw [hE]
        go_enter Try.func22, Try.ntmps22
        go_wp2
        exact bodyPost_ret (v := entV (3, 0, 0, 0, x3)) (by simp [results, Try.results22, go_sem]) rfl ⟨rfl, (Below.refl _ _).alloc (Nat.le_refl _) _⟩
      · have hE : entryOf x0 x1 x2 x3 = (0, 0, 0, 0, 0) := by unfold entryOf; rw [if_neg hx, if_neg hx2, if_neg hx3]
        rw [hE]
        have n1 : (x0 == 1) = false := by simpa using hx
        have n2 : (x0 == 2) = false := by simpa using hx2
        have n3 : (x0 == 3) = false := by simpa using hx3
        clear hx hx2 hx3 hE
        go_enter Try.func22, Try.ntmps22
        go_wp2
        exact bodyPost_ret (v := entV (0, 0, 0, 0, 0)) (by simp [results, Try.results22, go_sem]) rfl ⟨rfl, (Below.refl _ _).alloc (Nat.le_refl _) _⟩

theorem ret_i64 {a b : Int} (h : a = b) : Ending.returned (.int .i64 a) = .returned (.int .i64 b) := by rw [h]
theorem Picks_any (w : World) (A : Option Addr) (n c : Nat) (R : Nat → Prop) (l : List Ent) (hn : l.length = n) (hr : Rd w R 5 A n (l.flatMap entIn)) (hlen : n ≤ 100000) :
    Calls Try.prog 12 #[.slice A n c] w fun e w' => e = .returned (.int .i64 (pickN l n : Int)) ∧ Below w.heap.size w w' := by
  have HN := Lib.hid hn
  clear hn
  go_enter Try.func12, Try.ntmps12
  go_wp2_with fail
  go_loopg [3, 8] n (fun g v k wr => ∃ m : Nat, m + g = n ∧ k = .int .i64 (m : Int) ∧ v = .int .i64 ((pickN l m : Nat) : Int) ∧ Below w.heap.size w wr)
  case atStart => exact ⟨0, by omega, rfl, rfl, Below.refl _ _⟩
  case round =>
    obtain ⟨m, hm, rfl, rfl, hb⟩ := hrel
    by_cases hlt : m < n
    · have hml : m < l.length := by rw [HN.out]; exact hlt
      obtain ⟨b, off, rfl, _, hcells⟩ := (hr.kept hb).at (by omega)
      obtain ⟨e0, e1, e2, e3, e4⟩ := ent_at l m hml
      have g0 := hcells _ _ e0
      have g1 := hcells _ _ e1
      have g2 := hcells _ _ e2
      have g3 := hcells _ _ e3
      have g4 := hcells _ _ e4
      simp only [← Nat.add_assoc] at g0 g1 g2 g3 g4
      have hp : Hid (pickN l (m + 1) = pickN l m + if l[m].1 = 2 then 1 else 0) := Lib.hid (by simp [pickN, hml])
      have hpl := pickN_le l m
      generalize l[m] = o at *
      generalize pickN l m = q at *
      clear hcells e0 e1 e2 e3 e4
      have b2 := hb.alloc hb.size (.cells #[.int .u8 o.1, .int .i64 o.2.1, .int .u8 o.2.2.1, .int .i32 o.2.2.2.1, .int .u8 o.2.2.2.2] 30)
      by_cases ho : o.1 = 2
      · have ho' : (o.1 == 2) = true := by simpa using ho
        have hp2 := Lib.hid (hp.out.trans (by rw [if_pos ho]))
        clear hp ho
        go_wp2_with fail
        go_roundg (gk - 1)
        case measure => omega
        case rel => exact ⟨m + 1, by omega, by go_num, by rw [hp2.out]; go_num, b2⟩
      · have ho' : (o.1 == 2) = false := by simpa using ho
        have hp2 := Lib.hid (hp.out.trans (by rw [if_neg ho]))
        clear hp ho
        go_wp2_with fail
        go_roundg (gk - 1)
        case measure => omega
        case rel => exact ⟨m + 1, by omega, by go_num, by rw [hp2.out]; rfl, b2⟩
    · obtain rfl : m = n := by omega
      go_wp2_with fail
      go_ret
      exact ⟨rfl, hb⟩

theorem ent_eq (W : World) (x y : Ent) : (Op.equalIn 10000 30 (entV x) (entV y)).run Try.prog W = .ok (decide (x = y)) W := by
  obtain ⟨a1, a2, a3, a4, a5⟩ := x
  obtain ⟨b1, b2, b3, b4, b5⟩ := y
  go_simp
  by_cases h1 : a1 = b1 <;> by_cases h2 : a2 = b2 <;> by_cases h3 : a3 = b3 <;> by_cases h4 : a4 = b4 <;> by_cases h5 : a5 = b5 <;> simp [h1, h2, h3, h4, h5]
theorem Same_any (w : World) (A A' : Option Addr) (n n' c c' : Nat) (R R' : Nat → Prop) (xs ys : List Ent) (hx : Rd w R 5 A n (xs.flatMap entIn)) (hy : Rd w R' 5 A' n' (ys.flatMap entIn)) (l1 : xs.length = n) (l2 : ys.length = n') (hn : n ≤ 1000000) (hn' : n' ≤ 1000000) :
    Calls Try.prog 11 #[.slice A n c, .slice A' n' c'] w fun e w' => e = .returned (.bool (decide (xs = ys))) ∧ Below w.heap.size w w' := by
  by_cases hnn : n = n'
  · subst hnn
    have hne : ((n : Int) != (n : Int)) = false := by simp
    have H1 := Lib.hid l1
    have H2 := Lib.hid l2
    clear l1 l2
    go_enter Try.func11, Try.ntmps11
    go_wp2
    clear hne
    go_loopw [5] (fun k wr => ∃ m : Nat, m ≤ n ∧ k = .int .i64 (m : Int) ∧ Below w.heap.size w wr ∧ Hid (xs.take m = ys.take m)) (fun k _ => n - (intOf k).toNat)
    case atStart => exact ⟨0, by omega, rfl, Below.refl _ _, Lib.hid rfl⟩
    case round =>
      obtain ⟨m, hm, rfl, hb, heq⟩ := hrel
      by_cases hlt : m < n
      · obtain ⟨b1, o1, rfl, _, h1⟩ := (hx.kept hb).at (by omega)
        obtain ⟨b2, o2, rfl, _, h2⟩ := (hy.kept hb).at (by omega)
        have hm1 : m < xs.length := by rw [H1.out]; exact hlt
        have hm2 : m < ys.length := by rw [H2.out]; exact hlt
        obtain ⟨e0, e1, e2, e3, e4⟩ := ent_at xs m hm1
        obtain ⟨f0, f1, f2, f3, f4⟩ := ent_at ys m hm2
        have g0 := h1 _ _ e0
        have g1 := h1 _ _ e1
        have g2 := h1 _ _ e2
        have g3 := h1 _ _ e3
        have g4 := h1 _ _ e4
        have i0 := h2 _ _ f0
        have i1 := h2 _ _ f1
        have i2 := h2 _ _ f2
        have i3 := h2 _ _ f3
        have i4 := h2 _ _ f4
        simp only [← Nat.add_assoc] at g0 g1 g2 g3 g4 i0 i1 i2 i3 i4
        have t1 := Lib.hid (List.take_succ_eq_append_getElem hm1)
        have t2 := Lib.hid (List.take_succ_eq_append_getElem hm2)
        generalize xs[m] = x at *
        generalize ys[m] = y at *
        clear h1 h2 hm1 hm2 e0 e1 e2 e3 e4 f0 f1 f2 f3 f4
        by_cases hxy : x = y
        · subst hxy
          go_wp2
          go_quiet (fail)
          go_wp2
          go_roundw
          case rel => exact ⟨m + 1, by omega, by go_num, below_drewN hb _, Lib.hid (by rw [t1.out, t2.out, heq.out])⟩
          case measure => simp [intOf]; omega
        · have hd : decide (xs = ys) = false := by
            simp only [decide_eq_false_iff_not]
            intro he
            have e1 := t1.out
            have e2 := t2.out
            rw [he, e2] at e1
            simp at e1
            exact hxy e1.symm
          have HD := Lib.hid hd
          have HXY := Lib.hid hxy
          have hq : ∀ W, (binOp .neq 30 (entV x) (entV y)).run Try.prog W = .ok (.bool true) W := fun W => by
            rw [run_neq_struct, ent_eq, decide_eq_false hxy]
            rfl
          clear hd hxy
          go_wp2
          go_quiet (fail)
          go_wp2
          go_ret
          rw [HD.out]
          exact ⟨rfl, below_drewN hb _⟩
      · have : m = n := by omega
        subst this
        have hd : decide (xs = ys) = true := by
          have := heq.out
          rw [List.take_of_length_le (by rw [H1.out]; omega), List.take_of_length_le (by rw [H2.out]; omega)] at this
          simpa using this
        go_wp2
        go_ret
        rw [hd]
        exact ⟨rfl, hb⟩
  · have hne : ((n : Int) != (n' : Int)) = true := by simp; omega
    have hd : decide (xs = ys) = false := by
      simp
      rintro rfl
      omega
    rw [hd]
    have H1 := Lib.hid l1
    have H2 := Lib.hid l2
    clear l1 l2 hd
    go_enter Try.func11, Try.ntmps11
    go_wp2
    go_ret
    exact ⟨rfl, Below.refl _ _⟩
end Go.Proofs.Ytefenbmchfbohaa
