/-
  The deque at things apart: items, a copy, a run of operations; two rows of items compared; no deque.
-/
import Derived.Test.YtehmnhdmkjdghaaRingK
import Derived.Test.YtehmnhdmkjdghaaLawRingStack
import Derived.Laws.EntriesVeiled
namespace Go.Proofs.Ytehmnhdmkjdghaa
open Go.RowKit Go.Rp

theorem Same_any (w : World) (A A' : Option Addr) (n n' c c' : Nat) (R R' : Nat → Prop) (xs ys : List Int) (hx : Rd w R 1 A n (xs.map fun x => Value.int .i32 x)) (hy : Rd w R' 1 A' n' (ys.map fun x => Value.int .i32 x)) (hn : n ≤ 1000000) (hn' : n' ≤ 1000000) :
    Calls Try.prog 23 #[.slice A n c, .slice A' n' c'] w fun e w' => e = .returned (.bool (decide (xs = ys))) ∧ Below w.heap.size w w' := by
  have l1 : xs.length = n := by simpa using hx.1
  have l2 : ys.length = n' := by simpa using hy.1
  by_cases hnn : n = n'
  · subst hnn
    have hne : ((n : Int) != (n : Int)) = false := by simp
    have H1 := Lib.hid l1
    have H2 := Lib.hid l2
    clear l1 l2
    go_enter Try.func23, Try.ntmps23
    go_wp2
    clear hne
    go_loopw [5] (fun k wr => ∃ m : Nat, m ≤ n ∧ k = .int .i64 (m : Int) ∧ Below w.heap.size w wr ∧ Hid (xs.take m = ys.take m)) (fun k _ => n - (intOf k).toNat)
    case atStart => exact ⟨0, by omega, rfl, Below.refl _ _, Lib.hid rfl⟩
    case round =>
      obtain ⟨m, hm, rfl, hb, heq⟩ := hrel
      by_cases hlt : m < n
      · obtain ⟨b1, o1, rfl, _, h1⟩ := (hx.kept hb).at (by omega)
        obtain ⟨b2, o2, rfl, _, h2⟩ := (hy.kept hb).at (by omega)
        have hm1 : m < xs.length := by rw [H1.out]; exact hlt
        have hm2 : m < ys.length := by rw [H2.out]; exact hlt
        have g1 : wr.cell? ⟨b1, o1 + m, none⟩ = some (.int .i32 xs[m]) := h1 m _ (by simp [hm1])
        have g2 : wr.cell? ⟨b2, o2 + m, none⟩ = some (.int .i32 ys[m]) := h2 m _ (by simp [hm2])
        have t1 := Lib.hid (List.take_succ_eq_append_getElem hm1)
        have t2 := Lib.hid (List.take_succ_eq_append_getElem hm2)
        generalize xs[m] = x at *
        generalize ys[m] = y at *
        clear h1 h2 hm1 hm2
        by_cases hxy : x = y
        · subst hxy
          go_wp2
          go_quiet (fail)
          go_wp2
          go_roundw
          case rel => exact ⟨m + 1, by omega, by go_num, below_drewN hb _, Lib.hid (by rw [t1.out, t2.out, heq.out])⟩
          case measure => simp [intOf]; omega
        · have hxy' : (x != y) = true := by simpa using hxy
          have hd : decide (xs = ys) = false := by
            simp only [decide_eq_false_iff_not]
            intro he
            have e1 := t1.out
            have e2 := t2.out
            rw [he, e2] at e1
            simp at e1
            exact hxy e1.symm
          have HD := Lib.hid hd
          clear hd hxy
          go_wp2
          go_quiet (fail)
          go_wp2
          go_ret
          rw [HD.out]
          exact ⟨rfl, below_drewN hb _⟩
      · have : m = n := by omega
        subst this
        have hd : decide (xs = ys) = true := by
          have := heq.out
          rw [List.take_of_length_le (by rw [H1.out]; omega), List.take_of_length_le (by rw [H2.out]; omega)] at this
          simpa using this
        go_wp2
        go_ret
        rw [hd]
        exact ⟨rfl, hb⟩
  · have hne : ((n : Int) != (n' : Int)) = true := by simp; omega
    have hd : decide (xs = ys) = false := by
      simp
      rintro rfl
      omega
    rw [hd]
    have H1 := Lib.hid l1
    have H2 := Lib.hid l2
    clear l1 l2 hd
    go_enter Try.func23, Try.ntmps23
    go_wp2
    go_ret
    exact ⟨rfl, Below.refl _ _⟩

theorem clone_any (w : World) (A : Option Addr) (n c : Nat) (R : Nat → Prop) (xs : List Value) (hr : Rd w R 1 A n xs) (hA : A = none → n = 0 ∧ c = 0) (h1 : ∀ u ∈ xs, u.oneCell' = true) (hn : n ≤ 100000000) :
    Calls Try.prog 34 #[.slice A n c] w (NewSl w 21 1 n xs) := by
  obtain ⟨i0, hi0, hz0, hz1, hz2⟩ := info_parts info_i32
  have hnil := fun (W : World) (A : Option Addr) (n c : Nat) => Lib.run_eql_slice_nil (P := Try.prog) W 27 21 A n c 0 0 Try.underlying27
  rcases A with _ | a
  · obtain ⟨rfl, rfl⟩ := hA rfl
    have hx : xs = [] := List.eq_nil_of_length_eq_zero (by simpa using hr.1)
    subst hx
    go_enter Try.func34, Try.ntmps34
    go_wp2
    go_ret
    exact ⟨none, 0, rfl, Sl.nil _ _ _ _, Below.refl _ _⟩
  · go_enter Try.func34, Try.ntmps34
    go_wp2_with (at_builtin; refine wpList_append_sl _ rfl (.tmp 5) (.tmp 6) _ rfl 21 i0 _ 1 4 Try.underlying27 hi0 hz0 hz1 hz2 rfl (by omega) (some ⟨w.heap.size, 0, none⟩) 0 0 [] (fun b => b = w.heap.size) rfl (Sl.lit0 _ _ _ rfl) R (some a) n c xs rfl (hr.alloc _) h1 (by simp only [maxLen]; omega) (by omega) ?_; intro A' c' w1 hown1 hmod1)
    go_ret
    rw [Nat.zero_add, List.nil_append] at hown1
    simpa using NewSl.cloned hown1 hmod1

/-- Items of the program's own. -/
abbrev ownI (A : Option Addr) (n c : Nat) (l : List Int) : Res := slRes 21 1 A n c (iv l)

set_option maxHeartbeats 2000000 in
theorem copy_any (w : World) (p N : Nat) (S : Nat → Prop) (l : List Int) (h : RingAt w p S N l) :
    Calls Try.prog 26 #[.pointer (some ⟨p, 0, none⟩)] w fun e w' => ∃ q, e = .returned (.pointer (some ⟨q, 0, none⟩)) ∧ RingAt w' q (fun b => w.heap.size ≤ b ∧ b < w'.heap.size) N l ∧ Below w.heap.size w w' := by
  obtain ⟨A, c, cs, f, hb, hs, hp, hrg, hN⟩ := h
  have c0 : w.cell? ⟨p, 0, none⟩ = some (.slice A N c) := hb.cell 0
  have c1 : w.cell? ⟨p, 1, none⟩ = some (.int .i64 (f : Int)) := hb.cell 1
  have c2 : w.cell? ⟨p, 2, none⟩ = some (.int .i64 (l.length : Int)) := hb.cell 2
  have hcl := clone_any w.drew A N c S (iv cs) (Sl.rd hs) hs.none_ (by intro u hu; obtain ⟨x, _, rfl⟩ := List.mem_map.1 hu; rfl) (by omega)
  have hlt := hb.lt
  have HRG := Lib.hid hrg
  clear hrg hs
  obtain ⟨ln, hln⟩ : ∃ ln, l.length = ln := ⟨_, rfl⟩
  rw [hln] at c2
  have HLN := Lib.hid hln
  clear hln hb
  go_enter Try.func26, Try.ntmps26
  go_wp2_with fail
  go_region_held3 (fun w' => w'.cell? ⟨p, 0, none⟩ = some (.slice A N c) ∧ w'.cell? ⟨p, 1, none⟩ = some (.int .i64 (f : Int)) ∧ w'.cell? ⟨p, 2, none⟩ = some (.int .i64 (ln : Int))) (first | (refine ⟨?_, ?_, ?_⟩ <;> assumption) | go_keep) (first
    | (go_at_call 34; ((with_reducible refine hcl.mono ?_); rintro e w6 ⟨A6, c6, rfl, hs6, hb6⟩; have c0 : w6.cell? ⟨p, 0, none⟩ = some (.slice A N c) := (hb6.cell (p := ⟨p, 0, none⟩) hlt).trans c0; have c1 : w6.cell? ⟨p, 1, none⟩ = some (.int .i64 (f : Int)) := (hb6.cell (p := ⟨p, 1, none⟩) hlt).trans c1; have c2 : w6.cell? ⟨p, 2, none⟩ = some (.int .i64 (ln : Int)) := (hb6.cell (p := ⟨p, 2, none⟩) hlt).trans c2)))
  go_wp2_with fail
  go_ret
  have hz : w.heap.size ≤ w6.heap.size := hb6.size
  have hs7 := (hs6.mono (T := fun b => w.heap.size ≤ b ∧ b < w6.heap.size + 1) fun b hb => ⟨hb.1, by have := hb.2; omega⟩).alloc (.cells #[.slice A6 N c6, .int .i64 (f : Int), .int .i64 (ln : Int)] 56)
  refine ⟨w6.heap.size, rfl, ⟨A6, c6, cs, f, ?_, by simpa using hs7, ⟨hz, by simp⟩, HRG.out, hN⟩, ?_⟩
  · rw [HLN.out]; exact Blk.new _ _ _
  · exact (((Below.refl _ w).drew).trans (hb6.mono (Nat.le_refl _))).alloc hz _
theorem copy_nil (w : World) : Calls Try.prog 26 #[.pointer none] w fun e w' => ∃ q, e = .returned (.pointer (some ⟨q, 0, none⟩)) ∧ RingAt w' q (fun b => w.heap.size ≤ b) 0 [] ∧ Below w.heap.size w w' := by
  have s0 : At w.heap.size w [] := trivial
  have h := new_s (Nat.le_refl _) s0 0
  rw [show cut 0 = 0 by decide] at h
  go_enter Try.func26, Try.ntmps26
  go_wp2_with fail
  refine (h).mono ?_
  rintro e w1 ⟨q, rfl, s1, b1⟩
  go_wp2_with fail
  go_ret
  exact ⟨q, rfl, s1.get, b1⟩
theorem pushL_nil (w : World) (v : Int) : Calls Try.prog 16 #[.pointer none, .int .i32 v] w fun e w' => e = .returned (.bool false) ∧ w = w' := by
  go_enter Try.func16, Try.ntmps16
  go_wp2_with fail
  refine (rlen_nil _).mono ?_
  rintro e w1 ⟨rfl, rfl⟩
  go_wp2_with fail
  refine (rmost_nil _).mono ?_
  rintro e w1 ⟨rfl, rfl⟩
  go_wp2_with fail
  go_ret
  exact ⟨rfl, rfl⟩
theorem pushR_nil (w : World) (v : Int) : Calls Try.prog 18 #[.pointer none, .int .i32 v] w fun e w' => e = .returned (.bool false) ∧ w = w' := by
  go_enter Try.func18, Try.ntmps18
  go_wp2_with fail
  refine (rlen_nil _).mono ?_
  rintro e w1 ⟨rfl, rfl⟩
  go_wp2_with fail
  refine (rmost_nil _).mono ?_
  rintro e w1 ⟨rfl, rfl⟩
  go_wp2_with fail
  go_ret
  exact ⟨rfl, rfl⟩
theorem popL_nil (w : World) : Calls Try.prog 22 #[.pointer none] w fun e w' => e = .returned (.tuple #[.int .i32 0, .bool false]) ∧ w = w' := by
  go_enter Try.func22, Try.ntmps22
  go_wp2_with fail
  refine (rlen_nil _).mono ?_
  rintro e w1 ⟨rfl, rfl⟩
  go_wp2_with fail
  go_ret2
  exact ⟨rfl, rfl⟩
theorem popR_nil (w : World) : Calls Try.prog 25 #[.pointer none] w fun e w' => e = .returned (.tuple #[.int .i32 0, .bool false]) ∧ w = w' := by
  go_enter Try.func25, Try.ntmps25
  go_wp2_with fail
  refine (rlen_nil _).mono ?_
  rintro e w1 ⟨rfl, rfl⟩
  go_wp2_with fail
  go_ret2
  exact ⟨rfl, rfl⟩

section
variable {B : Nat} {w w' : World} {p N : Nat} {l : List Int} {L : List Res}
theorem items_s (hB : B ≤ w.heap.size) (h : At B w (ringR p N l :: L)) {n : Nat} (hn : l.length = n) : Calls Try.prog 21 #[.pointer (some ⟨p, 0, none⟩)] w fun e w' => ∃ A c, e = .returned (.slice A n c) ∧ At B w' (ownI A n c l :: ringR p N l :: L) ∧ Below B w w' := by
  subst hn
  exact (items_any w p N _ l h.get).mono fun e w' ⟨A, c, he, hs, hb⟩ => ⟨A, c, he, h.made (fun x hx => Nat.le_trans hB hx) hb hs, hb.mono hB⟩
theorem copy_s (hB : B ≤ w.heap.size) (h : At B w (ringR p N l :: L)) : Calls Try.prog 26 #[.pointer (some ⟨p, 0, none⟩)] w fun e w' => ∃ q, e = .returned (.pointer (some ⟨q, 0, none⟩)) ∧ At B w' (ringR q N l :: ringR p N l :: L) ∧ Below B w w' :=
  (copy_any w p N _ l h.get).mono fun e w' ⟨q, he, hs, hb⟩ => ⟨q, he, h.made (a := ringR q N l) (fun x hx => Nat.le_trans hB hx) hb hs, hb.mono hB⟩
theorem Same_s (hB : B ≤ w.heap.size) (h : At B w L) {A A' : Option Addr} {n n' c c' : Nat} {R R' : Nat → Prop} {xs ys : List Int} (hx : Rd w R 1 A n (iv xs)) (hy : Rd w R' 1 A' n' (iv ys)) (hn : n ≤ 1000000) (hn' : n' ≤ 1000000) :
    Calls Try.prog 23 #[.slice A n c, .slice A' n' c'] w fun e w' => e = .returned (.bool (decide (xs = ys))) ∧ At B w' L ∧ Below B w w' :=
  (Same_any w A A' n n' c c' R R' xs ys hx hy hn hn').mono fun _ _ ⟨he, hb⟩ => ⟨he, h.keep hb, hb.mono hB⟩
theorem Same_t (hB : B ≤ w.heap.size) (h : At B w L) {A A' : Option Addr} {n n' c c' : Nat} {R R' : Nat → Prop} {xs : List Int} (hx : Rd w R 1 A n (iv xs)) (hy : Rd w R' 1 A' n' (iv xs)) (hn : n ≤ 1000000) (hn' : n' ≤ 1000000) :
    Calls Try.prog 23 #[.slice A n c, .slice A' n' c'] w fun e w' => e = .returned (.bool true) ∧ At B w' L ∧ Below B w w' := by
  have := Same_s hB h hx hy hn hn' (c := c) (c' := c')
  rwa [decide_eq_true rfl] at this
theorem Sl.read {e sz n c : Nat} {A : Option Addr} {xs : List Value} {S : Nat → Prop} (h : (slRes e sz A n c xs).Q w S) : Rd w S sz A n xs := Sl.rd h
set_option maxHeartbeats 2000000 in
theorem run_s (hB : B ≤ w.heap.size) {A : Option Addr} {n c : Nat} {ops : List (Int × Int)} (h : At B w (ringR p N l :: opsR A n ops :: L)) (hn : ops.length = n) (hk : ∀ o ∈ ops, 0 ≤ o.1 ∧ o.1 ≤ 255) (hlen : n ≤ 1000000) :
    Calls Try.prog 24 #[.pointer (some ⟨p, 0, none⟩), .slice A n c] w fun e w' => e = .returned (.tuple #[]) ∧ At B w' (ringR p N (rRuns N l ops) :: opsR A n ops :: L) ∧ Below B w w' := by
  have HN := Lib.hid hn
  have HK := Lib.hid hk
  clear hn hk
  go_enter Try.func24, Try.ntmps24
  go_wp2_with fail
  go_loopw [4] (fun k wr => ∃ m : Nat, m ≤ n ∧ k = .int .i64 (m : Int) ∧ At B wr (ringR p N (rRuns N l (ops.take m)) :: opsR A n ops :: L) ∧ Below B w wr) (fun k _ => n - (intOf k).toNat)
  case atStart => exact ⟨0, by omega, rfl, by simpa [rRuns] using h, Below.refl _ _⟩
  case round =>
    clear h
    obtain ⟨m, hm, rfl, hs, hb⟩ := hrel
    have hle := Nat.le_trans hB hb.size
    by_cases hlt : m < n
    · have hlt' : m < ops.length := by rw [HN.out]; exact hlt
      obtain ⟨b, off, rfl, _, _⟩ := (hs.rot2.get).at (by omega)
      obtain ⟨g0, g1⟩ := ops_at hs.rot2 hlt'
      obtain ⟨k0, k1⟩ := HK.out _ (List.getElem_mem hlt')
      have hsnoc := Lib.hid (rRuns_snoc N l ops m hlt')
      generalize hom : ops[m] = o at *
      clear hom
      obtain ⟨k, v⟩ := o
      simp only at *
      obtain ⟨⟨l2, code, x⟩, hd⟩ : ∃ r, rDo N (rRuns N l (ops.take m)) k v = r := ⟨_, rfl⟩
      have hdo := do_s hle hs k v k0 k1 hd
      have HD := Lib.hid hd
      clear hd
      go_wp2_with fail
      refine hdo.mono ?_
      rintro e w2 ⟨rfl, s2, b2⟩
      go_wp2_with fail
      go_roundw
      case rel => exact ⟨m + 1, by omega, by go_num, by rw [hsnoc.out, HD.out]; exact s2, hb.trans b2⟩
      case measure => simp [intOf]; omega
    · obtain rfl : m = n := by omega
      go_wp2_with fail
      go_end0
      refine ⟨rfl, ?_, hb⟩
      rwa [List.take_of_length_le (by rw [HN.out]; omega)] at hs
end
end Go.Proofs.Ytehmnhdmkjdghaa
