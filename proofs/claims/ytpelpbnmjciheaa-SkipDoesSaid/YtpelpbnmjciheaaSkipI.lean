/-
  Lists that skip at things apart; rows compared; the chapter's example.
-/
import Derived.Test.YtpelpbnmjciheaaSkipH
namespace Go.Proofs.Ytpelpbnmjciheaa
open Go.RowKit Go.Rp

abbrev At (B : Nat) (w : World) (L : List Res) : Prop := Sep w (fun x => B ≤ x) L
theorem Same_any (w : World) (A A' : Option Addr) (n n' c c' : Nat) (R R' : Nat → Prop) (xs ys : List Int) (hx : Rd w R 1 A n (xs.map fun x => Value.int .i32 x)) (hy : Rd w R' 1 A' n' (ys.map fun x => Value.int .i32 x)) (hn : n ≤ 1000000) (hn' : n' ≤ 1000000) :
    Calls Try.prog 10 #[.slice A n c, .slice A' n' c'] w fun e w' => e = .returned (.bool (decide (xs = ys))) ∧ Below w.heap.size w w' := by
  have l1 : xs.length = n := by simpa using hx.1
  have l2 : ys.length = n' := by simpa using hy.1
  by_cases hnn : n = n'
  · subst hnn
    have hne : ((n : Int) != (n : Int)) = false := by simp
    have H1 := Lib.hid l1
    have H2 := Lib.hid l2
    clear l1 l2
    go_enter Try.func10, Try.ntmps10
    go_wp2
    clear hne
    go_loopw [5] (fun k wr => ∃ m : Nat, m ≤ n ∧ k = .int .i64 (m : Int) ∧ Below w.heap.size w wr ∧ Hid (xs.take m = ys.take m)) (fun k _ => n - (intOf k).toNat)
    case atStart => exact ⟨0, by omega, rfl, Below.refl _ _, Lib.hid rfl⟩
    case round =>
      obtain ⟨m, hm, rfl, hb, heq⟩ := hrel
      by_cases hlt : m < n
      · obtain ⟨b1, o1, rfl, _, h1⟩ := (hx.kept hb).at (by omega)
        obtain ⟨b2, o2, rfl, _, h2⟩ := (hy.kept hb).at (by omega)
        have hm1 : m < xs.length := by rw [H1.out]; exact hlt
        have hm2 : m < ys.length := by rw [H2.out]; exact hlt
        have g1 : wr.cell? ⟨b1, o1 + m, none⟩ = some (.int .i32 xs[m]) := h1 m _ (by simp [hm1])
        have g2 : wr.cell? ⟨b2, o2 + m, none⟩ = some (.int .i32 ys[m]) := h2 m _ (by simp [hm2])
        have t1 := Lib.hid (List.take_succ_eq_append_getElem hm1)
        have t2 := Lib.hid (List.take_succ_eq_append_getElem hm2)
        generalize xs[m] = x at *
        generalize ys[m] = y at *
        clear h1 h2 hm1 hm2
        by_cases hxy : x = y
        · subst hxy
          go_wp2
          go_quiet (fail)
          go_wp2
          go_roundw
          case rel => exact ⟨m + 1, by omega, by go_num, below_drewN hb _, Lib.hid (by rw [t1.out, t2.out, heq.out])⟩
          case measure => simp [intOf]; omega
        · have hxy' : (x != y) = true := by simpa using hxy
          have hd : decide (xs = ys) = false := by
            simp only [decide_eq_false_iff_not]
            intro he
            have e1 := t1.out
            have e2 := t2.out
            rw [he, e2] at e1
            simp at e1
            exact hxy e1.symm
          have HD := Lib.hid hd
          clear hd hxy
          go_wp2
          go_quiet (fail)
          go_wp2
          go_ret
          rw [HD.out]
          exact ⟨rfl, below_drewN hb _⟩
      · have : m = n := by omega
        subst this
        have hd : decide (xs = ys) = true := by
          have := heq.out
          rw [List.take_of_length_le (by rw [H1.out]; omega), List.take_of_length_le (by rw [H2.out]; omega)] at this
          simpa using this
        go_wp2
        go_ret
        rw [hd]
        exact ⟨rfl, hb⟩
  · have hne : ((n : Int) != (n' : Int)) = true := by simp; omega
    have hd : decide (xs = ys) = false := by
      simp
      rintro rfl
      omega
    rw [hd]
    have H1 := Lib.hid l1
    have H2 := Lib.hid l2
    clear l1 l2 hd
    go_enter Try.func10, Try.ntmps10
    go_wp2
    go_ret
    exact ⟨rfl, Below.refl _ _⟩

/-- Items of the program's own. -/
abbrev ownI (A : Option Addr) (n c : Nat) (l : List Int) : Res := slRes 21 1 A n c (iv l)
theorem mostI_le (n : Int) : mostI n ≤ 1000 := by unfold mostI clamp; omega
section
variable {B : Nat} {w w' : World} {p q m : Nat} {l : List It} {L : List Res}
theorem Same_s (hB : B ≤ w.heap.size) (h : At B w L) {A A' : Option Addr} {n n' c c' : Nat} {R R' : Nat → Prop} {xs ys : List Int} (hx : Rd w R 1 A n (iv xs)) (hy : Rd w R' 1 A' n' (iv ys)) (hn : n ≤ 1000000) (hn' : n' ≤ 1000000) :
    Calls Try.prog 10 #[.slice A n c, .slice A' n' c'] w fun e w' => e = .returned (.bool (decide (xs = ys))) ∧ At B w' L ∧ Below B w w' :=
  (Same_any w A A' n n' c c' R R' xs ys hx hy hn hn').mono fun _ _ ⟨he, hb⟩ => ⟨he, h.keep hb, hb.mono hB⟩
theorem Same_t (hB : B ≤ w.heap.size) (h : At B w L) {A A' : Option Addr} {n n' c c' : Nat} {R R' : Nat → Prop} {xs : List Int} (hx : Rd w R 1 A n (iv xs)) (hy : Rd w R' 1 A' n' (iv xs)) (hn : n ≤ 1000000) (hn' : n' ≤ 1000000) :
    Calls Try.prog 10 #[.slice A n c, .slice A' n' c'] w fun e w' => e = .returned (.bool true) ∧ At B w' L ∧ Below B w w' := by
  have := Same_s hB h hx hy hn hn' (c := c) (c' := c')
  rwa [decide_eq_true rfl] at this
theorem Sl.read {e sz n c : Nat} {A : Option Addr} {xs : List Value} {S : Nat → Prop} (h : (slRes e sz A n c xs).Q w S) : Rd w S sz A n xs := Sl.rd h
theorem new_s (hB : B ≤ w.heap.size) (h : At B w L) (n : Int) : Calls Try.prog 8 #[.int .i64 n] w fun e w' => ∃ p, e = .returned (.pointer (some ⟨p, 0, none⟩)) ∧ At B w' (skR p (mostI n) [] :: L) ∧ Below B w w' :=
  (new_any n w).mono fun e w' ⟨he, hw⟩ => by
    have hb : Below w.heap.size w w' := by rw [hw]; exact (Below.refl _ w).alloc (Nat.le_refl _) _
    exact ⟨_, he, h.made (a := skR w.heap.size (mostI n) []) (fun x hx => Nat.le_trans hB hx) hb (by rw [hw]; exact skAt_new w (mostI_le n)), hb.mono hB⟩
theorem insert_s (hB : B ≤ w.heap.size) (h : At B w (skR p m l :: L)) (v n : Int) : Calls Try.prog 9 #[.pointer (some ⟨p, 0, none⟩), .int .i32 v, .int .i64 n] w fun e w' => e = .returned (.bool (decide (l.length < m))) ∧ At B w' (skR p m (if l.length < m then insL l v (tallI n) else l) :: L) ∧ Below B w w' :=
  h.step hB fun S _ hS => by
    by_cases hl : l.length < m
    · simp only [hl, decide_true, if_true]
      exact insert_any hS hl v n
    · simp only [hl, decide_false, if_false]
      refine (insert_full hS hl v n).mono fun e w' ⟨he, nq, hw⟩ => ⟨he, ?_, ?_⟩
      · subst hw; exact (stable_sk p m l).mono ((stable_sk p m l).keep hS (below_drewN (Below.refl _ w) nq)) grow_left
      · subst hw; exact (Mod.refl _ w).drewN nq
/-- What Min tells, and leaves. -/
theorem min_s (hB : B ≤ w.heap.size) (h : At B w (skR p m l :: L)) : Calls Try.prog 26 #[.pointer (some ⟨p, 0, none⟩)] w fun e w' => e = .returned (.tuple #[.int .i32 ((l.head?.map (·.1)).getD 0), .bool (!l.isEmpty)]) ∧ At B w' (skR p m l.tail :: L) ∧ Below B w w' :=
  h.step hB fun S _ hS => by
    rcases l with _ | ⟨⟨v, hh⟩, l⟩
    · refine (min_empty hS).mono fun e w' ⟨he, hw⟩ => ⟨he, ?_, ?_⟩
      · subst hw; exact (stable_sk p m []).mono hS grow_left
      · subst hw; exact Mod.refl _ _
    · exact (min_any hS).mono fun e w' ⟨he, hs, hm⟩ => ⟨he, (stable_sk p m l).mono hs grow_left, hm⟩
theorem sk_len (h : At B w (skR p m l :: L)) : l.length ≤ m ∧ m ≤ 1000 := by
  obtain ⟨T, e, hT⟩ := h.get
  rw [← e, List.length_map]
  exact ⟨hT.room, hT.most⟩
theorem len_s (h : At B w (skR p m l :: L)) {n : Nat} (hn : l.length = n) : Calls Try.prog 28 #[.pointer (some ⟨p, 0, none⟩)] w fun e w' => e = .returned (.int .i64 (n : Int)) ∧ w = w' := by
  obtain ⟨T, e, hT⟩ := h.get
  subst hn
  rw [← e, List.length_map]
  exact (len_any hT.links).mono fun _ _ ⟨he, hw⟩ => ⟨he, hw.symm⟩
theorem most_s (h : At B w (skR p m l :: L)) : Calls Try.prog 13 #[.pointer (some ⟨p, 0, none⟩)] w fun e w' => e = .returned (.int .i64 (m : Int)) ∧ w = w' := by
  obtain ⟨T, e, hT⟩ := h.get
  exact (most_any hT.links).mono fun _ _ ⟨he, hw⟩ => ⟨he, hw.symm⟩
theorem level_s (hB : B ≤ w.heap.size) (h : At B w (skR p m l :: L)) {k : Int} {q n : Nat} (hk : k = (q : Int) + 1) (hq : q < 8) {l' : List Int} (hl : levL q l = l') (hn : l'.length = n) :
    Calls Try.prog 12 #[.pointer (some ⟨p, 0, none⟩), .int .i64 k] w fun e w' => ∃ A c, e = .returned (.slice A n c) ∧ At B w' (ownI A n c l' :: skR p m l :: L) ∧ Below B w w' := by
  subst hn hl hk
  exact (level_any w p m q hq _ l h.get).mono fun e w' ⟨A, c, he, hs, hb⟩ => ⟨A, c, he, h.made (fun x hx => Nat.le_trans hB hx) hb hs, hb.mono hB⟩
theorem items_s (hB : B ≤ w.heap.size) (h : At B w (skR p m l :: L)) {n : Nat} {l' : List Int} (hl : levL 0 l = l') (hn : l'.length = n) :
    Calls Try.prog 11 #[.pointer (some ⟨p, 0, none⟩)] w fun e w' => ∃ A c, e = .returned (.slice A n c) ∧ At B w' (ownI A n c l' :: skR p m l :: L) ∧ Below B w w' := by
  subst hn hl
  exact (items_any w p m _ l h.get).mono fun e w' ⟨A, c, he, hs, hb⟩ => ⟨A, c, he, h.made (fun x hx => Nat.le_trans hB hx) hb hs, hb.mono hB⟩
/-- The items' levels: all are on the first. -/
theorem sk_high (h : At B w (skR p m l :: L)) : (∀ a ∈ l, 1 ≤ a.2 ∧ a.2 ≤ 8) ∧ l.Pairwise fun a b => a.1 ≤ b.1 := by
  obtain ⟨T, e, hT⟩ := h.get
  subst e
  refine ⟨fun a ha => ?_, ?_⟩
  · obtain ⟨t, ht, rfl⟩ := List.mem_map.1 ha
    exact hT.high t ht
  · rw [List.pairwise_map]
    exact hT.sorted
theorem At.lit (hB : B ≤ w.heap.size) (h : At B w L) (xs : List Int) : At B (w.alloc (.cells (iv xs).toArray 21)) L ∧ Rd (w.alloc (.cells (iv xs).toArray 21)) (· = w.heap.size) 1 (some ⟨w.heap.size, 0, none⟩) xs.length (iv xs) ∧ Below B w (w.alloc (.cells (iv xs).toArray 21)) :=
  ⟨(h.alloc hB _ _).drop, by simpa using Rd.lit (sz := 1) w 21 (iv xs).toArray xs.length (by simp), (Below.refl B w).alloc hB _⟩
set_option maxRecDepth 100000 in
theorem known_s (hB : B ≤ w.heap.size) (h : At B w L) : Calls Try.prog 5 #[] w fun e w' => e = .returned (.bool true) ∧ At B w' L ∧ Below B w w' := by
  have k0 : mostI 3 = 3 := by decide
  have k1 : insL [] 5 (tallI 2) = [(5, 2)] := by decide
  have k2 : insL [(5, 2)] 3 (tallI 1) = [(3, 1), (5, 2)] := by decide
  have k3 : levL 0 [(3, 1), (5, 2)] = [3, 5] := by decide
  have k4 : levL 1 [(3, 1), (5, 2)] = [5] := by decide
  have K0 := Lib.hid k0
  have K1 := Lib.hid k1
  have K2 := Lib.hid k2
  have K3 := Lib.hid k3
  have K4 := Lib.hid k4
  clear k0 k1 k2 k3 k4
  go_enter Try.func5, Try.ntmps5
  go_wp2_with fail
  refine (new_s hB h 3).mono ?_
  rintro e w1 ⟨p, rfl, s1, b1⟩
  rw [K0.out] at s1
  have h1 := insert_s (Nat.le_trans hB b1.size) s1 5 2
  simp only [List.length_nil, Nat.zero_lt_succ, decide_true, if_true, K1.out] at h1
  go_wp2_with fail
  refine (h1).mono ?_
  rintro e w2 ⟨rfl, s2, b2⟩
  have b2 := b1.trans b2
  have h2 := insert_s (Nat.le_trans hB b2.size) s2 3 1
  simp only [List.length_cons, List.length_nil, Nat.zero_add, show 1 < 3 by omega, decide_true, if_true, K2.out] at h2
  clear h1 s1 b1
  go_wp2_with fail
  refine (h2).mono ?_
  rintro e w3 ⟨rfl, s3, b3⟩
  have b3 := b2.trans b3
  clear h2 s2 b2
  go_wp2_with fail
  refine (items_s (Nat.le_trans hB b3.size) s3 K3.out (n := 2) rfl).mono ?_
  rintro e w4 ⟨A4, c4, rfl, s4, b4⟩
  have b4 := b3.trans b4
  have hle4 := Nat.le_trans hB b4.size
  obtain ⟨s5, r5, b5⟩ := At.lit hle4 s4 [3, 5]
  have b5 := b4.trans b5
  go_wp2_with fail
  refine (Same_t (Nat.le_trans hB b5.size) s5 (Sl.read s5.get) r5 (by omega) (by decide)).mono ?_
  rintro e w6 ⟨rfl, s6, b6⟩
  have b6 := b5.trans b6
  clear s4 b4 s5 r5 b5 s3 b3
  go_wp2_with fail
  refine (level_s (Nat.le_trans hB b6.size) s6.drop (k := 2) (q := 1) rfl (by omega) K4.out (n := 1) rfl).mono ?_
  rintro e w7 ⟨A7, c7, rfl, s7, b7⟩
  have b7 := b6.trans b7
  have hle7 := Nat.le_trans hB b7.size
  obtain ⟨s8, r8, b8⟩ := At.lit hle7 s7 [5]
  have b8 := b7.trans b8
  go_wp2_with fail
  refine (Same_t (Nat.le_trans hB b8.size) s8 (Sl.read s8.get) r8 (by omega) (by decide)).mono ?_
  rintro e w9 ⟨rfl, s9, b9⟩
  have b9 := b8.trans b9
  go_wp2_with fail
  refine (most_s s9.drop).mono ?_
  rintro e w10 ⟨rfl, rfl⟩
  go_wp2_with fail
  go_ret
  exact ⟨rfl, s9.drop.drop, b9⟩
end
end Go.Proofs.Ytpelpbnmjciheaa
