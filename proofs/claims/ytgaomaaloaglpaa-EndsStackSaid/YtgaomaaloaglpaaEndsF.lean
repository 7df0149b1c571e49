/-
  The document's comparisons, Spared, and Pairs at things apart; the chapter's example.
-/
import Derived.Test.YtgaomaaloaglpaaEndsE
namespace Go.Proofs.Ytgaomaaloaglpaa
open Go.RowKit Go.Rp

theorem Ints_any (w : World) (A A' : Option Addr) (n n' c c' : Nat) (R R' : Nat → Prop) (xs ys : List Int) (hx : Rd w R 1 A n (xs.map fun x => Value.int .i64 x)) (hy : Rd w R' 1 A' n' (ys.map fun x => Value.int .i64 x)) (hn : n ≤ 1000000) (hn' : n' ≤ 1000000) :
    Calls Try.prog 14 #[.slice A n c, .slice A' n' c'] w fun e w' => e = .returned (.bool (decide (xs = ys))) ∧ Below w.heap.size w w' := by
  have l1 : xs.length = n := by simpa using hx.1
  have l2 : ys.length = n' := by simpa using hy.1
  by_cases hnn : n = n'
  · subst hnn
    have hne : ((n : Int) != (n : Int)) = false := by simp
    have H1 := Lib.hid l1
    have H2 := Lib.hid l2
    clear l1 l2
    go_enter Try.func14, Try.ntmps14
    go_wp2
    clear hne
    go_loopw [5] (fun k wr => ∃ m : Nat, m ≤ n ∧ k = .int .i64 (m : Int) ∧ Below w.heap.size w wr ∧ Hid (xs.take m = ys.take m)) (fun k _ => n - (intOf k).toNat)
    case atStart => exact ⟨0, by omega, rfl, Below.refl _ _, Lib.hid rfl⟩
    case round =>
      obtain ⟨m, hm, rfl, hb, heq⟩ := hrel
      by_cases hlt : m < n
      · obtain ⟨b1, o1, rfl, _, h1⟩ := (hx.kept hb).at (by omega)
        obtain ⟨b2, o2, rfl, _, h2⟩ := (hy.kept hb).at (by omega)
        have hm1 : m < xs.length := by rw [H1.out]; exact hlt
        have hm2 : m < ys.length := by rw [H2.out]; exact hlt
        have g1 : wr.cell? ⟨b1, o1 + m, none⟩ = some (.int .i64 xs[m]) := h1 m _ (by simp [hm1])
        have g2 : wr.cell? ⟨b2, o2 + m, none⟩ = some (.int .i64 ys[m]) := h2 m _ (by simp [hm2])
        have t1 := Lib.hid (List.take_succ_eq_append_getElem hm1)
        have t2 := Lib.hid (List.take_succ_eq_append_getElem hm2)
        generalize xs[m] = x at *
        generalize ys[m] = y at *
        clear h1 h2 hm1 hm2
        by_cases hxy : x = y
        · subst hxy
          go_wp2
          go_quiet (fail)
          go_wp2
          go_roundw
          case rel => exact ⟨m + 1, by omega, by go_num, below_drewN hb _, Lib.hid (by rw [t1.out, t2.out, heq.out])⟩
          case measure => simp [intOf]; omega
        · have hxy' : (x != y) = true := by simpa using hxy
          have hd : decide (xs = ys) = false := by
            simp only [decide_eq_false_iff_not]
            intro he
            have e1 := t1.out
            have e2 := t2.out
            rw [he, e2] at e1
            simp at e1
            exact hxy e1.symm
          have HD := Lib.hid hd
          clear hd hxy
          go_wp2
          go_quiet (fail)
          go_wp2
          go_ret
          rw [HD.out]
          exact ⟨rfl, below_drewN hb _⟩
      · have : m = n := by omega
        subst this
        have hd : decide (xs = ys) = true := by
          have := heq.out
          rw [List.take_of_length_le (by rw [H1.out]; omega), List.take_of_length_le (by rw [H2.out]; omega)] at this
          simpa using this
        go_wp2
        go_ret
        rw [hd]
        exact ⟨rfl, hb⟩
  · have hne : ((n : Int) != (n' : Int)) = true := by simp; omega
    have hd : decide (xs = ys) = false := by
      simp
      rintro rfl
      omega
    rw [hd]
    have H1 := Lib.hid l1
    have H2 := Lib.hid l2
    clear l1 l2 hd
    go_enter Try.func14, Try.ntmps14
    go_wp2
    go_ret
    exact ⟨rfl, Below.refl _ _⟩
theorem Codes_any (w : World) (A A' : Option Addr) (n n' c c' : Nat) (R R' : Nat → Prop) (xs ys : List Int) (hx : Rd w R 1 A n (xs.map fun x => Value.int .u8 x)) (hy : Rd w R' 1 A' n' (ys.map fun x => Value.int .u8 x)) (hn : n ≤ 1000000) (hn' : n' ≤ 1000000) :
    Calls Try.prog 15 #[.slice A n c, .slice A' n' c'] w fun e w' => e = .returned (.bool (decide (xs = ys))) ∧ Below w.heap.size w w' := by
  have l1 : xs.length = n := by simpa using hx.1
  have l2 : ys.length = n' := by simpa using hy.1
  by_cases hnn : n = n'
  · subst hnn
    have hne : ((n : Int) != (n : Int)) = false := by simp
    have H1 := Lib.hid l1
    have H2 := Lib.hid l2
    clear l1 l2
    go_enter Try.func15, Try.ntmps15
    go_wp2
    clear hne
    go_loopw [5] (fun k wr => ∃ m : Nat, m ≤ n ∧ k = .int .i64 (m : Int) ∧ Below w.heap.size w wr ∧ Hid (xs.take m = ys.take m)) (fun k _ => n - (intOf k).toNat)
    case atStart => exact ⟨0, by omega, rfl, Below.refl _ _, Lib.hid rfl⟩
    case round =>
      obtain ⟨m, hm, rfl, hb, heq⟩ := hrel
      by_cases hlt : m < n
      · obtain ⟨b1, o1, rfl, _, h1⟩ := (hx.kept hb).at (by omega)
        obtain ⟨b2, o2, rfl, _, h2⟩ := (hy.kept hb).at (by omega)
        have hm1 : m < xs.length := by rw [H1.out]; exact hlt
        have hm2 : m < ys.length := by rw [H2.out]; exact hlt
        have g1 : wr.cell? ⟨b1, o1 + m, none⟩ = some (.int .u8 xs[m]) := h1 m _ (by simp [hm1])
        have g2 : wr.cell? ⟨b2, o2 + m, none⟩ = some (.int .u8 ys[m]) := h2 m _ (by simp [hm2])
        have t1 := Lib.hid (List.take_succ_eq_append_getElem hm1)
        have t2 := Lib.hid (List.take_succ_eq_append_getElem hm2)
        generalize xs[m] = x at *
        generalize ys[m] = y at *
        clear h1 h2 hm1 hm2
        by_cases hxy : x = y
        · subst hxy
          go_wp2
          go_quiet (fail)
          go_wp2
          go_roundw
          case rel => exact ⟨m + 1, by omega, by go_num, below_drewN hb _, Lib.hid (by rw [t1.out, t2.out, heq.out])⟩
          case measure => simp [intOf]; omega
        · have hxy' : (x != y) = true := by simpa using hxy
          have hd : decide (xs = ys) = false := by
            simp only [decide_eq_false_iff_not]
            intro he
            have e1 := t1.out
            have e2 := t2.out
            rw [he, e2] at e1
            simp at e1
            exact hxy e1.symm
          have HD := Lib.hid hd
          clear hd hxy
          go_wp2
          go_quiet (fail)
          go_wp2
          go_ret
          rw [HD.out]
          exact ⟨rfl, below_drewN hb _⟩
      · have : m = n := by omega
        subst this
        have hd : decide (xs = ys) = true := by
          have := heq.out
          rw [List.take_of_length_le (by rw [H1.out]; omega), List.take_of_length_le (by rw [H2.out]; omega)] at this
          simpa using this
        go_wp2
        go_ret
        rw [hd]
        exact ⟨rfl, hb⟩
  · have hne : ((n : Int) != (n' : Int)) = true := by simp; omega
    have hd : decide (xs = ys) = false := by
      simp
      rintro rfl
      omega
    rw [hd]
    have H1 := Lib.hid l1
    have H2 := Lib.hid l2
    clear l1 l2 hd
    go_enter Try.func15, Try.ntmps15
    go_wp2
    go_ret
    exact ⟨rfl, Below.refl _ _⟩
/-- Numbers of the program's own. -/
abbrev intsO (g n : Nat) (l : List Int) : Res := slRes 3 1 (some ⟨g, 0, none⟩) n n (l.map fun x => Value.int .i64 x)
abbrev codesO (g n : Nat) (l : List Int) : Res := slRes 5 1 (some ⟨g, 0, none⟩) n n (l.map fun x => Value.int .u8 x)
/-- As many as there may be; as many as are below. -/
def capI (ms : Int) : Nat := (max 0 (min ms 1000)).toNat
def belI (hv ms : Int) : Nat := (max 0 (min hv (capI ms : Int))).toNat
theorem capI_is (ms : Int) : max 0 (min ms 1000) = (capI ms : Int) := by unfold capI; omega
theorem belI_is (hv ms : Int) : max 0 (min hv (capI ms : Int)) = (belI hv ms : Int) := by unfold belI; omega
theorem capI_le (ms : Int) : capI ms ≤ 1000 := by unfold capI; omega
theorem belI_le (hv ms : Int) : belI hv ms ≤ capI ms := by unfold belI; omega
/-- Which push each meets, and codes. -/
def pairsL (hv ms : Int) (ops : List (Int × Int)) : List Int := (List.range ops.length).map (mPair (capI ms) (belI hv ms) ops)
def codesL (hv ms : Int) (ops : List (Int × Int)) : List Int := (List.range ops.length).map (mCode (capI ms) (belI hv ms) ops)
theorem pairsL_len (hv ms : Int) (ops : List (Int × Int)) : (pairsL hv ms ops).length = ops.length := by simp [pairsL]
theorem codesL_len (hv ms : Int) (ops : List (Int × Int)) : (codesL hv ms ops).length = ops.length := by simp [codesL]
theorem pairsL_get {hv ms : Int} {ops : List (Int × Int)} {k : Nat} (h : k < ops.length) : (pairsL hv ms ops)[k]'(by rw [pairsL_len]; exact h) = mPair (capI ms) (belI hv ms) ops k := by simp [pairsL]
theorem codesL_get {hv ms : Int} {ops : List (Int × Int)} {k : Nat} (h : k < ops.length) : (codesL hv ms ops)[k]'(by rw [codesL_len]; exact h) = mCode (capI ms) (belI hv ms) ops k := by simp [codesL]

theorem pairsL_q {hv ms : Int} {ops : List (Int × Int)} {k : Nat} (h : k < ops.length) : (pairsL hv ms ops)[k]? = some (mPair (capI ms) (belI hv ms) ops k) := by simp [pairsL, h]
theorem codesL_q {hv ms : Int} {ops : List (Int × Int)} {k : Nat} (h : k < ops.length) : (codesL hv ms ops)[k]? = some (mCode (capI ms) (belI hv ms) ops k) := by simp [codesL, h]
theorem u8_mod {x : Int} (hx : (Lit.int .u8 x).wf = true) (k : Int) (hk : 0 < k) : ∃ n : Nat, (n : Int) < k ∧ x % k = (n : Int) ∧ 0 ≤ x ∧ x ≤ 255 := by
  have := wf_u8 hx
  have h1 := Int.emod_nonneg x (b := k) (by omega)
  have h2 := Int.emod_lt_of_pos x (b := k) (by omega)
  exact ⟨(x % k).toNat, by omega, by omega, this.1, this.2⟩
theorem ret_i64 {a b : Int} (h : a = b) : Ending.returned (.int .i64 a) = .returned (.int .i64 b) := by rw [h]
section
variable {B : Nat} {w : World} {L : List Res} {A : Option Addr} {n c : Nat} {ops : List (Int × Int)}
theorem Pairs_y (hB : B ≤ w.heap.size) (hv ms : Int) (hn : ops.length = n) (h8 : ∀ o ∈ ops, 0 ≤ o.1 ∧ o.1 ≤ 255) (hlen : n ≤ 100000) (h : At B w L) (hrd : ∀ W L', Below B w W → At B W (L ++ L') → ∃ R, Rd W R 2 A n (ops.flatMap opIn)) :
    Calls Try.prog 13 #[.int .i64 hv, .int .i64 ms, .slice A n c] w fun e w' =>
      ∃ gp gc, e = .returned (.tuple #[.slice (some ⟨gp, 0, none⟩) n n, .slice (some ⟨gc, 0, none⟩) n n]) ∧ At B w' (intsO gp n (pairsL hv ms ops) :: codesO gc n (codesL hv ms ops) :: L) ∧ Below B w w' := by
  have := Pairs_any B w hB hv ms A n c ops (capI ms) (belI hv ms) (min ms 1000) (min hv (capI ms : Int)) rfl (capI_is ms) rfl (belI_is hv ms) (Lib.hid hn) h8 hlen L hrd h
  subst hn
  exact this
/-- Operations that came in. -/
theorem Pairs_in (hB : B ≤ w.heap.size) (hv ms : Int) {R : Nat → Prop} (hr : Rd w R 2 A n (ops.flatMap opIn)) (hR : ∀ b, R b → b < B) (hn : ops.length = n) (h8 : ∀ o ∈ ops, 0 ≤ o.1 ∧ o.1 ≤ 255) (hlen : n ≤ 100000) (h : At B w L) :
    Calls Try.prog 13 #[.int .i64 hv, .int .i64 ms, .slice A n c] w fun e w' =>
      ∃ gp gc, e = .returned (.tuple #[.slice (some ⟨gp, 0, none⟩) n n, .slice (some ⟨gc, 0, none⟩) n n]) ∧ At B w' (intsO gp n (pairsL hv ms ops) :: codesO gc n (codesL hv ms ops) :: L) ∧ Below B w w' :=
  Pairs_y hB hv ms hn h8 hlen h fun W _ hb _ => ⟨R, hr.below hb hR⟩
/-- Operations of the program's own. -/
theorem Pairs_o (hB : B ≤ w.heap.size) (hv ms : Int) (hn : ops.length = n) (h8 : ∀ o ∈ ops, 0 ≤ o.1 ∧ o.1 ≤ 255) (hlen : n ≤ 100000) (h : At B w (opsR A n ops :: L)) :
    Calls Try.prog 13 #[.int .i64 hv, .int .i64 ms, .slice A n c] w fun e w' =>
      ∃ gp gc, e = .returned (.tuple #[.slice (some ⟨gp, 0, none⟩) n n, .slice (some ⟨gc, 0, none⟩) n n]) ∧ At B w' (intsO gp n (pairsL hv ms ops) :: codesO gc n (codesL hv ms ops) :: opsR A n ops :: L) ∧ Below B w w' :=
  Pairs_y hB hv ms hn h8 hlen h fun W _ hb hW => ⟨_, hW.get⟩
theorem Ints_s (hB : B ≤ w.heap.size) (h : At B w L) {A A' : Option Addr} {n n' c c' : Nat} {R R' : Nat → Prop} {xs ys : List Int} (hx : Rd w R 1 A n (xs.map fun x => Value.int .i64 x)) (hy : Rd w R' 1 A' n' (ys.map fun x => Value.int .i64 x)) (hn : n ≤ 1000000) (hn' : n' ≤ 1000000) {v : Bool} (hv : decide (xs = ys) = v) :
    Calls Try.prog 14 #[.slice A n c, .slice A' n' c'] w fun e w' => e = .returned (.bool v) ∧ At B w' L ∧ Below B w w' := by
  subst hv
  exact (Ints_any w A A' n n' c c' R R' xs ys hx hy hn hn').mono fun _ _ ⟨he, hb⟩ => ⟨he, h.keep hb, hb.mono hB⟩
theorem Codes_s (hB : B ≤ w.heap.size) (h : At B w L) {A A' : Option Addr} {n n' c c' : Nat} {R R' : Nat → Prop} {xs ys : List Int} (hx : Rd w R 1 A n (xs.map fun x => Value.int .u8 x)) (hy : Rd w R' 1 A' n' (ys.map fun x => Value.int .u8 x)) (hn : n ≤ 1000000) (hn' : n' ≤ 1000000) {v : Bool} (hv : decide (xs = ys) = v) :
    Calls Try.prog 15 #[.slice A n c, .slice A' n' c'] w fun e w' => e = .returned (.bool v) ∧ At B w' L ∧ Below B w w' := by
  subst hv
  exact (Codes_any w A A' n n' c c' R R' xs ys hx hy hn hn').mono fun _ _ ⟨he, hb⟩ => ⟨he, h.keep hb, hb.mono hB⟩
/-- Reading numbers of the program's own. -/
theorem own_at {e : TypeId} {k : IntKind} {g n : Nat} {l : List Int} (h : At B w (slRes e 1 (some ⟨g, 0, none⟩) n n (l.map fun x => Value.int k x) :: L)) {i : Nat} {x : Int} (hq : l[i]? = some x) : w.cell? ⟨g, i, none⟩ = some (.int k x) := by
  have hi : i < l.length := (List.getElem?_eq_some_iff.1 hq).1
  have hs : Sl w e 1 (some ⟨g, 0, none⟩) n n (l.map fun x => Value.int k x) (fun x => B ≤ x) := h.get
  have hl := hs.1
  simp at hl
  obtain ⟨g', off, hA, _, _, _, hx⟩ := hs.at (by omega)
  simp at hA
  obtain ⟨rfl, rfl⟩ := hA
  simpa using hx i _ (by rw [List.getElem?_map, hq]; rfl)

set_option maxRecDepth 100000 in
theorem Spared_y (hB : B ≤ w.heap.size) (hv ms : Int) (hn : ops.length = n) (h8 : ∀ o ∈ ops, 0 ≤ o.1 ∧ o.1 ≤ 255) (hlen : n ≤ 100000) (h : At B w L) (hrd : ∀ W L', Below B w W → At B W (L ++ L') → ∃ R, Rd W R 2 A n (ops.flatMap opIn)) {v : Nat} (hv' : metN (mPair (capI ms) (belI hv ms) ops) n = v) :
    Calls Try.prog 16 #[.int .i64 hv, .int .i64 ms, .slice A n c] w fun e w' => e = .returned (.int .i64 (v : Int)) ∧ At B w' L ∧ Below B w w' := by
  have hp := Pairs_y (c := c) hB hv ms hn h8 hlen h hrd
  have HN := Lib.hid hn
  have HV := Lib.hid hv'
  clear hn hv'
  go_enter Try.func16, Try.ntmps16
  go_wp2_with fail
  refine hp.mono ?_
  rintro e w1 ⟨gp, gc, rfl, s1, b1⟩
  clear hp
  have hle := Nat.le_trans hB b1.size
  go_wp2_with fail
  go_loopg [9, 21] n (fun g v k wr => ∃ m : Nat, m + g = n ∧ k = .int .i64 (m : Int) ∧ w1 = wr ∧ v = .int .i64 ((metN (mPair (capI ms) (belI hv ms) ops) m : Nat) : Int))
  case atStart => exact ⟨0, by omega, rfl, rfl, rfl⟩
  case round =>
    obtain ⟨m, hm, rfl, rfl, rfl⟩ := hrel
    by_cases hlt : m < n
    · have hlt' : m < ops.length := by rw [HN.out]; exact hlt
      have g0 : w1.cell? ⟨gp, m, none⟩ = some (.int .i64 (mPair (capI ms) (belI hv ms) ops m)) := own_at s1 (pairsL_q hlt')
      have hml := metN_le (mPair (capI ms) (belI hv ms) ops) m
      have hms : Hid (metN (mPair (capI ms) (belI hv ms) ops) (m + 1) = metN (mPair (capI ms) (belI hv ms) ops) m + if 0 ≤ mPair (capI ms) (belI hv ms) ops m then 1 else 0) := Lib.hid rfl
      generalize metN (mPair (capI ms) (belI hv ms) ops) m = q at *
      generalize mPair (capI ms) (belI hv ms) ops m = x at *
      by_cases hx : 0 ≤ x
      · have hms2 := Lib.hid (hms.out.trans (by rw [if_pos hx]))
        clear hms
        go_wp2_with fail
        go_roundg (gk - 1)
        case measure => omega
        case rel => exact ⟨m + 1, by omega, by go_num, rfl, by rw [hms2.out]; go_num⟩
      · have hms2 := Lib.hid (hms.out.trans (by rw [if_neg hx]))
        clear hms
        go_wp2_with fail
        go_roundg (gk - 1)
        case measure => omega
        case rel => exact ⟨m + 1, by omega, by go_num, rfl, by rw [hms2.out]; rfl⟩
    · obtain rfl : m = n := by omega
      go_wp2_with fail
      go_ret
      exact ⟨ret_i64 (by rw [HV.out]), s1.drop.drop, b1⟩
theorem Spared_in (hB : B ≤ w.heap.size) (hv ms : Int) {R : Nat → Prop} (hr : Rd w R 2 A n (ops.flatMap opIn)) (hR : ∀ b, R b → b < B) (hn : ops.length = n) (h8 : ∀ o ∈ ops, 0 ≤ o.1 ∧ o.1 ≤ 255) (hlen : n ≤ 100000) (h : At B w L) {v : Nat} (hv' : metN (mPair (capI ms) (belI hv ms) ops) n = v) :
    Calls Try.prog 16 #[.int .i64 hv, .int .i64 ms, .slice A n c] w fun e w' => e = .returned (.int .i64 (v : Int)) ∧ At B w' L ∧ Below B w w' :=
  Spared_y hB hv ms hn h8 hlen h (fun W _ hb _ => ⟨R, hr.below hb hR⟩) hv'
theorem Spared_o (hB : B ≤ w.heap.size) (hv ms : Int) (hn : ops.length = n) (h8 : ∀ o ∈ ops, 0 ≤ o.1 ∧ o.1 ≤ 255) (hlen : n ≤ 100000) (h : At B w (opsR A n ops :: L)) {v : Nat} (hv' : metN (mPair (capI ms) (belI hv ms) ops) n = v) :
    Calls Try.prog 16 #[.int .i64 hv, .int .i64 ms, .slice A n c] w fun e w' => e = .returned (.int .i64 (v : Int)) ∧ At B w' (opsR A n ops :: L) ∧ Below B w w' :=
  Spared_y hB hv ms hn h8 hlen h (fun W _ hb hW => ⟨_, hW.get⟩) hv'
/-- What a literal makes. -/
theorem lit_s {t : TypeId} {sz m : Nat} (hsz : 0 < sz) (hB : B ≤ w.heap.size) (h : At B w L) (cs : Array Value) (hm : cs.size = m * sz) : At B (w.alloc (.cells cs t)) (rdRes sz hsz (some ⟨w.heap.size, 0, none⟩) m cs.toList :: L) :=
  h.made (fun x hx => Nat.le_trans hB hx) ((Below.refl _ w).alloc (Nat.le_refl _) _) ((Rd.lit w t cs m hm).more fun b hb => ⟨by omega, by simp; omega⟩)

theorem known_any (w : World) : Calls Try.prog 10 #[] w fun e w' => e = .returned (.bool true) ∧ Below w.heap.size w w' := by
  have s0 : At w.heap.size w [] := trivial
  have s0' : ∀ {W}, At w.heap.size W [] := trivial
  have s1 : At w.heap.size (w.alloc (.cells #[.int .u8 1, .int .i32 0, .int .u8 2, .int .i32 0, .int .u8 3, .int .i32 0, .int .u8 3, .int .i32 0] 29)) [opsR (some ⟨w.heap.size, 0, none⟩) 4 [(1, 0), (2, 0), (3, 0), (3, 0)]] := lit_s (t := 29) (m := 4) (by omega) (Nat.le_refl _) s0 #[.int .u8 1, .int .i32 0, .int .u8 2, .int .i32 0, .int .u8 3, .int .i32 0, .int .u8 3, .int .i32 0] rfl
  have b1 : Below w.heap.size w (w.alloc (.cells #[.int .u8 1, .int .i32 0, .int .u8 2, .int .i32 0, .int .u8 3, .int .i32 0, .int .u8 3, .int .i32 0] 29)) := (Below.refl _ w).alloc (Nat.le_refl _) _
  have hp := Pairs_o (c := 4) b1.size 0 2 rfl (by decide) (by decide) s1
  rw [show pairsL 0 2 [(1, 0), (2, 0), (3, 0), (3, 0)] = [-1, -1, 0, 1] from by decide, show codesL 0 2 [(1, 0), (2, 0), (3, 0), (3, 0)] = [1, 1, 2, 2] from by decide] at hp
  clear s1
  go_enter Try.func10, Try.ntmps10
  go_wp2_with fail
  refine hp.mono ?_
  rintro e w2 ⟨gp, gc, rfl, s2, b2⟩
  have b2 := b1.trans b2
  clear hp b1
  go_wp2_with fail
  have s3 := lit_s (t := 3) (m := 4) (sz := 1) (by omega) b2.size s2 #[.int .i64 (-1), .int .i64 (-1), .int .i64 0, .int .i64 1] rfl
  have b3 := b2.alloc b2.size (.cells #[.int .i64 (-1), .int .i64 (-1), .int .i64 0, .int .i64 1] 3)
  have hi := Ints_s (c := 4) (c' := 4) b3.size s3 (Sl.rd s3.rot2.get) (show Rd _ _ 1 _ 4 (([-1, -1, 0, 1] : List Int).map fun x => Value.int .i64 x) from s3.get) (by decide) (by decide) (show decide (([-1, -1, 0, 1] : List Int) = [-1, -1, 0, 1]) = true by decide)
  refine hi.mono ?_
  rintro e w4 ⟨rfl, s4, b4⟩
  have b4 := b3.trans b4
  clear hi b3 s3 s2 b2
  go_wp2_with fail
  have s5 := lit_s (t := 5) (m := 4) (sz := 1) (by omega) b4.size s4 #[.int .u8 1, .int .u8 1, .int .u8 2, .int .u8 2] rfl
  have b5 := b4.alloc b4.size (.cells #[.int .u8 1, .int .u8 1, .int .u8 2, .int .u8 2] 5)
  have hi := Codes_s (c := 4) (c' := 4) b5.size s5 (Sl.rd s5.rot4.get) (show Rd _ _ 1 _ 4 (([1, 1, 2, 2] : List Int).map fun x => Value.int .u8 x) from s5.get) (by decide) (by decide) (show decide (([1, 1, 2, 2] : List Int) = [1, 1, 2, 2]) = true by decide)
  refine hi.mono ?_
  rintro e w6 ⟨rfl, s6, b6⟩
  have b6 := b5.trans b6
  clear hi b5 s5 s4 b4
  go_wp2_with fail
  have s7 : At w.heap.size (w6.alloc (.cells #[.int .u8 1, .int .i32 0, .int .u8 4, .int .i32 0] 29)) [opsR (some ⟨w6.heap.size, 0, none⟩) 2 [(1, 0), (4, 0)]] := lit_s (t := 29) (m := 2) (by omega) b6.size s0' #[.int .u8 1, .int .i32 0, .int .u8 4, .int .i32 0] rfl
  have b7 := b6.alloc b6.size (.cells #[.int .u8 1, .int .i32 0, .int .u8 4, .int .i32 0] 29)
  have hi := Spared_o (c := 2) b7.size 0 2 rfl (by decide) (by decide) s7 (show metN _ 2 = 1 by decide)
  refine hi.mono ?_
  rintro e w8 ⟨rfl, s8, b8⟩
  have b8 := b7.trans b8
  clear hi b7 s7 s6 b6
  go_wp2_with fail
  go_ret
  exact ⟨rfl, b8⟩
theorem known_s (hB : B ≤ w.heap.size) (h : At B w L) : Calls Try.prog 10 #[] w fun e w' => e = .returned (.bool true) ∧ At B w' L ∧ Below B w w' :=
  (known_any w).mono fun _ _ ⟨he, hb⟩ => ⟨he, h.keep hb, hb.mono hB⟩
end
end Go.Proofs.Ytgaomaaloaglpaa
