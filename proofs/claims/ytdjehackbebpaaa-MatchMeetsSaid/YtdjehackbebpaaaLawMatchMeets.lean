/-
  The walk of MatchMeets.
-/
import Derived.Test.YtdjehackbebpaaaMatchJ
import Derived.Test.YtdjehackbebpaaaLawMatchPairs
namespace Go.Rp
section
variable {most below : Nat} {ops : List (Int × Int)}
/-- Who is met is met once. -/
theorem met_once {k j i : Nat} (h : mPair most below ops k = (j : Int)) (hi : i < k) : mPair most below ops i ≠ (j : Int) := by
  intro e
  obtain ⟨_, l, hl⟩ := mPair_met h
  have hj : j ∈ (mAt most below ops k).1 := by rw [hl]; simp
  obtain ⟨_, l2, hl2⟩ := mPair_met e
  have hji : j < i := mAt_lt most below ops i j (by rw [hl2]; simp)
  have hs := still (i := i + 1) (by omega) (by omega) hj
  have hso := mAt_sorted (most := most) (below := below) (ops := ops) i
  rcases mAt_next (most := most) (below := below) (ops := ops) i with e1 | ⟨e1, e2, e3⟩ | ⟨_, l', x, h3, h4, h5⟩
  · obtain ⟨hk2, _⟩ := mPair_met e
    have hlt : i < ops.length := by
      by_cases hlt : i < ops.length
      · exact hlt
      · have : kindAt ops i = 0 := by simp [kindAt, List.getElem?_eq_none (show ops.length ≤ i by omega)]
        omega
    have hp : mAt most below ops i = (l2 ++ [j], (mAt most below ops i).2) := Prod.ext hl2 rfl
    rw [mAt_succ hlt, hk2, hp, mStep_pop_some] at e1
    have := congrArg List.length e1
    simp at this
  · obtain ⟨hk2, _⟩ := mPair_met e
    omega
  · rw [e] at h5
    have hxj : j = x := by omega
    subst hxj
    rw [h4] at hs
    rw [h3, List.pairwise_append] at hso
    have := hso.2.2 j hs j (by simp)
    omega
/-- Has a push been met ahead of a place? -/
def metB (f : Nat → Int) (m x : Nat) : Bool := (List.range m).any fun i => f i == (x : Int)
theorem metB_false {f : Nat → Int} {m x : Nat} (h : ∀ i, i < m → f i ≠ (x : Int)) : metB f m x = false := by
  unfold metB
  rw [List.any_eq_false]
  intro i hi
  have := h i (List.mem_range.1 hi)
  simpa using this
theorem metB_succ (f : Nat → Int) (m x : Nat) : metB f (m + 1) x = (metB f m x || f m == (x : Int)) := by
  unfold metB; rw [List.range_succ, List.any_append]; simp
def metL (n : Nat) (f : Nat → Int) (m : Nat) : List Value := (List.range n).map fun x => Value.bool (metB f m x)
theorem metL_len (n : Nat) (f : Nat → Int) (m : Nat) : (metL n f m).length = n := by simp [metL]
theorem metL_q {n : Nat} {f : Nat → Int} {m x : Nat} (h : x < n) : (metL n f m)[x]? = some (.bool (metB f m x)) := by simp [metL, h]
theorem metL_zero (n : Nat) (f : Nat → Int) : metL n f 0 = List.replicate n (.bool false) := by
  apply List.ext_getElem
  · simp [metL]
  · intro i h1 h2; simp [metL, metB]
theorem metL_set {n : Nat} {f : Nat → Int} {m j : Nat} (h : f m = (j : Int)) : (metL n f m).set j (.bool true) = metL n f (m + 1) := by
  apply List.ext_getElem
  · simp [metL]
  · intro i h1 h2
    simp [metL] at h1
    rw [List.getElem_set]
    simp only [metL, List.getElem_map, List.getElem_range, metB_succ, h]
    by_cases e : j = i
    · subst e; simp
    · rw [if_neg e]
      have : ((j : Int) == (i : Int)) = false := by simp; omega
      rw [this]; simp
theorem metL_keep {n : Nat} {f : Nat → Int} {m : Nat} (h : f m = -1) : metL n f (m + 1) = metL n f m := by
  unfold metL
  congr 1
  funext x
  rw [metB_succ, h]
  have : ((-1 : Int) == (x : Int)) = false := by first | (simp; done) | (simp; omega)
  rw [this]; simp
/-- No more than half of them meet. -/
theorem half_met (k : Nat) : 2 * metN (mPair most below ops) k + (mAt most below ops k).1.length ≤ k := by
  induction k with
  | zero => simp [metN, mAt]
  | succ k ih =>
    simp only [metN]
    rcases mAt_next (most := most) (below := below) (ops := ops) k with e1 | ⟨e1, e2, e3⟩ | ⟨_, l', x, h3, h4, h5⟩
    · rw [e1]
      have : ¬ 0 ≤ mPair most below ops k := by
        intro h
        rcases mPair_cases most below ops k with e | ⟨j, e⟩
        · omega
        · obtain ⟨hk2, l, hl⟩ := mPair_met e
          have hlt : k < ops.length := by
            by_cases hlt : k < ops.length
            · exact hlt
            · have : kindAt ops k = 0 := by simp [kindAt, List.getElem?_eq_none (show ops.length ≤ k by omega)]
              omega
          have hp : mAt most below ops k = (l ++ [j], (mAt most below ops k).2) := Prod.ext hl rfl
          rw [mAt_succ hlt, hk2, hp, mStep_pop_some] at e1
          have := congrArg List.length e1
          simp at this
      rw [if_neg this]
      omega
    · rw [e3]
      have : ¬ 0 ≤ mPair most below ops k := by
        intro h
        rcases mPair_cases most below ops k with e | ⟨j, e⟩
        · omega
        · obtain ⟨hk2, _⟩ := mPair_met e; omega
      rw [if_neg this]
      simp
      omega
    · rw [h4]
      rw [h3] at ih
      simp at ih
      split <;> omega
end
end Go.Rp
namespace Go.Proofs.Ytdjehackbebpaaa
open Go.RowKit Go.Rp

theorem info_bool : (Try.prog.info? 4).map (fun i => (i.zero, i.size, i.bytes)) = some (some (.bool false), 1, 1) := by kernel_rfl

set_option maxRecDepth 100000 in
set_option maxHeartbeats 8000000 in
theorem MatchMeets_walk (w : World) (x : Int) (hx : (Lit.int .u8 x).wf = true) (a0 : Option Addr) (n0 c0 : Nat) (zs0 : List Int) (h00 : InInts .u8 w a0 n0 c0 zs0) (a' : Option Addr) (n' c' : Nat) (zs : List Int) (h1 : InInts .u8 w a' n' c' zs) :
    Calls Try.prog 8 #[.int .u8 x, .slice a0 n0 c0, .slice a' n' c'] w fun e w' => e = .returned (.bool true) ∧ Below w.heap.size w w' := by
  obtain ⟨i0, hi0, hz0, hz1, hz2⟩ := info_parts info_bool
  obtain ⟨bs, hbn, h256, hrb⟩ := h1.bytes
  obtain ⟨bs0, hbn0, h2560, hrb0⟩ := h00.bytes
  have hreach' := h1.reach
  have hreach0 := h00.reach
  have hlt : ∀ b, (fun x => x < w.heap.size) b → b < w.heap.size := fun _ h => h
  have s0 : At w.heap.size w [] := trivial
  clear h1 h00
  have hw0 : IntKind.i64.wrap ((n0 : Int) + (n' : Int)) = (n0 : Int) + (n' : Int) := IntWalk.i64_in _ (by omega)
  by_cases hbig : 150 < n0 + n'
  · have hL : (150 : Int) < (n0 : Int) + (n' : Int) := by omega
    go_enter Try.func8, Try.ntmps8
    go_wp2_with fail
    refine (known_any _).mono ?_
    rintro e w1 ⟨rfl, b1⟩
    go_wp2_with fail
    go_ret
    exact ⟨rfl, b1⟩
  have hL : ¬ (150 : Int) < (n0 : Int) + (n' : Int) := by omega
  obtain ⟨M, hM, mmod, hx0, hx1⟩ := u8_mod hx 9 (by omega)
  clear hx
  go_enter Try.func8, Try.ntmps8
  go_wp2_with fail
  refine (Ops_s (Nat.le_refl _) s0 hbn hrb h256 (by omega) 3 (by omega) (by omega)).mono ?_
  rintro e w1 ⟨A1, n, c, rfl, hn, h80, s1, b1⟩
  have h8 := opsOf_ok 3 (by omega) (by omega) bs
  generalize opsOf 3 bs = ops at *
  go_wp2_with fail
  refine (Filled_s (c := c0) b1.size s1 (M : Int) hbn0 (hrb0.below b1 hlt) hlt h2560 (by omega)).mono ?_
  rintro e w2 ⟨p, rfl, s2, b2⟩
  have b2 := b1.trans b2
  have hfl := filled_len (cut (M : Int)) bs0
  have hcut : cut (M : Int) = M := by unfold cut; omega
  rw [hcut] at s2 hfl
  obtain ⟨l0, hl0⟩ : ∃ l0, filled M bs0 = l0 := ⟨_, rfl⟩
  rw [hl0] at s2 hfl
  obtain ⟨be, hbe⟩ : ∃ be, l0.length = be := ⟨_, rfl⟩
  rw [hbe] at hfl
  have HBE := Lib.hid hbe
  have HN := Lib.hid hn
  clear hl0 hbe hn hcut s1 b1 hrb hrb0 h256 h2560 hbn hbn0
  go_wp2_with fail
  refine (items_s b2.size s2 HBE.out).mono ?_
  rintro e w3 ⟨A3, c3, rfl, s3, b3⟩
  have b3 := b2.trans b3
  go_wp2_with fail
  refine (Pairs_y (c := c) b3.size (be : Int) (M : Int) HN.out h8 (by omega) s3 (fun W L' hb hW => ⟨_, (Sep.drop (Sep.drop hW)).get⟩)).mono ?_
  rintro e w4 ⟨gp, gc, rfl, s4, b4⟩
  have b4 := b3.trans b4
  have hcap : capI (M : Int) = M := by unfold capI; omega
  have hbel : belI (be : Int) (M : Int) = be := by unfold belI; rw [hcap]; omega
  have hpq : ∀ (k : Nat), k < ops.length → (pairsL (be : Int) (M : Int) ops)[k]? = some (mPair M be ops k) := fun k h => by rw [pairsL_q h, hcap, hbel]
  have hcq : ∀ (k : Nat), k < ops.length → (codesL (be : Int) (M : Int) ops)[k]? = some (mCode M be ops k) := fun k h => by rw [codesL_q h, hcap, hbel]
  have HPQ := Lib.hid hpq
  have HCQ := Lib.hid hcq
  have HCAP := Lib.hid hcap
  have HBEL := Lib.hid hbel
  clear s2 s3 b2 b3 hpq hcq hcap hbel
  have ap := Apply_y (c := c) b4.size s4.rot4 HN.out h8 (by omega) (fun W L' hb hW => ⟨_, (Sep.drop (Sep.drop (Sep.drop hW))).get⟩)
  rw [HBE.out] at ap
  go_wp2_with fail
  refine ap.mono ?_
  rintro e w5 ⟨g, rfl, s5, b5⟩
  have b5 := b4.trans b5
  clear ap s4 b4
  have hle5 := b5.size
  have hz3 : i0.bytes * n ≤ 281474976710656 := by rw [hz2]; omega
  have s6 := row_new hle5 (show n ≤ 100000 by omega) (z := .bool false) 4 s5
  have b6 := b5.alloc hle5 (.cells (madeCells #[.bool false] n) 4)
  have hle6 : w.heap.size ≤ (w5.alloc (.cells (madeCells #[.bool false] n) 4)).heap.size := by simp; omega
  rw [← metL_zero n (mPair M be ops)] at s6
  go_wp2_with (refine wpList_make_row _ rfl (.tmp 68) (.tmp 68) 48 rfl 4 i0 _ Try.underlying48 hi0 hz0 hz1 rfl .i64 .i64 n rfl rfl hz3 (by omega) ?_)
  generalize w5.alloc (.cells (madeCells #[.bool false] n) 4) = w6 at *
  generalize w5.heap.size = gm at *
  clear s5 b5
  go_loopg [15, 16] n (fun g' v k wr => ∃ m : Nat, m + g' = n ∧ k = .int .i64 (m : Int) ∧ v = .int .i64 (((mAt M be ops m).2 : Nat) : Int) ∧ At w.heap.size wr (slRes 4 1 (some ⟨gm, 0, none⟩) n n (metL n (mPair M be ops) m) :: slRes 42 2 (some ⟨g, 0, none⟩) n n ((toldK n (mCode M be ops) (mVal l0 M ops) n).flatMap resIn) :: stk p M (mEnd l0 ops (mAt M be ops n)) :: intsO gp n (pairsL (be : Int) (M : Int) ops) :: codesO gc n (codesL (be : Int) (M : Int) ops) :: ownI A3 be c3 l0 :: opsR A1 n ops :: []) ∧ Below w.heap.size w wr ∧ w.heap.size ≤ wr.heap.size)
  case atStart => exact ⟨0, by omega, rfl, rfl, s6, b6, hle6⟩
  case round =>
    clear s6 b6 hle6
    obtain ⟨m, hm, rfl, rfl, s7, b7, hle7⟩ := hrel
    by_cases hltm : m < n
    · have hml : m < ops.length := by rw [HN.out]; exact hltm
      have hmn : (m : Int) < (n : Int) := by omega
      have htl : m < (toldK n (mCode M be ops) (mVal l0 M ops) n).length := by rw [toldK_len]; exact hltm
      obtain ⟨t0, t1⟩ := res_at _ m htl
      rw [toldK_get _ _ _ _ _ hltm, if_pos hltm] at t0 t1
      have r0 : wr.cell? ⟨g, m * 2, none⟩ = some (.int .u8 (mCode M be ops m)) := (s7.rot2.slat hle7 _ _ t0).1
      have r1 : wr.cell? ⟨g, m * 2 + 1, none⟩ = some (.int .i32 (mVal l0 M ops m)) := (s7.rot2.slat hle7 _ _ t1).1
      have g1 : wr.cell? ⟨gp, m, none⟩ = some (.int .i64 (mPair M be ops m)) := own_at s7.rot4 (HPQ.out _ hml)
      have g2 : wr.cell? ⟨gc, m, none⟩ = some (.int .u8 (mCode M be ops m)) := own_at s7.rot5 (HCQ.out _ hml)
      have hsu := mAt_succ (most := M) (below := be) hml
      have hbs := below_step M m (kindAt ops m) (mAt M be ops m)
      rw [← hsu] at hbs
      have hble := mAt_below_le M be ops m
      clear t0 t1 htl hsu
      rcases mPair_cases M be ops m with e | ⟨j, e⟩
      · have hmk := metL_keep (n := n) e
        rw [e] at g1
        by_cases hc2 : mCode M be ops m = 2
        · have h12 : (mStep M m (kindAt ops m) (mAt M be ops m)).2 = (-1, 2) := Prod.ext e hc2
          have hv : mVal l0 M ops m = l0[(mAt M be ops m).2 - 1]?.getD 0 := by
            have := HBE.out
            subst this
            exact mVal_taken e hc2
          obtain ⟨hnx, hpos⟩ : (mAt M be ops (m + 1)).2 = (mAt M be ops m).2 - 1 ∧ 0 < (mAt M be ops m).2 := by
            rcases hbs with ⟨_, h⟩ | ⟨_, h, h', _⟩
            · exact absurd h12 h
            · exact ⟨h, h'⟩
          rw [hc2] at g2 r0
          have hown : Sl wr 21 1 A3 be c3 (l0.map fun x => Value.int .i32 x) (fun x => w.heap.size ≤ x) := (s7.drop.drop.drop.drop.drop).get
          obtain ⟨bb, hbb⟩ : ∃ bb, (mAt M be ops m).2 = bb + 1 := ⟨(mAt M be ops m).2 - 1, by omega⟩
          rw [hbb] at hnx hble hv
          have hbl : bb < l0.length := by rw [HBE.out]; omega
          have hvx : mVal l0 M ops m = l0[bb] := by rw [hv]; simp [hbl]
          obtain ⟨ga, oa, rfl, _, _, _, hwc⟩ := hown.at (by omega)
          have g3 : wr.cell? ⟨ga, oa + bb, none⟩ = some (.int .i32 (mVal l0 M ops m)) := by rw [hvx]; exact hwc bb _ (by simp [hbl])
          have HNX := Lib.hid hnx
          have HMK := Lib.hid hmk
          have hb0 : ((bb + 1 : Nat) : Int) - 1 = (bb : Int) := by omega
          have hbb2 : (bb : Int) < (be : Int) := by omega
          have hbb3 : decide ((bb : Int) < 0) = false := decide_eq_false (by omega)
          rw [hbb]
          clear hwc hvx hv hbl hbb hnx hmk h12 hbs hc2 e hpos hown
          generalize mVal l0 M ops m = vl at *
          have hvv : (vl != vl) = false := by simp
          go_wp2_with fail
          go_quiet (fail)
          go_wp2_with fail
          go_quiet (fail)
          go_wp2_with fail
          go_roundg (gk - 1)
          case measure => omega
          case rel => exact ⟨m + 1, by omega, by go_num, by rw [HNX.out]; first | rfl | go_num | (simp; omega), by rw [HMK.out]; exact s7.drewN _, below_drewN b7 _, hle7⟩
        · have hnx : (mAt M be ops (m + 1)).2 = (mAt M be ops m).2 := by
            rcases hbs with ⟨h, _⟩ | ⟨h, _⟩
            · exact h
            · exact absurd (by unfold mCode; rw [h]) hc2
          have HNX := Lib.hid hnx
          have HMK := Lib.hid hmk
          clear hbs e hnx hmk
          generalize mCode M be ops m = cd at *
          have hcd : (cd == 2) = false := by simpa using hc2
          have hcc : (cd != cd) = false := by simp
          go_wp2_with fail
          go_quiet (fail)
          go_wp2_with fail
          go_roundg (gk - 1)
          case measure => omega
          case rel => exact ⟨m + 1, by omega, by go_num, by rw [HNX.out], by rw [HMK.out]; exact s7.drewN _, below_drewN b7 _, hle7⟩
      · obtain ⟨hk2, l, hl⟩ := mPair_met e
        have hjm : j ∈ (mAt M be ops m).1 := by rw [hl]; simp
        obtain ⟨hjlt, hjk, hjc, _⟩ := came hjm
        have hnx : (mAt M be ops (m + 1)).2 = (mAt M be ops m).2 := by
          rcases hbs with ⟨h, _⟩ | ⟨h, _⟩
          · exact h
          · exfalso
            have : mPair M be ops m = -1 := by unfold mPair; rw [h]
            omega
        have hvl : mVal l0 M ops m = valAt ops j := by
          have := HBE.out
          subst this
          exact mVal_met e
        have hmf : metB (mPair M be ops) m j = false := metB_false fun i hi => met_once e hi
        have hms := metL_set (n := n) e
        have hjl : j < ops.length := by omega
        obtain ⟨b, off, rfl, _, hcells⟩ := (s7.drop.drop.drop.drop.drop.drop).get.at (by omega)
        obtain ⟨c0', c1'⟩ := op_at ops m hml
        obtain ⟨d0, d1⟩ := op_at ops j hjl
        have g0 : wr.cell? ⟨b, off + m * 2, none⟩ = some (.int .u8 2) := by rw [← hk2, kindAt_lt hml]; exact hcells _ _ c0'
        have g3 : wr.cell? ⟨b, off + j * 2, none⟩ = some (.int .u8 1) := by rw [← hjk, kindAt_lt hjl]; exact hcells _ _ d0
        have g4 : wr.cell? ⟨b, off + j * 2 + 1, none⟩ = some (.int .i32 (valAt ops j)) := by rw [valAt_lt hjl]; exact hcells _ _ d1
        have g5 : wr.cell? ⟨gc, j, none⟩ = some (.int .u8 1) := own_at s7.rot5 ((HCQ.out _ hjl).trans (by rw [hjc]))
        have hmq := metL_q (f := mPair M be ops) (m := m) (show j < n by omega)
        rw [hmf] at hmq
        obtain ⟨g6, g7, _⟩ := s7.slat hle7 j _ hmq
        have hst := fun (W : World) (hW : At w.heap.size W (slRes 4 1 (some ⟨gm, 0, none⟩) n n (metL n (mPair M be ops) m) :: slRes 42 2 (some ⟨g, 0, none⟩) n n ((toldK n (mCode M be ops) (mVal l0 M ops) n).flatMap resIn) :: stk p M (mEnd l0 ops (mAt M be ops n)) :: intsO gp n (pairsL (be : Int) (M : Int) ops) :: codesO gc n (codesL (be : Int) (M : Int) ops) :: ownI A3 be c3 l0 :: opsR (some ⟨b, off, none⟩) n ops :: [])) (hB : w.heap.size ≤ W.heap.size) => (hW.slat hB j _ hmq).2.2 (.bool true)
        rw [e] at g1
        rw [hvl] at r1
        rw [hms] at hst
        have HNX := Lib.hid hnx
        have HST := Lib.hid hst
        have hjn : (j : Int) < (n : Int) := by omega
        have hjm' : (j : Int) < (m : Int) := by omega
        have hjd : decide ((m : Int) ≤ (j : Int)) = false := decide_eq_false (by omega)
        clear hst hms hmf hvl hnx hjk hjc hjm hl hk2 hbs e hcells c0' c1' d0 d1 hmq hjl
        generalize valAt ops j = vl at *
        have hvv : (vl != vl) = false := by simp
        generalize mCode M be ops m = cd at *
        have hcc : (cd != cd) = false := by simp
        go_wp2_with fail
        go_quiet (fail)
        go_wp2_with fail
        go_quiet (fail)
        go_wp2_with fail
        go_roundg (gk - 1)
        case measure => omega
        case rel => exact ⟨m + 1, by omega, by go_num, by rw [HNX.out], (HST.out _ (s7.drewN _) hle7).1, (below_drewN b7 _).trans (HST.out _ (s7.drewN _) hle7).2, Nat.le_trans hle7 (HST.out _ (s7.drewN _) hle7).2.size⟩
    · obtain rfl : m = n := by omega
      have hk := known_s hle7 s7
      go_wp2_with fail
      refine hk.mono ?_
      rintro e w8 ⟨rfl, s8, b8⟩
      have hle8 := Nat.le_trans hle7 b8.size
      have b8 := b7.trans b8
      obtain ⟨q, hq⟩ : ∃ q, metN (mPair M be ops) m = q := ⟨_, rfl⟩
      have hhalf := half_met (most := M) (below := be) (ops := ops) m
      rw [hq] at hhalf
      have HQ := Lib.hid hq
      have hs := Spared_y (c := c) hle8 (be : Int) (M : Int) HN.out h8 (by omega) s8 (fun W L' hb hW => ⟨_, (Sep.drop (Sep.drop (Sep.drop (Sep.drop (Sep.drop (Sep.drop hW)))))).get⟩) (v := q) (by rw [HCAP.out, HBEL.out]; exact HQ.out)
      clear hk hq
      have hfin : (q : Int) ≤ (m : Int) / 2 := by omega
      have hfin2 : (q : Int) ≤ (m : Int).tdiv 2 := by rw [Int.tdiv_eq_ediv_of_nonneg (by omega)]; exact hfin
      go_wp2_with fail
      refine hs.mono ?_
      rintro e w9 ⟨rfl, s9, b9⟩
      have b9 := b8.trans b9
      go_wp2_with fail
      go_ret
      exact ⟨by first | rfl | (rw [decide_eq_true hfin2]; done) | (rw [decide_eq_true hfin]; done), b9⟩
end Go.Proofs.Ytdjehackbebpaaa
