/-
  The walk of SkipMin.
-/
import Derived.Test.YthgljcmlnccjaaaSkipM
import Derived.Test.YthgljcmlnccjaaaIn
namespace Go.Proofs.Ythgljcmlnccjaaa
open Go.RowKit Go.Rp

theorem info_i32s : (Try.prog.info? 27).map (fun i => (i.zero, i.size, i.bytes)) = some (some (.slice none 0 0), 1, 24) := by kernel_rfl
/-- Two things as one. -/
theorem sep_join {w : World} {U : Nat → Prop} {a b c : Res} {L : List Res} (h : Sep w U (a :: b :: L)) (f : ∀ S T, a.Q w S → b.Q w T → c.Q w (fun x => S x ∨ T x)) : Sep w U (c :: L) := by
  obtain ⟨S, h1, h2, T, h3, h4, h5⟩ := h
  refine ⟨fun x => S x ∨ T x, fun x hx => ?_, f S T h2 h4, h5.mono fun x hx => ⟨hx.1.1, fun h => ?_⟩⟩
  · rcases hx with hx | hx
    · exact h1 x hx
    · exact (h3 x hx).1
  · rcases h with h | h
    · exact hx.1.2 h
    · exact hx.2 h
/-- The first n levels of a list, read: where they lie, and how much room there is. -/
def levQ (L : List It) (n : Nat) (P : Nat → Option Addr × Nat) (w : World) (S : Nat → Prop) : Prop := ∀ j, j < n → Rd w S 1 (P j).1 (levL j L).length (iv (levL j L)) ∧ (levL j L).length ≤ (P j).2
def levR (L : List It) (n : Nat) (P : Nat → Option Addr × Nat) : Res :=
  ⟨levQ L n P, fun h hS j hj => ⟨(h j hj).1.more hS, (h j hj).2⟩, fun h hm hd j hj => ⟨(h j hj).1.mod hm hd, (h j hj).2⟩, fun h j hj => ⟨(stable_rd 1 (by omega) _ _ _).lt (h j hj).1, (h j hj).2⟩⟩
def rowV (L : List It) (n : Nat) (P : Nat → Option Addr × Nat) : List Value := (List.range n).map fun j => .slice (P j).1 (levL j L).length (P j).2
theorem rowV_at {L : List It} {n : Nat} {P : Nat → Option Addr × Nat} {j : Nat} (hj : j < n) : (rowV L n P)[j]? = some (.slice (P j).1 (levL j L).length (P j).2) := by
  unfold rowV
  rw [List.getElem?_map, List.getElem?_range hj]
  rfl
def setP (P : Nat → Option Addr × Nat) (n : Nat) (x : Option Addr × Nat) : Nat → Option Addr × Nat := fun j => if j = n then x else P j
theorem rowV_succ (L : List It) (n : Nat) (P : Nat → Option Addr × Nat) (A : Option Addr) (c : Nat) : rowV L (n + 1) (setP P n (A, c)) = rowV L n P ++ [.slice A (levL n L).length c] := by
  unfold rowV setP
  rw [List.range_succ, List.map_append]
  congr 1
  · refine List.map_congr_left fun j hj => ?_
    have := List.mem_range.1 hj
    rw [if_neg (by omega)]
  · simp
theorem lev_join {w : World} {U : Nat → Prop} {L : List It} {n c : Nat} {P : Nat → Option Addr × Nat} {A : Option Addr} {M : List Res} (h : Sep w U (ownI A (levL n L).length c (levL n L) :: levR L n P :: M)) : Sep w U (levR L (n + 1) (setP P n (A, c)) :: M) := by
  refine sep_join h fun S T ha hb j hj => ?_
  have ha' : Sl w 21 1 A (levL n L).length c (iv (levL n L)) S := ha
  unfold setP
  by_cases e : j = n
  · subst e
    rw [if_pos rfl]
    exact ⟨(Sl.rd ha').more fun x hx => .inl hx, Sl.le ha'⟩
  · rw [if_neg e]
    have hb' := hb j (by omega)
    exact ⟨hb'.1.more fun x hx => .inr hx, hb'.2⟩
theorem size_i32 (W : World) : (sizeOf 21).run Try.prog W = .ok 1 W := by kernel_rfl
/-- 's[1:]'. -/
theorem ints_tail (A : Option Addr) (n c : Nat) (hc : n + 1 ≤ c) : ∃ (A' : Option Addr) (c' : Nat), (∀ W, (Instr.slice 27 (.slice A (n + 1) c) (some (.int .i64 1)) none none).run Try.prog W = .ok (.slice A' n c') W) ∧ ∀ (w : World) (R : Nat → Prop) (x : Value) (xs : List Value), Rd w R 1 A (n + 1) (x :: xs) → Rd w R 1 A' n xs := by
  refine ⟨if c = 1 then A else A.map (·.add 1), c - 1, fun W => ?_, fun w R x xs h => ?_⟩
  · rw [run_slice_l W 27 A (n + 1) c (by kernel_rfl) .i64 1 (by omega) (by omega)]
    rw [show Try.prog.elem 27 = 21 by kernel_rfl, size_i32 W]
    simp only [Result.andThen, sliced]
    rfl
  · have hl : xs.length = n := by simpa using h.1
    by_cases h1 : c = 1
    · obtain rfl : n = 0 := by omega
      obtain rfl := List.eq_nil_of_length_eq_zero hl
      exact Rd.nil
    · rw [if_neg h1]
      obtain ⟨b, off, rfl, hR, hcells⟩ := h.at (by omega)
      refine ⟨by simpa using hl, fun _ => ⟨b, off + 1, by simp [Addr.add], hR, fun j u hu => ?_⟩⟩
      have := hcells (j + 1) u (by simpa using hu)
      rwa [show off + 1 + j = off + (j + 1) by omega]
theorem levL_nil (q : Nat) : levL q [] = [] := rfl
theorem levL_cons_on {q h : Nat} {v : Int} {L : List It} (hq : q < h) : levL q ((v, h) :: L) = v :: levL q L := by unfold levL; rw [List.filter_cons_of_pos (by simpa using hq)]; rfl
theorem levL_cons_off {q h : Nat} {v : Int} {L : List It} (hq : ¬ q < h) : levL q ((v, h) :: L) = levL q L := by unfold levL; rw [List.filter_cons_of_neg (by simpa using hq)]
theorem tmod_nat {x : Int} (h0 : 0 ≤ x) (h1 : x ≤ 255) {k : Nat} (hk : 0 < k) : ∃ r : Nat, x.tmod (k : Int) = (r : Int) ∧ r < k ∧ r ≤ 255 := by
  obtain ⟨y, rfl⟩ : ∃ y : Nat, x = (y : Int) := ⟨x.toNat, by omega⟩
  refine ⟨y % k, by rw [Int.tmod_eq_emod_of_nonneg h0]; omega, Nat.mod_lt _ hk, ?_⟩
  have := Nat.mod_le y k
  omega
set_option maxRecDepth 100000 in
set_option maxHeartbeats 2000000 in
theorem SkipMin_walk (w : World) (mo : Int) (hmo : (Lit.int .u8 mo).wf = true) (a1 : Option Addr) (n1 c1 : Nat) (bz : List Int) (h1 : InInts .u8 w a1 n1 c1 bz) (ti : Int) (hti : (Lit.int .u8 ti).wf = true) :
    Calls Try.prog 7 #[.int .u8 mo, .slice a1 n1 c1, .int .u8 ti] w fun e w' => e = .returned (.bool true) ∧ Below w.heap.size w w' := by
  have hle : w.heap.size ≤ w.heap.size := Nat.le_refl _
  have s0 : At w.heap.size w [] := trivial
  obtain ⟨m0, m1⟩ := wf_u8 hmo
  obtain ⟨t0, t1⟩ := wf_u8 hti
  obtain ⟨bs, hlb, hb8, hx1⟩ := h1.bytes
  have hr1 := h1.reach
  obtain ⟨r30, hr30, hr30a, hr30b⟩ := tmod_nat m0 m1 (k := 30) (by omega)
  obtain ⟨r9, hr9, hr9a, hr9b⟩ := tmod_nat t0 t1 (k := 9) (by omega)
  have e1 : mo.tmod 30 = (r30 : Int) := hr30
  have e2 : ti.tmod 9 = (r9 : Int) := hr9
  clear hr30 hr9
  by_cases hbig : 60 < n1
  · have hd : (60 : Int) < (n1 : Int) := by omega
    clear hbig h1 hlb
    go_enter Try.func7, Try.ntmps7
    go_wp2_with fail
    refine (new_s hle s0 _).mono ?_
    rintro e w1 ⟨p, rfl, s1, b1⟩
    go_wp2_with fail
    refine (known_s b1.size s1).mono ?_
    rintro e w2 ⟨rfl, s2, b2⟩
    go_wp2_with fail
    go_ret
    exact ⟨rfl, b1.trans b2⟩
  · have hd : decide ((60 : Int) < (n1 : Int)) = false := decide_eq_false (by omega)
    have hra : Reads w.heap.size w [] 1 a1 n1 (bs.map fun (x : Nat) => Value.int .u8 (x : Int)) := Reads.of_arg hx1 fun _ h => h
    have q1 : n1 ≤ 60 := by omega
    obtain ⟨i0, hi0, hz0, hz1, hz2⟩ := info_parts info_i32s
    clear hbig h1 hx1
    go_enter Try.func7, Try.ntmps7
    go_wp2_with fail
    refine (new_s hle s0 _).mono ?_
    rintro e w1 ⟨p, rfl, s1, b1⟩
    generalize mostI _ = m at s1
    have hri := rising_any (c := c1) b1.size s1 hlb (by omega) hb8 ((hra.later b1).more _)
    go_wp2_with fail
    refine hri.mono ?_
    rintro e w2 ⟨B1, B2, d1, d2, k1, k2, vs, hs, rfl, hv1, hv2, hm1, hm2, hd1, s2, b2⟩
    have b2 := b1.trans b2
    have hm20 : k1 ≤ 20 := by rw [hm1]; exact Nat.min_le_right _ _
    have hba := batch_s (c1 := d1) (c2 := d2) b2.size s2.rot3 (Reads.own []) (Reads.own [_]) hv1 hv2 (by omega) (by omega)
    clear hri hm1 hv1 hv2 s1 b1 hd1 hlb
    go_wp2_with fail
    refine hba.mono ?_
    rintro e w3 ⟨g, rfl, s3, b3⟩
    have s3 : At w.heap.size w3 (skR p m (batL m vs hs []) :: []) := (s3.drop.rot3).drop.rot2.drop
    have b3 := b2.trans b3
    obtain ⟨L0, hL0⟩ : ∃ L0, batL m vs hs [] = L0 := ⟨_, rfl⟩
    rw [hL0] at s3
    clear hL0 hba s2 b2
    go_wp2_with fail
    clear hd
    go_loopg [10] r9 (fun gg k wr => ∃ (i : Nat) (L : List It), i + gg = r9 ∧ k = .int .i64 (i : Int) ∧ At w.heap.size wr (skR p m L :: []) ∧ Below w.heap.size w wr)
    case atStart => exact ⟨0, L0, by omega, rfl, s3, b3⟩
    case round =>
      clear s3 b3
      obtain ⟨i, L, hi, rfl, sr, br⟩ := hrel
      by_cases hlt : i < r9
      · have hlv := levL_le sr
        have HLV := Lib.hid hlv
        clear hlv
        go_wp2_with fail
        go_loopg [11, 12] 8 (fun gg bel k wr => ∃ (q : Nat) (A : Option Addr) (c : Nat) (P : Nat → Option Addr × Nat), q + gg = 8 ∧ k = .int .i64 ((q : Int) + 1) ∧ bel = .slice A q c ∧ At w.heap.size wr (slRes 27 1 A q c (rowV L q P) :: levR L q P :: skR p m L :: []) ∧ Below w.heap.size w wr)
        case atStart =>
          refine ⟨0, none, 0, fun _ => (none, 0), rfl, rfl, rfl, Sep.nilSl ?_ _ _, br⟩
          exact ⟨fun _ => False, fun _ h => h.elim, fun j hj => by omega, sr.mono fun _ h => ⟨h, fun h => h⟩⟩
        case round =>
          clear sr br
          obtain ⟨q, A, c, P, hq, rfl, rfl, sr, br⟩ := hrel
          by_cases hq8 : q < 8
          · have hq7 : (q : Int) + 1 ≤ 8 := by omega
            have hlvl := level_s (Nat.le_trans hle br.size) (Sep.rot3 sr) (k := (q : Int) + 1) rfl hq8 (l' := levL q L) rfl rfl
            obtain ⟨nq, hnq⟩ : ∃ nq, (levL q L).length = nq := ⟨_, rfl⟩
            have hnq2 := HLV.out q
            rw [hnq] at hnq2
            have HNQ := Lib.hid hnq
            go_wp2_with fail
            refine hlvl.mono ?_
            rintro e w6 ⟨A6, c6, rfl, s6, b6⟩
            rw [hnq] at s6 ⊢
            have b6 := br.trans b6
            clear hlvl sr br hnq
            have s7 : At w.heap.size w6 (slRes 27 1 A q c (rowV L q P) :: ownI A6 nq c6 (levL q L) :: levR L q P :: skR p m L :: []) := (s6.rot3.cons fun _ h => h.cons fun _ h => h.rot2)
            have s8 := (s7.alloc (Nat.le_trans hle b6.size) #[.slice A6 nq c6] 27).drop
            have b8 := b6.alloc (Nat.le_trans hle b6.size) (.cells #[.slice A6 nq c6] 27)
            have hle8 := b8.size
            go_wp2_with (at_builtin; refine wpList_append_at rfl (.tmp 57) (.tmp 61) _ rfl 27 i0 _ 1 24 Try.underlying45 hi0 hz0 hz1 hz2 rfl (by omega) rfl s8 hle8 (· = w6.heap.size) (some ⟨w6.heap.size, 0, none⟩) 1 1 [.slice A6 nq c6] rfl (by exact Rd.lit (sz := 1) w6 27 #[.slice A6 nq c6] 1 rfl) (by simp [Value.oneCell']) (by simp only [maxLen]; omega) (by omega) ?_; intro A9 c9 w9 s9 b9; have b9 := b8.trans b9)
            go_roundg (7 - q)
            case measure => omega
            case rel =>
              refine ⟨q + 1, A9, c9, setP P q (A6, c6), by omega, by go_num, rfl, ?_, b9⟩
              rw [rowV_succ, HNQ.out]
              have s10 := s9
              rw [← HNQ.out] at s10 ⊢
              exact s10.cons fun _ h => lev_join h
          · obtain rfl : q = 8 := by omega
            obtain ⟨gb, go, rfl, _, _⟩ := (show Rd wr _ 1 A 8 (rowV L 8 P) from Sl.read sr.get).at (by omega)
            have hmin := min_s (Nat.le_trans hle br.size) (Sep.rot3 sr)
            rcases L with _ | ⟨⟨v, h⟩, L'⟩
            · simp only [List.head?_nil, Option.map_none, Option.getD_none, List.isEmpty_nil, Bool.not_true, List.tail_nil] at hmin
              go_wp2_with fail
              refine hmin.mono ?_
              rintro e w5 ⟨rfl, s5, b5⟩
              have b5 := br.trans b5
              have s5 := s5.rot2.cons fun _ h => h.rot2
              clear hmin sr br
              have hc0 := rd_cell (Sl.read s5.get) (rowV_at (L := []) (P := P) (show 0 < 8 by omega))
              simp only [levL_nil, List.length_nil, Nat.add_zero] at hc0
              go_wp2_with fail
              clear hc0
              go_loopg [15, 16] 8 (fun gg gn k wr => ∃ q : Nat, q + gg = 8 ∧ k = .int .i64 ((q : Int) + 1) ∧ gn = .bool false ∧ At w.heap.size wr (slRes 27 1 (some ⟨gb, go, none⟩) 8 c (rowV [] 8 P) :: levR [] 8 P :: skR p m [] :: []) ∧ Below w.heap.size w wr)
              case atStart => exact ⟨0, rfl, rfl, rfl, s5, b5⟩
              case round =>
                clear s5 b5
                obtain ⟨q, hq, rfl, rfl, sr, br⟩ := hrel
                by_cases hq8 : q < 8
                · have hq7 : (q : Int) + 1 ≤ 8 := by omega
                  have hqi : (q : Int) < 8 := by omega
                  have hq0 : (0 : Int) ≤ (q : Int) := by omega
                  have hw1 : IntKind.i64.wrap ((q : Int) + 1 - 1) = (q : Int) := by rw [Int.add_sub_cancel]; exact IntWalk.i64_in _ (by omega)
                  have hlvl := level_s (Nat.le_trans hle br.size) (Sep.rot3 sr) (k := (q : Int) + 1) rfl hq8 (l' := []) (levL_nil q) rfl
                  go_wp2_with fail
                  refine hlvl.mono ?_
                  rintro e w6 ⟨A6, c6, rfl, s6, b6⟩
                  have b6 := br.trans b6
                  have hcq := rd_cell (Sl.read s6.rot3.get) (rowV_at (L := []) (P := P) hq8)
                  simp only [levL_nil, List.length_nil] at hcq
                  clear hlvl sr br
                  go_wp2_with fail
                  refine (Same_t (xs := []) (Nat.le_trans hle b6.size) s6 (Sl.read s6.get) (R' := fun _ => False) Rd.nil (by simp) (by simp)).mono ?_
                  rintro e w7 ⟨rfl, s7, b7⟩
                  have b7 := b6.trans b7
                  go_wp2_with fail
                  go_roundg (7 - q)
                  case measure => omega
                  case rel => exact ⟨q + 1, by omega, by go_num, rfl, s7.drop.rot2.cons fun _ h => h.rot2, b7⟩
                · obtain rfl : q = 8 := by omega
                  go_wp2_with fail
                  go_roundg (r9 - i - 1)
                  case measure => omega
                  case rel => exact ⟨i + 1, [], by omega, by go_num, sr.drop.drop, br⟩
            · have hhigh := (sk_high (Sep.rot3 sr)).1 (v, h) (by simp)
              simp only at hhigh
              simp only [List.head?_cons, Option.map_some, Option.getD_some, List.isEmpty_cons, Bool.not_false, List.tail_cons] at hmin
              go_wp2_with fail
              refine hmin.mono ?_
              rintro e w5 ⟨rfl, s5, b5⟩
              have b5 := br.trans b5
              have s5 := s5.rot2.cons fun _ h => h.rot2
              clear hmin sr br
              have hc0 := rd_cell (Sl.read s5.get) (rowV_at (L := (v, h) :: L') (P := P) (show 0 < 8 by omega))
              rw [levL_cons_on (show 0 < h by omega), List.length_cons, Nat.add_zero] at hc0
              have hl0 := (show levQ ((v, h) :: L') 8 P w5 _ from s5.rot2.get) 0 (by omega)
              rw [levL_cons_on (show 0 < h by omega), List.length_cons] at hl0
              obtain ⟨b0, o0, hP0, _, hcells⟩ := hl0.1.at (by omega)
              have hv0 : w5.cell? ⟨b0, o0, none⟩ = some (.int .i32 v) := hcells 0 _ rfl
              rw [hP0] at hc0
              obtain ⟨n0, hn0⟩ : ∃ n0, (levL 0 L').length = n0 := ⟨_, rfl⟩
              rw [hn0] at hc0
              have hpos : (0 : Int) < (n0 : Int) + 1 := by omega
              clear hl0 hcells hn0 hP0
              go_wp2_with fail
              clear hc0 hv0 hpos
              go_loopg [15, 16] 8 (fun gg gn k wr => ∃ q : Nat, q + gg = 8 ∧ k = .int .i64 ((q : Int) + 1) ∧ gn = .bool (decide (q ≤ h)) ∧ At w.heap.size wr (slRes 27 1 (some ⟨gb, go, none⟩) 8 c (rowV ((v, h) :: L') 8 P) :: levR ((v, h) :: L') 8 P :: skR p m L' :: []) ∧ Below w.heap.size w wr)
              case atStart => exact ⟨0, rfl, rfl, by simp, s5, b5⟩
              case round =>
                clear s5 b5
                obtain ⟨q, hq, rfl, rfl, sr, br⟩ := hrel
                by_cases hq8 : q < 8
                · have hq7 : (q : Int) + 1 ≤ 8 := by omega
                  have hqi : (q : Int) < 8 := by omega
                  have hq0 : (0 : Int) ≤ (q : Int) := by omega
                  have hw1 : IntKind.i64.wrap ((q : Int) + 1 - 1) = (q : Int) := by rw [Int.add_sub_cancel]; exact IntWalk.i64_in _ (by omega)
                  obtain ⟨nn, hnn⟩ : ∃ nn, (levL q L').length = nn := ⟨_, rfl⟩
                  have hnb := levL_le (Sep.rot3 sr) q
                  rw [hnn] at hnb
                  have hlvl := level_s (Nat.le_trans hle br.size) (Sep.rot3 sr) (k := (q : Int) + 1) rfl hq8 (l' := levL q L') rfl hnn
                  have HNN := Lib.hid hnn
                  clear hnn
                  by_cases hqh : q < h
                  · have hd1 : decide (q ≤ h) = true := decide_eq_true (by omega)
                    have hd2 : decide (q + 1 ≤ h) = true := decide_eq_true (by omega)
                    rw [hd1]
                    have HD2 := Lib.hid hd2
                    have HQH := Lib.hid hqh
                    clear hd1 hd2 hqh
                    go_wp2_with fail
                    refine hlvl.mono ?_
                    rintro e w6 ⟨A6, c6, rfl, s6, b6⟩
                    have b6 := br.trans b6
                    have hcq := rd_cell (Sl.read s6.rot3.get) (rowV_at (L := (v, h) :: L') (P := P) hq8)
                    have hlq := (show levQ ((v, h) :: L') 8 P w6 _ from s6.rot4.get) q hq8
                    rw [levL_cons_on HQH.out, List.length_cons, HNN.out] at hcq hlq
                    obtain ⟨A', c', hsl, hrd⟩ := ints_tail (P q).1 nn (P q).2 hlq.2
                    have hrt := hrd w6 _ _ _ hlq.1
                    have hww : IntKind.i64.wrap ((nn : Int) + 1 - 1) = (nn : Int) := by rw [Int.add_sub_cancel]; exact IntWalk.i64_in _ (by omega)
                    have hee : ((nn : Int) == (nn : Int)) = true := by simp
                    clear hlvl sr br hrd hlq
                    go_wp2_with fail
                    refine (Same_t (xs := levL q L') (Nat.le_trans hle b6.size) s6 (Sl.read s6.get) hrt (by omega) (by omega)).mono ?_
                    rintro e w7 ⟨rfl, s7, b7⟩
                    have b7 := b6.trans b7
                    go_wp2_with fail
                    go_roundg (7 - q)
                    case measure => omega
                    case rel => exact ⟨q + 1, by omega, by go_num, by rw [HD2.out], s7.drop.rot2.cons fun _ h => h.rot2, b7⟩
                  · have hd2 : decide (q + 1 ≤ h) = false := decide_eq_false (by omega)
                    obtain ⟨gn, hgn⟩ : ∃ gn, decide (q ≤ h) = gn := ⟨_, rfl⟩
                    rw [hgn]
                    have HD2 := Lib.hid hd2
                    have HQH := Lib.hid hqh
                    clear hd2 hqh hgn
                    have hww : IntKind.i64.wrap ((nn : Int) - 1) = (nn : Int) - 1 := IntWalk.i64_in _ (by omega)
                    have hee : ((nn : Int) == (nn : Int) - 1) = false := by simp; omega
                    have hee2 : ¬ ((nn : Int) = (nn : Int) - 1) := by omega
                    rcases gn with _ | _
                    all_goals
                      go_wp2_with fail
                      refine hlvl.mono ?_
                      rintro e w6 ⟨A6, c6, rfl, s6, b6⟩
                      have b6 := br.trans b6
                      have hcq := rd_cell (Sl.read s6.rot3.get) (rowV_at (L := (v, h) :: L') (P := P) hq8)
                      have hlq := (show levQ ((v, h) :: L') 8 P w6 _ from s6.rot4.get) q hq8
                      rw [levL_cons_off HQH.out, HNN.out] at hcq hlq
                      clear hlvl sr br
                      go_wp2_with fail
                      refine (Same_t (xs := levL q L') (Nat.le_trans hle b6.size) s6 (Sl.read s6.get) hlq.1 (by omega) (by omega)).mono ?_
                      rintro e w7 ⟨rfl, s7, b7⟩
                      have b7 := b6.trans b7
                      go_wp2_with fail
                      go_roundg (7 - q)
                      case measure => omega
                      case rel => exact ⟨q + 1, by omega, by go_num, by rw [HD2.out], s7.drop.rot2.cons fun _ h => h.rot2, b7⟩
                · obtain rfl : q = 8 := by omega
                  go_wp2_with fail
                  go_roundg (r9 - i - 1)
                  case measure => omega
                  case rel => exact ⟨i + 1, L', by omega, by go_num, sr.drop.drop, br⟩
      · obtain rfl : i = r9 := by omega
        go_wp2_with fail
        refine (known_s br.size sr).mono ?_
        rintro e w6 ⟨rfl, s6, b6⟩
        go_wp2_with fail
        go_ret
        exact ⟨rfl, br.trans b6⟩
end Go.Proofs.Ythgljcmlnccjaaa
