/-
  The walk of SkipLevels.
-/
import Derived.Test.YthgljcmlnccjaaaSkipM
import Derived.Test.YthgljcmlnccjaaaIn
namespace Go.Proofs.Ythgljcmlnccjaaa
open Go.RowKit Go.Rp

theorem levL_sub (q : Nat) (L : List It) : (levL q L).Sublist (levL (q - 1) L) := by
  unfold levL
  refine List.Sublist.map _ ?_
  induction L with
  | nil => simp
  | cons a L ih =>
    by_cases h : q < a.2
    · rw [List.filter_cons_of_pos (by simpa using h), List.filter_cons_of_pos (by simp; omega)]
      exact ih.cons_cons a
    · rw [List.filter_cons_of_neg (by simpa using h)]
      by_cases h2 : q - 1 < a.2
      · rw [List.filter_cons_of_pos (by simpa using h2)]
        exact ih.cons a
      · rw [List.filter_cons_of_neg (by simpa using h2)]
        exact ih
theorem levL_up {L : List It} (h : L.Pairwise fun a b => a.1 ≤ b.1) (q : Nat) : (levL q L).Pairwise (· ≤ ·) := by
  unfold levL
  rw [List.pairwise_map]
  exact h.sublist List.filter_sublist
theorem levL_zero {L : List It} (h : ∀ a ∈ L, 1 ≤ a.2 ∧ a.2 ≤ 8) : (levL 0 L).length = L.length := by
  unfold levL
  rw [List.length_map, List.filter_eq_self.2 fun a ha => by have := h a ha; simp; omega]
/-- One on, past one that is another. -/
theorem sub_skip {xs bl : List Int} {j a : Nat} (h : (xs.drop j).Sublist (bl.drop a)) (hj : j < xs.length) : a < bl.length ∧ ∀ (ha : a < bl.length), (bl[a] ≠ xs[j] → (xs.drop j).Sublist (bl.drop (a + 1))) ∧ (bl[a] = xs[j] → (xs.drop (j + 1)).Sublist (bl.drop (a + 1))) := by
  have hx := List.drop_eq_getElem_cons hj
  have hlt : a < bl.length := by
    have := h.length_le
    simp at this
    omega
  refine ⟨hlt, fun ha => ?_⟩
  rw [hx, List.drop_eq_getElem_cons ha] at h
  refine ⟨fun hne => ?_, fun he => ?_⟩
  · rw [hx]
    generalize bl[a] = y at *
    generalize xs[j] = x at *
    cases h with
    | cons _ h => exact h
    | cons_cons _ h => exact absurd rfl hne
  · rw [he] at h
    exact List.cons_sublist_cons.1 h
theorem own_cell {B : Nat} {w : World} {L : List Res} {A : Option Addr} {n c : Nat} {l : List Int} (h : At B w (ownI A n c l :: L)) (hl : l.length = n) (hn : 0 < n) : ∃ b off, A = some ⟨b, off, none⟩ ∧ ∀ j x, l[j]? = some x → w.cell? ⟨b, off + j, none⟩ = some (.int .i32 x) := by
  obtain ⟨b, off, e, _, hc⟩ := (show Rd w _ 1 A n (iv l) from Sl.read h.get).at hn
  exact ⟨b, off, e, fun j x hx => hc j _ (by rw [List.getElem?_map, hx]; rfl)⟩

set_option maxRecDepth 100000 in
set_option maxHeartbeats 2000000 in
theorem SkipLevels_walk (w : World) (mo : Int) (hmo : (Lit.int .u8 mo).wf = true) (a1 : Option Addr) (n1 c1 : Nat) (bz : List Int) (h1 : InInts .u8 w a1 n1 c1 bz) (a2 : Option Addr) (n2 c2 : Nat) (vz : List Int) (h2 : InInts .i32 w a2 n2 c2 vz) :
    Calls Try.prog 6 #[.int .u8 mo, .slice a1 n1 c1, .slice a2 n2 c2] w fun e w' => e = .returned (.bool true) ∧ Below w.heap.size w w' := by
  have hle : w.heap.size ≤ w.heap.size := Nat.le_refl _
  have s0 : At w.heap.size w [] := trivial
  obtain ⟨m0, m1⟩ := wf_u8 hmo
  obtain ⟨bs, hlb, hb8, hx1⟩ := h1.bytes
  have hr1 := h1.reach
  have hr2 := h2.reach
  by_cases hbig : 150 < n1 + n2
  · have hd : (150 : Int) < (n1 : Int) + (n2 : Int) := by omega
    clear hbig h1 h2 hlb
    go_enter Try.func6, Try.ntmps6
    go_wp2_with fail
    refine (new_s hle s0 _).mono ?_
    rintro e w1 ⟨p, rfl, s1, b1⟩
    go_wp2_with fail
    refine (known_s b1.size s1).mono ?_
    rintro e w2 ⟨rfl, s2, b2⟩
    go_wp2_with fail
    go_ret
    exact ⟨rfl, b1.trans b2⟩
  · have hd : decide ((150 : Int) < (n1 : Int) + (n2 : Int)) = false := decide_eq_false (by omega)
    have hra : Reads w.heap.size w [] 1 a1 n1 (bs.map fun (x : Nat) => Value.int .u8 (x : Int)) := Reads.of_arg hx1 fun _ h => h
    have hrv := h2.rd
    have hl2 := h2.len
    have q1 : n1 ≤ 150 := by omega
    have q2 : n2 ≤ 150 := by omega
    have HL2 := Lib.hid hl2
    clear hbig h1 h2 hx1 hl2
    go_enter Try.func6, Try.ntmps6
    go_wp2_with fail
    refine (new_s hle s0 _).mono ?_
    rintro e w1 ⟨p, rfl, s1, b1⟩
    obtain ⟨m, hm⟩ : ∃ m, mostI mo = m := ⟨_, rfl⟩
    rw [hm] at s1
    clear hm
    have hri := rising_any (c := c1) b1.size s1 hlb (by omega) hb8 ((hra.later b1).more _)
    go_wp2_with fail
    refine hri.mono ?_
    rintro e w2 ⟨B1, B2, d1, d2, k1, k2, vs, hs, rfl, hv1, hv2, hm1, hm2, hd1, s2, b2⟩
    have b2 := b1.trans b2
    have hm20 : k1 ≤ 20 := by rw [hm1]; exact Nat.min_le_right _ _
    have hba := batch_s (c1 := d1) (c2 := d2) b2.size s2.rot3 (Reads.own []) (Reads.own [_]) hv1 hv2 (by omega) (by omega)
    clear hri hm1 hv1 hv2 s1 b1 hd1 hlb
    go_wp2_with fail
    refine hba.mono ?_
    rintro e w3 ⟨g, rfl, s3, b3⟩
    have s3 : At w.heap.size w3 (skR p m (batL m vs hs []) :: []) := (s3.drop.rot3).drop.rot2.drop
    have b3 := b2.trans b3
    obtain ⟨L0, hL0⟩ : ∃ L0, batL m vs hs [] = L0 := ⟨_, rfl⟩
    rw [hL0] at s3
    clear hL0 hba s2 b2
    go_wp2_with fail
    clear hd
    go_loopg [10] n2 (fun gg k wr => ∃ (i : Nat) (L : List It), i + gg = n2 ∧ k = .int .i64 (i : Int) ∧ At w.heap.size wr (skR p m L :: []) ∧ Below w.heap.size w wr)
    case atStart => exact ⟨0, L0, by omega, rfl, s3, b3⟩
    case round =>
      clear s3 b3
      obtain ⟨i, L, hi, rfl, sr, br⟩ := hrel
      by_cases hlt : i < n2
      · obtain ⟨b, off, rfl, hbB, hcells⟩ := (hrv.below br fun _ h => h).at (by omega)
        have hmx : i < vz.length := by rw [HL2.out]; exact hlt
        have hx : wr.cell? ⟨b, off + i, none⟩ = some (.int .i32 vz[i]) := hcells i _ (by simp [hmx])
        clear hcells
        go_wp2_with fail
        refine (insert_s br.size sr _ _).mono ?_
        rintro e w5 ⟨rfl, s5, b5⟩
        have b5 := br.trans b5
        go_wp2_with fail
        go_roundg (n2 - i - 1)
        case measure => omega
        case rel => exact ⟨i + 1, _, by omega, by go_num, s5, b5⟩
      · have hhigh := sk_high sr
        have hlv := levL_le sr
        have hll := (sk_len sr)
        have HH := Lib.hid hhigh
        have HLV := Lib.hid hlv
        have HLL := Lib.hid hll
        clear hhigh hlv hll
        go_wp2_with fail
        refine (items_s br.size sr (l' := levL 0 L) rfl rfl).mono ?_
        rintro e w5 ⟨A5, c5, rfl, s5, b5⟩
        have b5 := br.trans b5
        clear sr br
        go_wp2_with fail
        go_loopg [11, 12] 8 (fun gg bel k wr => ∃ (q : Nat) (A : Option Addr) (c : Nat), q + gg = 8 ∧ k = .int .i64 ((q : Int) + 1) ∧ bel = .slice A (levL (q - 1) L).length c ∧ At w.heap.size wr (ownI A (levL (q - 1) L).length c (levL (q - 1) L) :: skR p m L :: []) ∧ Below w.heap.size w wr)
        case atStart => exact ⟨0, A5, c5, rfl, rfl, rfl, s5, b5⟩
        case round =>
          clear s5 b5
          obtain ⟨q, A, c, hq, rfl, rfl, sr, br⟩ := hrel
          have hbn := HLV.out (q - 1)
          obtain ⟨bl, hbl⟩ : ∃ bl, levL (q - 1) L = bl := ⟨_, rfl⟩
          have hsub := levL_sub q L
          have hup := levL_up HH.out.2 q
          have hxn := HLV.out q
          have hz := levL_zero HH.out.1
          rw [hbl] at sr hbn hsub ⊢
          obtain ⟨nb, hnb⟩ : ∃ nb, bl.length = nb := ⟨_, rfl⟩
          rw [hnb] at sr hbn ⊢
          have HBL := Lib.hid hbl
          have HNB := Lib.hid hnb
          have HSUB := Lib.hid hsub
          have HUP := Lib.hid hup
          have HZ := Lib.hid hz
          clear hbl hnb hsub hup hz
          by_cases hq8 : q < 8
          · have hq7 : (q : Int) + 1 ≤ 8 := by omega
            obtain ⟨x, hx⟩ : ∃ x, levL q L = x := ⟨_, rfl⟩
            obtain ⟨nx, hnx⟩ : ∃ nx, x.length = nx := ⟨_, rfl⟩
            have hlvl := level_s (Nat.le_trans hle br.size) sr.rot2 (k := (q : Int) + 1) rfl hq8 hx hnx
            rw [hx, hnx] at hxn
            have HX := Lib.hid hx
            have HNX := Lib.hid hnx
            clear hx hnx
            go_wp2_with fail
            refine hlvl.mono ?_
            rintro e w6 ⟨A6, c6, rfl, s6, b6⟩
            have b6 := br.trans b6
            have s6 : At w.heap.size w6 (ownI A6 nx c6 x :: ownI A nb c bl :: skR p m L :: []) := s6.cons fun _ h => h.rot2
            clear hlvl sr br
            go_wp2_with fail
            go_loopg [14, 15] nx (fun gg a j wr => ∃ (jj aa : Nat), jj + gg = nx ∧ aa ≤ nb ∧ j = .int .i64 (jj : Int) ∧ a = .int .i64 (aa : Int) ∧ Hid ((x.drop jj).Sublist (bl.drop aa)) ∧ At w.heap.size wr (ownI A6 nx c6 x :: ownI A nb c bl :: skR p m L :: []) ∧ Below w.heap.size w wr)
            case atStart => exact ⟨0, 0, by omega, by omega, rfl, rfl, Lib.hid (by have := HSUB.out; rw [HX.out] at this; simpa using this), s6, b6⟩
            case round =>
              clear s6 b6
              obtain ⟨j, a, hj, ha, rfl, rfl, hsb, sr, br⟩ := hrel
              by_cases hjx : j < nx
              · have hji : (j : Int) < (nx : Int) := by omega
                have hj0 : (0 : Int) ≤ (j : Int) := by omega
                have hjxl : j < x.length := by rw [HNX.out]; exact hjx
                obtain ⟨b', off', rfl, hcx⟩ := own_cell sr HNX.out (by omega)
                have hc1 := hcx j _ (List.getElem?_eq_getElem hjxl)
                obtain ⟨y, hy⟩ : ∃ y, x[j] = y := ⟨_, rfl⟩
                have HJ := Lib.hid hjxl
                rw [hy] at hc1
                have HY := Lib.hid hy
                clear hcx hy
                go_wp2_with fail
                go_loopg [14] (nb - a) (fun gg z wq => ∃ aa : Nat, aa + gg = nb ∧ z = .int .i64 (aa : Int) ∧ Hid ((x.drop j).Sublist (bl.drop aa)) ∧ At w.heap.size wq (ownI (some ⟨b', off', none⟩) nx c6 x :: ownI A nb c bl :: skR p m L :: []) ∧ Below w.heap.size w wq)
                case atStart => exact ⟨a, by omega, rfl, hsb, sr, br⟩
                case round =>
                  clear sr br hsb hc1
                  obtain ⟨aa, haa, rfl, hsb, sr, br⟩ := hrel
                  obtain ⟨hab, hnext⟩ := sub_skip hsb.out HJ.out
                  obtain ⟨hn1, hn2⟩ := hnext hab
                  rw [HY.out] at hn1 hn2
                  have hanb : aa < nb := by rw [← HNB.out]; exact hab
                  have hai : (aa : Int) < (nb : Int) := by omega
                  have ha0 : (0 : Int) ≤ (aa : Int) := by omega
                  have hane : ¬ ((aa : Int) = (nb : Int)) := by omega
                  have hane2 : ((aa : Int) == (nb : Int)) = false := by simpa using hane
                  obtain ⟨bb, offb, rfl, hcb⟩ := own_cell sr.rot2 HNB.out (by omega)
                  have hc2 := hcb aa _ (List.getElem?_eq_getElem hab)
                  have hcx : ∀ i x', x[i]? = some x' → wr.cell? ⟨b', off' + i, none⟩ = some (.int .i32 x') := fun i x' hx' => by
                    obtain ⟨b2, o2, e2, hc⟩ := own_cell sr HNX.out (by omega)
                    simp at e2
                    obtain ⟨rfl, rfl⟩ := e2
                    exact hc i x' hx'
                  have hc1 := hcx j _ (List.getElem?_eq_getElem HJ.out)
                  rw [HY.out] at hc1
                  obtain ⟨z, hz⟩ : ∃ z, bl[aa] = z := ⟨_, rfl⟩
                  rw [hz] at hc2 hn1 hn2
                  have HN1 := Lib.hid hn1
                  have HN2 := Lib.hid hn2
                  have HCX := Lib.hid hcx
                  clear hcb hz hnext hn1 hn2 hcx hsb
                  by_cases hzy : z = y
                  · subst hzy
                    have HN3 := Lib.hid (HN2.out rfl)
                    clear HN2 HN1
                    by_cases hj0 : j = 0
                    · subst hj0
                      rw [Nat.add_zero] at hc1
                      go_wp2_with fail
                      go_quiet (fail)
                      go_wp2_with fail
                      go_quiet (fail)
                      go_wp2_with fail
                      go_roundg (nx - 1)
                      case measure => omega
                      case rel => exact ⟨1, aa + 1, by omega, by omega, by go_num, by go_num, HN3, sr.drewN _, below_drewN br _⟩
                    · obtain ⟨j', rfl⟩ : ∃ j', j = j' + 1 := ⟨j - 1, by omega⟩
                      have hjl : j' < x.length := by have := HJ.out; omega
                      have hc0 := HCX.out j' _ (List.getElem?_eq_getElem hjl)
                      have hle2 : x[j'] ≤ z := by
                        have hu := HUP.out
                        rw [HX.out] at hu
                        have := List.pairwise_iff_getElem.1 hu j' (j' + 1) hjl HJ.out (by omega)
                        rw [HY.out] at this
                        exact this
                      obtain ⟨y0, hy0⟩ : ∃ y0, x[j'] = y0 := ⟨_, rfl⟩
                      rw [hy0] at hc0 hle2
                      have hge : ¬ z < y0 := by omega
                      have hw1 : IntKind.i64.wrap ((j' : Int) + 1 - 1) = (j' : Int) := by rw [Int.add_sub_cancel]; exact IntWalk.i64_in _ (by omega)
                      have hw2 : IntKind.i64.wrap (j' : Int) = (j' : Int) := IntWalk.i64_in _ (by omega)
                      have hji0 : (j' : Int) < (nx : Int) := by omega
                      have hjn0 : j' < nx := by omega
                      have hj00 : (0 : Int) ≤ (j' : Int) := by omega
                      have hj01 : (0 : Int) < (j' : Int) + 1 := by omega
                      clear hy0 hj0
                      go_wp2_with fail
                      go_quiet (fail)
                      go_wp2_with fail
                      go_quiet (fail)
                      go_wp2_with fail
                      go_roundg (nx - j' - 2)
                      case measure => omega
                      case rel => exact ⟨j' + 1 + 1, aa + 1, by omega, by omega, by go_num, by go_num, HN3, sr.drewN _, below_drewN br _⟩
                  · have hzy2 : (z != y) = true := by simpa using hzy
                    go_wp2_with fail
                    go_quiet (fail)
                    go_wp2_with fail
                    go_roundg (nb - aa - 1)
                    case measure => omega
                    case rel => exact ⟨aa + 1, by omega, by go_num, Lib.hid (HN1.out hzy), sr.drewN _, below_drewN br _⟩
              · obtain rfl : j = nx := by omega
                clear s6 b6
                have s7 := (sr.cons fun _ h => Sep.drop h)
                have hlen := len_s sr.rot3 (n := L.length) rfl
                have HLEN := Lib.hid hlen
                clear hlen sr
                by_cases hq0 : q = 0
                · subst hq0
                  have hnx : L.length = j := by rw [← HNX.out, ← HX.out, HZ.out]
                  rw [hnx] at HLEN
                  have hnn : ((j : Int) != (j : Int)) = false := by simp
                  have HNX2 := Lib.hid hnx
                  clear hnx
                  go_wp2_with fail
                  refine HLEN.out.mono ?_
                  rintro e w8 ⟨rfl, rfl⟩
                  go_wp2_with fail
                  go_roundg 7
                  case measure => omega
                  case rel => exact ⟨1, _, c6, by omega, by go_num, by rw [show levL (1 - 1) L = x from HX.out, HNX.out], by rw [show levL (1 - 1) L = x from HX.out, HNX.out]; exact s7, br⟩
                · have hq1 : ¬ ((q : Int) + 1 = 1) := by omega
                  have hq2 : ((q : Int) + 1 == 1) = false := by simpa using hq1
                  go_wp2_with fail
                  go_roundg (7 - q)
                  case measure => omega
                  case rel => exact ⟨q + 1, _, c6, by omega, by go_num, by rw [show levL (q + 1 - 1) L = x from HX.out, HNX.out], by rw [show levL (q + 1 - 1) L = x from HX.out, HNX.out]; exact s7, br⟩
          · obtain rfl : q = 8 := by omega
            go_wp2_with fail
            refine (known_s br.size sr).mono ?_
            rintro e w6 ⟨rfl, s6, b6⟩
            go_wp2_with fail
            go_ret
            exact ⟨rfl, br.trans b6⟩
end Go.Proofs.Ythgljcmlnccjaaa
