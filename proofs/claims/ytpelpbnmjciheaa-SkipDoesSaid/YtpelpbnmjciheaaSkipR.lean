/-
  The law's alike, step, does: deeds at a list and at the document's.
-/
import Derived.Test.YtpelpbnmjciheaaSkipQ
namespace Go.Proofs.Ytpelpbnmjciheaa
open Go.RowKit Go.Rp

theorem levL_zero' {L : List It} (h : ∀ a ∈ L, 1 ≤ a.2 ∧ a.2 ≤ 8) : (levL 0 L).length = L.length ∧ levL 0 L = L.map (·.1) := by
  unfold levL
  rw [List.filter_eq_self.2 fun a ha => by have := h a ha; simp; omega]
  exact ⟨List.length_map _, rfl⟩
section
variable {B : Nat} {w w' : World} {p m n c : Nat} {A : Option Addr} {l : List It} {L : List Res}
set_option maxRecDepth 100000 in
set_option maxHeartbeats 2000000 in
theorem alike_s (hB : B ≤ w.heap.size) (h : At B w (skR p m l :: itR A n l :: L)) (hl : l.length = n) :
    Calls Try.prog 16 #[.pointer (some ⟨p, 0, none⟩), .slice A n c] w fun e w' => e = .returned (.bool true) ∧ At B w' (skR p m l :: itR A n l :: L) ∧ Below B w w' := by
  have hhigh := (sk_high h).1
  have hlen := sk_len h
  have hn : n ≤ 1000 := by omega
  have hz := levL_zero' hhigh
  have HH := Lib.hid hhigh
  have HL := Lib.hid hl
  have HZ := Lib.hid hz
  clear hhigh hlen hl hz
  go_enter Try.func16, Try.ntmps16
  go_wp2_with fail
  go_loopg [5] 11 (fun g k wr => ∃ z : Int, g ≤ 11 ∧ z = 10 - (g : Int) ∧ k = .int .i64 z ∧ At B wr (skR p m l :: itR A n l :: L) ∧ Below B w wr)
  case atStart => exact ⟨-1, by omega, rfl, rfl, h, Below.refl _ _⟩
  case round =>
    obtain ⟨z, hg, hz, rfl, sr, br⟩ := hrel
    obtain ⟨xs, hxs⟩ : ∃ xs, rlev z l = xs := ⟨_, rfl⟩
    obtain ⟨nx, hnx⟩ : ∃ nx, xs.length = nx := ⟨_, rfl⟩
    have hxn : nx ≤ 1000 := by have := rlev_le z l; rw [hxs, hnx] at this; have := HL.out; omega
    have HXS := Lib.hid hxs
    have HNX := Lib.hid hnx
    clear hxs hnx
    by_cases hg0 : gk = 0
    · have hz9 : ¬ z ≤ 9 := by omega
      have hln := len_s sr HL.out
      clear hg hz hg0
      go_wp2_with fail
      refine hln.mono ?_
      rintro e w1 ⟨rfl, rfl⟩
      go_wp2_with fail
      refine (items_s (Nat.le_trans hB br.size) sr (l' := levL 0 l) rfl (HZ.out.1.trans HL.out)).mono ?_
      rintro e w2 ⟨A2, c2, rfl, s2, b2⟩
      have b2 := br.trans b2
      go_wp2_with fail
      refine (vals_s (Nat.le_trans hB b2.size) s2.rot3 HL.out (by omega)).mono ?_
      rintro e w3 ⟨A3, c3, rfl, s3, b3⟩
      have b3 := b2.trans b3
      rw [HZ.out.2] at s3
      go_wp2_with fail
      refine (Same_t (xs := l.map (·.1)) (Nat.le_trans hB b3.size) s3 (Sl.read s3.rot3.get) (Sl.read s3.get) (by omega) (by omega)).mono ?_
      rintro e w4 ⟨rfl, s4, b4⟩
      go_wp2_with fail
      go_ret
      exact ⟨by simp, (s4.drop.cons fun _ h => Sep.drop h).rot2, b3.trans b4⟩
    · have hz9 : z ≤ 9 := by omega
      have hgk : gk - 1 < gk := by omega
      have hzg : z + 1 = 10 - ((gk - 1 : Nat) : Int) := by omega
      have hzlo : -1 ≤ z := by omega
      have HZG := Lib.hid hzg
      have HG := Lib.hid hg
      have hl := HL.out
      clear hz hg0 hzg hg
      by_cases hin : 1 ≤ z ∧ z ≤ 8
      · obtain ⟨q, hq⟩ : ∃ q : Nat, z = (q : Int) + 1 := ⟨(z - 1).toNat, by omega⟩
        have hq8 : q < 8 := by omega
        have hxq : levL q l = xs := by rw [← rlev_lev, ← hq]; exact HXS.out
        have hlv := level_s (Nat.le_trans hB br.size) sr hq hq8 hxq HNX.out
        clear hl hq hin hxq
        go_wp2_with fail
        refine hlv.mono ?_
        rintro e w5 ⟨A5, c5, rfl, s5, b5⟩
        have b5 := br.trans b5
        have s5 := s5.rot3
        have hl := HL.out
        -- HXS.out: the rest behind the program's call: At name s5, b5; the list's row xs
        go_wp2_with fail
        refine (rLevel_s (Nat.le_trans hB b5.size) s5 hl (by omega) (z : Int) HXS.out HNX.out).mono ?_
        rintro e w6 ⟨A6, c6, rfl, s6, b6⟩
        have b6 := b5.trans b6
        go_wp2_with fail
        refine (Same_t (xs := xs) (Nat.le_trans hB b6.size) s6 (Sl.read s6.rot3.get) (Sl.read s6.get) (by omega) (by omega)).mono ?_
        rintro e w7 ⟨rfl, s7, b7⟩
        have b7 := b6.trans b7
        clear hl
        go_wp2_with fail
        go_roundg (gk - 1)
        case measure => omega
        case rel => exact ⟨z + 1, by have := HG.out; omega, HZG.out, by go_num, (s7.drop.cons fun _ h => Sep.drop h).rot2, b7⟩
      · have hxe : xs = [] := by
          rw [← HXS.out]
          by_cases h1 : 1 ≤ z
          · exact rlev_high (by omega) HH.out
          · exact rlev_low h1 l
        have hlv := level_out wr p (k := z) (by omega)
        have HXE := Lib.hid hxe
        clear hl hxe hin
        go_wp2_with fail
        refine hlv.mono ?_
        rintro e w5 ⟨rfl, rfl⟩
        have s5 := sr.rot2
        have b5 := br
        have hl := HL.out
        have hn0 : nx = 0 := by rw [← HNX.out, HXE.out]; rfl
        subst hn0
        -- HXS.out: the rest behind the program's call: At name s5, b5; the list's row xs
        go_wp2_with fail
        refine (rLevel_s (Nat.le_trans hB b5.size) s5 hl (by omega) (z : Int) HXS.out HNX.out).mono ?_
        rintro e w6 ⟨A6, c6, rfl, s6, b6⟩
        have b6 := b5.trans b6
        go_wp2_with fail
        refine (Same_t (xs := xs) (Nat.le_trans hB b6.size) s6 (R := fun _ => False) (by rw [HXE.out]; exact Rd.nil) (Sl.read s6.get) (by omega) (by omega)).mono ?_
        rintro e w7 ⟨rfl, s7, b7⟩
        have b7 := b6.trans b7
        clear hl
        go_wp2_with fail
        go_roundg (gk - 1)
        case measure => omega
        case rel => exact ⟨z + 1, by have := HG.out; omega, HZG.out, by go_num, s7.drop.rot2, b7⟩
end
/-- A deed: its kind, value and height; where its values and heights lie, and what they are. -/
structure Deed where
  k : Int
  v : Int
  h : Int
  a : Option Addr
  n : Nat
  c : Nat
  b : Option Addr
  m : Nat
  d : Nat
  vs : List Int
  hs : List Int
def deedIn (d : Deed) : List Value := [.int .u8 d.k, .int .i32 d.v, .int .i64 d.h, .slice d.a d.n d.c, .slice d.b d.m d.d]
structure DeedR (B : Nat) (w : World) (L : List Res) (d : Deed) : Prop where
  k0 : 0 ≤ d.k
  k1 : d.k ≤ 255
  lv : d.vs.length = d.n
  lh : d.hs.length = d.m
  bn : d.n ≤ 100000
  bm : d.m ≤ 100000
  rv : Reads B w L 1 d.a d.n (iv d.vs)
  rh : Reads B w L 1 d.b d.m (il d.hs)
theorem DeedR.more {B : Nat} {w : World} {L : List Res} {d : Deed} (h : DeedR B w L d) (a : Res) : DeedR B w (a :: L) d := ⟨h.k0, h.k1, h.lv, h.lh, h.bn, h.bm, h.rv.more a, h.rh.more a⟩
theorem DeedR.later {B : Nat} {w w' : World} {L : List Res} {d : Deed} (h : DeedR B w L d) (hb : Below B w w') : DeedR B w' L d := ⟨h.k0, h.k1, h.lv, h.lh, h.bn, h.bm, h.rv.later hb, h.rh.later hb⟩
/-- What a deed leaves. -/
def dStep (m : Nat) (l : List It) (d : Deed) : List It :=
  if d.k % 4 = 0 then insB m l d.v (tallI d.h) else if d.k % 4 = 1 then batL m d.vs d.hs l else if d.k % 4 = 2 then l.tail else l
/-- What the law's step tells. -/
def Stepped (B : Nat) (w : World) (L : List Res) (p m : Nat) (l : List It) (e : Ending) (w' : World) : Prop :=
  ∃ A' c', e = .returned (.tuple #[.slice A' l.length c', .bool true]) ∧ l.length ≤ c' ∧ c' ≤ maxLen ∧ At B w' (skR p m l :: itR A' l.length l :: L) ∧ Below B w w'
section
variable {B : Nat} {w w' : World} {p m n c : Nat} {A : Option Addr} {l : List It} {L : List Res}
set_option maxRecDepth 100000 in
set_option maxHeartbeats 4000000 in
theorem step_s (hB : B ≤ w.heap.size) (mo : Int) (h : At B w (skR p (mostI mo) l :: itR A n l :: L)) (hl : l.length = n) (hc : n ≤ c) (hcm : c ≤ maxLen) (d : Deed) (hd : DeedR B w L d) :
    Calls Try.prog 14 #[.pointer (some ⟨p, 0, none⟩), .int .i64 mo, .slice A n c, .agg #[.int .u8 d.k, .int .i32 d.v, .int .i64 d.h, .slice d.a d.n d.c, .slice d.b d.m d.d]] w (Stepped B w L p (mostI mo) (dStep (mostI mo) l d)) := by
  have hlen := sk_len h
  have hbox := Blk.new w 31 #[.int .u8 d.k, .int .i32 d.v, .int .i64 d.h, .slice d.a d.n d.c, .slice d.b d.m d.d]
  have s1 := (h.alloc hB #[.int .u8 d.k, .int .i32 d.v, .int .i64 d.h, .slice d.a d.n d.c, .slice d.b d.m d.d] 31).rot2.cons fun _ h => h.rot2
  have b1 : Below B w (w.alloc (.cells #[.int .u8 d.k, .int .i32 d.v, .int .i64 d.h, .slice d.a d.n d.c, .slice d.b d.m d.d] 31)) := (Below.refl _ w).alloc hB _
  obtain ⟨g, hg⟩ : ∃ g, w.heap.size = g := ⟨_, rfl⟩
  obtain ⟨w1, hw1⟩ : ∃ w1, w.alloc (.cells #[.int .u8 d.k, .int .i32 d.v, .int .i64 d.h, .slice d.a d.n d.c, .slice d.b d.m d.d] 31) = w1 := ⟨_, rfl⟩
  rw [hw1] at s1 b1
  rw [hg] at s1
  have hd1 := (hd.later b1).more (blkR g 31 #[.int .u8 d.k, .int .i32 d.v, .int .i64 d.h, .slice d.a d.n d.c, .slice d.b d.m d.d])
  obtain ⟨dk, dv, dh, da, dn, dc, db, dm, dd, dvs, dhs⟩ := d
  obtain ⟨k0, k1, lv, lh, bn, bm, rv, rh⟩ := hd1
  simp only at k0 k1 lv lh bn bm rv rh s1 hw1
  obtain ⟨r, hr⟩ : ∃ r, dk.tmod 4 = r := ⟨_, rfl⟩
  have hre : dk % 4 = r := by rw [← hr, Int.tmod_eq_emod_of_nonneg k0]
  have hr0 : 0 ≤ r := by omega
  have hr4 : r < 4 := by omega
  have hq0 := s1.rot3.blk.cell 0
  have hq1 := s1.rot3.blk.cell 1
  have hq2 := s1.rot3.blk.cell 2
  have hq3 := s1.rot3.blk.cell 3
  have hq4 := s1.rot3.blk.cell 4
  have HG := Lib.hid hg
  have HW1 := Lib.hid hw1
  unfold dStep
  simp only [hre]
  have HR := Lib.hid hre
  clear hd hbox h hre
  by_cases e0 : r = 0
  · subst e0
    rw [if_pos rfl]
    have hri := rInsert_s (c := c) (mo := mo) (Nat.le_trans hB b1.size) s1.rot2 hl hc hcm dv dh
    go_enter Try.func14, Try.ntmps14
    go_wp2_with fail
    refine hri.mono ?_
    rintro e w2 ⟨A2, c2, rfl, hc2, hm2, s2, b2⟩
    have b2 := b1.trans b2
    obtain ⟨l2, hl2⟩ : ∃ l2, insB (mostI mo) l dv (tallI dh) = l2 := ⟨_, rfl⟩
    rw [hl2] at s2 hc2 ⊢
    have hq0 := s2.rot3.blk.cell 0
    have hq1 := s2.rot3.blk.cell 1
    have hq2 := s2.rot3.blk.cell 2
    have hins := insert_s (Nat.le_trans hB b2.size) s2.rot2 dv dh
    rw [show (if l.length < mostI mo then insL l dv (tallI dh) else l) = l2 from hl2] at hins
    obtain ⟨bb, hbb⟩ : ∃ bb, decide (l.length < mostI mo) = bb := ⟨_, rfl⟩
    rw [hbb] at hins ⊢
    have hb2 : (bb == bb) = true := by cases bb <;> rfl
    have HL2 := Lib.hid hl2
    clear hri hl2 hbb
    go_wp2_with fail
    refine hins.mono ?_
    rintro e w3 ⟨rfl, s3, b3⟩
    go_wp2_with fail
    go_ret2
    rw [HL2.out]
    exact ⟨A2, c2, rfl, hc2, hm2, (s3.cons fun _ h => h.cons fun _ h => Sep.drop h), b2.trans b3⟩
  · rw [if_neg e0]
    by_cases e1 : r = 1
    · subst e1
      rw [if_pos rfl]
      have hri := rBatch_s (c := c) (c1 := dc) (c2 := dd) (Nat.le_trans hB b1.size) s1.rot2 hl hc hcm (mo := mo) (by omega) (rv.more _) (rh.more _) lv lh bn bm
      go_enter Try.func14, Try.ntmps14
      go_wp2_with fail
      refine hri.mono ?_
      rintro e w2 ⟨A2, c2, g2, rfl, hc2, hm2, s2, b2⟩
      have hb12 := b2
      have b2 := b1.trans b2
      obtain ⟨l2, hl2⟩ : ∃ l2, batL (mostI mo) dvs dhs l = l2 := ⟨_, rfl⟩
      rw [hl2] at s2 hc2 ⊢
      have hq3 := s2.rot4.blk.cell 3
      have hq4 := s2.rot4.blk.cell 4
      have hba := batch_s (c1 := dc) (c2 := dd) (Nat.le_trans hB b2.size) s2.rot3 (((rv.later hb12).more _).more _) (((rh.later hb12).more _).more _) lv lh bn bm
      rw [hl2] at hba
      have HL2 := Lib.hid hl2
      clear hri hl2
      go_wp2_with fail
      refine hba.mono ?_
      rintro e w3 ⟨g3, rfl, s3, b3⟩
      have b3 := b2.trans b3
      clear hba s2 b2 hb12 hq0 hq1 hq2 hq3 hq4
      obtain ⟨tl, htl⟩ : ∃ tl, batT (mostI mo) dvs l = tl := ⟨_, rfl⟩
      have htn : tl.length = dn := by rw [← htl, ← lv]; simp [batT]
      have htb : ∀ j, j < dn → ∃ bb, tl[j]? = some (.bool bb) := fun j hj => by
        rw [← htl]
        unfold batT
        rw [List.getElem?_map, List.getElem?_range (by rw [lv]; exact hj)]
        exact ⟨_, rfl⟩
      rw [htl] at s3
      have HTB := Lib.hid htb
      clear htl htn htb
      go_wp2_with fail
      go_loopg [15, 16] dn (fun gg sm k wr => ∃ j : Nat, j + gg = dn ∧ k = .int .i64 (j : Int) ∧ sm = .bool true ∧ At B wr (slRes 4 1 (some ⟨g3, 0, none⟩) dn dn tl :: skR p (mostI mo) l2 :: itR A2 l2.length l2 :: slRes 4 1 (some ⟨g2, 0, none⟩) dn dn tl :: blkR g 31 #[.int .u8 dk, .int .i32 dv, .int .i64 dh, .slice da dn dc, .slice db dm dd] :: L) ∧ Below B w wr)
      case atStart => exact ⟨0, by omega, rfl, by simp, s3, b3⟩
      case round =>
        clear s3 b3
        obtain ⟨j, hj, rfl, rfl, sr, br⟩ := hrel
        by_cases hlt : j < dn
        · obtain ⟨bb, hbb⟩ := HTB.out j hlt
          obtain ⟨t1, _, _⟩ := sr.slat (Nat.le_trans hB br.size) j _ hbb
          obtain ⟨t2, _, _⟩ := (Sep.rot4 sr).slat (Nat.le_trans hB br.size) j _ hbb
          have hb2 : (bb == bb) = true := by cases bb <;> rfl
          have hji : (j : Int) < (dn : Int) := by omega
          have hj0 : (0 : Int) ≤ (j : Int) := by omega
          clear hbb
          go_wp2_with fail
          go_quiet (fail)
          go_wp2_with fail
          go_roundg (dn - j - 1)
          case measure => omega
          case rel => exact ⟨j + 1, by omega, by go_num, rfl, sr.drewN _, below_drewN br _⟩
        · obtain rfl : dn = j := by omega
          go_wp2_with fail
          go_ret2
          rw [HL2.out]
          exact ⟨A2, c2, rfl, hc2, hm2, (Sep.drop sr).cons fun _ h => h.cons fun _ h => (Sep.drop h).drop, br⟩
    · rw [if_neg e1]
      by_cases e2 : r = 2
      · subst e2
        rw [if_pos rfl]
        have hmin := min_s (Nat.le_trans hB b1.size) s1
        rcases l with _ | ⟨⟨v, hh⟩, l'⟩
        · simp only [List.head?_nil, Option.map_none, Option.getD_none, List.isEmpty_nil, Bool.not_true, List.tail_nil] at hmin
          obtain rfl : n = 0 := by simpa using hl.symm
          go_enter Try.func14, Try.ntmps14
          go_wp2_with fail
          refine hmin.mono ?_
          rintro e w2 ⟨rfl, s2, b2⟩
          go_wp2_with fail
          go_ret2
          exact ⟨A, c, rfl, by simp, hcm, s2.cons fun _ h => h.cons fun _ h => Sep.drop h, b1.trans b2⟩
        · simp only [List.head?_cons, Option.map_some, Option.getD_some, List.isEmpty_cons, Bool.not_false, List.tail_cons] at hmin
          obtain ⟨n', rfl⟩ : ∃ n', n = n' + 1 := ⟨l'.length, by simpa using hl.symm⟩
          have hl' : l'.length = n' := by simpa using hl
          obtain ⟨A3, c3, hfr, hfr1, hfr2, hdr⟩ := items_from A (n' + 1) c 1 (by omega) hc
          rw [show n' + 1 - 1 = n' by omega] at hfr hfr1
          simp only [show ((1 : Nat) : Int) = 1 from rfl] at hfr
          obtain ⟨b', off', rfl, hcells⟩ := it_cell s1.rot2 hl (by omega)
          have hx1 := (hcells 0 (by simp)).1
          simp only [List.getElem_cons_zero, Nat.zero_mul, Nat.add_zero] at hx1
          have hnz : ¬ ((n' : Int) + 1 = 0) := by omega
          have hnz2 : ((n' : Int) + 1 == 0) = false := by simpa using hnz
          have hpos : (0 : Int) < (n' : Int) + 1 := by omega
          have hone : (1 : Int) ≤ (n' : Int) + 1 := by omega
          have hvv : (v == v) = true := by simp
          have HL' := Lib.hid hl'
          clear hcells hl hl'
          go_enter Try.func14, Try.ntmps14
          go_wp2_with fail
          refine hmin.mono ?_
          rintro e w2 ⟨rfl, s2, b2⟩
          have b2 := b1.trans b2
          obtain ⟨b2', off2', e2', hcells⟩ := it_cell s2.rot2 (show ((v, hh) :: l').length = n' + 1 by simp [HL'.out]) (by omega)
          simp at e2'
          obtain ⟨rfl, rfl⟩ := e2'
          have hx2 := (hcells 0 (by simp)).1
          simp only [List.getElem_cons_zero, Nat.zero_mul, Nat.add_zero] at hx2
          clear hcells
          go_wp2_with fail
          go_quiet (fail)
          go_wp2_with fail
          go_ret2
          have s3 := s2.drewN nq
          have s4 : At B (w2.drewN nq) (skR p (mostI mo) l' :: itR A3 l'.length l' :: L) := by
            refine s3.cons fun U h => ?_
            have h2 := h.cons fun _ h => Sep.drop h
            refine Sep.res h2 fun S hS => ?_
            have hS' : Rd (w2.drewN nq) S 2 (some ⟨b', off', none⟩) (n' + 1) (itC ((v, hh) :: l')) := hS
            have h3 := hdr _ S _ hS'
            rw [show (itC ((v, hh) :: l')).drop (1 * 2) = itC l' from rfl, show n' + 1 - 1 = n' by omega] at h3
            rw [HL'.out]
            exact h3
          rw [List.tail_cons]
          exact ⟨A3, c3, by rw [HL'.out]; rfl, by rw [HL'.out]; exact hfr1, by omega, s4, below_drewN b2 _⟩
      · rw [if_neg e2]
        have e3 : r = 3 := by omega
        subst e3
        go_enter Try.func14, Try.ntmps14
        go_wp2_with fail
        go_ret2
        subst hl
        exact ⟨A, c, rfl, hc, hcm, s1.cons fun _ h => h.cons fun _ h => Sep.drop h, b1⟩
end
end Go.Proofs.Ytpelpbnmjciheaa
