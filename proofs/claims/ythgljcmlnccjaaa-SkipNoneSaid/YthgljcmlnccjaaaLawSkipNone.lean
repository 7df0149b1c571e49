/-
  The walk of SkipNone.
-/
import Derived.Test.YthgljcmlnccjaaaSkipN
import Derived.Test.YthgljcmlnccjaaaIn
namespace Go.Proofs.Ythgljcmlnccjaaa
open Go.RowKit Go.Rp

theorem tmod_nat {x : Int} (h0 : 0 ≤ x) (h1 : x ≤ 255) {k : Nat} (hk : 0 < k) : ∃ r : Nat, x.tmod (k : Int) = (r : Int) ∧ r < k ∧ r ≤ 255 := by
  obtain ⟨y, rfl⟩ : ∃ y : Nat, x = (y : Int) := ⟨x.toNat, by omega⟩
  refine ⟨y % k, by rw [Int.tmod_eq_emod_of_nonneg h0]; omega, Nat.mod_lt _ hk, ?_⟩
  have := Nat.mod_le y k
  omega
/-- A cell of a slice of one's own, wherever it begins. -/
theorem slat_off {B : Nat} {w : World} {L : List Res} {e n c g off : Nat} {xs : List Value} (h : At B w (slRes e 1 (some ⟨g, off, none⟩) n c xs :: L)) (hB : B ≤ w.heap.size) (k : Nat) (u : Value) (hu : xs[k]? = some u) :
    w.cell? ⟨g, off + k, none⟩ = some u ∧ w.frozen? ⟨g, off + k, none⟩ = false ∧ ∀ v, At B (w.setCell ⟨g, off + k, none⟩ v) (slRes e 1 (some ⟨g, off, none⟩) n c (xs.set k v) :: L) ∧ Below B w (w.setCell ⟨g, off + k, none⟩ v) := by
  have hk : k < xs.length := (List.getElem?_eq_some_iff.1 hu).1
  obtain ⟨S, h1, h2, h3⟩ := h.frontAny fun x hx => Nat.le_trans hB hx
  have h1' : Sl w e 1 (some ⟨g, off, none⟩) n c xs S := h1
  have hlen := h1'.1
  obtain ⟨g', off', hA, hg, hlt, hfz, hx⟩ := h1'.at (by omega)
  simp at hA
  obtain ⟨rfl, rfl⟩ := hA
  refine ⟨hx k u hu, hfz _, fun v => ?_⟩
  have hs := Sl.set h1' (g := g) (off := off) rfl k (by omega) v
  exact ⟨h3 (slRes e 1 (some ⟨g, off, none⟩) n c (xs.set k v)) _ (hs.mono grow_left) ((Mod.refl S w).setCell (p := ⟨g, off + k, none⟩) (.inl hg) _), (Below.refl B w).setCell (h2 g hg).1 _⟩
theorem batch_none {B : Nat} {w : World} {L : List Res} (hB : B ≤ w.heap.size) (h : At B w L) (A1 A2 : Option Addr) (n1 c1 n2 c2 : Nat) (hn1 : n1 ≤ 100000) :
    Calls Try.prog 18 #[.pointer none, .slice A1 n1 c1, .slice A2 n2 c2] w fun e w' => ∃ g, e = .returned (.slice (some ⟨g, 0, none⟩) n1 n1) ∧ At B w' (slRes 4 1 (some ⟨g, 0, none⟩) n1 n1 (List.replicate n1 (.bool false)) :: L) ∧ Below B w w' := by
  have hmk := run_make_row' (P := Try.prog) 40 4 (.bool false) 1 Try.underlying40 (by kernel_rfl) rfl .i64 .i64 n1 (by omega) (by omega)
  have s1 := row_new hB hn1 (z := .bool false) 4 h
  have b1 : Below B w (w.alloc (.cells (madeCells #[.bool false] n1) 4)) := (Below.refl _ w).alloc hB _
  go_enter Try.func18, Try.ntmps18
  go_wp2_with fail
  go_ret
  exact ⟨_, rfl, s1, b1⟩

set_option maxRecDepth 100000 in
set_option maxHeartbeats 2000000 in
theorem SkipNone_walk (w : World) (mo : Int) (hmo : (Lit.int .u8 mo).wf = true) (a1 : Option Addr) (n1 c1 : Nat) (bz : List Int) (h1 : InInts .u8 w a1 n1 c1 bz) (v : Int) (hv : (Lit.int .i32 v).wf = true) :
    Calls Try.prog 9 #[.int .u8 mo, .slice a1 n1 c1, .int .i32 v] w fun e w' => e = .returned (.bool true) ∧ Below w.heap.size w w' := by
  have hle : w.heap.size ≤ w.heap.size := Nat.le_refl _
  have s0 : At w.heap.size w [] := trivial
  obtain ⟨m0, m1⟩ := wf_u8 hmo
  obtain ⟨bs, hlb, hb8, hx1⟩ := h1.bytes
  have hr1 := h1.reach
  obtain ⟨r30, hr30, hr30a, hr30b⟩ := tmod_nat m0 m1 (k := 30) (by omega)
  have e1 : mo.tmod 30 = (r30 : Int) := hr30
  clear hr30 hv
  by_cases hbig : 60 < n1
  · have hd : (60 : Int) < (n1 : Int) := by omega
    clear hbig h1 hlb
    go_enter Try.func9, Try.ntmps9
    go_wp2_with fail
    refine (new_s hle s0 _).mono ?_
    rintro e w1 ⟨p, rfl, s1, b1⟩
    go_wp2_with fail
    refine (known_s b1.size s1).mono ?_
    rintro e w2 ⟨rfl, s2, b2⟩
    go_wp2_with fail
    go_ret
    exact ⟨rfl, b1.trans b2⟩
  · have hd : decide ((60 : Int) < (n1 : Int)) = false := decide_eq_false (by omega)
    have hra : Reads w.heap.size w [] 1 a1 n1 (bs.map fun (x : Nat) => Value.int .u8 (x : Int)) := Reads.of_arg hx1 fun _ h => h
    have q1 : n1 ≤ 60 := by omega
    clear hbig h1 hx1
    go_enter Try.func9, Try.ntmps9
    go_wp2_with fail
    refine (new_s hle s0 _).mono ?_
    rintro e w1 ⟨p, rfl, s1, b1⟩
    generalize mostI _ = m at s1
    have hri := rising_any (c := c1) b1.size s1 hlb (by omega) hb8 ((hra.later b1).more _)
    go_wp2_with fail
    refine hri.mono ?_
    rintro e w2 ⟨B1, B2, d1, d2, k1, k2, vs, hs, rfl, hv1, hv2, hm1, hm2, hd1, s2, b2⟩
    have b2 := b1.trans b2
    have hm20 : k1 ≤ 20 := by rw [hm1]; exact Nat.min_le_right _ _
    have hba := batch_s (c1 := d1) (c2 := d2) b2.size s2.rot3 (Reads.own []) (Reads.own [_]) hv1 hv2 (by omega) (by omega)
    clear hri hm1 hv1 hv2 s1 b1 hd1 hlb
    go_wp2_with fail
    refine hba.mono ?_
    rintro e w3 ⟨g, rfl, s3, b3⟩
    have s3 : At w.heap.size w3 (skR p m (batL m vs hs []) :: []) := (s3.drop.rot3).drop.rot2.drop
    have b3 := b2.trans b3
    obtain ⟨L0, hL0⟩ : ∃ L0, batL m vs hs [] = L0 := ⟨_, rfl⟩
    rw [hL0] at s3
    clear hL0 hba s2 b2
    go_wp2_with fail
    refine (copy_s b3.size s3).mono ?_
    rintro e w4 ⟨q, rfl, s4, b4⟩
    have b4 := b3.trans b4
    have hlv := levL_le s4 0
    obtain ⟨xs, hxs⟩ : ∃ xs, levL 0 L0 = xs := ⟨_, rfl⟩
    obtain ⟨nx, hnx⟩ : ∃ nx, xs.length = nx := ⟨_, rfl⟩
    rw [hxs, hnx] at hlv
    have HXS := Lib.hid hxs
    have HNX := Lib.hid hnx
    clear hxs hnx s3 b3
    go_wp2_with fail
    refine (items_s b4.size s4 HXS.out HNX.out).mono ?_
    rintro e w5 ⟨A5, c5, rfl, s5, b5⟩
    have b5 := b4.trans b5
    go_wp2_with fail
    refine (items_s b5.size s5.rot3 HXS.out HNX.out).mono ?_
    rintro e w6 ⟨A6, c6, rfl, s6, b6⟩
    have b6 := b5.trans b6
    clear s4 b4 s5 b5
    go_wp2_with fail
    go_loopg [13] nx (fun gg k wr => ∃ (i : Nat) (ys : List Int), i + gg = nx ∧ k = .int .i64 (i : Int) ∧ Hid (ys.length = nx) ∧ At w.heap.size wr (ownI A6 nx c6 ys :: skR p m L0 :: ownI A5 nx c5 xs :: skR q m L0 :: []) ∧ Below w.heap.size w wr)
    case atStart => exact ⟨0, xs, by omega, rfl, HNX, s6, b6⟩
    case round =>
      clear s6 b6
      obtain ⟨i, ys, hi, rfl, hys, sr, br⟩ := hrel
      by_cases hlt : i < nx
      · have hii : i < ys.length := by rw [hys.out]; exact hlt
        obtain ⟨gb, go, rfl, _, _⟩ := (show Rd wr _ 1 A6 nx (iv ys) from Sl.read sr.get).at (by omega)
        obtain ⟨t1, t2, t3⟩ := slat_off sr br.size i (.int .i32 ys[i]) (by rw [List.getElem?_map, List.getElem?_eq_getElem hii]; rfl)
        have HT3 := Lib.hid t3
        have HII := Lib.hid hii
        clear t3
        go_wp2_with fail
        go_roundg (nx - i - 1)
        case measure => omega
        case rel =>
          obtain ⟨s7, b7⟩ := HT3.out (.int .i32 (wrap32 (ys[i] + 1)))
          refine ⟨i + 1, ys.set i (wrap32 (ys[i] + 1)), by omega, by go_num, Lib.hid (by simp [hys.out]), ?_, br.trans b7⟩
          have e : ownI (some ⟨gb, go, none⟩) nx c6 (ys.set i (wrap32 (ys[i] + 1))) = slRes 21 1 (some ⟨gb, go, none⟩) nx c6 ((iv ys).set i (.int .i32 (wrap32 (ys[i] + 1)))) := by unfold ownI iv; rw [List.map_set]
          rw [e]
          exact s7
      · obtain rfl : i = nx := by omega
        have s7 := sr.drop
        clear sr
        go_wp2_with fail
        refine (min_s br.size s7).mono ?_
        rintro e w8 ⟨rfl, s8, b8⟩
        have b8 := br.trans b8
        go_wp2_with fail
        refine (insert_s b8.size s8 v 3).mono ?_
        rintro e w9 ⟨rfl, s9, b9⟩
        have b9 := b8.trans b9
        clear s7 br s8 b8
        go_wp2_with fail
        refine (min_none w9).mono ?_
        rintro e wx ⟨rfl, e2⟩
        subst e2
        go_wp2_with fail
        refine (batch_none b9.size s9 B1 B2 k1 d1 k2 d2 (by omega)).mono ?_
        rintro e wa ⟨gt, rfl, sa, ba⟩
        have ba := b9.trans ba
        clear s9 b9
        go_wp2_with fail
        go_loopg [16, 18] k1 (fun gg is k wr => ∃ j : Nat, j + gg = k1 ∧ k = .int .i64 (j : Int) ∧ is = .bool false ∧ wr = wa)
        case atStart => exact ⟨0, by omega, rfl, rfl, rfl⟩
        case round =>
          obtain ⟨j, hj, rfl, rfl, rfl⟩ := hrel
          by_cases hjk : j < k1
          · obtain ⟨t1, _, _⟩ := sa.slat ba.size j (.bool false) (by rw [List.getElem?_replicate, if_pos hjk])
            go_wp2_with fail
            go_roundg (k1 - j - 1)
            case measure => omega
            case rel => exact ⟨j + 1, by omega, by go_num, rfl, rfl⟩
          · obtain rfl : j = k1 := by omega
            go_wp2_with fail
            refine (known_s ba.size sa.drop).mono ?_
            rintro e wb ⟨rfl, sb, bb⟩
            have bb := ba.trans bb
            clear sa ba
            go_wp2_with fail
            refine (items_s bb.size sb.rot3 HXS.out HNX.out).mono ?_
            rintro e wc ⟨Ac, cc, rfl, sc, bc⟩
            have bc := bb.trans bc
            go_wp2_with fail
            refine (Same_t (xs := xs) bc.size sc (Sl.read sc.get) (Sl.read sc.rot4.get) (by omega) (by omega)).mono ?_
            rintro e wd ⟨rfl, sd, bd⟩
            have bd := bc.trans bd
            clear sb bb sc bc
            go_wp2_with fail
            refine (insert_none wd v 1).mono ?_
            rintro e we ⟨rfl, nq, rfl⟩
            have se := sd.drewN nq
            have be := below_drewN bd nq
            clear sd bd
            go_wp2_with fail
            refine (len_none _).mono ?_
            rintro e wf ⟨rfl, e2⟩
            subst e2
            go_wp2_with fail
            refine (most_none _).mono ?_
            rintro e wf ⟨rfl, e2⟩
            subst e2
            go_wp2_with fail
            refine (items_none _).mono ?_
            rintro e wf ⟨rfl, e2⟩
            subst e2
            go_wp2_with fail
            refine (copy_none _).mono ?_
            rintro e wg ⟨r, rfl, hr, bg⟩
            have sg := se.made (a := skR r 0 []) (fun x hx => Nat.le_trans be.size hx) bg hr
            go_wp2_with fail
            refine (len_s sg (n := 0) rfl).mono ?_
            rintro e wh ⟨rfl, rfl⟩
            go_wp2_with fail
            go_ret
            exact ⟨by simp, be.trans (bg.mono be.size)⟩
end Go.Proofs.Ythgljcmlnccjaaa
