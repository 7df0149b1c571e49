/-
  The law's batch: items put in one go, and one by one.
-/
import Derived.Test.YthgljcmlnccjaaaSkipL
namespace Go.Proofs.Ythgljcmlnccjaaa
open Go.RowKit Go.Rp

theorem Reads.more {B : Nat} {w : World} {L : List Res} {sz n : Nat} {A : Option Addr} {xs : List Value} (h : Reads B w L sz A n xs) (a : Res) : Reads B w (a :: L) sz A n xs := fun w' b h' hb => h w' (b ++ [a]) (by simpa using h') hb
theorem levL_le {B : Nat} {w : World} {p m : Nat} {l : List It} {L : List Res} (h : At B w (skR p m l :: L)) (q : Nat) : (levL q l).length ≤ 1000 := by
  have h1 := sk_len h
  have : (levL q l).length ≤ l.length := by unfold levL; rw [List.length_map]; exact List.length_filter_le _ _
  omega
set_option maxRecDepth 100000 in
set_option maxHeartbeats 4000000 in
theorem batch_any {B : Nat} {w : World} {L : List Res} (hB : B ≤ w.heap.size) (h : At B w L) (mo : Int) {A : Option Addr} {n c : Nat} {bs : List Nat} (hl : bs.length = n) (hn : n ≤ 100000) (h8 : ∀ x ∈ bs, x < 256) (ha : Reads B w L 1 A n (bs.map fun (x : Nat) => Value.int .u8 (x : Int)))
    {A1 A2 : Option Addr} {n1 c1 n2 c2 : Nat} {vs hs : List Int} (hv : Reads B w L 1 A1 n1 (iv vs)) (hh : Reads B w L 1 A2 n2 (il hs)) (hl1 : vs.length = n1) (hl2 : hs.length = n2) (hn1 : n1 ≤ 100000) (hn2 : n2 ≤ 100000) :
    Calls Try.prog 15 #[.int .i64 mo, .slice A n c, .slice A1 n1 c1, .slice A2 n2 c2] w fun e w' => e = .returned (.bool true) ∧ At B w' L ∧ Below B w w' := by
  have HL := Lib.hid hl
  have H8 := Lib.hid h8
  have HL1 := Lib.hid hl1
  have HL2 := Lib.hid hl2
  clear hl h8 hl1 hl2
  go_enter Try.func15, Try.ntmps15
  go_wp2_with fail
  refine (new_s hB h mo).mono ?_
  rintro e w1 ⟨p, rfl, s1, b1⟩
  go_wp2_with fail
  refine (new_s (Nat.le_trans hB b1.size) s1 mo).mono ?_
  rintro e w2 ⟨r, rfl, s2, b2⟩
  have b2 := b1.trans b2
  obtain ⟨m, hm⟩ : ∃ m, mostI mo = m := ⟨_, rfl⟩
  rw [hm] at s2
  clear hm s1 b1
  go_wp2_with fail
  go_loopg [11] n (fun g k wr => ∃ (i : Nat) (l : List It), i + g = n ∧ k = .int .i64 (i : Int) ∧ At B wr (skR p m l :: skR r m l :: L) ∧ Below B w wr)
  case atStart => exact ⟨0, [], by omega, rfl, s2.rot2, b2⟩
  case round =>
    clear s2 b2
    obtain ⟨i, l, hi, rfl, sr, br⟩ := hrel
    by_cases hlt : i < n
    · have hii : (i : Int) < (n : Int) := by omega
      have hi0 : (0 : Int) ≤ (i : Int) := by omega
      obtain ⟨R1, hc1⟩ := ha wr [_, _] sr br
      obtain ⟨b, off, rfl, _, hcells⟩ := hc1.at (by omega)
      have hib : i < bs.length := by rw [HL.out]; omega
      have hy : wr.cell? ⟨b, off + i, none⟩ = some (.int .u8 ((bs[i] : Nat) : Int)) := hcells i _ (by simp [hib])
      have h256 := H8.out _ (List.getElem_mem hib)
      obtain ⟨y, hyi⟩ : ∃ y, bs[i] = y := ⟨_, rfl⟩
      rw [hyi] at hy h256
      have hyb : (bs.map fun (x : Nat) => Value.int .u8 (x : Int))[i]? = some (.int .u8 (y : Int)) := by rw [List.getElem?_map, List.getElem?_eq_getElem hib, hyi]; rfl
      have HYB := Lib.hid hyb
      clear hyb hcells hyi hc1
      have hw : IntKind.i32.wrap ((y : Int) % 40 - 20) = (y : Int) % 40 - 20 := by simp [IntKind.wrap, IntKind.min, IntKind.max, IntKind.bits, IntKind.signed]; omega
      go_wp2_with fail
      go_region_held3 (fun w' => w'.cell? ⟨b, off + i, none⟩ = some (.int .u8 (y : Int))) (first | assumption | go_keep) (first
        | (go_at_call 11; ((with_reducible refine (insert_s (w := World.drew wr) (Nat.le_trans hB (br).drew.size) (sr).drew _ _).mono ?_); rintro e w5 ⟨rfl, s5, b5⟩; have b5 := (br).drew.trans b5; obtain ⟨R5, hc5⟩ := ha w5 [_, _] s5 b5; have hy5 := rd_cell hc5 HYB.out)))
      clear hy hw
      go_wp2_with fail
      go_region_held3 (fun w' => w'.cell? ⟨b, off + i, none⟩ = some (.int .u8 (y : Int))) (first | assumption | go_keep) (first
        | (go_at_call 11; ((with_reducible refine (insert_s (w := World.drew w5) (Nat.le_trans hB (b5).drew.size) (s5.rot2).drew _ _).mono ?_); rintro e w6 ⟨rfl, s6, b6⟩; have b6 := (b5).drew.trans b6; obtain ⟨R6, hc6⟩ := ha w6 [_, _] s6 b6; have hy6 := rd_cell hc6 HYB.out)))
      go_wp2_with fail
      go_roundg (n - i - 1)
      case measure => omega
      case rel => exact ⟨i + 1, _, by omega, by go_num, s6.rot2, b6⟩
    · obtain rfl : i = n := by omega
      have hpl := (sk_len sr).1
      have hv2 := (hv.later br).more (skR r m l)
      have hh2 := (hh.later br).more (skR r m l)
      have hbt := batch_s (c1 := c1) (c2 := c2) (Nat.le_trans hB br.size) sr hv2 hh2 HL1.out HL2.out hn1 hn2
      have HBT := Lib.hid hbt
      have HPL := Lib.hid hpl
      clear hbt hpl hv2 hh2
      go_wp2_with fail
      refine HBT.out.mono ?_
      rintro e w3 ⟨g, rfl, s3, b3⟩
      have b3 := br.trans b3
      clear HBT
      obtain ⟨R3, hr3⟩ := hv w3 [_, _, _] s3 b3
      have hri := rises_any w3 A1 n1 c1 R3 vs hr3 hn1
      clear hr3 sr br
      go_wp2_with fail
      refine hri.mono ?_
      rintro e w4 ⟨rfl, nq, rfl⟩
      have s4 := s3.drewN nq
      have b4 := below_drewN b3 nq
      obtain ⟨w4, hw4⟩ : ∃ w4, w3.drewN nq = w4 := ⟨_, rfl⟩
      rw [hw4] at s4 b4 ⊢
      clear hw4 s3 b3 hri
      rcases hup : upB vs with _ | _
      · have htl : batT m vs l = List.replicate n1 (.bool false) := batT_no HL1.out hup
        have hbl : batL m vs hs l = l := by unfold batL; rw [hup]; rfl
        rw [htl, hbl] at s4
        clear htl hbl hup
        go_wp2_with fail
        go_loopg [14] n1 (fun gg k wr => ∃ j : Nat, j + gg = n1 ∧ k = .int .i64 (j : Int) ∧ At B wr (slRes 4 1 (some ⟨g, 0, none⟩) n1 n1 (List.replicate n1 (.bool false)) :: skR p m l :: skR r m l :: L) ∧ Below B w wr)
        case atStart => exact ⟨0, by omega, rfl, s4, b4⟩
        case round =>
          clear s4 b4
          obtain ⟨j, hj, rfl, sr, br⟩ := hrel
          by_cases hlt : j < n1
          · have hle := Nat.le_trans hB br.size
            obtain ⟨t1, _, _⟩ := sr.slat hle j (.bool false) (by rw [List.getElem?_replicate, if_pos hlt])
            by_cases hj2 : j < n2
            · obtain ⟨R2, hh1⟩ := hh wr [_, _, _] sr br
              obtain ⟨b', off', rfl, _, hcells⟩ := hh1.at (by omega)
              have hiy : j < hs.length := by rw [HL2.out]; exact hj2
              have hy : wr.cell? ⟨b', off' + j, none⟩ = some (.int .i64 hs[j]) := hcells j _ (by simp [hiy])
              clear hcells hh1
              go_wp2_with fail
              go_roundg (n1 - j - 1)
              case measure => omega
              case rel => exact ⟨j + 1, by omega, by go_num, sr, br⟩
            · go_wp2_with fail
              go_roundg (n1 - j - 1)
              case measure => omega
              case rel => exact ⟨j + 1, by omega, by go_num, sr, br⟩
          · have s5 := sr.drop
            clear sr
            -- l: the list, s5: the world's At (skR s :: skR t :: L0), br: Below
            go_wp2_with fail
            go_loopg [17] 8 (fun g k wr => ∃ q : Nat, q + g = 8 ∧ k = .int .i64 ((q : Int) + 1) ∧ At B wr (skR p m (l) :: skR r m (l) :: L) ∧ Below B w wr)
            case atStart => exact ⟨0, rfl, rfl, s5, br⟩
            case round =>
              clear s5 br
              obtain ⟨q, hq, rfl, sr, br⟩ := hrel
              by_cases hq8 : q < 8
              · have hq7 : (q : Int) + 1 ≤ 8 := by omega
                go_wp2_with fail
                refine (level_s (Nat.le_trans hB br.size) sr (k := (q : Int) + 1) rfl hq8 (l' := levL q (l)) rfl rfl).mono ?_
                rintro e w5 ⟨A5, c5, rfl, s5, b5⟩
                have b5 := br.trans b5
                go_wp2_with fail
                refine (level_s (Nat.le_trans hB b5.size) s5.rot3 (k := (q : Int) + 1) rfl hq8 (l' := levL q (l)) rfl rfl).mono ?_
                rintro e w6 ⟨A6, c6, rfl, s6, b6⟩
                have b6 := b5.trans b6
                have hlv := levL_le s6.rot2
                go_wp2_with fail
                refine (Same_t (Nat.le_trans hB b6.size) s6 (Sl.read s6.rot3.get) (Sl.read s6.get) (by have := hlv q; omega) (by have := hlv q; omega)).mono ?_
                rintro e w7 ⟨rfl, s7, b7⟩
                have b7 := b6.trans b7
                go_wp2_with fail
                go_roundg (7 - q)
                case measure => omega
                case rel => exact ⟨q + 1, by omega, by go_num, (s7.drop.cons fun _ h => Sep.drop h).rot2, b7⟩
              · obtain rfl : q = 8 := by omega
                go_wp2_with fail
                go_ret
                exact ⟨rfl, sr.drop.drop, br⟩
      · have hup2 := hup
        have HU := Lib.hid hup
        clear hup hup2
        have htl : batT m vs l = fillL n1 n1 (toldB m l.length) (.bool false) := batT_up HL1.out HU.out
        have hbl : batL m vs hs l = batN m vs hs l n1 := by unfold batL; rw [HU.out, HL1.out]; rfl
        rw [htl, hbl] at s4
        clear htl hbl
        have hnl := batN_length m vs hs l HPL.out
        obtain ⟨l0, hl0⟩ : ∃ l0, l.length = l0 := ⟨_, rfl⟩
        rw [hl0] at s4
        simp only [hl0] at hnl
        have HNL := Lib.hid hnl
        clear hnl hl0
        go_wp2_with fail
        go_loopg [14] n1 (fun gg k wr => ∃ j : Nat, j + gg = n1 ∧ k = .int .i64 (j : Int) ∧ At B wr (skR r m (batN m vs hs l j) :: slRes 4 1 (some ⟨g, 0, none⟩) n1 n1 (fillL n1 n1 (toldB m l0) (.bool false)) :: skR p m (batN m vs hs l n1) :: L) ∧ Below B w wr)
        case atStart => exact ⟨0, by omega, rfl, s4.rot3, b4⟩
        case round =>
          clear s4 b4
          obtain ⟨j, hj, rfl, sr, br⟩ := hrel
          by_cases hlt : j < n1
          · have hle := Nat.le_trans hB br.size
            have hij : j < vs.length := by rw [HL1.out]; exact hlt
            obtain ⟨R1, hv1⟩ := hv wr [_, _, _] sr br
            obtain ⟨b', off', rfl, _, hcells⟩ := hv1.at (by omega)
            have hx : wr.cell? ⟨b', off' + j, none⟩ = some (.int .i32 vs[j]) := hcells j _ (by simp [hij])
            have hgx : vs.getD j 0 = vs[j] := by rw [List.getD_eq_getElem?_getD, List.getElem?_eq_getElem hij]; rfl
            obtain ⟨x, hxi⟩ : ∃ x, vs[j] = x := ⟨_, rfl⟩
            rw [hxi] at hx hgx
            have HGX := Lib.hid hgx
            clear hcells hv1 hgx hxi
            obtain ⟨bb, hbb⟩ : ∃ bb : Bool, decide (l0 + j < m) = bb := ⟨_, rfl⟩
            have hstep : ∀ y, hs.getD j 1 = y → (if (batN m vs hs l j).length < m then insL (batN m vs hs l j) x (tallI y) else batN m vs hs l j) = batN m vs hs l (j + 1) := fun y hy => by
              rw [batN, HGX.out, hy]; rfl
            have hdec : decide ((batN m vs hs l j).length < m) = bb := by
              rw [HNL.out j, ← hbb]
              by_cases h1 : l0 + j < m
              · rw [decide_eq_true h1, decide_eq_true (by omega)]
              · rw [decide_eq_false h1, decide_eq_false (by omega)]
            have hins := fun ht => insert_s hle sr x ht
            simp only [hdec] at hins
            have HBB := Lib.hid hbb
            have HST := Lib.hid hstep
            have HINS := Lib.hid hins
            clear hbb hstep hdec hins
            by_cases hj2 : j < n2
            · obtain ⟨R2, hh1⟩ := hh wr [_, _, _] sr br
              obtain ⟨b2', off2, rfl, _, hcells⟩ := hh1.at (by omega)
              have hiy : j < hs.length := by rw [HL2.out]; exact hj2
              have hy : wr.cell? ⟨b2', off2 + j, none⟩ = some (.int .i64 hs[j]) := hcells j _ (by simp [hiy])
              have hgd : hs.getD j 1 = hs[j] := by rw [List.getD_eq_getElem?_getD, List.getElem?_eq_getElem hiy]; rfl
              obtain ⟨y, hyi⟩ : ∃ y, hs[j] = y := ⟨_, rfl⟩
              rw [hyi] at hy hgd
              have HGD := Lib.hid hgd
              clear hcells hh1 hyi hgd
              go_wp2_with fail
              refine (HINS.out _).mono ?_
              rintro e w5 ⟨rfl, s5, b5⟩
              rw [HST.out _ HGD.out] at s5
              have b5 := br.trans b5
              obtain ⟨t1, _, _⟩ := s5.rot2.slat (Nat.le_trans hB b5.size) j (.bool bb) (by rw [List.getElem?_eq_getElem (by rw [fillL_length]; exact hlt), fillL_get _ _ _ _ _ hlt, if_pos hlt]; unfold toldB; rw [HBB.out])
              have hnn : (bb != bb) = false := by cases bb <;> rfl
              go_wp2_with fail
              go_roundg (n1 - j - 1)
              case measure => omega
              case rel => exact ⟨j + 1, by omega, by go_num, s5, b5⟩
            · have hgd : hs.getD j 1 = 1 := by rw [List.getD_eq_getElem?_getD, List.getElem?_eq_none (by rw [HL2.out]; omega)]; rfl
              have HGD := Lib.hid hgd
              clear hgd
              go_wp2_with fail
              refine (HINS.out _).mono ?_
              rintro e w5 ⟨rfl, s5, b5⟩
              rw [HST.out _ HGD.out] at s5
              have b5 := br.trans b5
              obtain ⟨t1, _, _⟩ := s5.rot2.slat (Nat.le_trans hB b5.size) j (.bool bb) (by rw [List.getElem?_eq_getElem (by rw [fillL_length]; exact hlt), fillL_get _ _ _ _ _ hlt, if_pos hlt]; unfold toldB; rw [HBB.out])
              have hnn : (bb != bb) = false := by cases bb <;> rfl
              go_wp2_with fail
              go_roundg (n1 - j - 1)
              case measure => omega
              case rel => exact ⟨j + 1, by omega, by go_num, s5, b5⟩
          · obtain rfl : j = n1 := by omega
            have s5 := (sr.cons fun _ h => Sep.drop h).rot2
            clear sr
            -- batN m vs hs l j: the list, s5: the world's At (skR s :: skR t :: L0), br: Below
            go_wp2_with fail
            go_loopg [17] 8 (fun g k wr => ∃ q : Nat, q + g = 8 ∧ k = .int .i64 ((q : Int) + 1) ∧ At B wr (skR p m (batN m vs hs l j) :: skR r m (batN m vs hs l j) :: L) ∧ Below B w wr)
            case atStart => exact ⟨0, rfl, rfl, s5, br⟩
            case round =>
              clear s5 br
              obtain ⟨q, hq, rfl, sr, br⟩ := hrel
              by_cases hq8 : q < 8
              · have hq7 : (q : Int) + 1 ≤ 8 := by omega
                go_wp2_with fail
                refine (level_s (Nat.le_trans hB br.size) sr (k := (q : Int) + 1) rfl hq8 (l' := levL q (batN m vs hs l j)) rfl rfl).mono ?_
                rintro e w5 ⟨A5, c5, rfl, s5, b5⟩
                have b5 := br.trans b5
                go_wp2_with fail
                refine (level_s (Nat.le_trans hB b5.size) s5.rot3 (k := (q : Int) + 1) rfl hq8 (l' := levL q (batN m vs hs l j)) rfl rfl).mono ?_
                rintro e w6 ⟨A6, c6, rfl, s6, b6⟩
                have b6 := b5.trans b6
                have hlv := levL_le s6.rot2
                go_wp2_with fail
                refine (Same_t (Nat.le_trans hB b6.size) s6 (Sl.read s6.rot3.get) (Sl.read s6.get) (by have := hlv q; omega) (by have := hlv q; omega)).mono ?_
                rintro e w7 ⟨rfl, s7, b7⟩
                have b7 := b6.trans b7
                go_wp2_with fail
                go_roundg (7 - q)
                case measure => omega
                case rel => exact ⟨q + 1, by omega, by go_num, (s7.drop.cons fun _ h => Sep.drop h).rot2, b7⟩
              · obtain rfl : q = 8 := by omega
                go_wp2_with fail
                go_ret
                exact ⟨rfl, sr.drop.drop, br⟩
end Go.Proofs.Ythgljcmlnccjaaa
