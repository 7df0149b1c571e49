/-
  The document's list at things apart: Insert, Batch, Level; values of items.
-/
import Derived.Test.YtpelpbnmjciheaaSkipO
namespace Go.Proofs.Ytpelpbnmjciheaa
open Go.RowKit Go.Rp

/-- Items that are read. -/
abbrev itR (A : Option Addr) (n : Nat) (l : List It) : Res := rdRes 2 (by omega) A n (itC l)
theorem sep_turn {B : Nat} {w w' : World} {a a' : Res} {L : List Res} (h : At B w (a :: L)) (hB : B ≤ w.heap.size) (hq : ∀ T : Nat → Prop, a.Q w T → a'.Q w' (grow T w w')) (hb : Below w.heap.size w w') : At B w' (a' :: L) := by
  obtain ⟨S, h1, h2, h3⟩ := h.frontAny fun x hx => Nat.le_trans hB hx
  exact h3 a' w' (hq S h1) (Mod.of_below hb)
section
variable {B : Nat} {w w' : World} {n c : Nat} {A : Option Addr} {l : List It} {L : List Res}
theorem rInsert_s (hB : B ≤ w.heap.size) (h : At B w (itR A n l :: L)) (hl : l.length = n) (hc : n ≤ c) (hcm : c ≤ maxLen) {mo : Int} (v ht : Int) :
    Calls Try.prog 23 #[.int .i64 mo, .slice A n c, .int .i32 v, .int .i64 ht] w fun e w' => ∃ A' c', e = .returned (.tuple #[.slice A' (insB (mostI mo) l v (tallI ht)).length c', .bool (decide (l.length < mostI mo))]) ∧ (insB (mostI mo) l v (tallI ht)).length ≤ c' ∧ c' ≤ maxLen ∧
      At B w' (itR A' (insB (mostI mo) l v (tallI ht)).length (insB (mostI mo) l v (tallI ht)) :: L) ∧ Below B w w' :=
  (rInsert_any w mo A n c _ l h.get hl hc hcm v ht).mono fun e w' ⟨A', c', he, h1, h2, h3, hb⟩ => ⟨A', c', he, h1, h2, sep_turn (a' := itR A' (insB (mostI mo) l v (tallI ht)).length (insB (mostI mo) l v (tallI ht))) h hB h3 hb, hb.mono hB⟩
theorem it_cell (h : At B w (itR A n l :: L)) (hl : l.length = n) (hn : 0 < n) : ∃ b off, A = some ⟨b, off, none⟩ ∧ ∀ k, (hk : k < l.length) → w.cell? ⟨b, off + k * 2, none⟩ = some (.int .i32 l[k].1) ∧ w.cell? ⟨b, off + k * 2 + 1, none⟩ = some (.int .i64 (l[k].2 : Int)) := by
  obtain ⟨b, off, e, _, hc⟩ := (show Rd w _ 2 A n (itC l) from h.get).at hn
  refine ⟨b, off, e, fun k hk => ?_⟩
  obtain ⟨h1, h2⟩ := itC_at l k hk
  exact ⟨hc _ _ h1, by have := hc _ _ h2; rwa [← Nat.add_assoc] at this⟩
/-- The document's level. -/
def rlev (k : Int) (l : List It) : List Int := (l.filter fun a => decide (1 ≤ k) && decide (k ≤ (a.2 : Int))).map (·.1)
theorem rlev_low {k : Int} (hk : ¬ 1 ≤ k) (l : List It) : rlev k l = [] := by
  unfold rlev
  rw [List.filter_eq_nil_iff.2 (by simp [hk])]
  rfl
theorem rlev_lev {q : Nat} (l : List It) : rlev ((q : Int) + 1) l = levL q l := by
  unfold rlev levL
  congr 1
  refine List.filter_congr fun a _ => ?_
  rw [decide_eq_true (by omega), Bool.true_and]
  by_cases h : q < a.2
  · rw [decide_eq_true h, decide_eq_true (by omega)]
  · rw [decide_eq_false h, decide_eq_false (by omega)]
theorem rlev_high {k : Int} (hk : 8 < k) {l : List It} (h : ∀ a ∈ l, 1 ≤ a.2 ∧ a.2 ≤ 8) : rlev k l = [] := by
  unfold rlev
  rw [List.filter_eq_nil_iff.2 fun a ha => by have := h a ha; simp; omega]
  rfl
theorem rlev_snoc (k : Int) (l : List It) (a : It) : rlev k (l ++ [a]) = rlev k l ++ (if 1 ≤ k ∧ k ≤ (a.2 : Int) then [a.1] else []) := by
  unfold rlev
  rw [List.filter_append, List.map_append]
  congr 1
  by_cases h : 1 ≤ k ∧ k ≤ (a.2 : Int)
  · rw [if_pos h, List.filter_cons_of_pos (by simp [h])]; rfl
  · rw [if_neg h, List.filter_cons_of_neg (by simpa using fun h1 h2 => h ⟨h1, h2⟩)]; rfl
theorem rlev_le (k : Int) (l : List It) : (rlev k l).length ≤ l.length := by unfold rlev; rw [List.length_map]; exact List.length_filter_le _ _
set_option maxRecDepth 100000 in
set_option maxHeartbeats 2000000 in
theorem rLevel_s (hB : B ≤ w.heap.size) (h : At B w (itR A n l :: L)) (hl : l.length = n) (hn : n ≤ 100000) (k : Int) {l' : List Int} {n' : Nat} (hl' : rlev k l = l') (hn' : l'.length = n') :
    Calls Try.prog 27 #[.slice A n c, .int .i64 k] w fun e w' => ∃ A' c', e = .returned (.slice A' n' c') ∧ At B w' (ownI A' n' c' l' :: itR A n l :: L) ∧ Below B w w' := by
  subst hl' hn'
  obtain ⟨i0, hi0, hz0, hz1, hz2⟩ := info_parts info_i32
  have HL := Lib.hid hl
  clear hl
  by_cases hk : 1 ≤ k
  · go_enter Try.func27, Try.ntmps27
    go_wp2_with fail
    go_loopg [5, 6] n (fun g v i wr => ∃ (m : Nat) (A' : Option Addr) (c' nl : Nat), m + g = n ∧ i = .int .i64 (m : Int) ∧ v = .slice A' nl c' ∧ Hid ((rlev k (l.take m)).length = nl) ∧ nl ≤ m ∧ At B wr (ownI A' nl c' (rlev k (l.take m)) :: itR A n l :: L) ∧ Below B w wr)
    case atStart => exact ⟨0, none, 0, 0, by omega, rfl, rfl, Lib.hid rfl, by omega, h.nilSl _ _, Below.refl _ _⟩
    case round =>
      obtain ⟨m, A', c', nl, hm, rfl, rfl, hnl, hle, sr, br⟩ := hrel
      by_cases hlt : m < n
      · have hml : m < l.length := by rw [HL.out]; exact hlt
        obtain ⟨b, off, rfl, hcells⟩ := it_cell sr.rot2 HL.out (by omega)
        obtain ⟨hx, hy⟩ := hcells m hml
        have htk := rlev_snoc k (l.take m) l[m]
        rw [← List.take_succ_eq_append_getElem hml] at htk
        obtain ⟨x, hxm⟩ : ∃ x, l[m].1 = x := ⟨_, rfl⟩
        obtain ⟨y, hym⟩ : ∃ y, l[m].2 = y := ⟨_, rfl⟩
        rw [hxm] at hx htk
        rw [hym] at hy htk
        have HTK := Lib.hid htk
        clear hcells hxm hym htk
        by_cases hky : k ≤ (y : Int)
        · have hle0 := Nat.le_trans hB br.size
          have s5 := (sr.alloc hle0 #[.int .i32 x] 21).drop
          have b5 := br.alloc hle0 (.cells #[.int .i32 x] 21)
          have hle5 := Nat.le_trans hB b5.size
          go_wp2_with (at_builtin; refine wpList_append_at rfl (.tmp 24) (.tmp 30) _ rfl 21 i0 _ 1 4 Try.underlying26 hi0 hz0 hz1 hz2 rfl (by omega) rfl s5 hle5 (· = wr.heap.size) (some ⟨wr.heap.size, 0, none⟩) 1 1 [.int .i32 x] rfl (by exact Rd.lit (sz := 1) wr 21 #[.int .i32 x] 1 rfl) (by simp [Value.oneCell']) (by simp only [maxLen]; omega) (by omega) ?_; intro A6 c6 w6 s6 b6; have b6 := b5.trans b6)
          go_roundg (n - m - 1)
          case measure => omega
          case rel =>
            have e := HTK.out
            rw [if_pos ⟨hk, hky⟩] at e
            exact ⟨m + 1, A6, c6, nl + 1, by omega, by go_num, rfl, Lib.hid (by rw [e, List.length_append, hnl.out]; rfl), by omega, by rw [e, own_snoc]; exact s6, b6⟩
        · go_wp2_with fail
          go_roundg (n - m - 1)
          case measure => omega
          case rel =>
            have e := HTK.out
            rw [if_neg (by omega), List.append_nil] at e
            exact ⟨m + 1, A', c', nl, by omega, by go_num, rfl, Lib.hid (by rw [e, hnl.out]), by omega, by rw [e]; exact sr, br⟩
      · obtain rfl : n = m := by omega
        have htl : l.take n = l := List.take_of_length_le (by rw [HL.out]; omega)
        have HTL := Lib.hid htl
        clear htl
        go_wp2_with fail
        go_ret
        have e1 := hnl.out
        rw [HTL.out] at e1 sr
        rw [e1]
        exact ⟨A', c', rfl, sr, br⟩
  · have hk2 : ¬ (1 : Int) ≤ k := hk
    rw [rlev_low hk l]
    go_enter Try.func27, Try.ntmps27
    go_wp2_with fail
    go_loopg [5, 6] n (fun g v i wr => ∃ m : Nat, m + g = n ∧ i = .int .i64 (m : Int) ∧ v = .slice none 0 0 ∧ wr = w)
    case atStart => exact ⟨0, by omega, rfl, rfl, rfl⟩
    case round =>
      obtain ⟨m, hm, rfl, rfl, rfl⟩ := hrel
      by_cases hlt : m < n
      · go_wp2_with fail
        go_roundg (n - m - 1)
        case measure => omega
        case rel => exact ⟨m + 1, by omega, by go_num, rfl, rfl⟩
      · obtain rfl : n = m := by omega
        go_wp2_with fail
        go_ret
        exact ⟨none, 0, rfl, h.nilSl _ _, Below.refl _ _⟩
set_option maxRecDepth 100000 in
set_option maxHeartbeats 2000000 in
theorem vals_s (hB : B ≤ w.heap.size) (h : At B w (itR A n l :: L)) (hl : l.length = n) (hn : n ≤ 100000) :
    Calls Try.prog 29 #[.slice A n c] w fun e w' => ∃ A' c', e = .returned (.slice A' n c') ∧ At B w' (ownI A' n c' (l.map (·.1)) :: itR A n l :: L) ∧ Below B w w' := by
  obtain ⟨i0, hi0, hz0, hz1, hz2⟩ := info_parts info_i32
  have HL := Lib.hid hl
  clear hl
  go_enter Try.func29, Try.ntmps29
  go_wp2_with fail
  go_loopg [3, 4] n (fun g v i wr => ∃ (m : Nat) (A' : Option Addr) (c' : Nat), m + g = n ∧ i = .int .i64 (m : Int) ∧ v = .slice A' m c' ∧ At B wr (ownI A' m c' ((l.take m).map (·.1)) :: itR A n l :: L) ∧ Below B w wr)
  case atStart => exact ⟨0, none, 0, by omega, rfl, rfl, h.nilSl _ _, Below.refl _ _⟩
  case round =>
    obtain ⟨m, A', c', hm, rfl, rfl, sr, br⟩ := hrel
    by_cases hlt : m < n
    · have hml : m < l.length := by rw [HL.out]; exact hlt
      obtain ⟨b, off, rfl, hcells⟩ := it_cell sr.rot2 HL.out (by omega)
      obtain ⟨hx, hy⟩ := hcells m hml
      have htk : (l.take (m + 1)).map (·.1) = (l.take m).map (·.1) ++ [l[m].1] := by rw [List.take_succ_eq_append_getElem hml, List.map_append]; rfl
      obtain ⟨x, hxm⟩ : ∃ x, l[m].1 = x := ⟨_, rfl⟩
      rw [hxm] at hx htk
      have HTK := Lib.hid htk
      clear hcells hxm htk hy
      have hle0 := Nat.le_trans hB br.size
      have s5 := (sr.alloc hle0 #[.int .i32 x] 21).drop
      have b5 := br.alloc hle0 (.cells #[.int .i32 x] 21)
      have hle5 := Nat.le_trans hB b5.size
      go_wp2_with (at_builtin; refine wpList_append_at rfl (.tmp 11) (.tmp 17) _ rfl 21 i0 _ 1 4 Try.underlying26 hi0 hz0 hz1 hz2 rfl (by omega) rfl s5 hle5 (· = wr.heap.size) (some ⟨wr.heap.size, 0, none⟩) 1 1 [.int .i32 x] rfl (by exact Rd.lit (sz := 1) wr 21 #[.int .i32 x] 1 rfl) (by simp [Value.oneCell']) (by simp only [maxLen]; omega) (by omega) ?_; intro A6 c6 w6 s6 b6; have b6 := b5.trans b6)
      go_roundg (n - m - 1)
      case measure => omega
      case rel => exact ⟨m + 1, A6, c6, by omega, by go_num, rfl, by rw [HTK.out, own_snoc]; exact s6, b6⟩
    · obtain rfl : n = m := by omega
      have htl : l.take n = l := List.take_of_length_le (by rw [HL.out]; omega)
      have HTL := Lib.hid htl
      clear htl
      go_wp2_with fail
      go_ret
      rw [HTL.out] at sr
      exact ⟨A', c', rfl, sr, br⟩
set_option maxRecDepth 100000 in
set_option maxHeartbeats 2000000 in
theorem rBatch_s (hB : B ≤ w.heap.size) (h : At B w (itR A n l :: L)) (hl : l.length = n) (hc : n ≤ c) (hcm : c ≤ maxLen) {mo : Int} (hlm : n ≤ mostI mo) {A1 A2 : Option Addr} {n1 c1 n2 c2 : Nat} {vs hs : List Int} (hv : Reads B w L 1 A1 n1 (iv vs)) (hh : Reads B w L 1 A2 n2 (il hs)) (hl1 : vs.length = n1) (hl2 : hs.length = n2) (hn1 : n1 ≤ 100000) (hn2 : n2 ≤ 100000) :
    Calls Try.prog 24 #[.int .i64 mo, .slice A n c, .slice A1 n1 c1, .slice A2 n2 c2] w fun e w' => ∃ A' c' g, e = .returned (.tuple #[.slice A' (batL (mostI mo) vs hs l).length c', .slice (some ⟨g, 0, none⟩) n1 n1]) ∧ (batL (mostI mo) vs hs l).length ≤ c' ∧ c' ≤ maxLen ∧
      At B w' (itR A' (batL (mostI mo) vs hs l).length (batL (mostI mo) vs hs l) :: slRes 4 1 (some ⟨g, 0, none⟩) n1 n1 (batT (mostI mo) vs l) :: L) ∧ Below B w w' := by
  subst hl
  have hmk := run_make_row' (P := Try.prog) 62 4 (.bool false) 1 Try.underlying62 (by kernel_rfl) rfl .i64 .i64 n1 (by omega) (by omega)
  have s1 := (row_new hB hn1 (z := .bool false) 4 h).rot2
  have b1 : Below B w (w.alloc (.cells (madeCells #[.bool false] n1) 4)) := (Below.refl _ w).alloc hB _
  obtain ⟨g, hg⟩ : ∃ g, w.heap.size = g := ⟨_, rfl⟩
  obtain ⟨w1, hw1⟩ : ∃ w1, w.alloc (.cells (madeCells #[.bool false] n1) 4) = w1 := ⟨_, rfl⟩
  rw [hw1] at s1 b1
  rw [hg] at s1
  obtain ⟨M, hM⟩ : ∃ M, mostI mo = M := ⟨_, rfl⟩
  rw [hM] at hlm ⊢
  have HMO := Lib.hid hM
  have HG := Lib.hid hg
  have HW1 := Lib.hid hw1
  have HL1 := Lib.hid hl1
  have HL2 := Lib.hid hl2
  have HCM := Lib.hid hcm
  have HC := Lib.hid hc
  clear hl1 hl2 hM hcm hc
  rcases hup : upB vs with _ | _
  · have htl : batT M vs l = List.replicate n1 (.bool false) := batT_no HL1.out hup
    have hbl : batL M vs hs l = l := by unfold batL; rw [hup]; rfl
    rw [htl, hbl]
    have HU := Lib.hid hup
    clear htl hbl hup
    by_cases h0 : 0 < n1
    · obtain ⟨R1, hr1⟩ := hv w1 [_, _] s1 b1
      have hri := rises_any w1 A1 n1 c1 R1 vs hr1 hn1
      rw [HU.out] at hri
      clear hr1
      go_enter Try.func24, Try.ntmps24
      go_wp2_with fail
      clear hmk hw1 hg
      go_loopg [1, 11, 14] 0 (fun gg v k is wr => gg = 0 ∧ k = .int .i64 0 ∧ v = .slice A l.length c ∧ wr = w1)
      case atStart => exact ⟨rfl, rfl, rfl, rfl⟩
      case round =>
        obtain ⟨_, rfl, rfl, rfl⟩ := hrel
        go_wp2_with fail
        refine hri.mono ?_
        rintro e w2 ⟨rfl, nq, rfl⟩
        go_wp2_with fail
        go_ret2
        exact ⟨A, c, g, rfl, HC.out, HCM.out, s1.drewN nq, below_drewN b1 nq⟩
    · obtain rfl : n1 = 0 := by omega
      simp only [Int.natCast_zero] at hmk
      go_enter Try.func24, Try.ntmps24
      go_wp2_with fail
      clear hmk hw1 hg
      go_loopg [1, 11, 14] 0 (fun gg v k is wr => gg = 0 ∧ k = .int .i64 0 ∧ v = .slice A l.length c ∧ wr = w1)
      case atStart => exact ⟨rfl, rfl, rfl, rfl⟩
      case round =>
        obtain ⟨_, rfl, rfl, rfl⟩ := hrel
        go_wp2_with fail
        go_ret2
        exact ⟨A, c, g, rfl, HC.out, HCM.out, s1, b1⟩
  · have HU := Lib.hid hup
    clear hup
    have htl : batT M vs l = fillL n1 n1 (toldB M l.length) (.bool false) := batT_up HL1.out HU.out
    have hbl : batL M vs hs l = batN M vs hs l n1 := by unfold batL; rw [HU.out, HL1.out]; rfl
    rw [htl, hbl]
    clear htl hbl
    have hnl := batN_length M vs hs l hlm
    obtain ⟨l0, hl0⟩ : ∃ l0, l.length = l0 := ⟨_, rfl⟩
    rw [hl0] at s1 hlm ⊢
    simp only [hl0] at hnl
    have HL0 := Lib.hid hl0
    rw [hl0] at HC
    have HNL := Lib.hid hnl
    clear hnl hl0
    go_enter Try.func24, Try.ntmps24
    go_wp2_with fail
    clear hmk hw1 hg
    go_loopg [1, 11] n1 (fun gg v k wr => ∃ (j : Nat) (A' : Option Addr) (c' nl : Nat), j + gg = n1 ∧ k = .int .i64 (j : Int) ∧ v = .slice A' nl c' ∧ (batN M vs hs l j).length = nl ∧ nl ≤ c' ∧ c' ≤ maxLen ∧ At B wr (itR A' nl (batN M vs hs l j) :: slRes 4 1 (some ⟨g, 0, none⟩) n1 n1 (fillL n1 j (toldB M l0) (.bool false)) :: L) ∧ Below B w wr)
    case atStart => exact ⟨0, A, c, l0, by omega, rfl, rfl, HL0.out, HC.out, HCM.out, by rw [fillL_zero]; exact s1, b1⟩
    case round =>
      clear s1 b1
      obtain ⟨j, A', c', nl, hj, rfl, rfl, hln, hlc, hlm2, sr, br⟩ := hrel
      have hlm := hlm2
      have HLN := Lib.hid hln
      have HLC := Lib.hid hlc
      have HLM := Lib.hid hlm2
      by_cases hlt : j < n1
      · have hij : j < vs.length := by rw [HL1.out]; exact hlt
        have hgx : vs.getD j 0 = vs[j] := by rw [List.getD_eq_getElem?_getD, List.getElem?_eq_getElem hij]; rfl
        have hstep : ∀ y, hs.getD j 1 = y → insB M (batN M vs hs l j) vs[j] (tallI y) = batN M vs hs l (j + 1) := fun y hy => by
          rw [batN, hgx, hy]
        have hdec : decide (l0 + j < M) = decide ((batN M vs hs l j).length < M) := by
          rw [HNL.out j]
          by_cases h1 : l0 + j < M
          · rw [decide_eq_true h1, decide_eq_true (by omega)]
          · rw [decide_eq_false h1, decide_eq_false (by omega)]
        obtain ⟨R1, hr1⟩ := hv wr [_, _] sr br
        have hri := rises_any wr A1 n1 c1 R1 vs hr1 hn1
        rw [HU.out] at hri
        obtain ⟨bv, ov, rfl, _, hcv⟩ := hr1.at (by omega)
        have hx : wr.cell? ⟨bv, ov + j, none⟩ = some (.int .i32 vs[j]) := hcv j _ (by simp [hij])
        obtain ⟨x, hxj⟩ : ∃ x, vs[j] = x := ⟨_, rfl⟩
        rw [hxj] at hx
        simp only [hxj] at hstep
        have HST := Lib.hid hstep
        have HDEC := Lib.hid hdec
        clear hr1 hstep hdec hgx hcv hxj
        by_cases hj2 : j < n2
        · obtain ⟨R2, hh1⟩ := hh wr [_, _] sr br
          obtain ⟨b2', off2, rfl, _, hcells⟩ := hh1.at (by omega)
          have hiy : j < hs.length := by rw [HL2.out]; exact hj2
          have hy : wr.cell? ⟨b2', off2 + j, none⟩ = some (.int .i64 hs[j]) := hcells j _ (by simp [hiy])
          have hgd : hs.getD j 1 = hs[j] := by rw [List.getD_eq_getElem?_getD, List.getElem?_eq_getElem hiy]; rfl
          obtain ⟨y, hyi⟩ : ∃ y, hs[j] = y := ⟨_, rfl⟩
          rw [hyi] at hy hgd
          have HGD := Lib.hid hgd
          clear hcells hh1 hyi hgd hln hlc hlm
          go_wp2_with fail
          refine hri.mono ?_
          rintro e w2 ⟨rfl, nq, rfl⟩
          have sr := sr.drewN nq
          have br := below_drewN br nq
          go_wp2_with fail
          refine (rInsert_s (Nat.le_trans hB br.size) sr HLN.out HLC.out HLM.out _ _).mono ?_
          rintro e w5 ⟨A5, c5, rfl, hc5, hm5, s5, b5⟩
          have b5 := br.trans b5
          rw [HMO.out] at s5 hc5 ⊢
          have hst := HST.out _ HGD.out
          rw [hst] at s5 hc5 ⊢
          obtain ⟨n5, hn5⟩ : ∃ n5, (batN M vs hs l (j + 1)).length = n5 := ⟨_, rfl⟩
          rw [hn5] at s5 hc5 ⊢
          obtain ⟨t1, t2, t3⟩ := s5.rot2.slat (Nat.le_trans hB b5.size) j (.bool false) (by rw [List.getElem?_eq_getElem (by rw [fillL_length]; exact hlt), fillL_get _ _ _ _ _ hlt, if_neg (by omega)])
          obtain ⟨bb, hbb⟩ : ∃ bb, decide ((batN M vs hs l j).length < M) = bb := ⟨_, rfl⟩
          obtain ⟨s6, b6⟩ := t3 (.bool bb)
          have b6 := b5.trans b6
          rw [fillL_succ n1 j (toldB M l0) (.bool false) _ (by unfold toldB; rw [HDEC.out, hbb])] at s6
          rw [hbb]
          have S6 := Lib.hid s6
          have B6 := Lib.hid b6
          have HC5 := Lib.hid hc5
          have HM5 := Lib.hid hm5
          have HN5 := Lib.hid hn5
          clear s6 b6 t3 s5 hc5 hm5 hn5 hst hbb
          go_wp2_with fail
          go_roundg (n1 - j - 1)
          case measure => omega
          case rel => exact ⟨j + 1, A5, c5, n5, by omega, by go_num, rfl, HN5.out, HC5.out, HM5.out, S6.out.rot2, B6.out⟩
        · have hgd : hs.getD j 1 = 1 := by rw [List.getD_eq_getElem?_getD, List.getElem?_eq_none (by rw [HL2.out]; omega)]; rfl
          have HGD := Lib.hid hgd
          clear hgd hln hlc hlm
          go_wp2_with fail
          refine hri.mono ?_
          rintro e w2 ⟨rfl, nq, rfl⟩
          have sr := sr.drewN nq
          have br := below_drewN br nq
          go_wp2_with fail
          refine (rInsert_s (Nat.le_trans hB br.size) sr HLN.out HLC.out HLM.out _ _).mono ?_
          rintro e w5 ⟨A5, c5, rfl, hc5, hm5, s5, b5⟩
          have b5 := br.trans b5
          rw [HMO.out] at s5 hc5 ⊢
          have hst := HST.out _ HGD.out
          rw [hst] at s5 hc5 ⊢
          obtain ⟨n5, hn5⟩ : ∃ n5, (batN M vs hs l (j + 1)).length = n5 := ⟨_, rfl⟩
          rw [hn5] at s5 hc5 ⊢
          obtain ⟨t1, t2, t3⟩ := s5.rot2.slat (Nat.le_trans hB b5.size) j (.bool false) (by rw [List.getElem?_eq_getElem (by rw [fillL_length]; exact hlt), fillL_get _ _ _ _ _ hlt, if_neg (by omega)])
          obtain ⟨bb, hbb⟩ : ∃ bb, decide ((batN M vs hs l j).length < M) = bb := ⟨_, rfl⟩
          obtain ⟨s6, b6⟩ := t3 (.bool bb)
          have b6 := b5.trans b6
          rw [fillL_succ n1 j (toldB M l0) (.bool false) _ (by unfold toldB; rw [HDEC.out, hbb])] at s6
          rw [hbb]
          have S6 := Lib.hid s6
          have B6 := Lib.hid b6
          have HC5 := Lib.hid hc5
          have HM5 := Lib.hid hm5
          have HN5 := Lib.hid hn5
          clear s6 b6 t3 s5 hc5 hm5 hn5 hst hbb
          go_wp2_with fail
          go_roundg (n1 - j - 1)
          case measure => omega
          case rel => exact ⟨j + 1, A5, c5, n5, by omega, by go_num, rfl, HN5.out, HC5.out, HM5.out, S6.out.rot2, B6.out⟩
      · obtain rfl : n1 = j := by omega
        go_wp2_with fail
        go_ret2
        exact ⟨A', c', g, by rw [HLN.out]; rfl, by rw [HLN.out]; exact HLC.out, HLM.out, by rw [HLN.out]; exact sr, br⟩
end
end Go.Proofs.Ytpelpbnmjciheaa
