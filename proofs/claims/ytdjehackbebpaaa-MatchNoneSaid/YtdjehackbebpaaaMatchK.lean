/-
  Apply of the program without a stack: the walk.
-/
import Derived.Test.YtdjehackbebpaaaMatchI
namespace Go.Proofs.Ytdjehackbebpaaa
open Go.RowKit Go.Rp

set_option maxRecDepth 100000 in
theorem defer_nil {B : Nat} {w : World} {L : List Res} {pm mo bm bs bo : Nat} {st : List Nat × Nat} (h : At B w (meetR pm mo st :: blkR bm 54 #[.pointer (some ⟨pm, 0, none⟩)] :: L)) (hnil : st.1 = []) (u : FrameMode) :
    CallsD Try.prog 29 #[.pointer (some ⟨bm, 0, none⟩), .pointer (some ⟨bs, 0, none⟩), .pointer (some ⟨bo, 0, none⟩)] u w fun e u' w' => u' = u ∧ (e = .returned (.tuple #[]) ∧ w' = w) := by
  obtain ⟨hle, hmo, Am, cm, hx⟩ := meet_open h
  have kb : w.cell? ⟨bm, 0, none⟩ = some (.pointer (some ⟨pm, 0, none⟩)) := hx.rot2.blk.cell 0
  have kc : w.cell? ⟨pm, 0, none⟩ = some (.slice Am 0 cm) := by
    have := hx.get.1.cell 0
    rw [hnil] at this
    exact this
  clear h hx hle
  go_enter_d Try.func29, Try.ntmps29
  go_wp2_with fail
  go_loopg [10] 0 (fun g k wr => g = 0 ∧ k = .int .i64 0 ∧ wr = w)
  case atStart => exact ⟨rfl, rfl, rfl⟩
  case round =>
    obtain ⟨rfl, rfl, rfl⟩ := hrel
    go_wp2_with fail
    go_end0
    exact ⟨rfl, rfl⟩

set_option maxRecDepth 100000 in
set_option maxHeartbeats 4000000 in
theorem Apply_nil {B : Nat} {w : World} {L : List Res} {mo : Nat} {l0 : List Int} (hl0 : l0 = []) (hmo0 : mo = 0) {A : Option Addr} {n c : Nat} {ops : List (Int × Int)} (hB : B ≤ w.heap.size) (h : At B w L) (hn : ops.length = n) (h8 : ∀ o ∈ ops, 0 ≤ o.1 ∧ o.1 ≤ 255) (hlen : n ≤ 100000) (hrd : ∀ W L', Below B w W → At B W (L ++ L') → ∃ R, Rd W R 2 A n (ops.flatMap opIn)) :
    Calls Try.prog 17 #[.pointer none, .slice A n c] w fun e w' =>
      ∃ g, e = .returned (.slice (some ⟨g, 0, none⟩) n n) ∧ At B w' (slRes 42 2 (some ⟨g, 0, none⟩) n n ((toldK n (mCode mo l0.length ops) (mVal l0 mo ops) n).flatMap resIn) :: L) ∧ Below B w w' := by
  have hmf : ∀ (fn : Fn) (first cap : Array Value) (w : World), (Instr.makeFunc fn first cap).run Try.prog w = .ok (.func fn first cap) w := fun _ _ _ _ => rfl
  obtain ⟨i0, hi0, hz0, hz1, hz2⟩ := info_parts info_i32
  have hz3 : i0.bytes * n ≤ 281474976710656 := by rw [hz2]; omega
  obtain ⟨be, hbe⟩ : ∃ be, l0.length = be := ⟨_, rfl⟩
  have hbe0 : be = 0 := by rw [← hbe, hl0]; rfl
  have hlm : be ≤ mo := by omega
  have hmo : mo ≤ 1000 := by omega
  have HBE := Lib.hid hbe
  have HN := Lib.hid hn
  have s1 : At B (w.alloc (.cells #[.pointer none] 44)) (sboxR w.heap.size none :: L) := h.alloc hB _ _
  have s2 : At B ((w.alloc (.cells #[.pointer none] 44)).alloc (.cells #[.slice A n c] 22)) (oboxR (w.heap.size + 1) A n c :: sboxR w.heap.size none :: L) := by
    have := s1.alloc (by simp; omega) #[.slice A n c] 22
    rwa [World.size_alloc] at this
  have b2 : Below B w ((w.alloc (.cells #[.pointer none] 44)).alloc (.cells #[.slice A n c] 22)) := ((Below.refl B w).alloc hB _).alloc (by simp; omega) _
  have hl1 := fun (W : World) => (show Calls Try.prog 27 #[.pointer none] W fun e w' => e = .returned (.int .i64 (be : Int)) ∧ W = w' from by rw [hbe0]; exact len_nil W)
  have hm1 := fun (W : World) => (show Calls Try.prog 28 #[.pointer none] W fun e w' => e = .returned (.int .i64 (mo : Int)) ∧ W = w' from by rw [hmo0]; exact most_nil W)
  have HM0 := Lib.hid hmo0
  clear s1 hn hbe hbe0 hmo0 hl0
  go_enter_defers Try.func17, Try.ntmps17
  go_wp2_with fail
  generalize (w.alloc (.cells #[.pointer none] 44)).alloc (.cells #[.slice A n c] 22) = w2 at *
  generalize hbo : w.heap.size + 1 = bo at *
  obtain ⟨bs, hbs⟩ : ∃ bs, w.heap.size = bs := ⟨_, rfl⟩
  rw [hbs] at s2 ⊢
  have hB' : B ≤ w.heap.size := by omega
  have hB2 : B ≤ w2.heap.size := Nat.le_trans hB' b2.size
  clear hbo
  have ks : w2.cell? ⟨bs, 0, none⟩ = some (.pointer none) := s2.rot2.blk.cell 0
  go_region_held3 (fun w' => w'.cell? ⟨bs, 0, none⟩ = some (.pointer none)) (first | assumption | go_keep) (first
    | (go_at_call 27; (with_reducible refine (hl1 _).mono ?_); rintro e w5 ⟨rfl, rfl⟩)
    | (go_at_call 28; (with_reducible refine (hm1 _).mono ?_); rintro e w5 ⟨rfl, rfl⟩))
  · obtain ⟨s3, b3⟩ := apply_o1 hlm hmo hB2 b2 s2
    have hle3 := Nat.le_trans hB' b3.size
    generalize ((w2.alloc (.cells #[.slice none 0 0, .int .i64 (be : Int), .int .i64 (mo : Int)] 56)).alloc (.cells #[.pointer (some ⟨w2.heap.size, 0, none⟩)] 54)).drew = W at *
    generalize w2.heap.size + 1 = g2 at *
    generalize w2.heap.size = g1 at *
    have km : W.cell? ⟨g2, 0, none⟩ = some (.pointer (some ⟨g1, 0, none⟩)) := s3.rot2.blk.cell 0
    have ko : W.cell? ⟨bo, 0, none⟩ = some (.slice A n c) := s3.rot3.blk.cell 0
    have s4 := row_new hle3 hlen (z := .int .i32 0) 21 s3
    have b4 := b3.alloc hle3 (.cells (madeCells #[.int .i32 0] n) 21)
    have s5 := s4.alloc (by simp; omega) #[.slice (some ⟨W.heap.size, 0, none⟩) n n] 46
    have b5 := b4.alloc (by simp; omega) (.cells #[.slice (some ⟨W.heap.size, 0, none⟩) n n] 46)
    simp only [World.size_alloc] at s5
    have hle5 : B ≤ ((W.alloc (.cells (madeCells #[.int .i32 0] n) 21)).alloc (.cells #[.slice (some ⟨W.heap.size, 0, none⟩) n n] 46)).heap.size := by simp; omega
    have km : ((W.alloc (.cells (madeCells #[.int .i32 0] n) 21)).alloc (.cells #[.slice (some ⟨W.heap.size, 0, none⟩) n n] 46)).cell? ⟨g2, 0, none⟩ = some (.pointer (some ⟨g1, 0, none⟩)) := s5.rot4.blk.cell 0
    have ko5 : ((W.alloc (.cells (madeCells #[.int .i32 0] n) 21)).alloc (.cells #[.slice (some ⟨W.heap.size, 0, none⟩) n n] 46)).cell? ⟨bo, 0, none⟩ = some (.slice A n c) := s5.rot5.blk.cell 0
    have s6 : At B _ _ := s5.rot2.cons fun _ h => h
    clear s3 s4 b3 b4 s2 b2 ks hl1 hm1
    go_wp2_with (refine wpList_make_row _ rfl (.tmp 18) (.tmp 18) 46 rfl 21 i0 _ Try.underlying46 hi0 hz0 hz1 rfl .i64 .i64 n rfl rfl hz3 (by omega) ?_)
    generalize (W.alloc (.cells (madeCells #[.int .i32 0] n) 21)).alloc (.cells #[.slice (some ⟨W.heap.size, 0, none⟩) n n] 46) = W5 at *
    generalize W.heap.size + 1 = bv at *
    generalize W.heap.size = gv at *
    rw [show List.replicate n (Value.int .i32 0) = fillL n 0 (vV l0 mo ops) (.int .i32 0) from (fillL_zero _ _ _).symm] at s6
    have hall := all_apply bo bs bv B W5 hle5 g1 mo be hlm hmo A n c ops HN.out h8 hlen (fun k => valsR gv n (fillL n k (vV l0 mo ops) (.int .i32 0)) :: vboxR bv gv n :: oboxR bo A n c :: sboxR bs none :: blkR g2 54 #[.pointer (some ⟨g1, 0, none⟩)] :: L)
      (fun k W L' hb hW => hrd W L' (b5.trans hb) (Sep.drop (Sep.drop (Sep.drop (Sep.drop (Sep.drop hW))))))
      (fun k j W L' hk hj hb hW => by
        obtain ⟨_, l, hl⟩ := mStep_met (show (mStep mo k (kindAt ops k) (mAt mo be ops k)).2.1 = (j : Int) by rw [hj])
        have := mAt_len mo be ops hlm k
        rw [hl] at this
        simp at this
        have := HM0.out
        omega)
      (fun k W L' hk hj hb hW => by
        rcases below_step mo k (kindAt ops k) (mAt mo be ops k) with ⟨_, e⟩ | ⟨_, _, e, _⟩
        · exact absurd hj e
        · have := mAt_len mo be ops hlm k
          have := HM0.out
          omega)
      (fun k hk hc => by
        rw [fillL_keep _ _ _ _ (by unfold vV; rw [mVal_none (by rw [HBE.out]; exact hc) (by rw [HBE.out]; exact pair_code hc)])])
      ((Sep.rot3 s6).cons fun _ h => h.cons fun _ h => h.cons fun _ h => (Sep.rot3 (Sep.rot3 h)))
    go_wp2_with fail
    refine hall.mono ?_
    rintro e w6 ⟨g, rfl, s7, b7⟩
    have hle7 := Nat.le_trans hle5 b7.size
    have b7 := b5.trans b7
    clear hall s6 s5 b5 km ko5 ko
    rw [← toldK_zero n (mCode mo be ops) (mVal l0 mo ops)] at s7
    have kv : w6.cell? ⟨bv, 0, none⟩ = some (.slice (some ⟨gv, 0, none⟩) n n) := s7.rot4.blk.cell 0
    go_wp2_with fail
    go_loopg [27] n (fun g' k wr => ∃ k' : Nat, k' + g' = n ∧ k = .int .i64 (k' : Int) ∧ At B wr (slRes 42 2 (some ⟨g, 0, none⟩) n n ((toldK n (mCode mo be ops) (mVal l0 mo ops) k').flatMap resIn) :: meetR g1 mo (mAt mo be ops n) :: valsR gv n (fillL n n (vV l0 mo ops) (.int .i32 0)) :: vboxR bv gv n :: oboxR bo A n c :: sboxR bs none :: blkR g2 54 #[.pointer (some ⟨g1, 0, none⟩)] :: L) ∧ Below B w wr ∧ B ≤ wr.heap.size)
    case atStart => exact ⟨0, by omega, rfl, s7, b7, hle7⟩
    case round =>
      clear s7 b7 kv hle7
      obtain ⟨k, hk, rfl, s8, b8, hle8⟩ := hrel
      by_cases hlt : k < n
      · have hfl : k < (toldK n (mCode mo be ops) (mVal l0 mo ops) k).length := by rw [toldK_len]; exact hlt
        obtain ⟨t0, t1⟩ := res_at _ k hfl
        have hst := res_set2 _ k hfl (mVal l0 mo ops k)
        rw [toldK_get _ _ _ _ _ hlt, if_neg (by omega)] at t0 t1 hst
        dsimp only at t0 t1 hst
        rw [toldK_set n (mCode mo be ops) (mVal l0 mo ops) k] at hst
        have gvv : wr.cell? ⟨gv, k, none⟩ = some (.int .i32 (mVal l0 mo ops k)) := (s8.rot3.slat hle8 k (vV l0 mo ops k) (by rw [List.getElem?_eq_getElem (by rw [fillL_length]; exact hlt), fillL_get _ _ _ _ _ hlt, if_pos hlt])).1
        obtain ⟨k1, k2, k3⟩ := s8.slat hle8 (k * 2 + 1) _ t1
        obtain ⟨k4, k5⟩ := k3 (.int .i32 (mVal l0 mo ops k))
        rw [hst] at k4
        have b9 := b8.trans k5
        have hle9 := Nat.le_trans hle8 k5.size
        clear k3 k5 t0 t1 hst hfl s8 b8
        generalize mVal l0 mo ops k = vl at *
        go_wp2_with fail
        go_roundg (gk - 1)
        case measure => omega
        case rel => exact ⟨k + 1, by omega, by go_num, k4, b9, hle9⟩
      · obtain rfl : k = n := by omega
        have hst : At B wr (meetR g1 mo (mAt mo be ops k) :: blkR g2 54 #[.pointer (some ⟨g1, 0, none⟩)] :: slRes 42 2 (some ⟨g, 0, none⟩) k k ((toldK k (mCode mo be ops) (mVal l0 mo ops) k).flatMap resIn) :: L) :=
          Sep.cons (fun _ h => h.rot2) (s8.rot3.drop.rot3.drop.rot3.drop.rot3.drop).rot2
        have hnil : (mAt mo be ops k).1 = [] := by
          have := mAt_len mo be ops hlm k
          have := HM0.out
          exact List.length_eq_zero_iff.1 (by omega)
        have hd := defer_nil (bo := bo) (bs := bs) hst hnil .returning
        go_wp2_with fail
        refine leaves_cons (f := 29) (args := #[.pointer (some ⟨g2, 0, none⟩), .pointer (some ⟨bs, 0, none⟩), .pointer (some ⟨bo, 0, none⟩)]) (by simp) (by simp [go_sem]) ?_
        refine hd.mono ?_
        rintro e u' w9 ⟨rfl, rfl, rfl⟩
        exact ⟨_, results_tmp rfl _ _ _, ⟨g, rfl, by rw [HBE.out]; exact hst.drop.drop, b8⟩⟩
  · obtain ⟨s3, b3⟩ := apply_o2 hlm hmo hB2 b2 s2
    have hle3 := Nat.le_trans hB' b3.size
    generalize ((w2.alloc (.cells #[.pointer (some ⟨w2.heap.size + 1, 0, none⟩)] 54)).alloc (.cells #[.slice none 0 0, .int .i64 (be : Int), .int .i64 (mo : Int)] 56)).drew = W at *
    generalize w2.heap.size + 1 = g2 at *
    generalize w2.heap.size = g1 at *
    have km : W.cell? ⟨g1, 0, none⟩ = some (.pointer (some ⟨g2, 0, none⟩)) := s3.rot2.blk.cell 0
    have ko : W.cell? ⟨bo, 0, none⟩ = some (.slice A n c) := s3.rot3.blk.cell 0
    have s4 := row_new hle3 hlen (z := .int .i32 0) 21 s3
    have b4 := b3.alloc hle3 (.cells (madeCells #[.int .i32 0] n) 21)
    have s5 := s4.alloc (by simp; omega) #[.slice (some ⟨W.heap.size, 0, none⟩) n n] 46
    have b5 := b4.alloc (by simp; omega) (.cells #[.slice (some ⟨W.heap.size, 0, none⟩) n n] 46)
    simp only [World.size_alloc] at s5
    have hle5 : B ≤ ((W.alloc (.cells (madeCells #[.int .i32 0] n) 21)).alloc (.cells #[.slice (some ⟨W.heap.size, 0, none⟩) n n] 46)).heap.size := by simp; omega
    have km : ((W.alloc (.cells (madeCells #[.int .i32 0] n) 21)).alloc (.cells #[.slice (some ⟨W.heap.size, 0, none⟩) n n] 46)).cell? ⟨g1, 0, none⟩ = some (.pointer (some ⟨g2, 0, none⟩)) := s5.rot4.blk.cell 0
    have ko5 : ((W.alloc (.cells (madeCells #[.int .i32 0] n) 21)).alloc (.cells #[.slice (some ⟨W.heap.size, 0, none⟩) n n] 46)).cell? ⟨bo, 0, none⟩ = some (.slice A n c) := s5.rot5.blk.cell 0
    have s6 : At B _ _ := s5.rot2.cons fun _ h => h
    clear s3 s4 b3 b4 s2 b2 ks hl1 hm1
    go_wp2_with (refine wpList_make_row _ rfl (.tmp 18) (.tmp 18) 46 rfl 21 i0 _ Try.underlying46 hi0 hz0 hz1 rfl .i64 .i64 n rfl rfl hz3 (by omega) ?_)
    generalize (W.alloc (.cells (madeCells #[.int .i32 0] n) 21)).alloc (.cells #[.slice (some ⟨W.heap.size, 0, none⟩) n n] 46) = W5 at *
    generalize W.heap.size + 1 = bv at *
    generalize W.heap.size = gv at *
    rw [show List.replicate n (Value.int .i32 0) = fillL n 0 (vV l0 mo ops) (.int .i32 0) from (fillL_zero _ _ _).symm] at s6
    have hall := all_apply bo bs bv B W5 hle5 g2 mo be hlm hmo A n c ops HN.out h8 hlen (fun k => valsR gv n (fillL n k (vV l0 mo ops) (.int .i32 0)) :: vboxR bv gv n :: oboxR bo A n c :: sboxR bs none :: blkR g1 54 #[.pointer (some ⟨g2, 0, none⟩)] :: L)
      (fun k W L' hb hW => hrd W L' (b5.trans hb) (Sep.drop (Sep.drop (Sep.drop (Sep.drop (Sep.drop hW))))))
      (fun k j W L' hk hj hb hW => by
        obtain ⟨_, l, hl⟩ := mStep_met (show (mStep mo k (kindAt ops k) (mAt mo be ops k)).2.1 = (j : Int) by rw [hj])
        have := mAt_len mo be ops hlm k
        rw [hl] at this
        simp at this
        have := HM0.out
        omega)
      (fun k W L' hk hj hb hW => by
        rcases below_step mo k (kindAt ops k) (mAt mo be ops k) with ⟨_, e⟩ | ⟨_, _, e, _⟩
        · exact absurd hj e
        · have := mAt_len mo be ops hlm k
          have := HM0.out
          omega)
      (fun k hk hc => by
        rw [fillL_keep _ _ _ _ (by unfold vV; rw [mVal_none (by rw [HBE.out]; exact hc) (by rw [HBE.out]; exact pair_code hc)])])
      ((Sep.rot3 s6).cons fun _ h => h.cons fun _ h => h.cons fun _ h => (Sep.rot3 (Sep.rot3 h)))
    go_wp2_with fail
    refine hall.mono ?_
    rintro e w6 ⟨g, rfl, s7, b7⟩
    have hle7 := Nat.le_trans hle5 b7.size
    have b7 := b5.trans b7
    clear hall s6 s5 b5 km ko5 ko
    rw [← toldK_zero n (mCode mo be ops) (mVal l0 mo ops)] at s7
    have kv : w6.cell? ⟨bv, 0, none⟩ = some (.slice (some ⟨gv, 0, none⟩) n n) := s7.rot4.blk.cell 0
    go_wp2_with fail
    go_loopg [27] n (fun g' k wr => ∃ k' : Nat, k' + g' = n ∧ k = .int .i64 (k' : Int) ∧ At B wr (slRes 42 2 (some ⟨g, 0, none⟩) n n ((toldK n (mCode mo be ops) (mVal l0 mo ops) k').flatMap resIn) :: meetR g2 mo (mAt mo be ops n) :: valsR gv n (fillL n n (vV l0 mo ops) (.int .i32 0)) :: vboxR bv gv n :: oboxR bo A n c :: sboxR bs none :: blkR g1 54 #[.pointer (some ⟨g2, 0, none⟩)] :: L) ∧ Below B w wr ∧ B ≤ wr.heap.size)
    case atStart => exact ⟨0, by omega, rfl, s7, b7, hle7⟩
    case round =>
      clear s7 b7 kv hle7
      obtain ⟨k, hk, rfl, s8, b8, hle8⟩ := hrel
      by_cases hlt : k < n
      · have hfl : k < (toldK n (mCode mo be ops) (mVal l0 mo ops) k).length := by rw [toldK_len]; exact hlt
        obtain ⟨t0, t1⟩ := res_at _ k hfl
        have hst := res_set2 _ k hfl (mVal l0 mo ops k)
        rw [toldK_get _ _ _ _ _ hlt, if_neg (by omega)] at t0 t1 hst
        dsimp only at t0 t1 hst
        rw [toldK_set n (mCode mo be ops) (mVal l0 mo ops) k] at hst
        have gvv : wr.cell? ⟨gv, k, none⟩ = some (.int .i32 (mVal l0 mo ops k)) := (s8.rot3.slat hle8 k (vV l0 mo ops k) (by rw [List.getElem?_eq_getElem (by rw [fillL_length]; exact hlt), fillL_get _ _ _ _ _ hlt, if_pos hlt])).1
        obtain ⟨k1, k2, k3⟩ := s8.slat hle8 (k * 2 + 1) _ t1
        obtain ⟨k4, k5⟩ := k3 (.int .i32 (mVal l0 mo ops k))
        rw [hst] at k4
        have b9 := b8.trans k5
        have hle9 := Nat.le_trans hle8 k5.size
        clear k3 k5 t0 t1 hst hfl s8 b8
        generalize mVal l0 mo ops k = vl at *
        go_wp2_with fail
        go_roundg (gk - 1)
        case measure => omega
        case rel => exact ⟨k + 1, by omega, by go_num, k4, b9, hle9⟩
      · obtain rfl : k = n := by omega
        have hst : At B wr (meetR g2 mo (mAt mo be ops k) :: blkR g1 54 #[.pointer (some ⟨g2, 0, none⟩)] :: slRes 42 2 (some ⟨g, 0, none⟩) k k ((toldK k (mCode mo be ops) (mVal l0 mo ops) k).flatMap resIn) :: L) :=
          Sep.cons (fun _ h => h.rot2) (s8.rot3.drop.rot3.drop.rot3.drop.rot3.drop).rot2
        have hnil : (mAt mo be ops k).1 = [] := by
          have := mAt_len mo be ops hlm k
          have := HM0.out
          exact List.length_eq_zero_iff.1 (by omega)
        have hd := defer_nil (bo := bo) (bs := bs) hst hnil .returning
        go_wp2_with fail
        refine leaves_cons (f := 29) (args := #[.pointer (some ⟨g1, 0, none⟩), .pointer (some ⟨bs, 0, none⟩), .pointer (some ⟨bo, 0, none⟩)]) (by simp) (by simp [go_sem]) ?_
        refine hd.mono ?_
        rintro e u' w9 ⟨rfl, rfl, rfl⟩
        exact ⟨_, results_tmp rfl _ _ _, ⟨g, rfl, by rw [HBE.out]; exact hst.drop.drop, b8⟩⟩
  · obtain ⟨s3, b3⟩ := apply_o2 hlm hmo hB2 b2 s2
    have hle3 := Nat.le_trans hB' b3.size
    generalize ((w2.alloc (.cells #[.pointer (some ⟨w2.heap.size + 1, 0, none⟩)] 54)).alloc (.cells #[.slice none 0 0, .int .i64 (be : Int), .int .i64 (mo : Int)] 56)).drew = W at *
    generalize w2.heap.size + 1 = g2 at *
    generalize w2.heap.size = g1 at *
    have km : W.cell? ⟨g1, 0, none⟩ = some (.pointer (some ⟨g2, 0, none⟩)) := s3.rot2.blk.cell 0
    have ko : W.cell? ⟨bo, 0, none⟩ = some (.slice A n c) := s3.rot3.blk.cell 0
    have s4 := row_new hle3 hlen (z := .int .i32 0) 21 s3
    have b4 := b3.alloc hle3 (.cells (madeCells #[.int .i32 0] n) 21)
    have s5 := s4.alloc (by simp; omega) #[.slice (some ⟨W.heap.size, 0, none⟩) n n] 46
    have b5 := b4.alloc (by simp; omega) (.cells #[.slice (some ⟨W.heap.size, 0, none⟩) n n] 46)
    simp only [World.size_alloc] at s5
    have hle5 : B ≤ ((W.alloc (.cells (madeCells #[.int .i32 0] n) 21)).alloc (.cells #[.slice (some ⟨W.heap.size, 0, none⟩) n n] 46)).heap.size := by simp; omega
    have km : ((W.alloc (.cells (madeCells #[.int .i32 0] n) 21)).alloc (.cells #[.slice (some ⟨W.heap.size, 0, none⟩) n n] 46)).cell? ⟨g1, 0, none⟩ = some (.pointer (some ⟨g2, 0, none⟩)) := s5.rot4.blk.cell 0
    have ko5 : ((W.alloc (.cells (madeCells #[.int .i32 0] n) 21)).alloc (.cells #[.slice (some ⟨W.heap.size, 0, none⟩) n n] 46)).cell? ⟨bo, 0, none⟩ = some (.slice A n c) := s5.rot5.blk.cell 0
    have s6 : At B _ _ := s5.rot2.cons fun _ h => h
    clear s3 s4 b3 b4 s2 b2 ks hl1 hm1
    go_wp2_with (refine wpList_make_row _ rfl (.tmp 18) (.tmp 18) 46 rfl 21 i0 _ Try.underlying46 hi0 hz0 hz1 rfl .i64 .i64 n rfl rfl hz3 (by omega) ?_)
    generalize (W.alloc (.cells (madeCells #[.int .i32 0] n) 21)).alloc (.cells #[.slice (some ⟨W.heap.size, 0, none⟩) n n] 46) = W5 at *
    generalize W.heap.size + 1 = bv at *
    generalize W.heap.size = gv at *
    rw [show List.replicate n (Value.int .i32 0) = fillL n 0 (vV l0 mo ops) (.int .i32 0) from (fillL_zero _ _ _).symm] at s6
    have hall := all_apply bo bs bv B W5 hle5 g2 mo be hlm hmo A n c ops HN.out h8 hlen (fun k => valsR gv n (fillL n k (vV l0 mo ops) (.int .i32 0)) :: vboxR bv gv n :: oboxR bo A n c :: sboxR bs none :: blkR g1 54 #[.pointer (some ⟨g2, 0, none⟩)] :: L)
      (fun k W L' hb hW => hrd W L' (b5.trans hb) (Sep.drop (Sep.drop (Sep.drop (Sep.drop (Sep.drop hW))))))
      (fun k j W L' hk hj hb hW => by
        obtain ⟨_, l, hl⟩ := mStep_met (show (mStep mo k (kindAt ops k) (mAt mo be ops k)).2.1 = (j : Int) by rw [hj])
        have := mAt_len mo be ops hlm k
        rw [hl] at this
        simp at this
        have := HM0.out
        omega)
      (fun k W L' hk hj hb hW => by
        rcases below_step mo k (kindAt ops k) (mAt mo be ops k) with ⟨_, e⟩ | ⟨_, _, e, _⟩
        · exact absurd hj e
        · have := mAt_len mo be ops hlm k
          have := HM0.out
          omega)
      (fun k hk hc => by
        rw [fillL_keep _ _ _ _ (by unfold vV; rw [mVal_none (by rw [HBE.out]; exact hc) (by rw [HBE.out]; exact pair_code hc)])])
      ((Sep.rot3 s6).cons fun _ h => h.cons fun _ h => h.cons fun _ h => (Sep.rot3 (Sep.rot3 h)))
    go_wp2_with fail
    refine hall.mono ?_
    rintro e w6 ⟨g, rfl, s7, b7⟩
    have hle7 := Nat.le_trans hle5 b7.size
    have b7 := b5.trans b7
    clear hall s6 s5 b5 km ko5 ko
    rw [← toldK_zero n (mCode mo be ops) (mVal l0 mo ops)] at s7
    have kv : w6.cell? ⟨bv, 0, none⟩ = some (.slice (some ⟨gv, 0, none⟩) n n) := s7.rot4.blk.cell 0
    go_wp2_with fail
    go_loopg [27] n (fun g' k wr => ∃ k' : Nat, k' + g' = n ∧ k = .int .i64 (k' : Int) ∧ At B wr (slRes 42 2 (some ⟨g, 0, none⟩) n n ((toldK n (mCode mo be ops) (mVal l0 mo ops) k').flatMap resIn) :: meetR g2 mo (mAt mo be ops n) :: valsR gv n (fillL n n (vV l0 mo ops) (.int .i32 0)) :: vboxR bv gv n :: oboxR bo A n c :: sboxR bs none :: blkR g1 54 #[.pointer (some ⟨g2, 0, none⟩)] :: L) ∧ Below B w wr ∧ B ≤ wr.heap.size)
    case atStart => exact ⟨0, by omega, rfl, s7, b7, hle7⟩
    case round =>
      clear s7 b7 kv hle7
      obtain ⟨k, hk, rfl, s8, b8, hle8⟩ := hrel
      by_cases hlt : k < n
      · have hfl : k < (toldK n (mCode mo be ops) (mVal l0 mo ops) k).length := by rw [toldK_len]; exact hlt
        obtain ⟨t0, t1⟩ := res_at _ k hfl
        have hst := res_set2 _ k hfl (mVal l0 mo ops k)
        rw [toldK_get _ _ _ _ _ hlt, if_neg (by omega)] at t0 t1 hst
        dsimp only at t0 t1 hst
        rw [toldK_set n (mCode mo be ops) (mVal l0 mo ops) k] at hst
        have gvv : wr.cell? ⟨gv, k, none⟩ = some (.int .i32 (mVal l0 mo ops k)) := (s8.rot3.slat hle8 k (vV l0 mo ops k) (by rw [List.getElem?_eq_getElem (by rw [fillL_length]; exact hlt), fillL_get _ _ _ _ _ hlt, if_pos hlt])).1
        obtain ⟨k1, k2, k3⟩ := s8.slat hle8 (k * 2 + 1) _ t1
        obtain ⟨k4, k5⟩ := k3 (.int .i32 (mVal l0 mo ops k))
        rw [hst] at k4
        have b9 := b8.trans k5
        have hle9 := Nat.le_trans hle8 k5.size
        clear k3 k5 t0 t1 hst hfl s8 b8
        generalize mVal l0 mo ops k = vl at *
        go_wp2_with fail
        go_roundg (gk - 1)
        case measure => omega
        case rel => exact ⟨k + 1, by omega, by go_num, k4, b9, hle9⟩
      · obtain rfl : k = n := by omega
        have hst : At B wr (meetR g2 mo (mAt mo be ops k) :: blkR g1 54 #[.pointer (some ⟨g2, 0, none⟩)] :: slRes 42 2 (some ⟨g, 0, none⟩) k k ((toldK k (mCode mo be ops) (mVal l0 mo ops) k).flatMap resIn) :: L) :=
          Sep.cons (fun _ h => h.rot2) (s8.rot3.drop.rot3.drop.rot3.drop.rot3.drop).rot2
        have hnil : (mAt mo be ops k).1 = [] := by
          have := mAt_len mo be ops hlm k
          have := HM0.out
          exact List.length_eq_zero_iff.1 (by omega)
        have hd := defer_nil (bo := bo) (bs := bs) hst hnil .returning
        go_wp2_with fail
        refine leaves_cons (f := 29) (args := #[.pointer (some ⟨g1, 0, none⟩), .pointer (some ⟨bs, 0, none⟩), .pointer (some ⟨bo, 0, none⟩)]) (by simp) (by simp [go_sem]) ?_
        refine hd.mono ?_
        rintro e u' w9 ⟨rfl, rfl, rfl⟩
        exact ⟨_, results_tmp rfl _ _ _, ⟨g, rfl, by rw [HBE.out]; exact hst.drop.drop, b8⟩⟩
  · obtain ⟨s3, b3⟩ := apply_o2 hlm hmo hB2 b2 s2
    have hle3 := Nat.le_trans hB' b3.size
    generalize ((w2.alloc (.cells #[.pointer (some ⟨w2.heap.size + 1, 0, none⟩)] 54)).alloc (.cells #[.slice none 0 0, .int .i64 (be : Int), .int .i64 (mo : Int)] 56)).drew = W at *
    generalize w2.heap.size + 1 = g2 at *
    generalize w2.heap.size = g1 at *
    have km : W.cell? ⟨g1, 0, none⟩ = some (.pointer (some ⟨g2, 0, none⟩)) := s3.rot2.blk.cell 0
    have ko : W.cell? ⟨bo, 0, none⟩ = some (.slice A n c) := s3.rot3.blk.cell 0
    have s4 := row_new hle3 hlen (z := .int .i32 0) 21 s3
    have b4 := b3.alloc hle3 (.cells (madeCells #[.int .i32 0] n) 21)
    have s5 := s4.alloc (by simp; omega) #[.slice (some ⟨W.heap.size, 0, none⟩) n n] 46
    have b5 := b4.alloc (by simp; omega) (.cells #[.slice (some ⟨W.heap.size, 0, none⟩) n n] 46)
    simp only [World.size_alloc] at s5
    have hle5 : B ≤ ((W.alloc (.cells (madeCells #[.int .i32 0] n) 21)).alloc (.cells #[.slice (some ⟨W.heap.size, 0, none⟩) n n] 46)).heap.size := by simp; omega
    have km : ((W.alloc (.cells (madeCells #[.int .i32 0] n) 21)).alloc (.cells #[.slice (some ⟨W.heap.size, 0, none⟩) n n] 46)).cell? ⟨g1, 0, none⟩ = some (.pointer (some ⟨g2, 0, none⟩)) := s5.rot4.blk.cell 0
    have ko5 : ((W.alloc (.cells (madeCells #[.int .i32 0] n) 21)).alloc (.cells #[.slice (some ⟨W.heap.size, 0, none⟩) n n] 46)).cell? ⟨bo, 0, none⟩ = some (.slice A n c) := s5.rot5.blk.cell 0
    have s6 : At B _ _ := s5.rot2.cons fun _ h => h
    clear s3 s4 b3 b4 s2 b2 ks hl1 hm1
    go_wp2_with (refine wpList_make_row _ rfl (.tmp 18) (.tmp 18) 46 rfl 21 i0 _ Try.underlying46 hi0 hz0 hz1 rfl .i64 .i64 n rfl rfl hz3 (by omega) ?_)
    generalize (W.alloc (.cells (madeCells #[.int .i32 0] n) 21)).alloc (.cells #[.slice (some ⟨W.heap.size, 0, none⟩) n n] 46) = W5 at *
    generalize W.heap.size + 1 = bv at *
    generalize W.heap.size = gv at *
    rw [show List.replicate n (Value.int .i32 0) = fillL n 0 (vV l0 mo ops) (.int .i32 0) from (fillL_zero _ _ _).symm] at s6
    have hall := all_apply bo bs bv B W5 hle5 g2 mo be hlm hmo A n c ops HN.out h8 hlen (fun k => valsR gv n (fillL n k (vV l0 mo ops) (.int .i32 0)) :: vboxR bv gv n :: oboxR bo A n c :: sboxR bs none :: blkR g1 54 #[.pointer (some ⟨g2, 0, none⟩)] :: L)
      (fun k W L' hb hW => hrd W L' (b5.trans hb) (Sep.drop (Sep.drop (Sep.drop (Sep.drop (Sep.drop hW))))))
      (fun k j W L' hk hj hb hW => by
        obtain ⟨_, l, hl⟩ := mStep_met (show (mStep mo k (kindAt ops k) (mAt mo be ops k)).2.1 = (j : Int) by rw [hj])
        have := mAt_len mo be ops hlm k
        rw [hl] at this
        simp at this
        have := HM0.out
        omega)
      (fun k W L' hk hj hb hW => by
        rcases below_step mo k (kindAt ops k) (mAt mo be ops k) with ⟨_, e⟩ | ⟨_, _, e, _⟩
        · exact absurd hj e
        · have := mAt_len mo be ops hlm k
          have := HM0.out
          omega)
      (fun k hk hc => by
        rw [fillL_keep _ _ _ _ (by unfold vV; rw [mVal_none (by rw [HBE.out]; exact hc) (by rw [HBE.out]; exact pair_code hc)])])
      ((Sep.rot3 s6).cons fun _ h => h.cons fun _ h => h.cons fun _ h => (Sep.rot3 (Sep.rot3 h)))
    go_wp2_with fail
    refine hall.mono ?_
    rintro e w6 ⟨g, rfl, s7, b7⟩
    have hle7 := Nat.le_trans hle5 b7.size
    have b7 := b5.trans b7
    clear hall s6 s5 b5 km ko5 ko
    rw [← toldK_zero n (mCode mo be ops) (mVal l0 mo ops)] at s7
    have kv : w6.cell? ⟨bv, 0, none⟩ = some (.slice (some ⟨gv, 0, none⟩) n n) := s7.rot4.blk.cell 0
    go_wp2_with fail
    go_loopg [27] n (fun g' k wr => ∃ k' : Nat, k' + g' = n ∧ k = .int .i64 (k' : Int) ∧ At B wr (slRes 42 2 (some ⟨g, 0, none⟩) n n ((toldK n (mCode mo be ops) (mVal l0 mo ops) k').flatMap resIn) :: meetR g2 mo (mAt mo be ops n) :: valsR gv n (fillL n n (vV l0 mo ops) (.int .i32 0)) :: vboxR bv gv n :: oboxR bo A n c :: sboxR bs none :: blkR g1 54 #[.pointer (some ⟨g2, 0, none⟩)] :: L) ∧ Below B w wr ∧ B ≤ wr.heap.size)
    case atStart => exact ⟨0, by omega, rfl, s7, b7, hle7⟩
    case round =>
      clear s7 b7 kv hle7
      obtain ⟨k, hk, rfl, s8, b8, hle8⟩ := hrel
      by_cases hlt : k < n
      · have hfl : k < (toldK n (mCode mo be ops) (mVal l0 mo ops) k).length := by rw [toldK_len]; exact hlt
        obtain ⟨t0, t1⟩ := res_at _ k hfl
        have hst := res_set2 _ k hfl (mVal l0 mo ops k)
        rw [toldK_get _ _ _ _ _ hlt, if_neg (by omega)] at t0 t1 hst
        dsimp only at t0 t1 hst
        rw [toldK_set n (mCode mo be ops) (mVal l0 mo ops) k] at hst
        have gvv : wr.cell? ⟨gv, k, none⟩ = some (.int .i32 (mVal l0 mo ops k)) := (s8.rot3.slat hle8 k (vV l0 mo ops k) (by rw [List.getElem?_eq_getElem (by rw [fillL_length]; exact hlt), fillL_get _ _ _ _ _ hlt, if_pos hlt])).1
        obtain ⟨k1, k2, k3⟩ := s8.slat hle8 (k * 2 + 1) _ t1
        obtain ⟨k4, k5⟩ := k3 (.int .i32 (mVal l0 mo ops k))
        rw [hst] at k4
        have b9 := b8.trans k5
        have hle9 := Nat.le_trans hle8 k5.size
        clear k3 k5 t0 t1 hst hfl s8 b8
        generalize mVal l0 mo ops k = vl at *
        go_wp2_with fail
        go_roundg (gk - 1)
        case measure => omega
        case rel => exact ⟨k + 1, by omega, by go_num, k4, b9, hle9⟩
      · obtain rfl : k = n := by omega
        have hst : At B wr (meetR g2 mo (mAt mo be ops k) :: blkR g1 54 #[.pointer (some ⟨g2, 0, none⟩)] :: slRes 42 2 (some ⟨g, 0, none⟩) k k ((toldK k (mCode mo be ops) (mVal l0 mo ops) k).flatMap resIn) :: L) :=
          Sep.cons (fun _ h => h.rot2) (s8.rot3.drop.rot3.drop.rot3.drop.rot3.drop).rot2
        have hnil : (mAt mo be ops k).1 = [] := by
          have := mAt_len mo be ops hlm k
          have := HM0.out
          exact List.length_eq_zero_iff.1 (by omega)
        have hd := defer_nil (bo := bo) (bs := bs) hst hnil .returning
        go_wp2_with fail
        refine leaves_cons (f := 29) (args := #[.pointer (some ⟨g1, 0, none⟩), .pointer (some ⟨bs, 0, none⟩), .pointer (some ⟨bo, 0, none⟩)]) (by simp) (by simp [go_sem]) ?_
        refine hd.mono ?_
        rintro e u' w9 ⟨rfl, rfl, rfl⟩
        exact ⟨_, results_tmp rfl _ _ _, ⟨g, rfl, by rw [HBE.out]; exact hst.drop.drop, b8⟩⟩
end Go.Proofs.Ytdjehackbebpaaa
