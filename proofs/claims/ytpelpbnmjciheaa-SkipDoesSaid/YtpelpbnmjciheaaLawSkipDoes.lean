/-
  The walk of SkipDoes.
-/
import Derived.Test.YtpelpbnmjciheaaSkipU
import Derived.Deep.RegionLaw
namespace Go.Proofs.Ytpelpbnmjciheaa
open Go.RowKit Go.Rp

theorem grow_near {S : Nat → Prop} {w w' : World} {o : Obj} : ∀ b, grow S (w.alloc o).drew w' b → grow S w w' b := fun b hb => by
  rcases hb with hb | hb
  · exact .inl hb
  · have h1 := hb.1
    simp at h1
    exact .inr ⟨by omega, hb.2⟩
set_option maxRecDepth 100000 in
set_option maxHeartbeats 4000000 in
theorem SkipDoes_walk (w : World) (mo : Int) (hmo : (Lit.int .i64 mo).wf = true) (x : Int) (hx : (Lit.int .u8 x).wf = true) (a : Option Addr) (n c : Nat) (ds : List Deed) (h0 : InRows 5 deedIn (deedOk w) w a n c ds) (a' : Option Addr) (n' c' : Nat) (zs : List Int) (h1 : InInts .u8 w a' n' c' zs) :
    Calls Try.prog 3 #[.int .i64 mo, .int .u8 x, .slice a n c, .slice a' n' c'] w fun e w' => e = .returned (.bool true) ∧ Below w.heap.size w w' := by
  have hle : w.heap.size ≤ w.heap.size := Nat.le_refl _
  have s0 : At w.heap.size w [] := trivial
  obtain ⟨bs, hbn, h8, hr⟩ := h1.bytes
  have hc1 := h1.le
  have hro : Reads w.heap.size w [] 5 a n (ds.flatMap deedIn) := Reads.of_arg h0.rd fun _ h => h
  have hrb : Reads w.heap.size w [] 1 a' n' (bs.map fun (x : Nat) => Value.int .u8 (x : Int)) := Reads.of_arg hr fun _ h => h
  have hn := h0.len
  have hok := h0.ok
  have e1 := h0.reach
  have e2 := h1.reach
  obtain ⟨x0, x1⟩ := wf_u8 hx
  obtain ⟨r30, hr30, hr30a, hr30b⟩ := tmod_nat x0 x1 (k := 30) (by omega)
  obtain ⟨r9, hr9, hr9a, hr9b⟩ := tmod_nat x0 x1 (k := 9) (by omega)
  have e30 : x.tmod 30 = (r30 : Int) := hr30
  have e9 : x.tmod 9 = (r9 : Int) := hr9
  have hhv := heavy_s (c := c) hle s0 hn hro (fun d hd => ⟨(hok d hd).2.1.reach, (hok d hd).2.2.reach⟩) e1
  have HN := Lib.hid hn
  have HB := Lib.hid hbn
  have HOK := Lib.hid hok
  have H8 := Lib.hid h8
  clear h0 h1 hr hn hbn hok h8 hr30 hr9 hmo hx
  go_enter Try.func3, Try.ntmps3
  go_wp2_with fail
  refine (hhv).mono ?_
  rintro e w1 ⟨T, rfl, hT, _, b1⟩
  have HT := Lib.hid hT
  clear hT hhv
  by_cases hbig : ¬ (T ≤ 500 ∧ n ≤ 30 ∧ n' ≤ 200)
  · by_cases hT : 500 < T
    · have q1 : (500 : Int) < (T : Int) := by omega
      clear hbig hT
      go_wp2_with fail
      refine (known_s b1.size (s0.keep b1)).mono ?_
      rintro e w2 ⟨rfl, s2, b2⟩
      go_wp2_with fail
      go_ret
      exact ⟨rfl, b1.trans b2⟩
    · have q1 : ¬ (500 : Int) < (T : Int) := by omega
      by_cases hn : 30 < n
      · have q2 : (30 : Int) < (n : Int) := by omega
        clear hbig hT hn
        go_wp2_with fail
        refine (known_s b1.size (s0.keep b1)).mono ?_
        rintro e w2 ⟨rfl, s2, b2⟩
        go_wp2_with fail
        go_ret
        exact ⟨rfl, b1.trans b2⟩
      · have q2 : ¬ (30 : Int) < (n : Int) := by omega
        have q3 : (200 : Int) < (n' : Int) := by omega
        clear hbig hT hn
        go_wp2_with fail
        refine (known_s b1.size (s0.keep b1)).mono ?_
        rintro e w2 ⟨rfl, s2, b2⟩
        go_wp2_with fail
        go_ret
        exact ⟨rfl, b1.trans b2⟩
  · obtain ⟨hT5, hn30, hn200⟩ : T ≤ 500 ∧ n ≤ 30 ∧ n' ≤ 200 := by omega
    have q1 : decide ((500 : Int) < (T : Int)) = false := decide_eq_false (by omega)
    have q2 : decide ((30 : Int) < (n : Int)) = false := decide_eq_false (by omega)
    have q3 : decide ((200 : Int) < (n' : Int)) = false := decide_eq_false (by omega)
    have hdr : ∀ d ∈ ds, DeedR w.heap.size w [] d := fun d hd => by
      obtain ⟨k, h2, h3⟩ := HOK.out d hd
      obtain ⟨k0, k1⟩ := wf_u8 k
      have := HT.out (by omega) d hd
      exact ⟨k0, k1, h2.len, h3.len, by omega, by omega, Reads.of_arg h2.rd fun _ h => h, Reads.of_arg h3.rd fun _ h => h⟩
    have HDR := Lib.hid hdr
    clear hbig hdr
    go_wp2_with fail
    refine (known_s b1.size (s0.keep b1)).mono ?_
    rintro e w2 ⟨rfl, s2, b2⟩
    have b2 := b1.trans b2
    obtain ⟨i0, hi0, hz0, hz1, hz2⟩ := info_parts info_deed
    clear HT HOK hT5
    go_wp2_with fail
    clear q1 q2 q3
    go_loopg [9, 10, 11, 12] 30 (fun g own j u v wr => ∃ (i j0 : Nat) (A9 : Option Addr) (c9 : Nat) (es : List Deed), i + g = 30 ∧ Hid (j0 = i + i) ∧ j0 ≤ 60 ∧ j = .int .i64 (j0 : Int) ∧ own = .slice A9 i c9 ∧ Hid (es.length = i) ∧ Hid (okD es) ∧ At w.heap.size wr (slRes 31 5 A9 i c9 (es.flatMap deedIn) :: dsR es :: []) ∧ Below w.heap.size w wr)
    case atStart => exact ⟨0, 0, none, 0, [], by omega, Lib.hid rfl, by omega, rfl, rfl, Lib.hid rfl, Lib.hid (fun _ h => (by cases h)), (ds_nil s2).nilSl _ _, b2⟩
    case round =>
      clear s2 b2 b1 s0
      obtain ⟨i, j0, A9, c9, es, hi, HJ, hj60, rfl, rfl, HES, HOK, sr, br⟩ := hrel
      by_cases hlt : j0 + 1 < n' ∧ j0 < 60
      · obtain ⟨hl1, hl2⟩ := hlt
        have p1 : (j0 : Int) + 1 < (n' : Int) := by omega
        have p2 : (j0 : Int) < 60 := by omega
        have p3 : (j0 : Int) < (n' : Int) := by omega
        have p4 : (0 : Int) ≤ (j0 : Int) := by omega
        have p5 : (0 : Int) ≤ (j0 : Int) + 1 := by omega
        have hj1 : j0 < bs.length := by rw [HB.out]; omega
        have hj2 : j0 + 1 < bs.length := by rw [HB.out]; omega
        have v0 := H8.out _ (List.getElem_mem hj1)
        have v1 := H8.out _ (List.getElem_mem hj2)
        obtain ⟨y0, hy0⟩ : ∃ y, bs[j0] = y := ⟨_, rfl⟩
        obtain ⟨y1, hy1⟩ : ∃ y, bs[j0 + 1] = y := ⟨_, rfl⟩
        rw [hy0] at v0
        rw [hy1] at v1
        have hx0 : (bs.map fun (x : Nat) => Value.int .u8 (x : Int))[j0]? = some (.int .u8 (y0 : Int)) := by simp [hj1, hy0]
        have hx1 : (bs.map fun (x : Nat) => Value.int .u8 (x : Int))[j0 + 1]? = some (.int .u8 (y1 : Int)) := by simp [hj2, hy1]
        have HX0 := Lib.hid hx0
        have HX1 := Lib.hid hx1
        obtain ⟨m, hm⟩ : ∃ m, n' = j0 + m := ⟨n' - j0, by omega⟩
        obtain ⟨A3, c3, hs3, hrd3⟩ := bytes_tail a' n' c' j0 m hm hc1
        have hrt : Reads w.heap.size wr (slRes 31 5 A9 i c9 (es.flatMap deedIn) :: dsR es :: []) 1 A3 m ((bs.drop j0).map fun (x : Nat) => Value.int .u8 (x : Int)) := fun w' b h hb => by
          obtain ⟨R, hR⟩ := hrb w' (b ++ [slRes 31 5 A9 i c9 (es.flatMap deedIn), dsR es]) (by simpa using h) (br.trans hb)
          rw [List.map_drop]
          exact ⟨R, hrd3 _ _ _ hR⟩
        have hri := rising_any (c := c3) (Nat.le_trans hle br.size) sr (bs := bs.drop j0) (n := m) (by rw [List.length_drop, HB.out]; omega) (by omega) (fun y hy => H8.out y (List.mem_of_mem_drop hy)) hrt
        have HM := Lib.hid hm
        clear hj1 hj2 hy0 hy1 hx0 hx1 hm hrd3 hrt
        go_wp2_with fail
        refine hri.mono ?_
        rintro e w6 ⟨A1, A2, d1, d2, k1, k2, vs, hs, rfl, hv1, hv2, hk1, hk2, hd1, s6, b6⟩
        have b6 := br.trans b6
        have hk20 : k1 ≤ 20 := by rw [hk1]; exact Nat.min_le_right _ _
        have HV1 := Lib.hid hv1
        have HV2 := Lib.hid hv2
        clear hri hk1 hv1 hv2 hs3
        obtain ⟨t, ht⟩ : ∃ t, y1 % (k1 + 1) = t := ⟨_, rfl⟩
        have htk : t ≤ k1 := by have := Nat.mod_lt y1 (show 0 < k1 + 1 by omega); omega
        have htm : (y1 : Int).tmod ((k1 : Int) + 1) = (t : Int) := by rw [← ht]; rfl
        have hst := ints_take A1 k1 d1 t (by omega)
        obtain ⟨r, hr1⟩ : ∃ r, y1 % 16 = r := ⟨_, rfl⟩
        obtain ⟨q, hq1⟩ : ∃ q, y1 / 16 = q := ⟨_, rfl⟩
        have hr2 : r < 16 := by omega
        have hq2 : q ≤ 15 := by omega
        have hrm : (y1 : Int).tmod 16 = (r : Int) := by rw [← hr1]; rfl
        have hqd : (y1 : Int).tdiv 16 = (q : Int) := by rw [← hq1]; rfl
        have u1 : IntKind.u8.wrap (r : Int) = (r : Int) := IntWalk.u8_in _ (by omega)
        have u2 : IntKind.u8.wrap (q : Int) = (q : Int) := IntWalk.u8_in _ (by omega)
        have u3 : IntKind.i32.wrap (r : Int) = (r : Int) := IntWalk.i32_in _ (by omega)
        have u4 : IntKind.i32.wrap ((r : Int) - 5) = (r : Int) - 5 := IntWalk.i32_in _ (by omega)
        have u5 : IntKind.i64.wrap (q : Int) = (q : Int) := IntWalk.i64_in _ (by omega)
        have u6 : IntKind.i64.wrap (y1 : Int) = (y1 : Int) := IntWalk.i64_in _ (by omega)
        have u7 : IntKind.i64.wrap (t : Int) = (t : Int) := IntWalk.i64_in _ (by omega)
        have u8 : IntKind.i64.wrap ((j0 : Int) + 1) = (j0 : Int) + 1 := IntWalk.i64_in _ (by omega)
        have u9 : IntKind.i64.wrap ((k1 : Int) + 1) = (k1 : Int) + 1 := IntWalk.i64_in _ (by omega)
        have kn0 : ¬ ((k1 : Int) + 1 = 0) := by omega
        clear ht hr1 hq1
        obtain ⟨R6, hR6⟩ := hrb w6 [_, _, _, _] s6 b6
        obtain ⟨b, off, rfl, _, hcells⟩ := hR6.at (by omega)
        have g0 : w6.cell? ⟨b, off + j0, none⟩ = some (.int .u8 (y0 : Int)) := hcells _ _ HX0.out
        have g1 : w6.cell? ⟨b, off + (j0 + 1), none⟩ = some (.int .u8 (y1 : Int)) := hcells _ _ HX1.out
        have ptn : ((j0 : Int) + 1).toNat = j0 + 1 := by omega
        clear hcells hR6 HX0 HX1
        have hle6 := Nat.le_trans hle b6.size
        have s7 := s6.rot3
        obtain ⟨S, hS, hSU, hnext⟩ := s7.frontAny (fun x hx => Nat.le_trans hle6 hx)
        have hS' : Sl w6 31 5 A9 i c9 (es.flatMap deedIn) S := hS
        have hb1 : i + 1 ≤ maxLen := by simp only [maxLen]; omega
        have hb2 : (i + 1) * 64 ≤ 140737488355328 := by omega
        clear hS s6 sr
        go_wp2_with fail
        go_region_law (refine step_append_sl _ rfl (.tmp 49) (.tmp 83) _ rfl 31 i0 _ 5 64 Try.underlying22 hi0 hz0 hz1 hz2 rfl (by decide) A9 i c9 _ S (by rfl) (by exact (hS'.alloc _).drew) (· = w6.heap.size) (some ⟨w6.heap.size, 0, none⟩) 1 1 [.int .u8 (y0 : Int), .int .i32 ((r : Int) - 5), .int .i64 (q : Int), .slice A1 t d1, .slice A2 k2 d2] (by rfl) (by exact (Rd.lit (sz := 5) w6 _ #[.int .u8 (y0 : Int), .int .i32 ((r : Int) - 5), .int .i64 (q : Int), .slice A1 t d1, .slice A2 k2 d2] 1 rfl).drew) (by simp [Value.oneCell']) hb1 hb2 ?_; intro A10 c10 w9 hown9 hmod9)
        all_goals
          have hm9 : Mod S w6 w9 := (((Mod.refl S w6).alloc _).drew).trans hmod9 fun x hx => .inl hx
          have s9 := hnext (slRes 31 5 A10 (i + 1) c10 (es.flatMap deedIn ++ [.int .u8 (y0 : Int), .int .i32 ((r : Int) - 5), .int .i64 (q : Int), .slice A1 t d1, .slice A2 k2 d2])) w9 (Sl.mono hown9 fun x hx => grow_near x hx) hm9
          have b9 := b6.trans (hm9.below hle6 fun x hx => (hSU x hx).1)
          have s10 := s9.cons fun _ h => ds_join h htk (y0 : Int) ((r : Int) - 5) (q : Int)
          clear htm hst hrm hqd u1 u2 u3 u4 u5 u6 u7 u8 u9 kn0 g0 g1 ptn hown9 hmod9 hnext hS' s9 s7 hi0 hz0 hz1 hz2
          go_wp2_with fail
          go_roundg (29 - i)
          case measure => have := HJ.out; omega
          case rel =>
            refine ⟨i + 1, j0 + 2, A10, c10, es ++ [⟨(y0 : Int), (r : Int) - 5, (q : Int), A1, t, d1, A2, k2, d2, vs.take t, hs⟩], by have := HJ.out; omega, Lib.hid (by have := HJ.out; omega), by have := HJ.out; omega, by go_num, rfl, Lib.hid (by simp [HES.out]), Lib.hid fun d hd => ?_, ?_, b9⟩
            · rw [List.mem_append] at hd
              rcases hd with hd | hd
              · exact HOK.out d hd
              · obtain rfl : d = _ := by simpa using hd
                exact ⟨show (0 : Int) ≤ (y0 : Int) by omega, show (y0 : Int) ≤ 255 by omega, show (vs.take t).length = t by rw [List.length_take, HV1.out]; omega, HV2.out, show t ≤ 100000 by omega, show k2 ≤ 100000 by omega⟩
            · rw [List.flatMap_append]
              simpa [deedIn] using s10
      · have hexit : ¬ (j0 + 1 < n' ∧ j0 < 60) := hlt
        have hi30 : i ≤ 30 := by omega
        have hrl : Reads w.heap.size wr [slRes 31 5 A9 i c9 (es.flatMap deedIn), dsR es] 5 a n (ds.flatMap deedIn) := ((hro.later br).more _).more _
        have hdl : ∀ d ∈ ds, DeedR w.heap.size wr [slRes 31 5 A9 i c9 (es.flatMap deedIn), dsR es] d := fun d hd => (((HDR.out d hd).later br).more _).more _
        have hdo : ∀ d ∈ es, DeedR w.heap.size wr [slRes 31 5 A9 i c9 (es.flatMap deedIn), dsR es] d := fun d hd => ds_own (a := [_]) HOK.out hd
        have hd1 := does_s (c := c) (Nat.le_trans hle br.size) sr mo HN.out hrl hdl (by omega)
        have HRL := Lib.hid hrl
        have HDL := Lib.hid hdl
        have HDO := Lib.hid hdo
        have hn1000 : n ≤ 1000 := by omega
        clear hrl hdl hdo hlt hi HJ hi0 hz0 hz1 hz2 hro hrb
        have hcase : (¬ (j0 : Int) + 1 < (n' : Int)) ∨ ((j0 : Int) + 1 < (n' : Int) ∧ ¬ (j0 : Int) < 60) := by omega
        clear hexit
        rcases hcase with p1 | ⟨p1, p2⟩
        all_goals
          go_wp2_with fail
          refine hd1.mono ?_
          rintro e w6 ⟨rfl, s6, b6⟩
          go_wp2_with fail
          refine (does_s (w := w6) (c := c9) (Nat.le_trans (Nat.le_trans hle br.size) b6.size) s6 (r30 : Int) HES.out (Reads.own []) (fun d hd => (HDO.out d hd).later b6) (by omega)).mono ?_
          rintro e w7 ⟨rfl, s7, b7⟩
          have b7 := b6.trans b7
          go_wp2_with fail
          refine (does_s (w := w7) (c := c) (Nat.le_trans (Nat.le_trans hle br.size) b7.size) s7 (r9 : Int) HN.out (HRL.out.later b7) (fun d hd => (HDL.out d hd).later b7) hn1000).mono ?_
          rintro e w8 ⟨rfl, s8, b8⟩
          have b8 := b7.trans b8
          go_wp2_with fail
          go_ret
          exact ⟨rfl, br.trans b8⟩
end Go.Proofs.Ytpelpbnmjciheaa
