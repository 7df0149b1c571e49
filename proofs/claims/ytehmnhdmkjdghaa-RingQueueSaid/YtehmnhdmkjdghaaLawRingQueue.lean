/-
  The walk of RingQueue.
-/
import Derived.Test.YtehmnhdmkjdghaaRingJ
namespace Go.Proofs.Ytehmnhdmkjdghaa
open Go.RowKit Go.Rp

theorem mid_len {zs : List Int} {m a : Nat} (hm : m ≤ zs.length) : ((zs.take m).drop a).length = m - a := by simp; omega
theorem mid_pop {zs : List Int} {m a : Nat} (hm : m ≤ zs.length) (ha : a < m) : (zs.take m).drop a = zs[a] :: (zs.take m).drop (a + 1) := by
  rw [List.drop_eq_getElem_cons (by simp; omega)]
  simp
theorem mid_push {zs : List Int} {m a : Nat} (hm : m < zs.length) (ha : a ≤ m) : (zs.take m).drop a ++ [zs[m]] = (zs.take (m + 1)).drop a := by
  rw [List.take_succ_eq_append_getElem hm, List.drop_append_of_le_length (by simp; omega)]

set_option maxRecDepth 100000 in
set_option maxHeartbeats 4000000 in
theorem RingQueue_walk (w : World) (ms : Int) (hms : (Lit.int .u8 ms).wf = true) (a : Option Addr) (n c : Nat) (zs : List Int) (h0 : InInts .i32 w a n c zs) (st : Int) (hst : (Lit.int .u8 st).wf = true) :
    Calls Try.prog 7 #[.int .u8 ms, .slice a n c, .int .u8 st] w fun e w' => e = .returned (.bool true) ∧ Below w.heap.size w w' := by
  have hzl := h0.len
  have hrd := h0.rd
  have hle := h0.le
  have hreach := h0.reach
  have s0 : At w.heap.size w [] := trivial
  obtain ⟨N0, hN0, hmod, hx0, hx1⟩ := u8_mod hms 9 (by omega)
  have hst' := wf_u8 hst
  clear hst hms h0
  obtain ⟨N, hN⟩ : ∃ N : Nat, (1 : Int) + (N0 : Int) = (N : Int) := ⟨1 + N0, by omega⟩
  have h1 := new_s (Nat.le_refl _) s0 (N : Int)
  rw [cut_nat N (by omega)] at h1
  have HZL := Lib.hid hzl
  clear hzl
  by_cases hlen : 200 < n
  · have hL : (200 : Int) < (n : Int) := by omega
    go_enter Try.func7, Try.ntmps7
    go_wp2_with fail
    refine (h1).mono ?_
    rintro e w1 ⟨p, rfl, s1, b1⟩
    go_wp2_with fail
    refine (known_s b1.size s1).mono ?_
    rintro e w2 ⟨rfl, s2, b2⟩
    go_wp2_with fail
    go_ret
    exact ⟨rfl, b1.trans b2⟩
  · have hL : ¬ (200 : Int) < (n : Int) := by omega
    go_enter Try.func7, Try.ntmps7
    go_wp2_with fail
    refine (h1).mono ?_
    rintro e w1 ⟨p, rfl, s1, b1⟩
    clear h1
    go_wp2_with fail
    go_loopw [9, 10] (fun av k wr => ∃ (m at_ : Nat), m ≤ n ∧ at_ ≤ m ∧ m - at_ ≤ N ∧ av = .int .i64 (at_ : Int) ∧ k = .int .i64 (m : Int) ∧ At w.heap.size wr (ringR p N ((zs.take m).drop at_) :: []) ∧ Below w.heap.size w wr) (fun _ k _ => n - (intOf k).toNat)
    case atStart => exact ⟨0, 0, by omega, by omega, by omega, rfl, rfl, s1, b1⟩
    case round =>
      clear s1 b1
      obtain ⟨m, at_, hm, ham, hN2, rfl, rfl, s2, b2⟩ := hrel
      by_cases hlt : m < n
      · have hmz : m < zs.length := by rw [HZL.out]; exact hlt
        have haz : at_ < zs.length := by omega
        obtain ⟨g, off, rfl, hg, hcells⟩ := hrd.at (by omega)
        have c1 : w.cell? ⟨g, off + m, none⟩ = some (.int .i32 zs[m]) := hcells m _ (by simp [hmz])
        have c2 : w.cell? ⟨g, off + at_, none⟩ = some (.int .i32 zs[at_]) := hcells at_ _ (by simp [haz])
        have LEN := Lib.hid (mid_len (zs := zs) (m := m) (a := at_) (by omega))
        have PSH := Lib.hid (mid_push (zs := zs) (m := m) (a := at_) hmz ham)
        obtain ⟨x, hx⟩ : ∃ x, zs[m] = x := ⟨_, rfl⟩
        rw [hx] at c1
        have PSH' := PSH.out
        rw [hx] at PSH'
        have PSH := Lib.hid PSH'
        clear PSH'
        obtain ⟨d, hd⟩ : ∃ d, m - at_ = d := ⟨_, rfl⟩
        rw [hd] at hN2
        have hl1 := rlen_s s2 (n := d) (by rw [LEN.out]; exact hd)
        have hmod7 : (0 : Int) ≤ (m : Int) := by omega
        by_cases hfull : d = N
        · have e1 : ((d : Int) == (N : Int)) = true := by simp; omega
          have POP := Lib.hid (mid_pop (zs := zs) (m := m) (a := at_) (by omega) (by omega))
          clear LEN PSH hcells
          have hpo := popL_s b2.size (POP.out ▸ s2)
          go_wp2_with (go_at_call 15; refine hl1.mono ?_; rintro e w3 ⟨rfl, rfl⟩)
          refine hpo.mono ?_
          rintro e w5 ⟨rfl, s5, b5⟩
          have b5 := b2.trans b5
          clear hpo
          have c2 := (b5.cell (p := ⟨g, off + at_, none⟩) hg).trans c2
          have c1 := (b5.cell (p := ⟨g, off + m, none⟩) hg).trans c1
          have hl5 : ((zs.take m).drop (at_ + 1)).length + 1 = d := by rw [mid_len (by omega)]; omega
          have PSH2 := Lib.hid (mid_push (zs := zs) (m := m) (a := at_ + 1) hmz (by omega))
          rw [hx] at PSH2
          generalize zs[at_] = y at *
          have hpu := pushR_s b5.size s5 x
          rw [decide_eq_true (by omega), if_pos (by omega), PSH2.out] at hpu
          clear hl5 PSH2 s5
          go_wp2_with fail
          refine hpu.mono ?_
          rintro e w8 ⟨rfl, s8, b8⟩
          have b8 := b5.trans b8
          go_wp2_with fail
          go_roundw
          case rel => exact ⟨m + 1, at_ + 1, by omega, by omega, by omega, by go_num, by go_num, s8, b8⟩
          case measure => simp [intOf]; omega
        · have e1 : ((d : Int) == (N : Int)) = false := by simp; omega
          have hd0 : d < N := by omega
          by_cases hz : d = 0
          · subst hz
            have hzz : ¬ (0 : Int) < ((0 : Nat) : Int) := by decide
            by_cases hc : st % 7 = (m : Int) % 7
            · skip
              have c1 := (b2.cell (p := ⟨g, off + m, none⟩) hg).trans c1
              have hpu := pushR_s b2.size s2 x
              rw [decide_eq_true (by rw [LEN.out]; omega), if_pos (by rw [LEN.out]; omega), PSH.out] at hpu
              go_wp2_with (go_at_call 15; refine hl1.mono ?_; rintro e w3 ⟨rfl, rfl⟩)
              refine hpu.mono ?_
              rintro e w8 ⟨rfl, s8, b8⟩
              have b8 := b2.trans b8
              go_wp2_with fail
              go_roundw
              case rel => exact ⟨m + 1, at_, by omega, by omega, by omega, by go_num, by go_num, s8, b8⟩
              case measure => simp [intOf]; omega
            have e2 : (st % 7 == (m : Int) % 7) = false := by simpa using hc
            have c1 := (b2.cell (p := ⟨g, off + m, none⟩) hg).trans c1
            have hpu := pushR_s b2.size s2 x
            rw [decide_eq_true (by rw [LEN.out]; omega), if_pos (by rw [LEN.out]; omega), PSH.out] at hpu
            go_wp2_with (go_at_call 15; refine hl1.mono ?_; rintro e w3 ⟨rfl, rfl⟩)
            refine hpu.mono ?_
            rintro e w8 ⟨rfl, s8, b8⟩
            have b8 := b2.trans b8
            go_wp2_with fail
            go_roundw
            case rel => exact ⟨m + 1, at_, by omega, by omega, by omega, by go_num, by go_num, s8, b8⟩
            case measure => simp [intOf]; omega
          · by_cases hc : st % 7 = (m : Int) % 7
            · have POP := Lib.hid (mid_pop (zs := zs) (m := m) (a := at_) (by omega) (by omega))
              have hz' : (0 : Int) < (d : Int) := by omega
              clear LEN PSH hcells
              have hpo := popL_s b2.size (POP.out ▸ s2)
              go_wp2_with (go_at_call 15; refine hl1.mono ?_; rintro e w3 ⟨rfl, rfl⟩)
              refine hpo.mono ?_
              rintro e w5 ⟨rfl, s5, b5⟩
              have b5 := b2.trans b5
              clear hpo
              have c2 := (b5.cell (p := ⟨g, off + at_, none⟩) hg).trans c2
              have c1 := (b5.cell (p := ⟨g, off + m, none⟩) hg).trans c1
              have hl5 : ((zs.take m).drop (at_ + 1)).length + 1 = d := by rw [mid_len (by omega)]; omega
              have PSH2 := Lib.hid (mid_push (zs := zs) (m := m) (a := at_ + 1) hmz (by omega))
              rw [hx] at PSH2
              generalize zs[at_] = y at *
              have hpu := pushR_s b5.size s5 x
              rw [decide_eq_true (by omega), if_pos (by omega), PSH2.out] at hpu
              clear hl5 PSH2 s5
              go_wp2_with fail
              refine hpu.mono ?_
              rintro e w8 ⟨rfl, s8, b8⟩
              have b8 := b5.trans b8
              go_wp2_with fail
              go_roundw
              case rel => exact ⟨m + 1, at_ + 1, by omega, by omega, by omega, by go_num, by go_num, s8, b8⟩
              case measure => simp [intOf]; omega
            · have e2 : (st % 7 == (m : Int) % 7) = false := by simpa using hc
              have c1 := (b2.cell (p := ⟨g, off + m, none⟩) hg).trans c1
              have hpu := pushR_s b2.size s2 x
              rw [decide_eq_true (by rw [LEN.out]; omega), if_pos (by rw [LEN.out]; omega), PSH.out] at hpu
              go_wp2_with (go_at_call 15; refine hl1.mono ?_; rintro e w3 ⟨rfl, rfl⟩)
              refine hpu.mono ?_
              rintro e w8 ⟨rfl, s8, b8⟩
              have b8 := b2.trans b8
              go_wp2_with fail
              go_roundw
              case rel => exact ⟨m + 1, at_, by omega, by omega, by omega, by go_num, by go_num, s8, b8⟩
              case measure => simp [intOf]; omega
      · obtain rfl : m = n := by omega
        obtain ⟨A3, hsl, hr3⟩ := slice_from a m c at_ (m - at_) (by omega) hle
        have hrd3 := hr3 w _ _ hrd
        rw [← List.map_drop] at hrd3
        obtain ⟨d, hd⟩ : ∃ d, m - at_ = d := ⟨_, rfl⟩
        rw [hd] at hrd3 hsl
        rw [List.take_of_length_le (by rw [HZL.out]; omega)] at s2
        have LEN := Lib.hid (show (zs.drop at_).length = d by rw [List.length_drop, HZL.out]; exact hd)
        generalize zs.drop at_ = l at *
        clear hr3
        have hle2 := b2.size
        have hdn : d ≤ 1000000 := by omega
        have hk := known_s (w := wr.drew) hle2 s2.drew
        go_wp2_with fail
        go_region_held3 (fun _ => True) (first | trivial | go_keep) (first
          | (go_at_call 14; (refine hk.mono ?_); rintro e w3 ⟨rfl, s3, b3⟩; have b3 := b2.drew.trans b3; have hle3 := b3.size)
          | (go_at_call 21; (refine (items_s (w := w3) hle3 s3 LEN.out).mono ?_); rintro e w4 ⟨A4, c4, rfl, s4, b4⟩; have b4 := b3.trans b4)
          | (go_at_call 23; (refine (Same_t (w := w4) b4.size s4 (Sl.read s4.get) (hrd3.below b4 fun _ h => h) hdn hdn).mono ?_); rintro e w5 ⟨rfl, s5, b5⟩; have b5 := b4.trans b5))
        go_wp2_with fail
        go_ret
        exact ⟨rfl, b5⟩
end Go.Proofs.Ytehmnhdmkjdghaa
