/-
  The walk of RingTurned.
-/
import Derived.Test.YtehmnhdmkjdghaaRingJ
namespace Go.Proofs.Ytehmnhdmkjdghaa
open Go.RowKit Go.Rp

/-- An operation at the other end. -/
def oth (k : Int) : Int := if k = 1 then 2 else if k = 2 then 1 else if k = 3 then 4 else if k = 4 then 3 else k
theorem oth_do (N : Nat) (l : List Int) (k v : Int) : rDo N l.reverse (oth k) v = ((rDo N l k v).1.reverse, (rDo N l k v).2) := by
  by_cases h1 : k = 1
  · subst h1
    show rDo N l.reverse 2 v = _
    by_cases h : N ≤ l.length <;> simp [rDo, h]
  · by_cases h2 : k = 2
    · subst h2
      show rDo N l.reverse 1 v = _
      by_cases h : N ≤ l.length <;> simp [rDo, h]
    · by_cases h3 : k = 3
      · subst h3
        show rDo N l.reverse 4 v = _
        rcases l with _ | ⟨x, l⟩
        · simp [rDo]
        · simp [rDo]
      · by_cases h4 : k = 4
        · subst h4
          show rDo N l.reverse 3 v = _
          rcases List.eq_nil_or_concat l with rfl | ⟨t, x, rfl⟩
          · simp [rDo]
          · rw [List.concat_eq_append, rDo_popR]
            simp [rDo]
        · have e : oth k = k := by simp [oth, h1, h2, h3, h4]
          rw [e]
          simp [rDo, h1, h2, h3, h4]
theorem turned_any (w : World) (k v : Int) (h0 : 1 ≤ k) (h5 : k ≤ 5) : Calls Try.prog 20 #[.agg #[.int .u8 k, .int .i32 v]] w fun e w' => e = .returned (.agg #[.int .u8 (oth k), .int .i32 v]) ∧ Below w.heap.size w w' := by
  rcases (show k = 1 ∨ k = 2 ∨ k = 3 ∨ k = 4 ∨ k = 5 by omega) with rfl | rfl | rfl | rfl | rfl
  · clear h0 h5
    show Calls Try.prog 20 #[.agg #[.int .u8 1, .int .i32 v]] w fun e w' => e = .returned (.agg #[.int .u8 2, .int .i32 v]) ∧ Below w.heap.size w w'
    go_enter Try.func20, Try.ntmps20
    go_wp2
    refine bodyPost_ret (v := .agg #[.int .u8 2, .int .i32 v]) (by simp [results, Try.results20, go_sem]) rfl ⟨rfl, ?_⟩
    exact (((Below.refl _ w).alloc (Nat.le_refl _) _).alloc (by simp) _).alloc (by simp; omega) _
  · clear h0 h5
    show Calls Try.prog 20 #[.agg #[.int .u8 2, .int .i32 v]] w fun e w' => e = .returned (.agg #[.int .u8 1, .int .i32 v]) ∧ Below w.heap.size w w'
    go_enter Try.func20, Try.ntmps20
    go_wp2
    refine bodyPost_ret (v := .agg #[.int .u8 1, .int .i32 v]) (by simp [results, Try.results20, go_sem]) rfl ⟨rfl, ?_⟩
    exact (((Below.refl _ w).alloc (Nat.le_refl _) _).alloc (by simp) _).alloc (by simp; omega) _
  · clear h0 h5
    show Calls Try.prog 20 #[.agg #[.int .u8 3, .int .i32 v]] w fun e w' => e = .returned (.agg #[.int .u8 4, .int .i32 v]) ∧ Below w.heap.size w w'
    go_enter Try.func20, Try.ntmps20
    go_wp2
    refine bodyPost_ret (v := .agg #[.int .u8 4, .int .i32 v]) (by simp [results, Try.results20, go_sem]) rfl ⟨rfl, ?_⟩
    exact (((Below.refl _ w).alloc (Nat.le_refl _) _).alloc (by simp) _).alloc (by simp; omega) _
  · clear h0 h5
    show Calls Try.prog 20 #[.agg #[.int .u8 4, .int .i32 v]] w fun e w' => e = .returned (.agg #[.int .u8 3, .int .i32 v]) ∧ Below w.heap.size w w'
    go_enter Try.func20, Try.ntmps20
    go_wp2
    refine bodyPost_ret (v := .agg #[.int .u8 3, .int .i32 v]) (by simp [results, Try.results20, go_sem]) rfl ⟨rfl, ?_⟩
    exact (((Below.refl _ w).alloc (Nat.le_refl _) _).alloc (by simp) _).alloc (by simp; omega) _
  · clear h0 h5
    show Calls Try.prog 20 #[.agg #[.int .u8 5, .int .i32 v]] w fun e w' => e = .returned (.agg #[.int .u8 5, .int .i32 v]) ∧ Below w.heap.size w w'
    go_enter Try.func20, Try.ntmps20
    go_wp2
    refine bodyPost_ret (v := .agg #[.int .u8 5, .int .i32 v]) (by simp [results, Try.results20, go_sem]) rfl ⟨rfl, ?_⟩
    exact (((Below.refl _ w).alloc (Nat.le_refl _) _).alloc (by simp) _).alloc (by simp; omega) _
theorem oth_ok {k : Int} (h0 : 1 ≤ k) (h5 : k ≤ 5) : 0 ≤ oth k ∧ oth k ≤ 255 := by
  unfold oth
  repeat' split
  all_goals omega
theorem opsOf_upto (kinds : Nat) (h : 0 < kinds) (bs : List Nat) : ∀ o ∈ opsOf kinds bs, 1 ≤ o.1 ∧ o.1 ≤ (kinds : Int) := by
  intro o ho
  unfold opsOf at ho
  obtain ⟨c, _, rfl⟩ := List.mem_map.1 ho
  have := Nat.mod_lt c h
  simp only
  omega

set_option maxRecDepth 100000 in
set_option maxHeartbeats 4000000 in
theorem RingTurned_walk (w : World) (ms : Int) (hms : (Lit.int .u8 ms).wf = true) (a' : Option Addr) (n' c' : Nat) (zs : List Int) (h1 : InInts .u8 w a' n' c' zs) :
    Calls Try.prog 6 #[.int .u8 ms, .slice a' n' c'] w fun e w' => e = .returned (.bool true) ∧ Below w.heap.size w w' := by
  obtain ⟨bs, hbn, h256, hrb⟩ := h1.bytes
  have hreach' := h1.reach
  have hlt : ∀ b, (fun x => x < w.heap.size) b → b < w.heap.size := fun _ h => h
  have s0 : At w.heap.size w [] := trivial
  obtain ⟨N, hN, hmod, hx0, hx1⟩ := u8_mod hms 9 (by omega)
  have hcut := cut_nat N (by omega)
  have HCUT := Lib.hid hcut
  clear h1 hms
  go_enter Try.func6, Try.ntmps6
  go_wp2_with fail
  refine (new_s (Nat.le_refl _) s0 (N : Int)).mono ?_
  rintro e w1 ⟨p, rfl, s1, b1⟩
  rw [HCUT.out] at s1
  go_wp2_with fail
  refine (new_s b1.size s1 (N : Int)).mono ?_
  rintro e w1' ⟨q, rfl, s1, b1'⟩
  have b1 := b1.trans b1'
  clear b1'
  rw [HCUT.out] at s1
  go_wp2_with fail
  refine (Ops_s b1.size s1 hbn (hrb.below b1 hlt) h256 (by omega) 5 (by omega) (by omega)).mono ?_
  rintro e w2 ⟨A1, n, c, rfl, hn, h80, s2, b2⟩
  have b2 := b1.trans b2
  have hle2 := b2.size
  have hkinds := opsOf_upto 5 (by omega) bs
  generalize opsOf 5 bs = ops at *
  have HN := Lib.hid hn
  have HK := Lib.hid hkinds
  have s3 : At w.heap.size w2 (ringR p N [] :: ringR q N [] :: opsR A1 n ops :: []) := s2.rot2.rot3
  clear s1 b1 s2 hrb h256 hbn hn hkinds hcut
  go_wp2_with fail
  go_loopw [8] (fun k wr => ∃ (m : Nat) (l : List Int), m ≤ n ∧ k = .int .i64 (m : Int) ∧ At w.heap.size wr (ringR p N l :: ringR q N l.reverse :: opsR A1 n ops :: []) ∧ Below w.heap.size w wr) (fun k _ => n - (intOf k).toNat)
  case atStart => exact ⟨0, [], by omega, rfl, s3, b2⟩
  case round =>
    clear s3 b2 hle2
    obtain ⟨m, l, hm, rfl, s2, b2⟩ := hrel
    have hle2 := b2.size
    by_cases hltm : m < n
    · have hml : m < ops.length := by rw [HN.out]; exact hltm
      obtain ⟨k0, k1⟩ := HK.out _ (List.getElem_mem hml)
      obtain ⟨b, off, rfl, _, _⟩ := (s2.rot3.get).at (by omega)
      obtain ⟨⟨k, v⟩, ho⟩ : ∃ o, ops[m] = o := ⟨_, rfl⟩
      have hcell : ∀ {W : World} {L : List Res}, At w.heap.size W (opsR (some ⟨b, off, none⟩) n ops :: L) → W.cell? ⟨b, off + m * 2, none⟩ = some (.int .u8 k) ∧ W.cell? ⟨b, off + m * 2 + 1, none⟩ = some (.int .i32 v) := fun h => by
        have := ops_at h hml
        rw [ho] at this
        exact this
      rw [ho] at k0 k1
      simp only at k0 k1
      clear ho
      obtain ⟨g0, g1⟩ := hcell s2.rot3
      obtain ⟨o0, o1⟩ := oth_ok k0 k1
      obtain ⟨⟨l2, code, x⟩, hd⟩ : ∃ r, rDo N l k v = r := ⟨_, rfl⟩
      have hd2 := oth_do N l k v
      rw [hd] at hd2
      simp only at hd2
      have HD := Lib.hid hd
      have HD2 := Lib.hid hd2
      clear hd hd2
      have hdo1 := do_s (w := wr.drew) hle2 s2.drew k v (by omega) (by omega) HD.out
      go_wp2_with fail
      go_region_held3 (fun w' => w'.cell? ⟨b, off + m * 2, none⟩ = some (.int .u8 k) ∧ w'.cell? ⟨b, off + m * 2 + 1, none⟩ = some (.int .i32 v)) (first | (refine ⟨?_, ?_⟩ <;> assumption) | go_keep) (first
        | (go_at_call 13; ((with_reducible refine hdo1.mono ?_); rintro e w5 ⟨rfl, s5, b5⟩; have hle5 := Nat.le_trans hle2 b5.size; obtain ⟨g0, g1⟩ := hcell s5.rot3))
        | (go_at_call 20; (refine (turned_any w5 k v k0 k1).mono ?_); rintro e w6 ⟨rfl, b6⟩; have s6 := s5.keep b6; have hle6 := Nat.le_trans hle5 b6.size; obtain ⟨g0, g1⟩ := hcell s6.rot3)
        | (go_at_call 13; (refine (do_s (w := w6) hle6 s6.rot2 (oth k) v o0 o1 HD2.out).mono ?_); rintro e w7 ⟨rfl, s7, b7⟩; obtain ⟨g0, g1⟩ := hcell s7.rot3))
      have b7 := ((b2.drew.trans b5).trans (b6.mono hle5)).trans b7
      go_wp2_with fail
      go_roundw
      case rel => exact ⟨m + 1, l2, by omega, by go_num, s7.rot2, b7⟩
      case measure => simp [intOf]; omega
    · obtain rfl : m = n := by omega
      obtain ⟨ln, hln⟩ : ∃ ln, l.length = ln := ⟨_, rfl⟩
      have hlnN := ring_len s2
      have hlr : l.reverse.length = ln := by rw [List.length_reverse]; exact hln
      have HLN := Lib.hid hln
      rw [hln] at hlnN
      clear hln
      have hi1 := items_s hle2 s2 HLN.out
      go_wp2_with fail
      refine hi1.mono ?_
      rintro e w3 ⟨A3, c3, rfl, s3, b3⟩
      have b3 := b2.trans b3
      have hi2 := items_s b3.size s3.rot3 hlr
      go_wp2_with fail
      refine hi2.mono ?_
      rintro e w4 ⟨A4, c4, rfl, s4, b4⟩
      have b4 := b3.trans b4
      clear hi1 hi2 s3 s2 b2 b3 hlr
      go_wp2_with fail
      go_loopw [11] (fun k wr => ∃ (i : Nat), i ≤ ln ∧ k = .int .i64 (i : Int) ∧ At w.heap.size wr (ownI A4 ln c4 l.reverse :: ringR q N l.reverse :: ownI A3 ln c3 l :: ringR p N l :: opsR A1 m ops :: []) ∧ Below w.heap.size w wr) (fun k _ => ln - (intOf k).toNat)
      case atStart => exact ⟨0, by omega, rfl, s4, b4⟩
      case round =>
        clear s4 b4
        obtain ⟨k, hk, rfl, s4, b4⟩ := hrel
        by_cases hkl : k < ln
        · have hl0 : k < l.length := by rw [HLN.out]; exact hkl
          obtain ⟨b1, o1, rfl, _, _, _, h1⟩ := Sl.at s4.get (by omega)
          obtain ⟨b2, o2, rfl, _, _, _, h2⟩ := Sl.at s4.rot3.get (by omega)
          have g1 := h1 (ln - 1 - k) (.int .i32 l[k]) (by
            rw [iv_q]
            rw [List.getElem?_reverse (by rw [HLN.out]; omega), HLN.out, show ln - 1 - (ln - 1 - k) = k by omega, List.getElem?_eq_getElem hl0])
          have g2 := h2 k (.int .i32 l[k]) (iv_q (List.getElem?_eq_getElem hl0))
          obtain ⟨j, hj⟩ : ∃ j, ln - 1 - k = j := ⟨_, rfl⟩
          rw [hj] at g1
          have e1 : (ln : Int) - 1 - (k : Int) = (j : Int) := by omega
          have e2 : (j : Int) < (ln : Int) := by omega
          generalize l[k] = x at *
          clear h1 h2 hj hl0
          go_wp2_with fail
          go_quiet (fail)
          go_wp2_with fail
          go_roundw
          case rel => exact ⟨k + 1, by omega, by go_num, s4.drewN _, below_drewN b4 _⟩
          case measure => simp [intOf]; omega
        · obtain rfl : k = ln := by omega
          have hk := known_s b4.size s4
          go_wp2_with fail
          refine hk.mono ?_
          rintro e w5 ⟨rfl, s5, b5⟩
          go_wp2_with fail
          go_ret
          exact ⟨rfl, b4.trans b5⟩
end Go.Proofs.Ytehmnhdmkjdghaa
