/-
  The walk of FairAsks.
-/
import Derived.Test.YtmcnccfbligeaaaFairT
import Derived.Deep.RegionHeld3
namespace Go.Proofs.Ytmcnccfbligeaaa
open Go.RowKit Go.Rp Go.Maps

theorem asks_any {w : World} {A : Option Addr} {n c : Nat} {picks : List Int} (hp : Picks w A n picks) (hc : n ≤ c) (hcm : c ≤ maxLen) {A2 : Option Addr} {n2 c2 : Nat} {spans : List Span} (hs : Spans w A2 n2 spans) {fr to b : Int} (hf : -9223372036854775808 ≤ fr ∧ fr ≤ 9223372036854775807) (ht : -9223372036854775808 ≤ to ∧ to ≤ 9223372036854775807) (hb : -9223372036854775808 ≤ b ∧ b ≤ 9223372036854775807) :
    Calls Try.prog 15 #[.slice A n c, .slice A2 n2 c2, .int .i64 fr, .int .i64 to, .int .i64 b] w fun e w' => e = .returned (.bool true) ∧ Below w.heap.size w w' := by
  obtain ⟨v, hv⟩ : ∃ v, fairI picks spans fr to b = v := ⟨_, rfl⟩
  have HV := Lib.hid hv
  clear hv
  go_enter Try.func15, Try.ntmps15
  go_wp2_with fail
  refine (fair_v hp hs hf ht hb HV.out).mono ?_
  rintro e w1 ⟨rfl, b1⟩
  go_wp2_with fail
  refine (rfair_v (hp.keep b1) hc hcm (hs.keep b1) hf ht hb HV.out).mono ?_
  rintro e w2 ⟨rfl, b2⟩
  have b2 := b1.trans (b2.mono b1.size)
  go_wp2_with fail
  go_ret
  exact ⟨by simp, b2⟩

set_option maxRecDepth 100000 in
set_option maxHeartbeats 4000000 in
theorem FairAsks_walk (w : World) (n : Int) (hn : (Lit.int .i64 n).wf = true) (b : Int) (hb : (Lit.int .i64 b).wf = true) (ps : Int) (hps : (Lit.int .i64 ps).wf = true)
    (a : Option Addr) (m c : Nat) (picks : List Int) (h0 : InInts .i64 w a m c picks) (a2 : Option Addr) (n2 c2 : Nat) (spans : List Span) (h1 : InRows 8 spanIn spanOk w a2 n2 c2 spans)
    (fr : Int) (hf : (Lit.int .i64 fr).wf = true) (to : Int) (ht : (Lit.int .i64 to).wf = true)
    (ob : Int) (hob : (Lit.int .u8 ob).wf = true) (th : Int) (hth : (Lit.int .i64 th).wf = true) (cap : Int) (hcap : (Lit.int .i64 cap).wf = true) (age : Int) (hage : (Lit.int .i64 age).wf = true) (pz : Int) (hpz : (Lit.int .i64 pz).wf = true) (pl : Bool)
    (k : Int) (hk : (Lit.int .u8 k).wf = true) (j : Int) (hj : (Lit.int .u8 j).wf = true) (i : Int) (hi : (Lit.int .u8 i).wf = true) :
    Calls Try.prog 6 #[.int .i64 n, .int .i64 b, .int .i64 ps, .slice a m c, .slice a2 n2 c2, .int .i64 fr, .int .i64 to, confV ob th cap age pz pl, .int .u8 k, .int .u8 j, .int .u8 i] w fun e w' => e = .returned (.bool true) ∧ Below w.heap.size w w' := by
  have hp := Picks.of_in h0
  have hs := Spans.of_in h1
  have r0 := h0.reach
  have r1 := h1.reach
  have hle := h0.le
  have hcm := h0.cap
  have HN := Lib.hid h0.len
  clear h0 h1
  by_cases hl1 : 100 < m
  · have hL1 : (100 : Int) < (m : Int) := by omega
    go_enter Try.func6, Try.ntmps6
    go_wp2_with fail
    refine (known_any _).mono ?_
    rintro e w1 ⟨rfl, b1⟩
    have b1 := ((Below.refl w.heap.size w).alloc (Nat.le_refl _) (.cells #[.int .u8 ob, .int .i64 th, .int .i64 cap, .int .i64 age, .int .i64 pz, .bool pl] 38)).trans (b1.mono (by simp))
    go_wp2_with fail
    go_ret
    exact ⟨rfl, b1⟩
  by_cases hl2 : 30 < n2
  · have hL2 : (30 : Int) < (n2 : Int) := by omega
    go_enter Try.func6, Try.ntmps6
    go_wp2_with fail
    refine (known_any _).mono ?_
    rintro e w1 ⟨rfl, b1⟩
    have b1 := ((Below.refl w.heap.size w).alloc (Nat.le_refl _) (.cells #[.int .u8 ob, .int .i64 th, .int .i64 cap, .int .i64 age, .int .i64 pz, .bool pl] 38)).trans (b1.mono (by simp))
    go_wp2_with fail
    go_ret
    exact ⟨rfl, b1⟩
  have hL1 : ¬ (100 : Int) < (m : Int) := by omega
  have hL2 : ¬ (30 : Int) < (n2 : Int) := by omega
  obtain ⟨K, hK, kmod, hk0, hk1⟩ := u8_mod hk 70 (by omega)
  obtain ⟨K2, hK2, kmod2, _, _⟩ := u8_mod hk 20 (by omega)
  obtain ⟨J2, hJ2, jmod2, hj0, hj1⟩ := u8_mod hj 60 (by omega)
  obtain ⟨I2, hI2, imod2, hi0, hi1⟩ := u8_mod hi 9 (by omega)
  obtain ⟨K3, hK3, kmod3, _, _⟩ := u8_mod hk 9 (by omega)
  obtain ⟨I3, hI3, imod3, _, _⟩ := u8_mod hi 5 (by omega)
  have t1 : IntKind.i64.wrap (k.tmod 20) = (K2 : Int) := by rw [Int.tmod_eq_emod_of_nonneg hk0, kmod2]; exact IntWalk.i64_in _ (by omega)
  have t2 : IntKind.i64.wrap (j.tmod 60) = (J2 : Int) := by rw [Int.tmod_eq_emod_of_nonneg hj0, jmod2]; exact IntWalk.i64_in _ (by omega)
  have t3 : IntKind.i64.wrap (i.tmod 9) = (I2 : Int) := by rw [Int.tmod_eq_emod_of_nonneg hi0, imod2]; exact IntWalk.i64_in _ (by omega)
  have t4 : IntKind.i64.wrap (k.tmod 9) = (K3 : Int) := by rw [Int.tmod_eq_emod_of_nonneg hk0, kmod3]; exact IntWalk.i64_in _ (by omega)
  have t5 : IntKind.i64.wrap (i.tmod 5) = (I3 : Int) := by rw [Int.tmod_eq_emod_of_nonneg hi0, imod3]; exact IntWalk.i64_in _ (by omega)
  have t6 : IntKind.i64.wrap (1 + (I3 : Int)) = 1 + (I3 : Int) := IntWalk.i64_in _ (by omega)
  have hfr := wf_i64' hf
  have hto := wf_i64' ht
  have hbb := wf_i64' hb
  obtain ⟨s, hse⟩ : ∃ s, sesI n ps = s := ⟨_, rfl⟩
  obtain ⟨q, hqe⟩ : ∃ q, bndI n b ps = q := ⟨_, rfl⟩
  obtain ⟨q2, hq2⟩ : ∃ q, bndI (K : Int) j i = q := ⟨_, rfl⟩
  obtain ⟨v, hv⟩ : ∃ v, heldI th pz picks spans b = v := ⟨_, rfl⟩
  have HS := Lib.hid hse
  have HQ := Lib.hid hqe
  have HQ2 := Lib.hid hq2
  have HV := Lib.hid hv
  have HF := Lib.hid hfr
  have HT := Lib.hid hto
  have HB := Lib.hid hbb
  have HCM := Lib.hid hcm
  clear hn hb hps hf ht hob hth hcap hage hpz hk hj hi hse hqe hq2 hv hfr hto hbb hcm
  have s0 : Sep (w.alloc (.cells #[.int .u8 ob, .int .i64 th, .int .i64 cap, .int .i64 age, .int .i64 pz, .bool pl] 38)) (fun x => w.heap.size ≤ x) [blkR w.heap.size 38 #[.int .u8 ob, .int .i64 th, .int .i64 cap, .int .i64 age, .int .i64 pz, .bool pl]] := Sep.alloc (l := []) trivial (Nat.le_refl _) _ _
  have b0 := (Below.refl w.heap.size w).alloc (Nat.le_refl _) (.cells #[.int .u8 ob, .int .i64 th, .int .i64 cap, .int .i64 age, .int .i64 pz, .bool pl] 38)
  go_enter Try.func6, Try.ntmps6
  go_wp2_with fail
  refine (known_any _).mono ?_
  rintro e w1 ⟨rfl, b1⟩
  have s1 := s0.keep b1
  have b1 := b0.trans (b1.mono (by simp))
  have KEEP : Hid (∀ w', Below w1.heap.size w1 w' → w'.cell? ⟨w.heap.size, 0, none⟩ = some (.int .u8 ob) ∧ w'.cell? ⟨w.heap.size, 1, none⟩ = some (.int .i64 th) ∧ w'.cell? ⟨w.heap.size, 2, none⟩ = some (.int .i64 cap) ∧ w'.cell? ⟨w.heap.size, 3, none⟩ = some (.int .i64 age) ∧ w'.cell? ⟨w.heap.size, 4, none⟩ = some (.int .i64 pz) ∧ w'.cell? ⟨w.heap.size, 5, none⟩ = some (.bool pl)) := Lib.hid fun w' hw => ⟨(s1.keep hw).blk.cell 0, (s1.keep hw).blk.cell 1, (s1.keep hw).blk.cell 2, (s1.keep hw).blk.cell 3, (s1.keep hw).blk.cell 4, (s1.keep hw).blk.cell 5⟩
  clear s0 b0 s1
  go_wp2_with fail
  refine (session_v HS.out).mono ?_
  rintro e w2 ⟨rfl, rfl⟩
  go_wp2_with fail
  refine (rsession_v HS.out).mono ?_
  rintro e w2 ⟨rfl, rfl⟩
  go_wp2_with fail
  refine (bound_v HQ.out).mono ?_
  rintro e w2 ⟨rfl, rfl⟩
  go_wp2_with fail
  refine (rbound_v HQ.out).mono ?_
  rintro e w2 ⟨rfl, rfl⟩
  go_wp2_with fail
  refine (bound_v HQ2.out).mono ?_
  rintro e w2 ⟨rfl, rfl⟩
  go_wp2_with fail
  refine (rbound_v HQ2.out).mono ?_
  rintro e w2 ⟨rfl, rfl⟩
  go_wp2_with fail
  obtain ⟨k0, k1, k2, k3, k4, k5⟩ := KEEP.out _ (Below.refl _ w1)
  go_region_held3 (fun w' => w'.cell? ⟨w.heap.size, 0, none⟩ = some (.int .u8 ob) ∧ w'.cell? ⟨w.heap.size, 1, none⟩ = some (.int .i64 th) ∧ w'.cell? ⟨w.heap.size, 2, none⟩ = some (.int .i64 cap) ∧ w'.cell? ⟨w.heap.size, 3, none⟩ = some (.int .i64 age) ∧ w'.cell? ⟨w.heap.size, 4, none⟩ = some (.int .i64 pz) ∧ w'.cell? ⟨w.heap.size, 5, none⟩ = some (.bool pl)) (first | (refine ⟨?_, ?_, ?_, ?_, ?_, ?_⟩ <;> assumption) | go_keep) (first
    | (go_at_call 15; ((with_reducible refine (asks_any (w := World.drew w1) (hp.keep b1.drew) hle HCM.out (hs.keep b1.drew) HF.out HT.out HB.out).mono ?_); rintro e w2 ⟨rfl, c2⟩; have c2 : Below w1.heap.size w1 w2 := (Below.refl _ w1).drew.trans c2; obtain ⟨k0, k1, k2, k3, k4, k5⟩ := KEEP.out _ c2))
    | (go_at_call 15; ((with_reducible refine (asks_any (w := w2) (hp.keep (b1.trans (c2.mono b1.size))) hle HCM.out (hs.keep (b1.trans (c2.mono b1.size))) (fr := (K2 : Int)) (to := (J2 : Int)) (b := (I2 : Int)) (by omega) (by omega) (by omega)).mono ?_); rintro e w3 ⟨rfl, c3⟩; have c3 : Below w1.heap.size w1 w3 := c2.trans (c3.mono c2.size); obtain ⟨k0, k1, k2, k3, k4, k5⟩ := KEEP.out _ c3))
    | (go_at_call 15; ((with_reducible refine (asks_any (w := w3) (hp.keep (b1.trans (c3.mono b1.size))) hle HCM.out (hs.keep (b1.trans (c3.mono b1.size))) (fr := (K3 : Int)) (to := (m : Int)) (b := 1 + (I3 : Int)) (by omega) (by omega) (by omega)).mono ?_); rintro e w4 ⟨rfl, c4⟩; have c4 : Below w1.heap.size w1 w4 := c3.trans (c4.mono c3.size); obtain ⟨k0, k1, k2, k3, k4, k5⟩ := KEEP.out _ c4))
    | (go_at_call 16; ((with_reducible refine (held_v (w := w4) (hp.keep (b1.trans (c4.mono b1.size))) (hs.keep (b1.trans (c4.mono b1.size))) HB.out HV.out).mono ?_); rintro e w5 ⟨rfl, c5⟩; have c5 : Below w1.heap.size w1 w5 := c4.trans (c5.mono c4.size); obtain ⟨k0, k1, k2, k3, k4, k5⟩ := KEEP.out _ c5))
    | (go_at_call 17; ((with_reducible refine (rheld_v (w := w5) (hp.keep (b1.trans (c5.mono b1.size))) hle HCM.out (hs.keep (b1.trans (c5.mono b1.size))) HB.out HV.out).mono ?_); rintro e w6 ⟨rfl, c6⟩; have c6 : Below w1.heap.size w1 w6 := c5.trans (c6.mono c5.size); obtain ⟨k0, k1, k2, k3, k4, k5⟩ := KEEP.out _ c6)))
  go_wp2_with fail
  go_ret
  exact ⟨by simp, b1.trans (c6.mono b1.size)⟩
end Go.Proofs.Ytmcnccfbligeaaa
