/-
  The walk of EndsPairs.
-/
import Derived.Test.YtgaomaaloaglpaaEndsG
namespace Go.Proofs.Ytgaomaaloaglpaa
open Go.RowKit Go.Rp

theorem pN_is (hv ms : Int) {ops : List (Int × Int)} {n : Nat} (hn : ops.length = n) : pN (capI ms) (belI hv ms) ops n = (pairsL hv ms ops).map fun x => Value.int .i64 x := by subst hn; rfl
theorem cN_is (hv ms : Int) {ops : List (Int × Int)} {n : Nat} (hn : ops.length = n) : cN (capI ms) (belI hv ms) ops n = (codesL hv ms ops).map fun x => Value.int .u8 x := by subst hn; rfl

section
variable {B : Nat} {w : World} {L : List Res} {A : Option Addr} {n c : Nat} {ops : List (Int × Int)}
theorem rSpared_s {f : Nat → Int} (hB : B ≤ w.heap.size) (hlen : n ≤ 100000) (h : At B w (slRes 3 1 A n c (((List.range n).map f).map fun x => Value.int .i64 x) :: L)) {v : Nat} (hv' : metN f n = v) :
    Calls Try.prog 23 #[.slice A n c] w fun e w' => e = .returned (.int .i64 (v : Int)) ∧ w = w' := by
  have hs : Sl w 3 1 A n c (((List.range n).map f).map fun x => Value.int .i64 x) (fun x => B ≤ x) := h.get
  have HV := Lib.hid hv'
  clear hv' h
  go_enter Try.func23, Try.ntmps23
  go_wp2_with fail
  go_loopg [3, 4] n (fun g v k wr => ∃ m : Nat, m + g = n ∧ k = .int .i64 (m : Int) ∧ w = wr ∧ v = .int .i64 ((metN f m : Nat) : Int))
  case atStart => exact ⟨0, by omega, rfl, rfl, rfl⟩
  case round =>
    obtain ⟨m, hm, rfl, rfl, rfl⟩ := hrel
    by_cases hlt : m < n
    · obtain ⟨g, off, rfl, _, _, _, hx⟩ := hs.at (by omega)
      have g0 : w.cell? ⟨g, off + m, none⟩ = some (.int .i64 (f m)) := hx m _ (by simp [hlt])
      have hml := metN_le f m
      have hms : Hid (metN f (m + 1) = metN f m + if 0 ≤ f m then 1 else 0) := Lib.hid rfl
      clear hx
      generalize metN f m = q at *
      generalize f m = x at *
      by_cases hx : 0 ≤ x
      · have hms2 := Lib.hid (hms.out.trans (by rw [if_pos hx]))
        clear hms
        go_wp2_with fail
        go_roundg (gk - 1)
        case measure => omega
        case rel => exact ⟨m + 1, by omega, by go_num, rfl, by rw [hms2.out]; go_num⟩
      · have hms2 := Lib.hid (hms.out.trans (by rw [if_neg hx]))
        clear hms
        go_wp2_with fail
        go_roundg (gk - 1)
        case measure => omega
        case rel => exact ⟨m + 1, by omega, by go_num, rfl, by rw [hms2.out]; rfl⟩
    · obtain rfl : m = n := by omega
      go_wp2_with fail
      go_ret
      exact ⟨ret_i64 (by rw [HV.out]), rfl⟩

set_option maxRecDepth 100000 in
theorem pairs_y (hB : B ≤ w.heap.size) (hv ms : Int) (hn : ops.length = n) (h8 : ∀ o ∈ ops, 0 ≤ o.1 ∧ o.1 ≤ 255) (hlen : n ≤ 100000) (h : At B w L) (hrd : ∀ W L', Below B w W → At B W (L ++ L') → ∃ R, Rd W R 2 A n (ops.flatMap opIn)) :
    Calls Try.prog 11 #[.int .i64 hv, .int .i64 ms, .slice A n c] w fun e w' => e = .returned (.bool true) ∧ At B w' L ∧ Below B w w' := by
  have p1 := Pairs_y (c := c) hB hv ms hn h8 hlen h hrd
  have HN := Lib.hid hn
  clear hn
  go_enter Try.func11, Try.ntmps11
  go_wp2_with fail
  refine p1.mono ?_
  rintro e w1 ⟨gp, gc, rfl, s1, b1⟩
  have p2 := rPairs_y (c := c) (Nat.le_trans hB b1.size) hv ms HN.out h8 hlen s1 (fun W L' hb hW => hrd W (L' ++ []) (b1.trans hb) (by simpa using (Sep.drop (Sep.drop hW))))
  clear p1
  go_wp2_with fail
  refine p2.mono ?_
  rintro e w2 ⟨A1, c1, A2, c2, rfl, s2, b2⟩
  have b2 := b1.trans b2
  rw [pN_is hv ms HN.out, cN_is hv ms HN.out] at s2
  clear p2 s1 b1
  have i1 := Ints_s (c := n) (c' := c1) (Nat.le_trans hB b2.size) s2 (Sl.rd s2.rot3.get) (Sl.rd s2.get) (by omega) (by omega) (decide_eq_true rfl)
  go_wp2_with fail
  refine i1.mono ?_
  rintro e w3 ⟨rfl, s3, b3⟩
  have b3 := b2.trans b3
  clear i1 s2 b2
  have i1 := Codes_s (c := n) (c' := c2) (Nat.le_trans hB b3.size) s3 (Sl.rd s3.rot4.get) (Sl.rd s3.rot2.get) (by omega) (by omega) (decide_eq_true rfl)
  go_wp2_with fail
  refine i1.mono ?_
  rintro e w4 ⟨rfl, s4, b4⟩
  have b4 := b3.trans b4
  clear i1 s3 b3
  obtain ⟨q, hq⟩ : ∃ q, metN (mPair (capI ms) (belI hv ms) ops) n = q := ⟨_, rfl⟩
  have HQ := Lib.hid hq
  clear hq
  have i1 := Spared_y (c := c) (Nat.le_trans hB b4.size) hv ms HN.out h8 hlen s4 (fun W L' hb hW => hrd W (L' ++ []) (b4.trans hb) (by simpa using (Sep.drop (Sep.drop (Sep.drop (Sep.drop hW)))))) HQ.out
  go_wp2_with fail
  refine i1.mono ?_
  rintro e w5 ⟨rfl, s5, b5⟩
  have b5 := b4.trans b5
  clear i1 s4 b4
  have s6 := s5
  rw [← pN_is hv ms HN.out] at s6
  have i1 := rSpared_s (Nat.le_trans hB b5.size) hlen s6 HQ.out
  clear s6
  go_wp2_with fail
  refine i1.mono ?_
  rintro e w6 ⟨rfl, rfl⟩
  go_wp2_with fail
  go_ret
  exact ⟨by simp, s5.drop.drop.drop.drop, b5⟩
theorem pairs_in (hB : B ≤ w.heap.size) (hv ms : Int) {R : Nat → Prop} (hr : Rd w R 2 A n (ops.flatMap opIn)) (hR : ∀ b, R b → b < B) (hn : ops.length = n) (h8 : ∀ o ∈ ops, 0 ≤ o.1 ∧ o.1 ≤ 255) (hlen : n ≤ 100000) (h : At B w L) :
    Calls Try.prog 11 #[.int .i64 hv, .int .i64 ms, .slice A n c] w fun e w' => e = .returned (.bool true) ∧ At B w' L ∧ Below B w w' :=
  pairs_y hB hv ms hn h8 hlen h fun W _ hb _ => ⟨R, hr.below hb hR⟩
theorem pairs_o (hB : B ≤ w.heap.size) (hv ms : Int) (hn : ops.length = n) (h8 : ∀ o ∈ ops, 0 ≤ o.1 ∧ o.1 ≤ 255) (hlen : n ≤ 100000) (h : At B w (opsR A n ops :: L)) :
    Calls Try.prog 11 #[.int .i64 hv, .int .i64 ms, .slice A n c] w fun e w' => e = .returned (.bool true) ∧ At B w' (opsR A n ops :: L) ∧ Below B w w' :=
  pairs_y hB hv ms hn h8 hlen h fun W _ hb hW => ⟨_, hW.get⟩
end

set_option maxRecDepth 100000 in
set_option maxHeartbeats 2000000 in
theorem EndsPairs_walk (w : World) (hv : Int) (hhv : (Lit.int .i64 hv).wf = true) (ms : Int) (hms : (Lit.int .i64 ms).wf = true) (a : Option Addr) (n c : Nat) (ops : List (Int × Int)) (h0 : InRows 2 opIn opOk w a n c ops) (k : Int) (hk : (Lit.int .u8 k).wf = true) (a' : Option Addr) (n' c' : Nat) (zs : List Int) (h1 : InInts .u8 w a' n' c' zs) :
    Calls Try.prog 3 #[.int .i64 hv, .int .i64 ms, .slice a n c, .int .u8 k, .slice a' n' c'] w fun e w' => e = .returned (.bool true) ∧ Below w.heap.size w w' := by
  obtain ⟨bs, hbn, h256, hrb⟩ := h1.bytes
  have hr : Rd w (· < w.heap.size) 2 a n (ops.flatMap opIn) := h0.rd
  have h8 : ∀ o ∈ ops, 0 ≤ o.1 ∧ o.1 ≤ 255 := fun o ho => wf_u8 (h0.ok o ho).1
  have hreach := h0.reach
  have hreach' := h1.reach
  have HN := Lib.hid h0.len
  have HNB := Lib.hid hbn
  have hlt : ∀ b, (fun x => x < w.heap.size) b → b < w.heap.size := fun _ h => h
  have s0 : At w.heap.size w [] := trivial
  obtain ⟨k0, k1⟩ := wf_u8 hk
  clear h0 h1 hbn hhv hms
  have hw0 : IntKind.i64.wrap ((n : Int) + (n' : Int)) = (n : Int) + (n' : Int) := IntWalk.i64_in _ (by omega)
  by_cases hbig : 150 < n + n'
  · have hL : (150 : Int) < (n : Int) + (n' : Int) := by omega
    go_enter Try.func3, Try.ntmps3
    go_wp2_with fail
    refine (known_any _).mono ?_
    rintro e w1 ⟨rfl, b1⟩
    go_wp2_with fail
    go_ret
    exact ⟨rfl, b1⟩
  have hL : ¬ (150 : Int) < (n : Int) + (n' : Int) := by omega
  obtain ⟨K, hK, kmod, _, _⟩ := u8_mod hk 5 (by omega)
  have hq0 : (0 : Int) ≤ k / 5 := by omega
  obtain ⟨K2, hK2⟩ : ∃ K2 : Nat, k / 5 % 7 = (K2 : Int) := ⟨(k / 5 % 7).toNat, by omega⟩
  obtain ⟨K3, hK3, kmod3, _, _⟩ := u8_mod hk 6 (by omega)
  have hk2 : (K2 : Int) < 7 := by omega
  clear hk
  go_enter Try.func3, Try.ntmps3
  go_wp2_with fail
  refine (known_s (Nat.le_refl _) s0).mono ?_
  rintro e w1 ⟨rfl, s1, b1⟩
  go_wp2_with fail
  refine (pairs_in b1.size hv ms (hr.below b1 hlt) hlt HN.out h8 (by omega) s1).mono ?_
  rintro e w2 ⟨rfl, s2, b2⟩
  have b2 := b1.trans b2
  go_wp2_with fail
  refine (Ops_s b2.size s2 HNB.out (hrb.below b2 hlt) h256 (by omega) 5 (by omega) (by omega)).mono ?_
  rintro e w3 ⟨A3, m3, c3, rfl, hm3, hm8, s3, b3⟩
  have b3 := b2.trans b3
  go_wp2_with fail
  refine (pairs_o b3.size (K : Int) (K2 : Int) hm3 (opsOf_ok 5 (by omega) (by omega) bs) (by omega) s3).mono ?_
  rintro e w4 ⟨rfl, s4, b4⟩
  have b4 := b3.trans b4
  go_wp2_with fail
  refine (Ops_s b4.size s4 HNB.out (hrb.below b4 hlt) h256 (by omega) 4 (by omega) (by omega)).mono ?_
  rintro e w5 ⟨A5, m5, c5, rfl, hm5, hm85, s5, b5⟩
  have b5 := b4.trans b5
  go_wp2_with fail
  refine (pairs_o b5.size ((K : Int) - 1) ms hm5 (opsOf_ok 4 (by omega) (by omega) bs) (by omega) s5).mono ?_
  rintro e w6 ⟨rfl, s6, b6⟩
  have b6 := b5.trans b6
  go_wp2_with fail
  refine (pairs_in b6.size hv (K3 : Int) (hr.below b6 hlt) hlt HN.out h8 (by omega) s6).mono ?_
  rintro e w7 ⟨rfl, s7, b7⟩
  have b7 := b6.trans b7
  go_wp2_with fail
  go_ret
  exact ⟨by simp, b7⟩
end Go.Proofs.Ytgaomaaloaglpaa
