/-
  The walk of RingDoes.
-/
import Derived.Test.YtehmnhdmkjdghaaRingJ
import Derived.Test.YtehmnhdmkjdghaaFields
import Derived.Deep.RegionWith
import Derived.Deep.RegionHeld3
namespace Go.Proofs.Ytehmnhdmkjdghaa
open Go.RowKit Go.Rp

theorem opIn_at' (l : List (Int × Int)) (k : Nat) (hk : k < l.length) : (l.flatMap opIn)[k * 2]? = some (.int .u8 l[k].1) ∧ (l.flatMap opIn)[k * 2 + 1]? = some (.int .i32 l[k].2) := by
  induction l generalizing k with
  | nil => simp at hk
  | cons o l ih =>
    rcases k with _ | k
    · simp [opIn]
    · have := ih k (by simpa using hk)
      simp only [List.flatMap_cons, opIn, List.cons_append, List.nil_append, List.getElem_cons_succ]
      rw [show (k + 1) * 2 = k * 2 + 2 by omega]
      simpa [opIn] using this
set_option maxHeartbeats 4000000 in
theorem does_s (w : World) (most : Int) (A : Option Addr) (n c : Nat) (R : Nat → Prop) (ops : List (Int × Int)) (hn : ops.length = n) (hr : Rd w R 2 A n (ops.flatMap opIn)) (hk : ∀ o ∈ ops, 0 ≤ o.1 ∧ o.1 ≤ 255) (hlen : n ≤ 1000000) :
    Calls Try.prog 19 #[.int .i64 most, .slice A n c] w fun e w' => e = .returned (.bool true) ∧ Below w.heap.size w w' := by
  have HN := Lib.hid hn
  clear hn
  have h1 := new_s (B := w.heap.size) (w := w) (L := []) (Nat.le_refl _) trivial most
  have hM : cut most ≤ 1000 := by unfold cut; omega
  generalize hMM : cut most = M at *
  have HM := Lib.hid hMM
  go_enter Try.func19, Try.ntmps19
  go_wp2_with fail
  refine (h1).mono ?_
  rintro e w1 ⟨p, rfl, s1, b1⟩
  clear h1
  go_wp2_with fail
  refine (rmost_s s1).mono ?_
  rintro e w2 ⟨rfl, rfl⟩
  have h2 := rMost_any w1 most
  rw [hMM] at h2
  go_wp2_with fail
  refine (h2).mono ?_
  rintro e w2 ⟨rfl, rfl⟩
  clear h2 hMM
  go_wp2_with fail
  have s2 : At w.heap.size w1 [ringR p M [], intsR .i32 none 0 []] := (s1.made (fun x hx => by have := b1.size; omega) (Below.refl _ w1) (a := intsR .i32 none 0 []) Rd.nil).rot2
  go_loopw [6, 7, 8, 9] (fun l k x r wr => ∃ (m : Nat) (A' : Option Addr) (nl c' : Nat) (l' : List Int), m ≤ n ∧ k = .int .i64 (m : Int) ∧ l = .slice A' nl c' ∧ l'.length = nl ∧ nl ≤ c' ∧ nl ≤ M ∧ At w.heap.size wr [ringR p M l', intsR .i32 A' nl l'] ∧ Below w.heap.size w wr) (fun _ k _ _ _ => n - (intOf k).toNat)
  case atStart => exact ⟨0, none, 0, 0, [], by omega, rfl, rfl, rfl, by omega, by omega, s2, b1⟩
  case round =>
    clear s1 s2 b1
    obtain ⟨m, A', nl, c', l', hm, rfl, rfl, hl', hle, hnM, s2, b2⟩ := hrel
    by_cases hlt : m < n
    · obtain ⟨b, off, rfl, hbR, hcells⟩ := hr.at (by omega)
      have hlt' : m < ops.length := by rw [HN.out]; exact hlt
      obtain ⟨c0, c1⟩ := opIn_at' ops m hlt'
      obtain ⟨k0, k1⟩ := hk _ (List.getElem_mem hlt')
      have g0 : w.cell? ⟨b, off + m * 2, none⟩ = some (.int .u8 ops[m].1) := hcells _ _ c0
      have g1 : w.cell? ⟨b, off + m * 2 + 1, none⟩ = some (.int .i32 ops[m].2) := hcells _ _ c1
      have glt := World.block_lt_of_cell? w _ g0
      simp only at glt
      have g0 := (b2.cell (p := ⟨b, off + m * 2, none⟩) glt).trans g0
      have g1 := (b2.cell (p := ⟨b, off + m * 2 + 1, none⟩) glt).trans g1
      clear hcells c0 c1
      generalize hom : ops[m] = o at *
      clear hom
      obtain ⟨k, v⟩ := o
      simp only at *
      have hlen2 := rDo_len k v (show l'.length ≤ M by omega)
      have h2 := rrDo_any wr most A' nl c' _ l' hl' hle s2.rot2.get (by rw [HM.out]; exact hnM) k v
      rw [HM.out] at h2
      obtain ⟨⟨l2, code, x⟩, hd⟩ : ∃ r, rDo M l' k v = r := ⟨_, rfl⟩
      rw [hd] at h2 hlen2
      simp only at h2 hlen2
      obtain ⟨n2, hn2⟩ : ∃ n2, l2.length = n2 := ⟨_, rfl⟩
      unfold RDone at h2
      rw [hn2] at h2 hlen2
      have HD := Lib.hid hd
      have HN2 := Lib.hid hn2
      have HL := Lib.hid hl'
      clear hd hn2 hl'
      go_wp2_with fail
      refine h2.mono ?_
      rintro e w3 ⟨A3, c3, rfl, hle3, hT, hb3⟩
      clear h2
      obtain ⟨S, hS1, hS2, hS3⟩ := s2.rot2.front (a' := intsR .i32 A3 n2 l2) fun x hx => by have := b2.size; omega
      have s3 := hS3 w3 (hT S hS1) (Mod.of_below hb3)
      have b3 := b2.trans (hb3.mono b2.size)
      clear hS1 hS2 hS3 hT
      have g0 := (hb3.cell (p := ⟨b, off + m * 2, none⟩) (Nat.lt_of_lt_of_le glt b2.size)).trans g0
      have g1 := (hb3.cell (p := ⟨b, off + m * 2 + 1, none⟩) (Nat.lt_of_lt_of_le glt b2.size)).trans g1
      have s4 := s3.alloc b3.size #[.int .u8 code, .int .i32 x] 31
      have b4 : Below w.heap.size w (w3.alloc (.cells #[.int .u8 code, .int .i32 x] 31)) := b3.alloc b3.size _
      have g0 := (World.cell?_alloc_lt w3 (.cells #[.int .u8 code, .int .i32 x] 31) ⟨b, off + m * 2, none⟩ (Nat.lt_of_lt_of_le glt b3.size)).trans g0
      have g1 := (World.cell?_alloc_lt w3 (.cells #[.int .u8 code, .int .i32 x] 31) ⟨b, off + m * 2 + 1, none⟩ (Nat.lt_of_lt_of_le glt b3.size)).trans g1
      go_wp2_with fail
      generalize hw4 : w3.alloc (.cells #[.int .u8 code, .int .i32 x] 31) = w4 at *
      generalize hq : w3.heap.size = q at *
      have r0 : w4.cell? ⟨q, 0, none⟩ = some (.int .u8 code) := s4.blk.cell 0
      have r1 : w4.cell? ⟨q, 1, none⟩ = some (.int .i32 x) := s4.blk.cell 1
      clear hw4 hq hb3 s3 b3 s2 b2 hle hnM HL
      have HM6 : n2 ≤ 1000000 := by omega
      go_region_held3 (fun w' => w'.cell? ⟨b, off + m * 2, none⟩ = some (.int .u8 k) ∧ w'.cell? ⟨b, off + m * 2 + 1, none⟩ = some (.int .i32 v) ∧ w'.cell? ⟨q, 0, none⟩ = some (.int .u8 code) ∧ w'.cell? ⟨q, 1, none⟩ = some (.int .i32 x)) (first | (refine ⟨?_, ?_, ?_, ?_⟩ <;> assumption) | go_keep) (first
        | (go_at_call 13; refine (do_s (w := World.drew w4) b4.drew.size s4.drew.rot3 k v k0 k1 HD.out).mono ?_; rintro e w5 ⟨rfl, s5, b5⟩; have g0 := (b5.cell (p := ⟨b, off + m * 2, none⟩) glt).trans g0; have g1 := (b5.cell (p := ⟨b, off + m * 2 + 1, none⟩) glt).trans g1; have b5 := b4.drew.trans b5; have r0 := s5.rot2.blk.cell 0; have r1 := s5.rot2.blk.cell 1)
        | (go_at_call 21; refine (items_s (w := w5) b5.size s5 HN2.out).mono ?_; rintro e w6 ⟨A6, c6, rfl, s6, b6⟩; have g0 := (b6.cell (p := ⟨b, off + m * 2, none⟩) glt).trans g0; have g1 := (b6.cell (p := ⟨b, off + m * 2 + 1, none⟩) glt).trans g1; have b6 := b5.trans b6; have r0 := s6.rot3.blk.cell 0; have r1 := s6.rot3.blk.cell 1)
        | (go_at_call 23; refine (Same_t (w := w6) b6.size s6 (Sl.read s6.get) s6.rot4.get HM6 HM6).mono ?_; rintro e w7 ⟨rfl, s7, b7⟩; have g0 := (b7.cell (p := ⟨b, off + m * 2, none⟩) glt).trans g0; have g1 := (b7.cell (p := ⟨b, off + m * 2 + 1, none⟩) glt).trans g1; have b7 := b6.trans b7; have r0 := s7.rot3.blk.cell 0; have r1 := s7.rot3.blk.cell 1)
        | (go_at_call 15; refine (rlen_s (w := w7) s7.rot2 HN2.out).mono ?_; rintro e w8 ⟨rfl, rfl⟩))
      go_wp2_with fail
      go_roundw
      case rel => exact ⟨m + 1, A3, n2, c3, l2, by omega, by go_num, rfl, HN2.out, hle3, hlen2, s7.drop.rot2.drop, b7⟩
      case measure => simp [intOf]; omega
    · obtain rfl : m = n := by omega
      go_wp2_with fail
      go_ret
      exact ⟨rfl, b2⟩

theorem does_b {B : Nat} {w : World} (hB : B ≤ w.heap.size) (most : Int) (A : Option Addr) (n c : Nat) {R : Nat → Prop} {ops : List (Int × Int)} (hn : ops.length = n) (hr : Rd w R 2 A n (ops.flatMap opIn)) (hk : ∀ o ∈ ops, 0 ≤ o.1 ∧ o.1 ≤ 255) (hlen : n ≤ 1000000) :
    Calls Try.prog 19 #[.int .i64 most, .slice A n c] w fun e w' => e = .returned (.bool true) ∧ Below B w w' :=
  (does_s w most A n c R ops hn hr hk hlen).mono fun _ _ ⟨he, hb⟩ => ⟨he, hb.mono hB⟩

set_option maxHeartbeats 2000000 in
theorem RingDoes_walk (w : World) (most : Int) (hm : (Lit.int .i64 most).wf = true) (x : Int) (hx : (Lit.int .u8 x).wf = true) (a : Option Addr) (n c : Nat) (ops : List (Int × Int)) (h0 : InRows 2 opIn opOk w a n c ops) (a' : Option Addr) (n' c' : Nat) (zs : List Int) (h1 : InInts .u8 w a' n' c' zs) :
    Calls Try.prog 5 #[.int .i64 most, .int .u8 x, .slice a n c, .slice a' n' c'] w fun e w' => e = .returned (.bool true) ∧ Below w.heap.size w w' := by
  obtain ⟨bs, hbn, h8, hr⟩ := h1.bytes
  have hro : Rd w (· < w.heap.size) 2 a n (ops.flatMap opIn) := h0.rd
  have hn := h0.len
  have hok : ∀ o ∈ ops, 0 ≤ o.1 ∧ o.1 ≤ 255 := fun o ho => wf_u8 (h0.ok o ho).1
  have e1 := h0.reach
  have e2 := h1.reach
  clear h0 h1
  obtain ⟨N, hN, hmod, hx0, hx1⟩ := u8_mod hx 6 (by omega)
  obtain ⟨N', hN', hmod', _, _⟩ := u8_mod hx 3 (by omega)
  clear hx hm
  have HN := Lib.hid hn
  have HB := Lib.hid hbn
  clear hn hbn
  by_cases hl1 : 60 < n
  · have hL : (60 : Int) < (n : Int) := by omega
    go_enter Try.func5, Try.ntmps5
    go_wp2_with fail
    refine (known_any _).mono ?_
    rintro e w1 ⟨rfl, b1⟩
    go_wp2_with fail
    go_ret
    exact ⟨rfl, b1⟩
  · have hL : ¬ (60 : Int) < (n : Int) := by omega
    by_cases hl2 : 100 < n'
    · have hL2 : (100 : Int) < (n' : Int) := by omega
      go_enter Try.func5, Try.ntmps5
      go_wp2_with fail
      refine (known_any _).mono ?_
      rintro e w1 ⟨rfl, b1⟩
      go_wp2_with fail
      go_ret
      exact ⟨rfl, b1⟩
    · have hL2 : ¬ (100 : Int) < (n' : Int) := by omega
      go_enter Try.func5, Try.ntmps5
      go_wp2_with fail
      refine (known_any _).mono ?_
      rintro e w1 ⟨rfl, b1⟩
      go_wp2_with fail
      refine (does_b b1.size most a n c HN.out (hro.kept b1) hok (by omega)).mono ?_
      rintro e w2 ⟨rfl, b2⟩
      have b2 := b1.trans b2
      go_wp2_with fail
      refine (Ops_s b2.size (L := []) trivial HB.out (hr.kept b2) h8 (by omega) 5 (by omega) (by omega)).mono ?_
      rintro e w3 ⟨A3, m3, c3, rfl, hm3, hm80, s3, b3⟩
      have b3 := b2.trans b3
      go_wp2_with fail
      refine (does_b b3.size (N : Int) A3 m3 c3 hm3 s3.get (opsOf_ok 5 (by omega) (by omega) bs) (by omega)).mono ?_
      rintro e w4 ⟨rfl, b4⟩
      have b4 := b3.trans b4
      go_wp2_with fail
      refine (does_b b4.size (1 + (N' : Int)) a n c HN.out (hro.kept b4) hok (by omega)).mono ?_
      rintro e w5 ⟨rfl, b5⟩
      go_wp2_with fail
      go_ret
      exact ⟨rfl, b4.trans b5⟩
end Go.Proofs.Ytehmnhdmkjdghaa
