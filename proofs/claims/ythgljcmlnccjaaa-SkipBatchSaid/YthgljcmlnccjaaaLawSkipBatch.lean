/-
  The walk of SkipBatch.
-/
import Derived.Test.YthgljcmlnccjaaaSkipM
import Derived.Test.YthgljcmlnccjaaaIn
namespace Go.Proofs.Ythgljcmlnccjaaa
open Go.RowKit Go.Rp

theorem own_any {B : Nat} {w : World} {L : List Res} (hB : B ≤ w.heap.size) (h : At B w L) (mo : Int) {A : Option Addr} {n c : Nat} {bs : List Nat} (hl : bs.length = n) (hn : n ≤ 100000) (h8 : ∀ x ∈ bs, x < 256) (ha : Reads B w L 1 A n (bs.map fun (x : Nat) => Value.int .u8 (x : Int)))
    {A2 : Option Addr} {n2 c2 : Nat} {cs : List Nat} (hl2 : cs.length = n2) (hn2 : n2 ≤ 100000) (h82 : ∀ x ∈ cs, x < 256) (hc : Reads B w L 1 A2 n2 (cs.map fun (x : Nat) => Value.int .u8 (x : Int))) :
    Calls Try.prog 16 #[.int .i64 mo, .slice A n c, .slice A2 n2 c2] w fun e w' => e = .returned (.bool true) ∧ At B w' L ∧ Below B w w' := by
  have hri := rising_any (c := c2) hB h hl2 hn2 h82 hc
  go_enter Try.func16, Try.ntmps16
  go_wp2_with fail
  refine hri.mono ?_
  rintro e w1 ⟨B1, B2, d1, d2, m1, m2, vs, hs, rfl, hv1, hv2, hm1, hm2, hd1, s1, b1⟩
  have hm20 : m1 ≤ 20 := by rw [hm1]; exact Nat.min_le_right _ _
  have hba := batch_any (c := c) (c1 := d1) (c2 := d2) (Nat.le_trans hB b1.size) s1 mo hl hn h8 (((ha.later b1).more _).more _) (Reads.own []) (Reads.own [_]) hv1 hv2 (by omega) (by omega)
  clear hri hm1 hv1 hv2
  go_wp2_with fail
  refine hba.mono ?_
  rintro e w2 ⟨rfl, s2, b2⟩
  go_wp2_with fail
  go_ret
  exact ⟨rfl, s2.drop.drop, b1.trans b2⟩

set_option maxRecDepth 100000 in
set_option maxHeartbeats 1000000 in
theorem SkipBatch_walk (w : World) (mo : Int) (hmo : (Lit.int .u8 mo).wf = true) (a1 : Option Addr) (n1 c1 : Nat) (bz : List Int) (h1 : InInts .u8 w a1 n1 c1 bz) (a2 : Option Addr) (n2 c2 : Nat) (cs : List Int) (h2 : InInts .u8 w a2 n2 c2 cs)
    (a3 : Option Addr) (n3 c3 : Nat) (vs : List Int) (h3 : InInts .i32 w a3 n3 c3 vs) (a4 : Option Addr) (n4 c4 : Nat) (hs : List Int) (h4 : InInts .i64 w a4 n4 c4 hs) :
    Calls Try.prog 5 #[.int .u8 mo, .slice a1 n1 c1, .slice a2 n2 c2, .slice a3 n3 c3, .slice a4 n4 c4] w fun e w' => e = .returned (.bool true) ∧ Below w.heap.size w w' := by
  have hle : w.heap.size ≤ w.heap.size := Nat.le_refl _
  have s0 : At w.heap.size w [] := trivial
  obtain ⟨m0, m1⟩ := wf_u8 hmo
  obtain ⟨bs, hlb, hb8, hx1⟩ := h1.bytes
  obtain ⟨ds, hld, hd8, hx2⟩ := h2.bytes
  have hr1 := h1.reach
  have hr2 := h2.reach
  have hr3 := h3.reach
  have hr4 := h4.reach
  by_cases hbig : n1 + n2 + n3 + n4 > 200
  · have hd : (200 : Int) < (n1 : Int) + (n2 : Int) + (n3 : Int) + (n4 : Int) := by omega
    clear hbig h1 h2 h3 h4 hlb hld
    go_enter Try.func5, Try.ntmps5
    go_wp2_with fail
    refine (known_s hle s0).mono ?_
    rintro e w2 ⟨rfl, s2, b2⟩
    go_wp2_with fail
    go_ret
    exact ⟨rfl, b2⟩
  · have hd : ¬ (200 : Int) < (n1 : Int) + (n2 : Int) + (n3 : Int) + (n4 : Int) := by omega
    have hra : Reads w.heap.size w [] 1 a1 n1 (bs.map fun (x : Nat) => Value.int .u8 (x : Int)) := Reads.of_arg hx1 fun _ h => h
    have hrc : Reads w.heap.size w [] 1 a2 n2 (ds.map fun (x : Nat) => Value.int .u8 (x : Int)) := Reads.of_arg hx2 fun _ h => h
    have hrv : Reads w.heap.size w [] 1 a3 n3 (iv vs) := Reads.of_arg h3.rd fun _ h => h
    have hrh : Reads w.heap.size w [] 1 a4 n4 (il hs) := Reads.of_arg h4.rd fun _ h => h
    have q1 : n1 ≤ 200 := by omega
    have q2 : n2 ≤ 200 := by omega
    have q3 : n3 ≤ 200 := by omega
    have q4 : n4 ≤ 200 := by omega
    have hl3 := h3.len
    have hl4 := h4.len
    have hw1 : IntKind.u8.wrap (mo.tmod 30) = mo.tmod 30 := by
      have e1 := Int.tmod_nonneg 30 m0
      have e2 := Int.tmod_lt_of_pos mo (show (0 : Int) < 30 by omega)
      simp [IntKind.wrap, IntKind.min, IntKind.max, IntKind.bits, IntKind.signed]; omega
    clear hbig h1 h2 h3 h4
    go_enter Try.func5, Try.ntmps5
    go_wp2_with fail
    refine (known_s hle s0).mono ?_
    rintro e w2 ⟨rfl, s2, b2⟩
    go_wp2_with fail
    refine (batch_any b2.size s2 _ hlb (by omega) hb8 (hra.later b2) (hrv.later b2) (hrh.later b2) hl3 hl4 (by omega) (by omega)).mono ?_
    rintro e w3 ⟨rfl, s3, b3⟩
    have b3 := b2.trans b3
    go_wp2_with fail
    refine (own_any b3.size s3 _ hlb (by omega) hb8 (hra.later b3) hld (by omega) hd8 (hrc.later b3)).mono ?_
    rintro e w4 ⟨rfl, s4, b4⟩
    go_wp2_with fail
    go_ret
    exact ⟨rfl, b3.trans b4⟩
end Go.Proofs.Ythgljcmlnccjaaa
