/-
  The walk of FairHolds.
-/
import Derived.Test.YtmcnccfbligeaaaTg9
import Derived.Test.YtmcnccfbligeaaaTg8
namespace Go.Proofs.Ytmcnccfbligeaaa
open Go.RowKit Go.Rp Go.Tz

set_option maxRecDepth 100000 in
set_option maxHeartbeats 4000000 in
theorem FairHolds_walk (w : World) (a1 : Option Addr) (n1 c1 : Nat) (zs1 : List Int) (h1 : InInts .u8 w a1 n1 c1 zs1) (a2 : Option Addr) (n2 c2 : Nat) (zs2 : List Int) (h2 : InInts .u8 w a2 n2 c2 zs2)
    (b : Int) (hb : (Lit.int .u8 b).wf = true) (at_ : Int) (ha : (Lit.int .u8 at_).wf = true) (late : Int) (hl : (Lit.int .i16 late).wf = true) :
    Calls Try.prog 7 #[.slice a1 n1 c1, .slice a2 n2 c2, .int .u8 b, .int .u8 at_, .int .i16 late] w fun e w' => e = .returned (.bool true) ∧ Below w.heap.size w w' := by
  have r1 := h1.reach
  have r2 := h2.reach
  obtain ⟨b0, b9⟩ := wf_u8 hb
  obtain ⟨t0, t9⟩ := wf_u8 ha
  by_cases hlen : 80 < n1 + n2
  · have hL : (80 : Int) < (n1 : Int) + (n2 : Int) := by omega
    go_enter Try.func7, Try.ntmps7
    go_wp2_with fail
    refine (known_any _).mono ?_
    rintro e w1 ⟨rfl, b1⟩
    go_wp2_with fail
    go_ret
    exact ⟨rfl, b1⟩
  · have hL : decide ((80 : Int) < (n1 : Int) + (n2 : Int)) = false := by simp; omega
    go_enter Try.func7, Try.ntmps7
    go_wp2_with fail
    refine (known_any _).mono ?_
    rintro e w1 ⟨rfl, b1⟩
    go_wp2_with fail
    refine (long_v h1 h2 b1).mono ?_
    rintro e w2 ⟨v, rfl, hv, hT, b2⟩
    obtain ⟨ob, th, cap, age, ps, pl, z0, z1, z2, z3, z4, z5, z6, A7, m7, k7, z8, z9, z10, A11, m11, k11, A12, m12, k12, A13, m13, k13, A14, m14, k14, A15, m15, k15, A16, m16, k16, z17, rfl, ho1, ho2, ⟨p14, q14⟩, ⟨p16, q16⟩⟩ := long_gives hv
    have hlim := long_lim'
    generalize G 18 (fun _ => 0) = Kf at *
    have b3 := b1.trans (b2.mono b1.size)
    have hT3 : Typed (lay w1) w1.heap.size Kf ((w2.alloc (.cells #[.int .u8 ob, .int .i64 th, .int .i64 cap, .int .i64 age, .int .i64 ps, .bool pl] 38)).alloc (.cells #[.int .u8 z0, .int .i64 z1, .int .i64 z2, .int .i64 z3, .int .i64 z4, .bool z5, .int .i64 z6, .slice A7 m7 k7, .int .i64 z8, .int .u8 z9, .int .i64 z10, .slice A11 m11 k11, .slice A12 m12 k12, .slice A13 m13 k13, .slice A14 m14 k14, .slice A15 m15 k15, .slice A16 m16 k16, .int .i64 z17] 54)) := (hT.alloc _ _ (Ofs.row ho1)).alloc _ _ ((Ofs.row (arr := #[.int .u8 z0, .int .i64 z1, .int .i64 z2, .int .i64 z3, .int .i64 z4, .bool z5, .int .i64 z6, .slice A7 m7 k7, .int .i64 z8, .int .u8 z9, .int .i64 z10, .slice A11 m11 k11, .slice A12 m12 k12, .slice A13 m13 k13, .slice A14 m14 k14, .slice A15 m15 k15, .slice A16 m16 k16, .int .i64 z17]) ho2).keeps (Keeps.alloc _ _))
    have q14' : SlOK (lay w1) w1.heap.size ((w2.alloc (.cells #[.int .u8 ob, .int .i64 th, .int .i64 cap, .int .i64 age, .int .i64 ps, .bool pl] 38)).alloc (.cells #[.int .u8 z0, .int .i64 z1, .int .i64 z2, .int .i64 z3, .int .i64 z4, .bool z5, .int .i64 z6, .slice A7 m7 k7, .int .i64 z8, .int .u8 z9, .int .i64 z10, .slice A11 m11 k11, .slice A12 m12 k12, .slice A13 m13 k13, .slice A14 m14 k14, .slice A15 m15 k15, .slice A16 m16 k16, .int .i64 z17] 54)) 76 A14 m14 k14 := (q14.keeps (Keeps.alloc _ _)).keeps (Keeps.alloc _ _)
    have q16' : SlOK (lay w1) w1.heap.size ((w2.alloc (.cells #[.int .u8 ob, .int .i64 th, .int .i64 cap, .int .i64 age, .int .i64 ps, .bool pl] 38)).alloc (.cells #[.int .u8 z0, .int .i64 z1, .int .i64 z2, .int .i64 z3, .int .i64 z4, .bool z5, .int .i64 z6, .slice A7 m7 k7, .int .i64 z8, .int .u8 z9, .int .i64 z10, .slice A11 m11 k11, .slice A12 m12 k12, .slice A13 m13 k13, .slice A14 m14 k14, .slice A15 m15 k15, .slice A16 m16 k16, .int .i64 z17] 54)) 3 A16 m16 k16 := (q16.keeps (Keeps.alloc _ _)).keeps (Keeps.alloc _ _)
    have hcf := (Blk.new w2 38 #[.int .u8 ob, .int .i64 th, .int .i64 cap, .int .i64 age, .int .i64 ps, .bool pl]).alloc (.cells #[.int .u8 z0, .int .i64 z1, .int .i64 z2, .int .i64 z3, .int .i64 z4, .bool z5, .int .i64 z6, .slice A7 m7 k7, .int .i64 z8, .int .u8 z9, .int .i64 z10, .slice A11 m11 k11, .slice A12 m12 k12, .slice A13 m13 k13, .slice A14 m14 k14, .slice A15 m15 k15, .slice A16 m16 k16, .int .i64 z17] 54)
    have hwd := Blk.new (w2.alloc (.cells #[.int .u8 ob, .int .i64 th, .int .i64 cap, .int .i64 age, .int .i64 ps, .bool pl] 38)) 54 #[.int .u8 z0, .int .i64 z1, .int .i64 z2, .int .i64 z3, .int .i64 z4, .bool z5, .int .i64 z6, .slice A7 m7 k7, .int .i64 z8, .int .u8 z9, .int .i64 z10, .slice A11 m11 k11, .slice A12 m12 k12, .slice A13 m13 k13, .slice A14 m14 k14, .slice A15 m15 k15, .slice A16 m16 k16, .int .i64 z17]
    have b4 : Below w.heap.size w ((w2.alloc (.cells #[.int .u8 ob, .int .i64 th, .int .i64 cap, .int .i64 age, .int .i64 ps, .bool pl] 38)).alloc (.cells #[.int .u8 z0, .int .i64 z1, .int .i64 z2, .int .i64 z3, .int .i64 z4, .bool z5, .int .i64 z6, .slice A7 m7 k7, .int .i64 z8, .int .u8 z9, .int .i64 z10, .slice A11 m11 k11, .slice A12 m12 k12, .slice A13 m13 k13, .slice A14 m14 k14, .slice A15 m15 k15, .slice A16 m16 k16, .int .i64 z17] 54)) := (b3.alloc b3.size _).alloc (by simp; have := b3.size; omega) _
    go_wp2_with fail
    refine (spans_v hT3 hlim p14 q14').mono ?_
    rintro e w4 ⟨A3, n3, c3, rfl, hs3, hf3, hn3, hT4, b5⟩
    have hcf := hcf.below b5 (by simp; omega)
    have hwd := hwd.below b5 (by simp)
    have K4 := (Keeps.below b5)
    obtain ⟨picks, hp, hrd⟩ := Picks.typed (q16'.keeps K4) hT4 (Nat.le_trans p16 (hlim _))
    obtain ⟨spans, hsp, hsl⟩ := Spans.typed hs3 hT4 (Nat.le_trans hn3 (Nat.le_trans p14 (hlim _)))
    have b6 := b4.trans (b5.mono b4.size)
    have hcm3 : n3 ≤ c3 ∧ c3 ≤ maxLen := ⟨hs3.1, hs3.2.1⟩
    have hcm16 : m16 ≤ k16 ∧ k16 ≤ maxLen := ⟨q16.1, q16.2.1⟩
    have HCM3 := Lib.hid hcm3
    have HCM16 := Lib.hid hcm16
    have HF3 := Lib.hid hf3
    have hw2 : w.heap.size ≤ w2.heap.size := b3.size
    have HQ : Hid (∀ a, A16 = some a → a.block < w2.heap.size) := Lib.hid fun a ha => by
      rcases q16.2.2 with ⟨h0, _⟩ | ⟨b', off', arr', h0, _, hb', _⟩
      · rw [h0] at ha; cases ha
      · rw [h0] at ha; cases ha; exact hb'.lt
    have HR3 : Hid (n3 ≤ LIM) := Lib.hid (Nat.le_trans hn3 (Nat.le_trans p14 (hlim _)))
    clear hT3 hT4 hT hv ho1 ho2 q14 q14' q16 q16' hlim hs3 hf3 hcm3 hcm16 p14 p16 hn3 K4 b1 b2 b3 b4 b5 h1 h2
    obtain ⟨B, rfl⟩ : ∃ B : Nat, b = (B : Int) := ⟨b.toNat, by omega⟩
    have k0 : w4.cell? ⟨w2.heap.size, 0, none⟩ = some (.int .u8 ob) := hcf.cell 0
    have k1 : w4.cell? ⟨w2.heap.size, 1, none⟩ = some (.int .i64 th) := hcf.cell 1
    have k2 : w4.cell? ⟨w2.heap.size, 2, none⟩ = some (.int .i64 cap) := hcf.cell 2
    have k3 : w4.cell? ⟨w2.heap.size, 3, none⟩ = some (.int .i64 age) := hcf.cell 3
    have k4 : w4.cell? ⟨w2.heap.size, 4, none⟩ = some (.int .i64 ps) := hcf.cell 4
    have k5 : w4.cell? ⟨w2.heap.size, 5, none⟩ = some (.bool pl) := hcf.cell 5
    have k6 : w4.cell? ⟨w2.heap.size + 1, 16, none⟩ = some (.slice A16 m16 k16) := by have := hwd.cell 16; simpa using this
    go_wp2_with fail
    refine (same_any w4 ob th cap age ps pl A16 m16 k16 picks hp HCM16.out.1 HCM16.out.2 A3 n3 c3 spans hsp _ (by omega)).mono ?_
    rintro e w5 ⟨rfl, b7⟩
    have b8 := b6.trans (b7.mono b6.size)
    by_cases hz : n3 = 0
    · subst hz
      go_wp2_with fail
      go_ret
      exact ⟨rfl, b8⟩
    · have hNZ : decide ((n3 : Int) = 0) = false := by simp; omega
      have f0 := Int.emod_nonneg at_ (b := (n3 : Int)) (by omega)
      have f1 := Int.emod_lt_of_pos at_ (b := (n3 : Int)) (by omega)
      obtain ⟨q, hq⟩ : ∃ q : Nat, at_ % (n3 : Int) = (q : Int) := ⟨(at_ % (n3 : Int)).toNat, by omega⟩
      rw [hq] at f0 f1
      have hqn : q < n3 := by omega
      have hsl5 := hsl.map (w' := w5) fun g hg cur hb => hb.below b7 hb.lt
      have hsl5' := hsl5
      obtain ⟨_, _, _, hA⟩ := hsl5'
      rcases hA with ⟨_, h0, _⟩ | ⟨g, off, cur, rfl, _, hblk, hsz, hcur⟩
      · exact absurd h0 (by omega)
      have hsplen := hsp.len
      have hold : w5.cell? ⟨g, off + q * 8 + 7, none⟩ = some (.int .i64 (spans[q]'(by omega)).to) := by
        have := hcur (q * 8 + 7) (by omega)
        rw [hblk.cell, show off + q * 8 + 7 = off + (q * 8 + 7) by omega, this, span_at spans q (by omega) 7 (by omega)]
        rfl
      have hfz : w5.frozen? ⟨g, off + q * 8 + 7, none⟩ = false := hblk.frozen _
      have hg : w2.heap.size + 2 ≤ g := by
        have := HF3.out _ rfl
        simpa using this
      have hlate : -32768 ≤ late ∧ late ≤ 32767 := by
        simp [Lit.wf, IntKind.min, IntKind.max, IntKind.signed, IntKind.bits] at hl
        omega
      have hzwf : (Lit.int .i64 late).wf = true := by
        simp [Lit.wf, IntKind.min, IntKind.max, IntKind.signed, IntKind.bits]
        omega
      have hcf6 := (hcf.below b7 hcf.lt).far (p := ⟨g, off + q * 8 + 7, none⟩) (by show w2.heap.size ≠ g; omega) (.int .i64 late)
      have hwd6 := (hwd.below b7 hwd.lt).far (p := ⟨g, off + q * 8 + 7, none⟩) (by show _ ≠ g; simp; omega) (.int .i64 late)
      have hcf5 := hcf.below b7 hcf.lt
      have hwd5 := hwd.below b7 hwd.lt
      have j0 : w5.cell? ⟨w2.heap.size, 0, none⟩ = some (.int .u8 ob) := hcf5.cell 0
      have j1 : w5.cell? ⟨w2.heap.size, 1, none⟩ = some (.int .i64 th) := hcf5.cell 1
      have j2 : w5.cell? ⟨w2.heap.size, 2, none⟩ = some (.int .i64 cap) := hcf5.cell 2
      have j3 : w5.cell? ⟨w2.heap.size, 3, none⟩ = some (.int .i64 age) := hcf5.cell 3
      have j4 : w5.cell? ⟨w2.heap.size, 4, none⟩ = some (.int .i64 ps) := hcf5.cell 4
      have j5 : w5.cell? ⟨w2.heap.size, 5, none⟩ = some (.bool pl) := hcf5.cell 5
      have j6 : w5.cell? ⟨w2.heap.size + 1, 16, none⟩ = some (.slice A16 m16 k16) := by have := hwd5.cell 16; simpa using this
      have e1 : g ≠ w2.heap.size := by omega
      have e2 : g ≠ w2.heap.size + 1 := by omega
      have e3 : w2.heap.size ≠ g := by omega
      have e4 : w2.heap.size + 1 ≠ g := by omega
      have hp6 : Picks (w5.setCell ⟨g, off + q * 8 + 7, none⟩ (.int .i64 late)) A16 m16 picks := ⟨⟨_, (hrd.kept b7).setCell (p := ⟨g, off + q * 8 + 7, none⟩) (fun ⟨a, e1, e2⟩ => by have h3 := HQ.out a e1; have e2 : a.block = g := e2; omega) _⟩, hp.len, hp.reach, hp.wf⟩
      have hs6 : Spans (w5.setCell ⟨g, off + q * 8 + 7, none⟩ (.int .i64 late)) (some ⟨g, off, none⟩) n3 (spans.set q { spans[q]'(by omega) with to := late }) := by
        have h8 := (hsl5.set rfl (q * 8 + 7) (by omega) (.int .i64 late)).rd
        rw [spans_set spans q (by omega) late, show off + (q * 8 + 7) = off + q * 8 + 7 by omega] at h8
        refine ⟨⟨_, h8⟩, by simp [hsplen], by have := HR3.out; simp only [LIM] at this; omega, fun s hs => ?_⟩
        rcases List.mem_or_eq_of_mem_set hs with hs | rfl
        · exact hsp.ok s hs
        · have := hsp.ok _ (List.getElem_mem (l := spans) (n := q) (by omega))
          exact ⟨this.th, this.sq, this.ok, this.ov, this.rc, this.rv, this.fr, hzwf⟩
      have b9 : Below w.heap.size w (w5.setCell ⟨g, off + q * 8 + 7, none⟩ (.int .i64 late)) := b8.setCell (by show w.heap.size ≤ g; omega) _
      clear hcf hwd hcf5 hwd5 hcf6 hwd6 hsl hsl5 hcur hblk hrd
      go_wp2_with fail
      refine (same_any _ ob th cap age ps pl A16 m16 k16 picks hp6 HCM16.out.1 HCM16.out.2 _ n3 c3 _ hs6 (1 + (B : Int) % 4) (by omega)).mono ?_
      rintro e w7 ⟨rfl, b10⟩
      go_wp2_with fail
      go_ret
      exact ⟨rfl, b9.trans (b10.mono b9.size)⟩
end Go.Proofs.Ytmcnccfbligeaaa
