/-
  The walk of MatchSame.
-/
import Derived.Test.YtdjehackbebpaaaMatchJ
import Derived.Test.YtdjehackbebpaaaLawMatchPairs
namespace Go.Proofs.Ytdjehackbebpaaa
open Go.RowKit Go.Rp

set_option maxRecDepth 100000 in
set_option maxHeartbeats 4000000 in
theorem same_y {B : Nat} {w : World} {L : List Res} {A : Option Addr} {n c : Nat} {ops : List (Int × Int)} (hB : B ≤ w.heap.size) (ms : Int) {A0 : Option Addr} {n0 c0 : Nat} {R0 : Nat → Prop} {bs : List Nat} (hn0 : bs.length = n0) (hr0 : Rd w R0 1 A0 n0 (bs.map fun (x : Nat) => Value.int .u8 (x : Int))) (hR0 : ∀ b, R0 b → b < B) (h256 : ∀ x ∈ bs, x < 256) (hlen0 : n0 ≤ 100000)
    (hn : ops.length = n) (h8 : ∀ o ∈ ops, 0 ≤ o.1 ∧ o.1 ≤ 255) (hlen : n ≤ 100000) (h : At B w L) (hrd : ∀ W L', Below B w W → At B W (L ++ L') → ∃ R, Rd W R 2 A n (ops.flatMap opIn)) :
    Calls Try.prog 20 #[.int .i64 ms, .slice A0 n0 c0, .slice A n c] w fun e w' => e = .returned (.bool true) ∧ At B w' L ∧ Below B w w' := by
  have f1 := Filled_s (c := c0) hB h ms hn0 hr0 hR0 h256 hlen0
  have HN := Lib.hid hn
  clear hn
  go_enter Try.func20, Try.ntmps20
  go_wp2_with fail
  refine f1.mono ?_
  rintro e w1 ⟨p, rfl, s1, b1⟩
  have f2 := Filled_s (c := c0) (Nat.le_trans hB b1.size) s1 ms hn0 (hr0.below b1 hR0) hR0 h256 hlen0
  clear f1 h
  go_wp2_with fail
  refine f2.mono ?_
  rintro e w2 ⟨q, rfl, s2, b2⟩
  have b2 := b1.trans b2
  have hfl := filled_len (cut ms) bs
  clear f2 s1 b1 hr0 hR0 h256
  obtain ⟨l0, hl0⟩ : ∃ l0, filled (cut ms) bs = l0 := ⟨_, rfl⟩
  obtain ⟨mo, hmo⟩ : ∃ mo, cut ms = mo := ⟨_, rfl⟩
  rw [hl0, hmo] at s2 hfl
  clear hl0 hmo
  have ap := Apply_y (c := c) (Nat.le_trans hB b2.size) s2.rot2 HN.out h8 hlen (fun W L' hb hW => hrd W L' (b2.trans hb) (Sep.drop hW))
  go_wp2_with fail
  refine ap.mono ?_
  rintro e w3 ⟨g, rfl, s3, b3⟩
  have hle3 := Nat.le_trans hB (b2.trans b3).size
  have b3 := b2.trans b3
  clear ap s2 b2
  have s4 : At B w3 (stk q mo (mEnd l0 ops (mAt mo l0.length ops 0)) :: slRes 42 2 (some ⟨g, 0, none⟩) n n ((toldK n (mCode mo l0.length ops) (mVal l0 mo ops) n).flatMap resIn) :: stk p mo (mEnd l0 ops (mAt mo l0.length ops n)) :: L) := by
    have e : mEnd l0 ops (mAt mo l0.length ops 0) = l0 := by simp [mEnd, mAt]
    rw [e]
    exact s3.rot3
  clear s3
  go_wp2_with fail
  go_loopg [10] n (fun g' k wr => ∃ m : Nat, m + g' = n ∧ k = .int .i64 (m : Int) ∧ At B wr (stk q mo (mEnd l0 ops (mAt mo l0.length ops m)) :: slRes 42 2 (some ⟨g, 0, none⟩) n n ((toldK n (mCode mo l0.length ops) (mVal l0 mo ops) n).flatMap resIn) :: stk p mo (mEnd l0 ops (mAt mo l0.length ops n)) :: L) ∧ Below B w wr ∧ B ≤ wr.heap.size)
  case atStart => exact ⟨0, by omega, rfl, s4, b3, hle3⟩
  case round =>
    clear s4 b3 hle3
    obtain ⟨m, hm, rfl, s5, b5, hle5⟩ := hrel
    by_cases hlt : m < n
    · have hml : m < ops.length := by rw [HN.out]; exact hlt
      have htl : m < (toldK n (mCode mo l0.length ops) (mVal l0 mo ops) n).length := by rw [toldK_len]; exact hlt
      obtain ⟨t0, t1⟩ := res_at _ m htl
      rw [toldK_get _ _ _ _ _ hlt, if_pos hlt] at t0 t1
      obtain ⟨R, hr⟩ := hrd wr _ b5 (show At B wr (L ++ _) from s5.back3)
      obtain ⟨b, off, rfl, _, _⟩ := hr.at (by omega)
      obtain ⟨c0, c1⟩ := op_at ops m hml
      have hkeep : ∀ (W : World) l, B ≤ W.heap.size → Below B w W → At B W (stk q mo l :: slRes 42 2 (some ⟨g, 0, none⟩) n n ((toldK n (mCode mo l0.length ops) (mVal l0 mo ops) n).flatMap resIn) :: stk p mo (mEnd l0 ops (mAt mo l0.length ops n)) :: L) →
          W.cell? ⟨g, m * 2, none⟩ = some (.int .u8 (mCode mo l0.length ops m)) ∧ W.cell? ⟨g, m * 2 + 1, none⟩ = some (.int .i32 (mVal l0 mo ops m)) ∧ W.cell? ⟨b, off + m * 2, none⟩ = some (.int .u8 ops[m].1) ∧ W.cell? ⟨b, off + m * 2 + 1, none⟩ = some (.int .i32 ops[m].2) := fun W l hle hb hs => by
        obtain ⟨R, hr⟩ := hrd W _ hb (show At B W (L ++ _) from hs.back3)
        obtain ⟨b2, o2, hA, _, hc⟩ := hr.at (by omega)
        simp at hA
        obtain ⟨rfl, rfl⟩ := hA
        exact ⟨(hs.rot2.slat hle _ _ t0).1, (hs.rot2.slat hle _ _ t1).1, hc _ _ c0, hc _ _ c1⟩
      obtain ⟨k0, k1⟩ := h8 _ (List.getElem_mem hml)
      have hdo := do_s (w := World.drew wr) hle5 (Sep.drew s5) ops[m].1 ops[m].2 k0 k1 (same_told hml)
      have hmn : (m : Int) < (n : Int) := by omega
      obtain ⟨r0, r1, g0, g1⟩ := hkeep wr _ hle5 b5 s5
      clear t0 t1 htl c0 c1 hr
      generalize mCode mo l0.length ops m = cd at *
      generalize mVal l0 mo ops m = vl at *
      generalize ops[m].1 = kd at *
      generalize ops[m].2 = vd at *
      go_wp2_with fail
      go_region_held3 (fun w' => w'.cell? ⟨g, m * 2, none⟩ = some (.int .u8 cd) ∧ w'.cell? ⟨g, m * 2 + 1, none⟩ = some (.int .i32 vl) ∧ w'.cell? ⟨b, off + m * 2, none⟩ = some (.int .u8 kd) ∧ w'.cell? ⟨b, off + m * 2 + 1, none⟩ = some (.int .i32 vd)) (first | (refine ⟨?_, ?_, ?_, ?_⟩ <;> assumption) | go_keep) (first
        | (go_at_call 36; ((with_reducible refine hdo.mono ?_); rintro e w6 ⟨rfl, s6, b6⟩; have hle6 := Nat.le_trans hle5 b6.size; have b6 := b5.drew.trans b6; obtain ⟨r0, r1, g0, g1⟩ := hkeep w6 _ hle6 b6 s6)))
      go_wp2_with fail
      go_roundg (gk - 1)
      case measure => omega
      case rel => exact ⟨m + 1, by omega, by go_num, s6, b6, hle6⟩
    · obtain rfl : m = n := by omega
      obtain ⟨hl1, _⟩ := stk_len s5
      obtain ⟨hlp, hmo⟩ := stk_len s5.rot3
      obtain ⟨le, hle⟩ : ∃ le, (mEnd l0 ops (mAt mo l0.length ops m)).length = le := ⟨_, rfl⟩
      rw [hle] at hlp
      have HLE := Lib.hid hle
      have i1 := items_s hle5 s5.rot3 HLE.out
      clear hl1 hle
      generalize mEnd l0 ops (mAt mo l0.length ops m) = fin at *
      go_wp2_with fail
      refine i1.mono ?_
      rintro e w6 ⟨A6, c6, rfl, s6, b6⟩
      have hle6 := Nat.le_trans hle5 b6.size
      have b6 := b5.trans b6
      have i2 := items_s hle6 s6.rot3 HLE.out
      clear i1 s5 b5
      go_wp2_with fail
      refine i2.mono ?_
      rintro e w7 ⟨A7, c7, rfl, s7, b7⟩
      have hle7 := Nat.le_trans hle6 b7.size
      have b7 := b6.trans b7
      have i3 := Same_s (c := c6) (c' := c7) hle7 s7 (Sl.rd s7.rot3.get) (Sl.rd s7.get) (by omega) (by omega) (decide_eq_true rfl)
      clear i2 s6 b6
      go_wp2_with fail
      refine i3.mono ?_
      rintro e w8 ⟨rfl, s8, b8⟩
      have b8 := b7.trans b8
      have i4 := most_s s8.rot4
      have i5 := most_s s8.rot2
      clear i3 s7 b7
      go_wp2_with fail
      refine i4.mono ?_
      rintro e w9 ⟨rfl, rfl⟩
      go_wp2_with fail
      refine i5.mono ?_
      rintro e w9 ⟨rfl, rfl⟩
      go_wp2_with fail
      go_ret
      exact ⟨by simp, (Sep.drop (Sep.drop (Sep.drop (Sep.drop (Sep.drop s8))))), b8⟩

section
variable {B : Nat} {w : World} {L : List Res}
end

set_option maxRecDepth 100000 in
set_option maxHeartbeats 2000000 in
theorem MatchSame_walk (w : World) (ms : Int) (hms : (Lit.int .i64 ms).wf = true) (k : Int) (hk : (Lit.int .u8 k).wf = true) (a0 : Option Addr) (n0 c0 : Nat) (zs0 : List Int) (h00 : InInts .u8 w a0 n0 c0 zs0) (a : Option Addr) (n c : Nat) (ops : List (Int × Int)) (h0 : InRows 2 opIn opOk w a n c ops) (a' : Option Addr) (n' c' : Nat) (zs : List Int) (h1 : InInts .u8 w a' n' c' zs) :
    Calls Try.prog 9 #[.int .i64 ms, .int .u8 k, .slice a0 n0 c0, .slice a n c, .slice a' n' c'] w fun e w' => e = .returned (.bool true) ∧ Below w.heap.size w w' := by
  obtain ⟨bs, hbn, h256, hrb⟩ := h1.bytes
  obtain ⟨bs0, hbn0, h2560, hrb0⟩ := h00.bytes
  have hr : Rd w (· < w.heap.size) 2 a n (ops.flatMap opIn) := h0.rd
  have h8 : ∀ o ∈ ops, 0 ≤ o.1 ∧ o.1 ≤ 255 := fun o ho => wf_u8 (h0.ok o ho).1
  have hreach := h0.reach
  have hreach' := h1.reach
  have hreach0 := h00.reach
  have HN := Lib.hid h0.len
  have HNB := Lib.hid hbn
  have HN0 := Lib.hid hbn0
  have hlt : ∀ b, (fun x => x < w.heap.size) b → b < w.heap.size := fun _ h => h
  have s0 : At w.heap.size w [] := trivial
  obtain ⟨k0, k1⟩ := wf_u8 hk
  clear h0 h1 h00 hbn hbn0 hms
  have hw0 : IntKind.i64.wrap ((n0 : Int) + (n : Int)) = (n0 : Int) + (n : Int) := IntWalk.i64_in _ (by omega)
  have hw1 : IntKind.i64.wrap ((n0 : Int) + (n : Int) + (n' : Int)) = (n0 : Int) + (n : Int) + (n' : Int) := IntWalk.i64_in _ (by omega)
  by_cases hbig : 150 < n0 + n + n'
  · have hL : (150 : Int) < (n0 : Int) + (n : Int) + (n' : Int) := by omega
    go_enter Try.func9, Try.ntmps9
    go_wp2_with fail
    refine (known_any _).mono ?_
    rintro e w1 ⟨rfl, b1⟩
    go_wp2_with fail
    go_ret
    exact ⟨rfl, b1⟩
  have hL : ¬ (150 : Int) < (n0 : Int) + (n : Int) + (n' : Int) := by omega
  obtain ⟨K, hK, kmod, _, _⟩ := u8_mod hk 7 (by omega)
  obtain ⟨K3, hK3, kmod3, _, _⟩ := u8_mod hk 20 (by omega)
  clear hk
  go_enter Try.func9, Try.ntmps9
  go_wp2_with fail
  refine (known_s (Nat.le_refl _) s0).mono ?_
  rintro e w1 ⟨rfl, s1, b1⟩
  go_wp2_with fail
  refine (same_y b1.size ms HN0.out (hrb0.below b1 hlt) hlt h2560 (by omega) HN.out h8 (by omega) s1 (fun W L' hb _ => ⟨_, (hr.below b1 hlt).below hb hlt⟩)).mono ?_
  rintro e w2 ⟨rfl, s2, b2⟩
  have b2 := b1.trans b2
  go_wp2_with fail
  refine (Ops_s b2.size s2 HNB.out (hrb.below b2 hlt) h256 (by omega) 3 (by omega) (by omega)).mono ?_
  rintro e w3 ⟨A3, m3, c3, rfl, hm3, hm8, s3, b3⟩
  have b3 := b2.trans b3
  go_wp2_with fail
  refine (same_y b3.size (K : Int) HN0.out (hrb0.below b3 hlt) hlt h2560 (by omega) hm3 (opsOf_ok 3 (by omega) (by omega) bs) (by omega) s3 (fun W L' hb hW => ⟨_, hW.get⟩)).mono ?_
  rintro e w4 ⟨rfl, s4, b4⟩
  have b4 := b3.trans b4
  go_wp2_with fail
  refine (same_y b4.size (K3 : Int) HN0.out (hrb0.below b4 hlt) hlt h2560 (by omega) HN.out h8 (by omega) s4 (fun W L' hb _ => ⟨_, (hr.below b4 hlt).below hb hlt⟩)).mono ?_
  rintro e w5 ⟨rfl, s5, b5⟩
  have b5 := b4.trans b5
  go_wp2_with fail
  go_ret
  exact ⟨by simp, b5⟩
end Go.Proofs.Ytdjehackbebpaaa
