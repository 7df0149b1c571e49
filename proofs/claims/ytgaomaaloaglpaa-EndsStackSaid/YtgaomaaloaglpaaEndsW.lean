/-
  A deque with some items, and the law's own run of a batch beside its operations: the walks.
-/
import Derived.Test.YtgaomaaloaglpaaEndsV
namespace Go.Proofs.Ytgaomaaloaglpaa
open Go.RowKit Go.Rp

/-- What Filled puts. -/
def put3 (b : Nat) : Int := (b : Int) * 3
def fillStep (mo : Nat) (l : List Int) (x : Nat) : List Int := if x % 2 = 0 then (if l.length < mo then put3 x :: l else l) else (if l.length < mo then l ++ [put3 x] else l)
def filled (mo : Nat) (bs : List Nat) : List Int := bs.foldl (fillStep mo) []
theorem filled_zero (mo : Nat) (bs : List Nat) : filled mo (bs.take 0) = [] := by simp [filled]
theorem filled_snoc (mo : Nat) (bs : List Nat) (m : Nat) (hm : m < bs.length) : filled mo (bs.take (m + 1)) = fillStep mo (filled mo (bs.take m)) bs[m] := by
  unfold filled
  rw [List.take_succ_eq_append_getElem hm, List.foldl_append]
  rfl
theorem fill_even (mo : Nat) (l : List Int) (x : Nat) (h : x % 2 = 0) : fillStep mo l x = if l.length < mo then put3 x :: l else l := if_pos h
theorem fill_odd (mo : Nat) (l : List Int) (x : Nat) (h : ¬ x % 2 = 0) : fillStep mo l x = if l.length < mo then l ++ [put3 x] else l := if_neg h
set_option maxHeartbeats 1000000 in
theorem Filled_s {B : Nat} {w : World} {L : List Res} (hB : B ≤ w.heap.size) (h : At B w L) (ms : Int) {A : Option Addr} {n c : Nat} {R : Nat → Prop} {bs : List Nat} (hn : bs.length = n) (hr : Rd w R 1 A n (bs.map fun (x : Nat) => Value.int .u8 (x : Int))) (hR : ∀ b, R b → b < B) (h8 : ∀ x ∈ bs, x < 256) (hlen : n ≤ 100000) :
    Calls Try.prog 19 #[.int .i64 ms, .slice A n c] w fun e w' => ∃ p, e = .returned (.pointer (some ⟨p, 0, none⟩)) ∧ At B w' (ringR p (cut ms) (filled (cut ms) bs) :: L) ∧ Below B w w' := by
  have hnew := new_s hB h ms
  have HN := Lib.hid hn
  clear hn
  go_enter Try.func19, Try.ntmps19
  go_wp2_with fail
  refine hnew.mono ?_
  rintro e w1 ⟨p, rfl, s1, b1⟩
  have hle1 := Nat.le_trans hB b1.size
  clear hnew h
  go_wp2_with fail
  go_loopg [6] n (fun g k wr => ∃ m : Nat, m + g = n ∧ k = .int .i64 (m : Int) ∧ At B wr (ringR p (cut ms) (filled (cut ms) (bs.take m)) :: L) ∧ Below B w wr ∧ B ≤ wr.heap.size)
  case atStart => exact ⟨0, by omega, rfl, by rw [filled_zero]; exact s1, b1, hle1⟩
  case round =>
    clear s1 b1
    obtain ⟨m, hm, rfl, s2, b2, hle⟩ := hrel
    by_cases hlt : m < n
    · have hml : m < bs.length := by rw [HN.out]; exact hlt
      obtain ⟨b, off, rfl, _, hcells⟩ := (hr.below b2 hR).at (by omega)
      have g0 : wr.cell? ⟨b, off + m, none⟩ = some (.int .u8 ((bs[m] : Nat) : Int)) := hcells m _ (by simp [hml])
      have h256 := h8 _ (List.getElem_mem hml)
      have hsn := Lib.hid (filled_snoc (cut ms) bs m hml)
      have hpL := pushL_s hle s2 (put3 bs[m])
      have hpR := pushR_s hle s2 (put3 bs[m])
      have e1 : IntKind.i32.wrap ((bs[m] : Nat) : Int) = ((bs[m] : Nat) : Int) := IntWalk.i32_in _ (by omega)
      have e2 : IntKind.i32.wrap (((bs[m] : Nat) : Int) * 3) = put3 bs[m] := IntWalk.i32_in _ (by omega)
      have e3 : wrap32 (((bs[m] : Nat) : Int) * 3) = put3 bs[m] := by rw [← e2]; simp [wrap32, IntKind.wrap_i32]
      have he := fill_even (cut ms) (filled (cut ms) (bs.take m)) bs[m]
      have ho := fill_odd (cut ms) (filled (cut ms) (bs.take m)) bs[m]
      generalize filled (cut ms) (bs.take m) = fl at *
      generalize put3 bs[m] = pv at *
      generalize bs[m] = x at *
      have HE := Lib.hid he
      have HO := Lib.hid ho
      clear he ho
      clear hcells
      by_cases h2 : x % 2 = 0
      · have hx2 : (x : Int) % 2 = 0 := by omega
        have hs2 := Lib.hid (hsn.out.trans (HE.out h2))
        clear hsn h2
        go_wp2_with fail
        refine hpL.mono ?_
        rintro e w3 ⟨rfl, s3, b3'⟩
        have b3 := b2.trans b3'
        have hle3 := Nat.le_trans hle b3'.size
        clear hpL hpR
        go_wp2_with fail
        go_roundg (gk - 1)
        case measure => omega
        case rel => exact ⟨m + 1, by omega, by go_num, by rw [hs2.out]; exact s3, b3, hle3⟩
      · have hx2 : ((x : Int) % 2 == 0) = false := by simp; omega
        have hx3 : (x : Int) % 2 = 1 := by omega
        have hs2 := Lib.hid (hsn.out.trans (HO.out h2))
        clear hsn h2
        go_wp2_with fail
        refine hpR.mono ?_
        rintro e w3 ⟨rfl, s3, b3'⟩
        have b3 := b2.trans b3'
        have hle3 := Nat.le_trans hle b3'.size
        clear hpL hpR
        go_wp2_with fail
        go_roundg (gk - 1)
        case measure => omega
        case rel => exact ⟨m + 1, by omega, by go_num, by rw [hs2.out]; exact s3, b3, hle3⟩
    · obtain rfl : m = n := by omega
      rw [List.take_of_length_le (by rw [HN.out]; omega)] at s2
      go_wp2_with fail
      go_ret
      exact ⟨p, rfl, s2, b2⟩
set_option maxRecDepth 100000 in
set_option maxHeartbeats 4000000 in
theorem same_y {B : Nat} {w : World} {L : List Res} {A : Option Addr} {n c : Nat} {ops : List (Int × Int)} (hB : B ≤ w.heap.size) (ms : Int) {A0 : Option Addr} {n0 c0 : Nat} {R0 : Nat → Prop} {bs : List Nat} (hn0 : bs.length = n0) (hr0 : Rd w R0 1 A0 n0 (bs.map fun (x : Nat) => Value.int .u8 (x : Int))) (hR0 : ∀ b, R0 b → b < B) (h256 : ∀ x ∈ bs, x < 256) (hlen0 : n0 ≤ 100000)
    (hn : ops.length = n) (h8 : ∀ o ∈ ops, 0 ≤ o.1 ∧ o.1 ≤ 255) (hlen : n ≤ 100000) (h : At B w L) (hrd : ∀ W L', Below B w W → At B W (L ++ L') → ∃ R, Rd W R 2 A n (ops.flatMap opIn)) :
    Calls Try.prog 21 #[.int .i64 ms, .slice A0 n0 c0, .slice A n c] w fun e w' => e = .returned (.bool true) ∧ At B w' L ∧ Below B w w' := by
  have f1 := Filled_s (c := c0) hB h ms hn0 hr0 hR0 h256 hlen0
  have HN := Lib.hid hn
  clear hn
  go_enter Try.func21, Try.ntmps21
  go_wp2_with fail
  refine f1.mono ?_
  rintro e w1 ⟨p, rfl, s1, b1⟩
  have f2 := Filled_s (c := c0) (Nat.le_trans hB b1.size) s1 ms hn0 (hr0.below b1 hR0) hR0 h256 hlen0
  clear f1 h
  go_wp2_with fail
  refine f2.mono ?_
  rintro e w2 ⟨q, rfl, s2, b2⟩
  have b2 := b1.trans b2
  clear f2 s1 b1 hr0 hR0 h256
  obtain ⟨l0, hl0⟩ : ∃ l0, filled (cut ms) bs = l0 := ⟨_, rfl⟩
  obtain ⟨mo, hmo⟩ : ∃ mo, cut ms = mo := ⟨_, rfl⟩
  rw [hl0, hmo] at s2
  clear hl0 hmo
  have ap := Apply_y (c := c) (Nat.le_trans hB b2.size) s2.rot2 HN.out h8 hlen (fun W L' hb hW => hrd W L' (b2.trans hb) (Sep.drop hW))
  go_wp2_with fail
  refine ap.mono ?_
  rintro e w3 ⟨g, rfl, s3, b3⟩
  have hle3 := Nat.le_trans hB (b2.trans b3).size
  have b3 := b2.trans b3
  clear ap s2 b2
  have s4 : At B w3 (ringR q mo (dqAt l0 mo ops 0) :: slRes 42 2 (some ⟨g, 0, none⟩) n n ((toldK n (mCode mo l0.length ops) (mVal l0 mo ops) n).flatMap resIn) :: ringR p mo (dqAt l0 mo ops n) :: L) := by
    have e : dqAt l0 mo ops 0 = l0 := by exact dqAt_zero l0 mo ops
    rw [e]
    exact s3.rot3
  clear s3
  go_wp2_with fail
  go_loopg [10] n (fun g' k wr => ∃ m : Nat, m + g' = n ∧ k = .int .i64 (m : Int) ∧ At B wr (ringR q mo (dqAt l0 mo ops m) :: slRes 42 2 (some ⟨g, 0, none⟩) n n ((toldK n (mCode mo l0.length ops) (mVal l0 mo ops) n).flatMap resIn) :: ringR p mo (dqAt l0 mo ops n) :: L) ∧ Below B w wr ∧ B ≤ wr.heap.size)
  case atStart => exact ⟨0, by omega, rfl, s4, b3, hle3⟩
  case round =>
    clear s4 b3 hle3
    obtain ⟨m, hm, rfl, s5, b5, hle5⟩ := hrel
    by_cases hlt : m < n
    · have hml : m < ops.length := by rw [HN.out]; exact hlt
      have htl : m < (toldK n (mCode mo l0.length ops) (mVal l0 mo ops) n).length := by rw [toldK_len]; exact hlt
      obtain ⟨t0, t1⟩ := res_at _ m htl
      rw [toldK_get _ _ _ _ _ hlt, if_pos hlt] at t0 t1
      obtain ⟨R, hr⟩ := hrd wr _ b5 (show At B wr (L ++ _) from s5.back3)
      obtain ⟨b, off, rfl, _, _⟩ := hr.at (by omega)
      obtain ⟨c0, c1⟩ := op_at ops m hml
      have hkeep : ∀ (W : World) l, B ≤ W.heap.size → Below B w W → At B W (ringR q mo l :: slRes 42 2 (some ⟨g, 0, none⟩) n n ((toldK n (mCode mo l0.length ops) (mVal l0 mo ops) n).flatMap resIn) :: ringR p mo (dqAt l0 mo ops n) :: L) →
          W.cell? ⟨g, m * 2, none⟩ = some (.int .u8 (mCode mo l0.length ops m)) ∧ W.cell? ⟨g, m * 2 + 1, none⟩ = some (.int .i32 (mVal l0 mo ops m)) ∧ W.cell? ⟨b, off + m * 2, none⟩ = some (.int .u8 ops[m].1) ∧ W.cell? ⟨b, off + m * 2 + 1, none⟩ = some (.int .i32 ops[m].2) := fun W l hle hb hs => by
        obtain ⟨R, hr⟩ := hrd W _ hb (show At B W (L ++ _) from hs.back3)
        obtain ⟨b2, o2, hA, _, hc⟩ := hr.at (by omega)
        simp at hA
        obtain ⟨rfl, rfl⟩ := hA
        exact ⟨(hs.rot2.slat hle _ _ t0).1, (hs.rot2.slat hle _ _ t1).1, hc _ _ c0, hc _ _ c1⟩
      obtain ⟨k0, k1⟩ := h8 _ (List.getElem_mem hml)
      have hdo := do_s (w := World.drew wr) hle5 (Sep.drew s5) ops[m].1 ops[m].2 k0 k1 (same_told hml)
      have hmn : (m : Int) < (n : Int) := by omega
      obtain ⟨r0, r1, g0, g1⟩ := hkeep wr _ hle5 b5 s5
      clear t0 t1 htl c0 c1 hr
      generalize mCode mo l0.length ops m = cd at *
      generalize mVal l0 mo ops m = vl at *
      generalize ops[m].1 = kd at *
      generalize ops[m].2 = vd at *
      go_wp2_with fail
      go_region_held3 (fun w' => w'.cell? ⟨g, m * 2, none⟩ = some (.int .u8 cd) ∧ w'.cell? ⟨g, m * 2 + 1, none⟩ = some (.int .i32 vl) ∧ w'.cell? ⟨b, off + m * 2, none⟩ = some (.int .u8 kd) ∧ w'.cell? ⟨b, off + m * 2 + 1, none⟩ = some (.int .i32 vd)) (first | (refine ⟨?_, ?_, ?_, ?_⟩ <;> assumption) | go_keep) (first
        | (go_at_call 34; ((with_reducible refine hdo.mono ?_); rintro e w6 ⟨rfl, s6, b6⟩; have hle6 := Nat.le_trans hle5 b6.size; have b6 := b5.drew.trans b6; obtain ⟨r0, r1, g0, g1⟩ := hkeep w6 _ hle6 b6 s6)))
      go_wp2_with fail
      go_roundg (gk - 1)
      case measure => omega
      case rel => exact ⟨m + 1, by omega, by go_num, s6, b6, hle6⟩
    · obtain rfl : m = n := by omega
      obtain ⟨hl1, _⟩ := ring_len s5
      obtain ⟨hlp, hmo⟩ := ring_len s5.rot3
      obtain ⟨le, hle⟩ : ∃ le, (dqAt l0 mo ops m).length = le := ⟨_, rfl⟩
      rw [hle] at hlp
      have HLE := Lib.hid hle
      have i1 := items_s hle5 s5.rot3 HLE.out
      clear hl1 hle
      generalize dqAt l0 mo ops m = fin at *
      go_wp2_with fail
      refine i1.mono ?_
      rintro e w6 ⟨A6, c6, rfl, s6, b6⟩
      have hle6 := Nat.le_trans hle5 b6.size
      have b6 := b5.trans b6
      have i2 := items_s hle6 s6.rot3 HLE.out
      clear i1 s5 b5
      go_wp2_with fail
      refine i2.mono ?_
      rintro e w7 ⟨A7, c7, rfl, s7, b7⟩
      have hle7 := Nat.le_trans hle6 b7.size
      have b7 := b6.trans b7
      have i3 := Same_t (c := c6) (c' := c7) hle7 s7 (Sl.rd s7.rot3.get) (Sl.rd s7.get) (by omega) (by omega)
      clear i2 s6 b6
      go_wp2_with fail
      refine i3.mono ?_
      rintro e w8 ⟨rfl, s8, b8⟩
      have b8 := b7.trans b8
      have i4 := rmost_s s8.rot4
      have i5 := rmost_s s8.rot2
      clear i3 s7 b7
      go_wp2_with fail
      refine i4.mono ?_
      rintro e w9 ⟨rfl, rfl⟩
      go_wp2_with fail
      refine i5.mono ?_
      rintro e w9 ⟨rfl, rfl⟩
      go_wp2_with fail
      go_ret
      exact ⟨by simp, (Sep.drop (Sep.drop (Sep.drop (Sep.drop (Sep.drop s8))))), b8⟩

end Go.Proofs.Ytgaomaaloaglpaa
