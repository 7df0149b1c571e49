/-
  The walk of MatchNested.
-/
import Derived.Test.YtdjehackbebpaaaLawMatchPairs
namespace Go.Proofs.Ytdjehackbebpaaa
open Go.RowKit Go.Rp

theorem metBy_s {B : Nat} {w : World} {L : List Res} {gp n : Nat} {l : List Int} (h : At B w (intsO gp n l :: L)) (hln : l.length = n) (hn : n ≤ 100000) {x : Int} {en : Nat} (hen : en ≤ n) (hex : ∃ i, i < en ∧ l[i]? = some x) :
    Calls Try.prog 14 #[.slice (some ⟨gp, 0, none⟩) n n, .int .i64 x, .int .i64 (en : Int)] w fun e w' => e = .returned (.bool true) ∧ w = w' := by
  have HEX := Lib.hid hex
  have HLN := Lib.hid hln
  clear hex hln
  go_enter Try.func14, Try.ntmps14
  go_wp2_with fail
  go_loopg [7] en (fun g k wr => ∃ m : Nat, m + g = en ∧ k = .int .i64 (m : Int) ∧ w = wr ∧ Hid (∀ i, i < m → l[i]? ≠ some x))
  case atStart => exact ⟨0, by omega, rfl, rfl, Lib.hid fun i hi => by omega⟩
  case round =>
    obtain ⟨m, hm, rfl, rfl, HJ⟩ := hrel
    by_cases hlt : m < en
    · have hml : m < l.length := by rw [HLN.out]; omega
      obtain ⟨y, hy⟩ : ∃ y, l[m]? = some y := ⟨_, List.getElem?_eq_getElem hml⟩
      have g0 := own_at h hy
      have hmn : (m : Int) < (n : Int) := by omega
      by_cases hyx : y = x
      · subst hyx
        have hd : (y == y) = true := by simp
        go_wp2_with fail
        go_ret
        exact ⟨rfl, rfl⟩
      · have hd : (y == x) = false := by simpa using hyx
        have HJ2 : Hid (∀ i, i < m + 1 → l[i]? ≠ some x) := Lib.hid fun i hi => by
          by_cases e : i = m
          · subst e; rw [hy]; simpa using hyx
          · exact HJ.out i (by omega)
        clear HJ hy
        go_wp2_with fail
        go_roundg (gk - 1)
        case measure => omega
        case rel => exact ⟨m + 1, by omega, by go_num, rfl, HJ2⟩
    · exfalso
      obtain ⟨i, hi, hx⟩ := HEX.out
      exact HJ.out i (by omega) hx

theorem opsOf_kinds (bs : List Nat) : ∀ o ∈ opsOf 2 bs, o.1 = 1 ∨ o.1 = 2 := by
  intro o ho
  unfold opsOf at ho
  obtain ⟨c, _, rfl⟩ := List.mem_map.1 ho
  simp only
  omega

set_option maxRecDepth 100000 in
set_option maxHeartbeats 4000000 in
theorem MatchNested_walk (w : World) (x : Int) (hx : (Lit.int .u8 x).wf = true) (y : Int) (hy : (Lit.int .u8 y).wf = true) (a' : Option Addr) (n' c' : Nat) (zs : List Int) (h1 : InInts .u8 w a' n' c' zs) :
    Calls Try.prog 4 #[.int .u8 x, .int .u8 y, .slice a' n' c'] w fun e w' => e = .returned (.bool true) ∧ Below w.heap.size w w' := by
  obtain ⟨bs, hbn, h256, hrb⟩ := h1.bytes
  have hreach' := h1.reach
  have hlt : ∀ b, (fun x => x < w.heap.size) b → b < w.heap.size := fun _ h => h
  have s0 : At w.heap.size w [] := trivial
  obtain ⟨H, hH, hmod, hx0, hx1⟩ := u8_mod hx 5 (by omega)
  obtain ⟨M, hM, mmod, hy0, hy1⟩ := u8_mod hy 12 (by omega)
  clear h1 hx hy
  go_enter Try.func4, Try.ntmps4
  go_wp2_with fail
  refine (Ops_s (Nat.le_refl _) s0 hbn hrb h256 (by omega) 2 (by omega) (by omega)).mono ?_
  rintro e w1 ⟨A1, n, c, rfl, hn, h80, s1, b1⟩
  have hkinds := opsOf_kinds bs
  have h8 := opsOf_ok 2 (by omega) (by omega) bs
  generalize opsOf 2 bs = ops at *
  go_wp2_with fail
  refine (Pairs_o b1.size (H : Int) (M : Int) hn h8 (by omega) s1).mono ?_
  rintro e w2 ⟨gp, gc, rfl, s2, b2⟩
  have b2 := b1.trans b2
  clear s1 b1 hrb h256 hbn
  have HN := Lib.hid hn
  clear hn h8
  obtain ⟨mo, hmo⟩ : ∃ mo, capI (M : Int) = mo := ⟨_, rfl⟩
  obtain ⟨be, hbe⟩ : ∃ be, belI (H : Int) (M : Int) = be := ⟨_, rfl⟩
  have hpq : ∀ (k : Nat), k < ops.length → (pairsL (H : Int) (M : Int) ops)[k]? = some (mPair mo be ops k) := fun k h => by rw [pairsL_q h, hmo, hbe]
  have hcq : ∀ (k : Nat), k < ops.length → (codesL (H : Int) (M : Int) ops)[k]? = some (mCode mo be ops k) := fun k h => by rw [codesL_q h, hmo, hbe]
  have HPQ := Lib.hid hpq
  have HCQ := Lib.hid hcq
  have HK := Lib.hid hkinds
  have HPL := Lib.hid (pairsL_len (H : Int) (M : Int) ops)
  clear hpq hcq hmo hbe hkinds
  go_wp2_with fail
  go_loopg [10] n (fun g k wr => ∃ m : Nat, m + g = n ∧ k = .int .i64 (m : Int) ∧ At w.heap.size wr (intsO gp n (pairsL (H : Int) (M : Int) ops) :: codesO gc n (codesL (H : Int) (M : Int) ops) :: opsR A1 n ops :: []) ∧ Below w.heap.size w wr)
  case atStart => exact ⟨0, by omega, rfl, s2, b2⟩
  case round =>
    clear s2 b2
    obtain ⟨m, hm, rfl, s3, b3⟩ := hrel
    by_cases hltm : m < n
    · have hml : m < ops.length := by rw [HN.out]; exact hltm
      have hmn : (m : Int) < (n : Int) := by omega
      have g0 : wr.cell? ⟨gp, m, none⟩ = some (.int .i64 (mPair mo be ops m)) := own_at s3 (HPQ.out _ hml)
      rcases mPair_cases mo be ops m with e | ⟨j0, e⟩
      · rw [e] at g0
        clear e
        go_wp2_with fail
        go_loopg [11] 0 (fun g k wq => g = 0 ∧ k = .int .i64 0 ∧ wr = wq)
        case atStart => exact ⟨rfl, rfl, rfl⟩
        case round =>
          obtain ⟨rfl, rfl, rfl⟩ := hrel
          go_wp2_with fail
          go_roundg (n - (m + 1))
          case measure => omega
          case rel => exact ⟨m + 1, by omega, by go_num, s3, b3⟩
      · rw [e] at g0
        have HNE := Lib.hid (fun i (hi : j0 < i) (hk : i < m) (hkind : kindAt ops i = 1 ∨ kindAt ops i = 2) => nested e hi hk hkind)
        have hj0 : j0 < m := by
          obtain ⟨_, l, hl⟩ := mPair_met e
          exact mAt_lt mo be ops m j0 (by rw [hl]; simp)
        have HE := Lib.hid e
        clear e
        go_wp2_with fail
        go_loopg [11] m (fun g k wq => ∃ i : Nat, j0 + 1 ≤ i ∧ i + g = m + (j0 + 1) ∧ k = .int .i64 (i : Int) ∧ At w.heap.size wq (intsO gp n (pairsL (H : Int) (M : Int) ops) :: codesO gc n (codesL (H : Int) (M : Int) ops) :: opsR A1 n ops :: []) ∧ Below w.heap.size w wq)
        case atStart => exact ⟨j0 + 1, by omega, by omega, by go_num, s3, b3⟩
        case round =>
          clear s3 b3 g0
          obtain ⟨i, hi0, hi, rfl, s4, b4⟩ := hrel
          have g0 : wr.cell? ⟨gp, m, none⟩ = some (.int .i64 (j0 : Int)) := own_at s4 ((HPQ.out _ hml).trans (by rw [HE.out]))
          by_cases hlti : i < m
          · have hil : i < ops.length := by omega
            have him : (i : Int) < (m : Int) := by omega
            have hin : (i : Int) < (n : Int) := by omega
            have g1 : wr.cell? ⟨gp, i, none⟩ = some (.int .i64 (mPair mo be ops i)) := own_at s4 (HPQ.out _ hil)
            have g2 : wr.cell? ⟨gc, i, none⟩ = some (.int .u8 (mCode mo be ops i)) := own_at s4.rot2 (HCQ.out _ hil)
            obtain ⟨b, off, rfl, _, hcells⟩ := (s4.rot3.get).at (by omega)
            obtain ⟨c0, c1⟩ := op_at ops i hil
            have g3 : wr.cell? ⟨b, off + i * 2, none⟩ = some (.int .u8 (kindAt ops i)) := by rw [kindAt_lt hil]; exact hcells _ _ c0
            have hkd : kindAt ops i = 1 ∨ kindAt ops i = 2 := by rw [kindAt_lt hil]; exact HK.out _ (List.getElem_mem hil)
            obtain ⟨q1, q2⟩ := HNE.out i (by omega) hlti hkd
            clear c0 c1 hcells
            have HPN : Hid ((pairsL (H : Int) (M : Int) ops).length = n) := Lib.hid (HPL.out.trans HN.out)
            have hex0 := fun (h1 : kindAt ops i = 1) (h2 : mCode mo be ops i = 1) => (show ∃ k, k < m ∧ (pairsL (H : Int) (M : Int) ops)[k]? = some (i : Int) from by
              obtain ⟨i', h3, h4⟩ := q2 h1 h2
              exact ⟨i', h3, (HPQ.out _ (by omega)).trans (by rw [h4])⟩)
            have HX0 := Lib.hid hex0
            clear hex0 q2
            generalize mPair mo be ops i = q at *
            rcases hkd with hk1 | hk2
            · rw [hk1] at g3
              by_cases hc : mCode mo be ops i = 1
              · have HEX := Lib.hid (HX0.out hk1 hc)
                rw [hc] at g2
                clear HX0 hk1 hc q1
                by_cases hgt : (j0 : Int) < q
                · have hd : decide ((j0 : Int) < q) = true := decide_eq_true hgt
                  go_wp2_with fail
                  go_quiet (fail)
                  go_wp2_with fail
                  refine (metBy_s (s4.drewN _) HPN.out (by omega) (by omega) HEX.out).mono ?_
                  rintro e w6 ⟨rfl, rfl⟩
                  go_wp2_with fail
                  go_roundg (gk - 1)
                  case measure => omega
                  case rel => exact ⟨i + 1, by omega, by omega, by go_num, s4.drewN _, below_drewN b4 _⟩
                · have hd : decide ((j0 : Int) < q) = false := decide_eq_false hgt
                  go_wp2_with fail
                  go_quiet (fail)
                  go_wp2_with fail
                  refine (metBy_s (s4.drewN _) HPN.out (by omega) (by omega) HEX.out).mono ?_
                  rintro e w6 ⟨rfl, rfl⟩
                  go_wp2_with fail
                  go_roundg (gk - 1)
                  case measure => omega
                  case rel => exact ⟨i + 1, by omega, by omega, by go_num, s4.drewN _, below_drewN b4 _⟩
              · clear HX0 hk1 q1
                generalize mCode mo be ops i = cd at *
                have hcd : (cd == 1) = false := by simpa using hc
                by_cases hgt : (j0 : Int) < q
                · have hd : decide ((j0 : Int) < q) = true := decide_eq_true hgt
                  go_wp2_with fail
                  go_quiet (fail)
                  go_wp2_with fail
                  go_roundg (gk - 1)
                  case measure => omega
                  case rel => exact ⟨i + 1, by omega, by omega, by go_num, s4.drewN _, below_drewN b4 _⟩
                · have hd : decide ((j0 : Int) < q) = false := decide_eq_false hgt
                  go_wp2_with fail
                  go_quiet (fail)
                  go_wp2_with fail
                  go_roundg (gk - 1)
                  case measure => omega
                  case rel => exact ⟨i + 1, by omega, by omega, by go_num, s4.drewN _, below_drewN b4 _⟩
            · have hgt : (j0 : Int) < q := q1.resolve_right (by omega)
              have hd : decide ((j0 : Int) < q) = true := decide_eq_true hgt
              rw [hk2] at g3
              clear HX0 hk2 q1
              go_wp2_with fail
              go_quiet (fail)
              go_wp2_with fail
              go_roundg (gk - 1)
              case measure => omega
              case rel => exact ⟨i + 1, by omega, by omega, by go_num, s4.drewN _, below_drewN b4 _⟩
          · have him : ¬ (i : Int) < (m : Int) := by omega
            go_wp2_with fail
            go_roundg (n - (m + 1))
            case measure => omega
            case rel => exact ⟨m + 1, by omega, by go_num, s4, b4⟩
    · obtain rfl : m = n := by omega
      have hk := known_s b3.size s3
      go_wp2_with fail
      refine hk.mono ?_
      rintro e w4 ⟨rfl, s4, b4⟩
      have b4 := b3.trans b4
      go_wp2_with fail
      go_ret
      exact ⟨by simp, b4⟩
end Go.Proofs.Ytdjehackbebpaaa
