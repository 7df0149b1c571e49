/-
  The walk of MatchNone.
-/
import Derived.Test.YtdjehackbebpaaaMatchK
import Derived.Test.YtdjehackbebpaaaLawMatchPairs
namespace Go.Rp
theorem mAt_zero (ops : List (Int × Int)) (k : Nat) : mAt 0 0 ops k = ([], 0) := by
  have := mAt_len 0 0 ops (Nat.le_refl _) k
  have hl : (mAt 0 0 ops k).1 = [] := List.length_eq_zero_iff.1 (by omega)
  have hb : (mAt 0 0 ops k).2 = 0 := by omega
  exact Prod.ext hl hb
theorem mPair_zero (ops : List (Int × Int)) (k : Nat) : mPair 0 0 ops k = -1 := pair_none (by rw [mAt_zero])
theorem mCode_zero (ops : List (Int × Int)) (k : Nat) : mCode 0 0 ops k = if kindAt ops k = 1 then 3 else if kindAt ops k = 2 then 4 else 5 := by
  unfold mCode
  rw [mAt_zero]
  unfold mStep
  split
  · simp
  · split <;> simp
theorem mVal_zero (ops : List (Int × Int)) (k : Nat) : mVal [] 0 ops k = 0 := by
  apply mVal_none
  · show mCode 0 0 ops k ≠ 2
    rw [mCode_zero]
    split
    · decide
    · split <;> decide
  · exact mPair_zero ops k
end Go.Rp
namespace Go.Proofs.Ytdjehackbebpaaa
open Go.RowKit Go.Rp

set_option maxRecDepth 100000 in
set_option maxHeartbeats 2000000 in
theorem MatchNone_walk (w : World) (a : Option Addr) (n c : Nat) (ops : List (Int × Int)) (h0 : InRows 2 opIn opOk w a n c ops) :
    Calls Try.prog 7 #[.slice a n c] w fun e w' => e = .returned (.bool true) ∧ Below w.heap.size w w' := by
  have hr : Rd w (· < w.heap.size) 2 a n (ops.flatMap opIn) := h0.rd
  have h8 : ∀ o ∈ ops, 0 ≤ o.1 ∧ o.1 ≤ 255 := fun o ho => wf_u8 (h0.ok o ho).1
  have hreach := h0.reach
  have HN := Lib.hid h0.len
  have hlt : ∀ b, (fun x => x < w.heap.size) b → b < w.heap.size := fun _ h => h
  have s0 : At w.heap.size w [] := trivial
  clear h0
  by_cases hbig : 100 < n
  · have hL1 : (100 : Int) < (n : Int) := by omega
    go_enter Try.func7, Try.ntmps7
    go_wp2_with fail
    refine (known_any _).mono ?_
    rintro e w1 ⟨rfl, b1⟩
    go_wp2_with fail
    go_ret
    exact ⟨rfl, b1⟩
  have hL1 : ¬ (100 : Int) < (n : Int) := by omega
  have p1 := Apply_nil (c := c) (rfl : ([] : List Int) = []) (rfl : (0 : Nat) = 0) (Nat.le_refl _) s0 HN.out h8 (by omega) (fun W L' hb _ => ⟨_, hr.below hb hlt⟩)
  go_enter Try.func7, Try.ntmps7
  go_wp2_with fail
  refine p1.mono ?_
  rintro e w1 ⟨g, rfl, s1, b1⟩
  have p2 := Pairs_in (c := c) b1.size 0 0 (hr.below b1 hlt) hlt HN.out h8 (by omega) s1
  clear p1
  go_wp2_with fail
  refine p2.mono ?_
  rintro e w2 ⟨gp, gc, rfl, s2, b2⟩
  have b2 := b1.trans b2
  have hle2 := b2.size
  clear p2 b1 s1
  go_wp2_with fail
  go_loopg [6] n (fun g' k wr => ∃ m : Nat, m + g' = n ∧ k = .int .i64 (m : Int) ∧ At w.heap.size wr (intsO gp n (pairsL 0 0 ops) :: codesO gc n (codesL 0 0 ops) :: slRes 42 2 (some ⟨g, 0, none⟩) n n ((toldK n (mCode 0 ([] : List Int).length ops) (mVal [] 0 ops) n).flatMap resIn) :: []) ∧ Below w.heap.size w wr ∧ w.heap.size ≤ wr.heap.size)
  case atStart => exact ⟨0, by omega, rfl, s2, b2, hle2⟩
  case round =>
    clear s2 b2 hle2
    obtain ⟨m, hm, rfl, s3, b3, hle3⟩ := hrel
    by_cases hltm : m < n
    · have hml : m < ops.length := by rw [HN.out]; exact hltm
      have hmn : (m : Int) < (n : Int) := by omega
      obtain ⟨b, off, rfl, _, hcells⟩ := (hr.below b3 hlt).at (by omega)
      obtain ⟨c0, c1⟩ := op_at ops m hml
      have g0 : wr.cell? ⟨b, off + m * 2, none⟩ = some (.int .u8 ops[m].1) := hcells _ _ c0
      have g1 : wr.cell? ⟨gp, m, none⟩ = some (.int .i64 (-1)) := own_at s3 ((pairsL_q hml).trans (by rw [show capI 0 = 0 by decide, show belI 0 0 = 0 by decide, mPair_zero]))
      have g2 : wr.cell? ⟨gc, m, none⟩ = some (.int .u8 (mCode 0 0 ops m)) := own_at s3.rot2 ((codesL_q hml).trans (by rw [show capI 0 = 0 by decide, show belI 0 0 = 0 by decide]))
      have htl : m < (toldK n (mCode 0 ([] : List Int).length ops) (mVal [] 0 ops) n).length := by rw [toldK_len]; exact hltm
      obtain ⟨t0, t1⟩ := res_at _ m htl
      rw [toldK_get _ _ _ _ _ hltm, if_pos hltm, mVal_zero] at t0 t1
      have r0 : wr.cell? ⟨g, m * 2, none⟩ = some (.int .u8 (mCode 0 0 ops m)) := (s3.rot3.slat hle3 _ _ t0).1
      have r1 : wr.cell? ⟨g, m * 2 + 1, none⟩ = some (.int .i32 0) := (s3.rot3.slat hle3 _ _ t1).1
      have hcz := mCode_zero ops m
      rw [kindAt_lt hml] at hcz
      rw [hcz] at g2 r0
      clear hcells c0 c1 htl t0 t1 hcz
      generalize ops[m].1 = kd at *
      by_cases h1 : kd = 1
      · subst h1
        rw [if_pos rfl] at g2 r0
        go_wp2_with fail
        go_roundg (gk - 1)
        case measure => omega
        case rel => exact ⟨m + 1, by omega, by go_num, s3, b3, hle3⟩
      · rw [if_neg h1] at g2 r0
        have hn1 : (kd == 1) = false := by simpa using h1
        by_cases h2 : kd = 2
        · subst h2
          rw [if_pos rfl] at g2 r0
          go_wp2_with fail
          go_roundg (gk - 1)
          case measure => omega
          case rel => exact ⟨m + 1, by omega, by go_num, s3, b3, hle3⟩
        · rw [if_neg h2] at g2 r0
          have hn2 : (kd == 2) = false := by simpa using h2
          go_wp2_with fail
          go_roundg (gk - 1)
          case measure => omega
          case rel => exact ⟨m + 1, by omega, by go_num, s3, b3, hle3⟩
    · obtain rfl : m = n := by omega
      have hk := known_any wr
      go_wp2_with fail
      refine hk.mono ?_
      rintro e w4 ⟨rfl, b4⟩
      have b4 := b3.trans (b4.mono hle3)
      go_wp2_with fail
      go_ret
      exact ⟨rfl, b4⟩
end Go.Proofs.Ytdjehackbebpaaa
