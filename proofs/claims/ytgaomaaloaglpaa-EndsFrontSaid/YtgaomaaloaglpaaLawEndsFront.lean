/-
  The walk of EndsFront.
-/
import Derived.Test.YtgaomaaloaglpaaEndsF
namespace Go.Rp
open Go.RowKit
theorem Rd.pre {w : World} {R : Nat → Prop} {sz n k : Nat} {A : Option Addr} {xs : List Value} (h : Rd w R sz A n xs) (hk : k ≤ n) : Rd w R sz A k (xs.take (k * sz)) := by
  have hm : k * sz ≤ n * sz := Nat.mul_le_mul_right sz hk
  refine ⟨by rw [List.length_take, h.1]; omega, fun h0 => ?_⟩
  obtain ⟨b, off, hA, hR, hc⟩ := h.2 (by omega)
  refine ⟨b, off, hA, hR, fun j u hu => hc j u ?_⟩
  rw [List.getElem?_take] at hu
  split at hu
  · exact hu
  · cases hu
theorem flat_take {ops : List (Int × Int)} : ∀ {k : Nat}, (ops.flatMap opIn).take (k * 2) = (ops.take k).flatMap opIn := by
  induction ops with
  | nil => intro k; simp
  | cons o l ih =>
    intro k
    rcases k with _ | k
    · simp
    · rw [show (k + 1) * 2 = k * 2 + 1 + 1 by omega]
      simp only [List.flatMap_cons, List.take_succ_cons, opIn, List.cons_append, List.nil_append]
      rw [← ih]
end Go.Rp
namespace Go.Proofs.Ytgaomaaloaglpaa
open Go.RowKit Go.Rp

theorem pairsL_take (hv ms : Int) (ops : List (Int × Int)) {k : Nat} (h : k ≤ ops.length) : pairsL hv ms (ops.take k) = (pairsL hv ms ops).take k := by
  apply List.ext_getElem?
  intro i
  rw [List.getElem?_take]
  split
  · rename_i hi
    rw [pairsL_q (by simp; omega), pairsL_q (by omega), mPair_take hi]
  · rw [List.getElem?_eq_none (by rw [pairsL_len]; simp; omega)]

set_option maxRecDepth 100000 in
set_option maxHeartbeats 2000000 in
theorem EndsFront_walk (w : World) (hv : Int) (hhv : (Lit.int .i64 hv).wf = true) (ms : Int) (hms : (Lit.int .i64 ms).wf = true) (a : Option Addr) (n c : Nat) (ops : List (Int × Int)) (h0 : InRows 2 opIn opOk w a n c ops) (x : Int) (hx : (Lit.int .u8 x).wf = true) :
    Calls Try.prog 6 #[.int .i64 hv, .int .i64 ms, .slice a n c, .int .u8 x] w fun e w' => e = .returned (.bool true) ∧ Below w.heap.size w w' := by
  have hr : Rd w (· < w.heap.size) 2 a n (ops.flatMap opIn) := h0.rd
  have h8 : ∀ o ∈ ops, 0 ≤ o.1 ∧ o.1 ≤ 255 := fun o ho => wf_u8 (h0.ok o ho).1
  have hreach := h0.reach
  have hle0 := h0.le
  have hn := h0.len
  have HN := Lib.hid hn
  clear h0 hhv hms
  by_cases hbig : 80 < n
  · have hL1 : (80 : Int) < (n : Int) := by omega
    go_enter Try.func6, Try.ntmps6
    go_wp2_with fail
    refine (known_any _).mono ?_
    rintro e w1 ⟨rfl, b1⟩
    go_wp2_with fail
    go_ret
    exact ⟨rfl, b1⟩
  have hL1 : ¬ (80 : Int) < (n : Int) := by omega
  obtain ⟨x0, x1⟩ := wf_u8 hx
  have hx0 := Int.emod_nonneg x (b := (n : Int) + 1) (by omega)
  have hx1 := Int.emod_lt_of_pos x (b := (n : Int) + 1) (by omega)
  obtain ⟨K, hK⟩ : ∃ K : Nat, x % ((n : Int) + 1) = (K : Int) := ⟨(x % ((n : Int) + 1)).toNat, by omega⟩
  rw [hK] at hx0 hx1
  have hKn : K ≤ n := by omega
  have hrK : Rd w (· < w.heap.size) 2 a K ((ops.take K).flatMap opIn) := by
    have := hr.pre hKn
    rwa [flat_take] at this
  have h8K : ∀ o ∈ ops.take K, 0 ≤ o.1 ∧ o.1 ≤ 255 := fun o ho => h8 o (List.mem_of_mem_take ho)
  have hnK : (ops.take K).length = K := by simp; omega
  have hlt : ∀ b, (fun x => x < w.heap.size) b → b < w.heap.size := fun _ h => h
  have s0 : At w.heap.size w [] := trivial
  have p1 := Pairs_in (c := c) (Nat.le_refl _) hv ms hr hlt hn h8 (by omega) s0
  have hKn' : (K : Int) ≤ (n : Int) := by omega
  have hKc : (K : Int) ≤ (c : Int) := by omega
  have HNK := Lib.hid hnK
  clear hn hnK s0 hx
  go_enter Try.func6, Try.ntmps6
  go_wp2_with fail
  refine p1.mono ?_
  rintro e w1 ⟨gp, gc, rfl, s1, b1⟩
  have p2 := Pairs_in (c := c) b1.size hv ms (hrK.below b1 hlt) hlt HNK.out h8K (by omega) s1
  clear p1
  go_wp2_with fail
  refine p2.mono ?_
  rintro e w2 ⟨gq, gd, rfl, s2, b2⟩
  have b2 := b1.trans b2
  clear p2 b1
  go_wp2_with fail
  go_loopg [14] K (fun g k wr => ∃ m : Nat, m + g = K ∧ k = .int .i64 (m : Int) ∧ At w.heap.size wr (intsO gq K (pairsL hv ms (ops.take K)) :: codesO gd K (codesL hv ms (ops.take K)) :: intsO gp n (pairsL hv ms ops) :: codesO gc n (codesL hv ms ops) :: []) ∧ Below w.heap.size w wr)
  case atStart => exact ⟨0, by omega, rfl, s2, b2⟩
  case round =>
    clear s2 b2 s1
    obtain ⟨m, hm, rfl, s3, b3⟩ := hrel
    by_cases hltm : m < K
    · have g1 : wr.cell? ⟨gc, m, none⟩ = some (.int .u8 (mCode (capI ms) (belI hv ms) ops m)) := own_at s3.rot4 (codesL_q (by have := HN.out; omega))
      have g2 : wr.cell? ⟨gd, m, none⟩ = some (.int .u8 (mCode (capI ms) (belI hv ms) (ops.take K) m)) := own_at s3.rot2 (codesL_q (by rw [HNK.out]; exact hltm))
      rw [mCode_take hltm] at g2
      generalize mCode (capI ms) (belI hv ms) ops m = q at *
      have hmn : (m : Int) < (n : Int) := by omega
      have hmK : (m : Int) < (K : Int) := by omega
      go_wp2_with fail
      go_quiet (fail)
      go_wp2_with fail
      go_roundg (gk - 1)
      case measure => omega
      case rel => exact ⟨m + 1, by omega, by go_num, s3.drewN _, below_drewN b3 _⟩
    · obtain rfl : m = K := by omega
      have hk := known_s b3.size s3
      go_wp2_with fail
      refine hk.mono ?_
      rintro e w4 ⟨rfl, s4, b4⟩
      have b4 := b3.trans b4
      clear hk s3 b3
      have hi := Ints_s (c := n) (c' := m) b4.size s4 (show Rd w4 _ 1 (some ⟨gp, 0, none⟩) m (((pairsL hv ms ops).take m).map fun x => Value.int .i64 x) from by
        have := (Sl.rd s4.rot3.get).pre (k := m) (by omega)
        rwa [Nat.mul_one, ← List.map_take] at this) (Sl.rd s4.get) (by omega) (by omega) (decide_eq_true (pairsL_take hv ms ops (by have := HN.out; omega)).symm)
      go_wp2_with fail
      refine hi.mono ?_
      rintro e w5 ⟨rfl, s5, b5⟩
      have b5 := b4.trans b5
      clear hi s4 b4
      have hs := Spared_in (c := c) b5.size hv ms (hrK.below b5 hlt) hlt HNK.out h8K (by omega) s5 rfl
      go_wp2_with fail
      refine hs.mono ?_
      rintro e w6 ⟨rfl, s6, b6⟩
      have b6 := b5.trans b6
      clear hs s5 b5
      have hs := Spared_in (c := c) b6.size hv ms (hr.below b6 hlt) hlt HN.out h8 (by omega) s6 rfl
      go_wp2_with fail
      refine hs.mono ?_
      rintro e w7 ⟨rfl, s7, b7⟩
      have b7 := b6.trans b7
      clear hs s6 b6
      have hmm : metN (mPair (capI ms) (belI hv ms) (ops.take m)) m ≤ metN (mPair (capI ms) (belI hv ms) ops) n := by
        rw [metN_congr (g := mPair (capI ms) (belI hv ms) ops) fun i hi => mPair_take hi]
        exact metN_mono _ hKn
      generalize metN (mPair (capI ms) (belI hv ms) (ops.take m)) m = y1 at *
      generalize metN (mPair (capI ms) (belI hv ms) ops) n = y2 at *
      have hmm' : (y1 : Int) ≤ (y2 : Int) := by omega
      go_wp2_with fail
      go_ret
      exact ⟨by simp_all, b7⟩
end Go.Proofs.Ytgaomaaloaglpaa
