/-
  Apply of the program: its closures, and all with them.
-/
import Derived.Test.YtdjehackbebpaaaMatchE
import Derived.Test.YtdjehackbebpaaaMatchF
import Derived.Test.YtdjehackbebpaaaStackS
namespace Go.Proofs.Ytdjehackbebpaaa
open Go.RowKit Go.Rp

set_option maxRecDepth 100000 in
set_option maxHeartbeats 4000000 in
theorem all_apply (bo bs bv : Nat) (B : Nat) (w : World) (hB : B ≤ w.heap.size) (p most below : Nat) (hbm : below ≤ most) (hm : most ≤ 1000) (A : Option Addr) (n c : Nat) (ops : List (Int × Int)) (hn : ops.length = n) (h8 : ∀ o ∈ ops, 0 ≤ o.1 ∧ o.1 ≤ 255) (hlen : n ≤ 100000)
    (X : Nat → List Res)
    (hrd : ∀ k W L, Below B w W → At B W (X k ++ L) → ∃ R, Rd W R 2 A n (ops.flatMap opIn))
    (hmet : ∀ (k j : Nat) W L, k < n → (mStep most k (kindAt ops k) (mAt most below ops k)).2 = ((j : Int), 2) → Below B w W → At B W (X k ++ L) → Calls Try.prog 31 #[.int .i64 (k : Int), .int .i64 (j : Int), .pointer (some ⟨bo, 0, none⟩), .pointer (some ⟨bv, 0, none⟩)] W fun e W' => e = .returned (.tuple #[]) ∧ At B W' (X (k + 1) ++ L) ∧ Below B W W')
    (htaken : ∀ k W L, k < n → (mStep most k (kindAt ops k) (mAt most below ops k)).2 = (-1, 2) → Below B w W → At B W (X k ++ L) → Calls Try.prog 32 #[.int .i64 (k : Int), .pointer (some ⟨bs, 0, none⟩), .pointer (some ⟨bv, 0, none⟩)] W fun e W' => e = .returned (.tuple #[]) ∧ At B W' (X (k + 1) ++ L) ∧ Below B W W')
    (hsame : ∀ k, k < n → mCode most below ops k ≠ 2 → X (k + 1) = X k)
    (h : At B w (meetR p most ([], below) :: X 0)) :
    Calls Try.prog 24 #[.pointer (some ⟨p, 0, none⟩), .slice A n c, .func (.func 31) #[] #[.pointer (some ⟨bo, 0, none⟩), .pointer (some ⟨bv, 0, none⟩)], .func (.func 32) #[] #[.pointer (some ⟨bs, 0, none⟩), .pointer (some ⟨bv, 0, none⟩)]] w fun e w' =>
      ∃ g, e = .returned (.slice (some ⟨g, 0, none⟩) n n) ∧ At B w' (slRes 42 2 (some ⟨g, 0, none⟩) n n ((fillL n n (fun i => (mCode most below ops i, 0)) (0, 0)).flatMap resIn) :: meetR p most (mAt most below ops n) :: X n) ∧ Below B w w' := by
  obtain ⟨i0, hi0, hz0, hz1, hz2⟩ := info_parts info_res
  have HN := Lib.hid hn
  clear hn
  go_enter Try.func24, Try.ntmps24
  go_wp2_with (refine wpList_make_any _ rfl (.tmp 16) (.tmp 16) 39 rfl 42 i0 _ 2 8 Try.underlying39 hi0 hz0 hz1 hz2 rfl (by omega) .i64 .i64 n rfl rfl (by omega) (by omega) ?_; intro arr harr)
  have hrep : (List.replicate n ((#[Value.int .u8 0, Value.int .i32 0] : Array Value).toList)).flatten = (fillL n 0 (fun i => (mCode most below ops i, 0)) ((0, 0) : Int × Int)).flatMap resIn := by
    rw [fillL_zero]
    exact rep_res n
  have s1 : At B (w.alloc (.cells arr 42)) (slRes 42 2 (some ⟨w.heap.size, 0, none⟩) n n ((fillL n 0 (fun i => (mCode most below ops i, 0)) ((0, 0) : Int × Int)).flatMap resIn) :: meetR p most ([], below) :: X 0) :=
    h.made (fun x hx => Nat.le_trans hB hx) ((Below.refl _ w).alloc (Nat.le_refl _) _) (Sl.of_made w 42 2 n arr _ (harr.trans hrep) (by rw [res_len, fillL_length]) (by unfold maxLen; omega) ⟨Nat.le_refl _, by simp⟩)
  have b1 : Below B w (w.alloc (.cells arr 42)) := (Below.refl B w).alloc hB _
  clear hrep harr h
  go_wp2_with fail
  go_loopg [20] n (fun g k wr => ∃ m : Nat, m + g = n ∧ k = .int .i64 (m : Int) ∧ At B wr (slRes 42 2 (some ⟨w.heap.size, 0, none⟩) n n ((fillL n m (fun i => (mCode most below ops i, 0)) ((0, 0) : Int × Int)).flatMap resIn) :: meetR p most (mAt most below ops m) :: X m) ∧ Below B w wr)
  case atStart => exact ⟨0, by omega, rfl, s1, b1⟩
  case round =>
    clear s1 b1
    obtain ⟨m, hmg, rfl, s1, b1⟩ := hrel
    by_cases hlt : m < n
    · have hlt' : m < ops.length := by rw [HN.out]; exact hlt
      obtain ⟨R, hr⟩ := hrd m wr _ b1 s1.back2
      obtain ⟨b, off, rfl, hbR, hcells⟩ := hr.at (by omega)
      obtain ⟨c0, c1⟩ := op_at ops m hlt'
      obtain ⟨k0, k1⟩ := h8 _ (List.getElem_mem hlt')
      have g0 : wr.cell? ⟨b, off + m * 2, none⟩ = some (.int .u8 ops[m].1) := hcells _ _ c0
      have g1 : wr.cell? ⟨b, off + m * 2 + 1, none⟩ = some (.int .i32 ops[m].2) := hcells _ _ c1
      have hkd := kindAt_lt hlt'
      rw [← hkd] at g0 k0 k1
      have hbs := b1.size
      have hle := Nat.le_trans hB hbs
      have hmm := hmet m
      have htk := htaken m
      have hsm := hsame m hlt
      have hsu := mAt_succ (most := most) (below := below) hlt'
      have hfl : m < (fillL n m (fun i => (mCode most below ops i, 0)) ((0, 0) : Int × Int)).length := by rw [fillL_length]; exact hlt
      have hfg : (fillL n m (fun i => (mCode most below ops i, 0)) ((0, 0) : Int × Int))[m] = (0, 0) := by rw [fillL_get _ _ _ _ _ hlt, if_neg (by omega)]
      obtain ⟨t0, t1⟩ := res_at _ m hfl
      have hall : ∀ (W : World) (C : Int) (L : List Res) (cc : Int), At B W (slRes 42 2 (some ⟨w.heap.size, 0, none⟩) n n (((fillL n m (fun i => (mCode most below ops i, 0)) ((0, 0) : Int × Int)).set m (C, 0)).flatMap resIn) :: L) → B ≤ W.heap.size →
          W.cell? ⟨w.heap.size, m * 2, none⟩ = some (.int .u8 C) ∧ W.frozen? ⟨w.heap.size, m * 2, none⟩ = false ∧
          At B (W.setCell ⟨w.heap.size, m * 2, none⟩ (.int .u8 cc)) (slRes 42 2 (some ⟨w.heap.size, 0, none⟩) n n (((fillL n m (fun i => (mCode most below ops i, 0)) ((0, 0) : Int × Int)).set m (cc, 0)).flatMap resIn) :: L) ∧ Below B W (W.setCell ⟨w.heap.size, m * 2, none⟩ (.int .u8 cc)) := by
        intro W C L cc hW hBW
        have hfl2 : m < ((fillL n m (fun i => (mCode most below ops i, 0)) ((0, 0) : Int × Int)).set m (C, 0)).length := by rw [List.length_set]; exact hfl
        obtain ⟨u0, _⟩ := res_at _ m hfl2
        rw [List.getElem_set_self] at u0
        obtain ⟨a1, a2, a3⟩ := hW.slat hBW (m * 2) _ u0
        obtain ⟨a4, a5⟩ := a3 (.int .u8 cc)
        rw [res_set1 _ m hfl2, List.getElem_set_self, List.set_set] at a4
        exact ⟨a1, a2, a4, a5⟩
      have hset0 : (fillL n m (fun i => (mCode most below ops i, 0)) ((0, 0) : Int × Int)).set m (0, 0) = fillL n m (fun i => (mCode most below ops i, 0)) ((0, 0) : Int × Int) := by
        have := List.set_getElem_self hfl
        rwa [hfg] at this
      have hdone : ∀ cc : Int, mCode most below ops m = cc → (fillL n m (fun i => (mCode most below ops i, 0)) ((0, 0) : Int × Int)).set m (cc, 0) = fillL n (m + 1) (fun i => (mCode most below ops i, 0)) ((0, 0) : Int × Int) := fun cc hcc => fillL_succ _ _ _ _ _ (by rw [hcc])
      have hmc : mCode most below ops m = (mStep most m (kindAt ops m) (mAt most below ops m)).2.2 := rfl
      rw [← hset0] at s1
      have hml := mAt_len most below ops hbm m
      obtain ⟨⟨wt, bl⟩, hst⟩ : ∃ st, mAt most below ops m = st := ⟨_, rfl⟩
      rw [hst] at s1 hsu hmc hml hmm htk
      dsimp only at hml
      generalize kindAt ops m = kd at *
      generalize fillL n m (fun i => (mCode most below ops i, 0)) ((0, 0) : Int × Int) = F at *
      clear hfg hset0 t0 t1 c0 c1 hcells hkd hfl hst
      obtain ⟨vv, hvv⟩ : ∃ vv, ops[m].2 = vv := ⟨_, rfl⟩
      rw [hvv] at g1
      clear hvv
      have s1 : At B (wr.alloc (.cells #[.int .u8 kd, .int .i32 vv] 32)) _ := s1.keep ((Below.refl _ wr).alloc (Nat.le_refl _) _)
      have b1 := b1.alloc hle (.cells #[.int .u8 kd, .int .i32 vv] 32)
      have hle : B ≤ (wr.alloc (.cells #[.int .u8 kd, .int .i32 vv] 32)).heap.size := by simp; omega
      by_cases hk1 : kd = 1
      · subst hk1
        have hk1' : mStep most m 1 (wt, bl) = if bl + wt.length < most then ((wt ++ [m], bl), -1, 1) else ((wt, bl), -1, 3) := rfl
        obtain ⟨a1, a2, a3, a4⟩ := hall (wr.alloc (.cells #[.int .u8 1, .int .i32 vv] 32)) 0 _ 3 s1 hle
        have b2 := b1.trans a4
        clear hmm htk
        by_cases hroom : bl + wt.length < most
        · rw [if_pos hroom] at hk1'
          rw [hk1'] at hsu hmc
          have hX := hsm (by rw [hmc]; dsimp only; decide)
          have hD := hdone 1 hmc
          clear hk1' hsm hdone hmc
          have hpu := mpush_s (w := (wr.alloc (.cells #[.int .u8 1, .int .i32 vv] 32)).setCell ⟨w.heap.size, m * 2, none⟩ (.int .u8 3)) (Nat.le_trans hB b2.size) a3.rot2 m (decide_eq_true hroom) (if_pos hroom)
          have HX := Lib.hid hX
          have HD := Lib.hid hD
          have HS := Lib.hid hsu
          clear hX hD hsu
          go_wp2_with fail
          refine hpu.mono ?_
          rintro e w5 ⟨rfl, s5, b5⟩
          have b5 := b2.trans (b5.mono (Nat.le_refl _))
          obtain ⟨e1, e2, e3, e4⟩ := hall w5 3 _ 1 s5.rot2 (Nat.le_trans hB b5.size)
          have b6 := b5.trans e4
          clear a1 a2 a3 a4 s1 s5 hall b2 b5 e4 hpu
          go_wp2_with fail
          go_roundg (gk - 1)
          case measure => omega
          case rel => exact ⟨m + 1, by omega, by go_num, by rw [HX.out, HS.out, ← HD.out]; exact e3, b6⟩
        · rw [if_neg hroom] at hk1'
          rw [hk1'] at hsu hmc
          have hX := hsm (by rw [hmc]; dsimp only; decide)
          have hD := hdone 3 hmc
          clear hk1' hsm hdone hmc
          have hpu := mpush_s (w := (wr.alloc (.cells #[.int .u8 1, .int .i32 vv] 32)).setCell ⟨w.heap.size, m * 2, none⟩ (.int .u8 3)) (Nat.le_trans hB b2.size) a3.rot2 m (decide_eq_false hroom) (if_neg hroom)
          have HX := Lib.hid hX
          have HD := Lib.hid hD
          have HS := Lib.hid hsu
          clear hX hD hsu
          go_wp2_with fail
          refine hpu.mono ?_
          rintro e w5 ⟨rfl, s5, b5⟩
          have b6 := b2.trans (b5.mono (Nat.le_refl _))
          have e3 := s5.rot2
          clear a1 a2 a3 a4 s1 s5 hall b2 b5 hpu
          go_wp2_with fail
          go_roundg (gk - 1)
          case measure => omega
          case rel => exact ⟨m + 1, by omega, by go_num, by rw [HX.out, HS.out, ← HD.out]; exact e3, b6⟩
      · have hn1 : (kd == 1) = false := by simpa using hk1
        by_cases hk2 : kd = 2
        · subst hk2
          obtain ⟨a1, a2, a3, a4⟩ := hall (wr.alloc (.cells #[.int .u8 2, .int .i32 vv] 32)) 0 _ 2 s1 hle
          have b2 := b1.trans a4
          rcases List.eq_nil_or_concat wt with rfl | ⟨l, j, hlj⟩
          · have hk2' : mStep most m 2 ([], bl) = if 0 < bl then (([], bl - 1), -1, 2) else (([], bl), -1, 4) := by simp [mStep]
            have hun := fun (W : World) (v : Bool) (hv : decide (0 < bl) = v) (hBW : B ≤ W.heap.size) (L : List Res) (hW : At B W (meetR p most ([], bl) :: L)) => under_s hBW hW hv
            clear hmm
            by_cases hpos : 0 < bl
            · rw [if_pos hpos] at hk2'
              rw [hk2'] at hsu hmc htk
              have hD := hdone 2 hmc
              clear hk2' hsm hdone hmc
              have hpo := mpop0_s a3.rot2
              have HD := Lib.hid hD
              have HS := Lib.hid hsu
              clear hD hsu
              go_wp2_with fail
              refine hpo.mono ?_
              rintro e w5 ⟨rfl, rfl⟩
              go_wp2_with fail
              refine (hun _ true (decide_eq_true hpos) (Nat.le_trans hB b2.size) _ a3.rot2).mono ?_
              rintro e w5 ⟨rfl, s5, b5⟩
              have b5 := b2.trans (b5.mono (Nat.le_refl _))
              have htk2 := htk w5 _ hlt trivial b5 s5.rot2.back2
              clear a1 a2 a3 a4 s1 s5 hall b2 htk hun hpo
              go_wp2_with fail
              refine htk2.mono ?_
              rintro e w6 ⟨rfl, s6, b6⟩
              have b6 := b5.trans (b6.mono (Nat.le_refl _))
              have e3 := s6.front2
              clear htk2 s6 b5
              go_wp2_with fail
              go_roundg (gk - 1)
              case measure => omega
              case rel => exact ⟨m + 1, by omega, by go_num, by rw [HS.out, ← HD.out]; exact e3, b6⟩
            · rw [if_neg hpos] at hk2'
              rw [hk2'] at hsu hmc
              have hX := hsm (by rw [hmc]; dsimp only; decide)
              have hD := hdone 4 hmc
              clear hk2' hsm hdone hmc htk
              have hpo := mpop0_s a3.rot2
              have HX := Lib.hid hX
              have HD := Lib.hid hD
              have HS := Lib.hid hsu
              clear hX hD hsu
              go_wp2_with fail
              refine hpo.mono ?_
              rintro e w5 ⟨rfl, rfl⟩
              go_wp2_with fail
              refine (hun _ false (decide_eq_false hpos) (Nat.le_trans hB b2.size) _ a3.rot2).mono ?_
              rintro e w5 ⟨rfl, s5, b5⟩
              have b5 := b2.trans (b5.mono (Nat.le_refl _))
              obtain ⟨e1, e2, e3, e4⟩ := hall w5 2 _ 4 s5.rot2 (Nat.le_trans hB b5.size)
              have b6 := b5.trans e4
              rw [show bl - 1 = bl by omega] at e3
              clear a1 a2 a3 a4 s1 s5 hall b2 b5 e4 hun hpo
              go_wp2_with fail
              go_roundg (gk - 1)
              case measure => omega
              case rel => exact ⟨m + 1, by omega, by go_num, by rw [HX.out, HS.out, ← HD.out]; exact e3, b6⟩
          · rw [List.concat_eq_append] at hlj
            subst hlj
            have hk2' : mStep most m 2 (l ++ [j], bl) = ((l, bl), (j : Int), 2) := by simp [mStep]
            rw [hk2'] at hsu hmc hmm
            have hD := hdone 2 hmc
            clear hk2' hsm hdone hmc htk
            have hpo := mpop_s (w := (wr.alloc (.cells #[.int .u8 2, .int .i32 vv] 32)).setCell ⟨w.heap.size, m * 2, none⟩ (.int .u8 2)) (Nat.le_trans hB b2.size) j a3.rot2
            have HD := Lib.hid hD
            have HS := Lib.hid hsu
            clear hD hsu
            go_wp2_with fail
            refine hpo.mono ?_
            rintro e w5 ⟨rfl, s5, b5⟩
            have b5 := b2.trans (b5.mono (Nat.le_refl _))
            have hmm2 := hmm j w5 _ hlt rfl b5 s5.rot2.back2
            clear a1 a2 a3 a4 s1 s5 hall b2 hmm hpo
            go_wp2_with fail
            refine hmm2.mono ?_
            rintro e w6 ⟨rfl, s6, b6⟩
            have b6 := b5.trans (b6.mono (Nat.le_refl _))
            have e3 := s6.front2
            clear hmm2 s6 b5
            go_wp2_with fail
            go_roundg (gk - 1)
            case measure => omega
            case rel => exact ⟨m + 1, by omega, by go_num, by rw [HS.out, ← HD.out]; exact e3, b6⟩
        · have hn2 : (kd == 2) = false := by simpa using hk2
          have hk2' : mStep most m kd (wt, bl) = ((wt, bl), -1, 5) := by simp [mStep, hk1, hk2]
          rw [hk2'] at hsu hmc
          have hX := hsm (by rw [hmc]; dsimp only; decide)
          have hD := hdone 5 hmc
          obtain ⟨a1, a2, a3, a4⟩ := hall (wr.alloc (.cells #[.int .u8 kd, .int .i32 vv] 32)) 0 _ 5 s1 hle
          have b6 := b1.trans a4
          clear hk2' hsm hdone hmc htk hmm hk1 hk2
          have HX := Lib.hid hX
          have HD := Lib.hid hD
          have HS := Lib.hid hsu
          clear hX hD hsu
          clear s1 hall a4
          go_wp2_with fail
          go_roundg (gk - 1)
          case measure => omega
          case rel => exact ⟨m + 1, by omega, by go_num, by rw [HX.out, HS.out, ← HD.out]; exact a3, b6⟩
    · obtain rfl : m = n := by omega
      go_wp2_with fail
      go_ret
      exact ⟨_, rfl, s1, b1⟩
end Go.Proofs.Ytdjehackbebpaaa
