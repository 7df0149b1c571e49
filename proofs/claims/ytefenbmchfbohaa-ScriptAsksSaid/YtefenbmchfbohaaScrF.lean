/-
  Calls of threads, the program's and the document's: the walks.
-/
import Derived.Test.YtefenbmchfbohaaScrE
namespace Go.Rp
open Go.RowKit
theorem op_at (l : List (Int × Int)) (k : Nat) (hk : k < l.length) : (l.flatMap opIn)[k * 2]? = some (.int .u8 l[k].1) ∧ (l.flatMap opIn)[k * 2 + 1]? = some (.int .i32 l[k].2) := by
  induction l generalizing k with
  | nil => simp at hk
  | cons o l ih =>
    rcases k with _ | k
    · simp [opIn]
    · have := ih k (by simpa using hk)
      simp only [List.flatMap_cons, opIn, List.cons_append, List.nil_append, List.getElem_cons_succ]
      rw [show (k + 1) * 2 = k * 2 + 2 by omega]
      simpa [opIn] using this
/-- Calls of threads. -/
def callsL (ts : List Int) (os : List (Int × Int)) : List Ent := (ts.zip os).map fun p => (1, p.1, p.2.1, p.2.2, 0)
theorem callsL_length (ts : List Int) (os : List (Int × Int)) : (callsL ts os).length = min ts.length os.length := by simp [callsL]
theorem callsL_get (ts : List Int) (os : List (Int × Int)) (j : Nat) (h1 : j < ts.length) (h2 : j < os.length) (h : j < (callsL ts os).length) : (callsL ts os)[j] = (1, ts[j], os[j].1, os[j].2, 0) := by
  simp [callsL]
theorem calls_succ (ts : List Int) (os : List (Int × Int)) (j : Nat) (h1 : j < ts.length) (h2 : j < os.length) : (callsL ts os).take (j + 1) = (callsL ts os).take j ++ [(1, ts[j], os[j].1, os[j].2, 0)] := by
  have h : j < (callsL ts os).length := by rw [callsL_length]; omega
  rw [List.take_succ_eq_append_getElem h, callsL_get ts os j h1 h2 h]
end Go.Rp
namespace Go.Proofs.Ytefenbmchfbohaa
open Go.RowKit Go.Rp

section
variable (w : World) (A : Option Addr) (n c : Nat) (R : Nat → Prop) (ts : List Int) (B : Option Addr) (n' c' : Nat) (R' : Nat → Prop) (os : List (Int × Int))
set_option maxRecDepth 100000 in
set_option maxHeartbeats 2000000 in
theorem calls_any (h1 : ts.length = n) (h2 : os.length = n') (hr1 : Rd w R 1 A n (ts.map fun x => Value.int .i64 x)) (hr2 : Rd w R' 2 B n' (os.flatMap opIn)) (hn : n ≤ 100000) (hn' : n' ≤ 100000) :
    Calls Try.prog 15 #[.slice A n c, .slice B n' c'] w (NewSl w 30 5 (min n n') ((callsL ts os).flatMap entIn)) := by
  obtain ⟨i0, hi0, hz0', hz1, hz2⟩ := info_parts info_ent
  obtain ⟨K, hK⟩ : ∃ K, min n n' = K := ⟨_, rfl⟩
  rw [hK]
  have emin := min_ii (k := .i64) (show min (n : Int) (n' : Int) = (K : Int) by omega)
  have hKn : K ≤ n ∧ K ≤ n' ∧ (n ≤ K ∨ n' ≤ K) := by omega
  have hKl : (callsL ts os).length = K := by rw [callsL_length, h1, h2, hK]
  have H1 := Lib.hid h1
  have H2 := Lib.hid h2
  have HK := Lib.hid hKl
  clear h1 h2 hK hKl
  go_enter Try.func15, Try.ntmps15
  go_wp2_with fail
  clear emin
  go_loopg [5, 12] K (fun gk v k wr => ∃ (j : Nat) (A' : Option Addr) (c' : Nat), j + gk = K ∧ k = .int .i64 (j : Int) ∧ v = .slice A' j c' ∧ Sl wr 30 5 A' j c' (((callsL ts os).take j).flatMap entIn) (fun b => w.heap.size ≤ b) ∧ Below w.heap.size w wr)
  case atStart => exact ⟨0, none, 0, by omega, rfl, rfl, Sl.nil _ _ _ _, Below.refl _ _⟩
  case round =>
    obtain ⟨j, A', c', hj, rfl, rfl, hs, hb⟩ := hrel
    by_cases hlt : j < K
    · have hz0 := hb.size
      obtain ⟨bt, ot, rfl, _, hct⟩ := (hr1.kept hb).at (by omega)
      obtain ⟨bo, oo, rfl, _, hco⟩ := (hr2.kept hb).at (by omega)
      have hj1 : j < ts.length := by rw [H1.out]; omega
      have hj2 : j < os.length := by rw [H2.out]; omega
      obtain ⟨c0, c1⟩ := op_at os j hj2
      have g0 := hct j (.int .i64 ts[j]) (by rw [List.getElem?_map, List.getElem?_eq_getElem hj1]; rfl)
      have g1 := hco _ _ c0
      have g2 := hco _ _ c1
      simp only [← Nat.add_assoc] at g1 g2
      have hsn := Lib.hid (calls_succ ts os j hj1 hj2)
      generalize ts[j] = t at *
      generalize os[j] = o at *
      clear hct hco c0 c1 hj1 hj2
      have q1 : j + 1 ≤ maxLen := by simp only [maxLen]; omega
      have q2 : (j + 1) * 32 ≤ 140737488355328 := by omega
      have hjn1 : j < n := by omega
      have hjn2 : j < n' := by omega
      go_wp2_with fail
      go_region_law (refine step_append_sl _ rfl (.tmp 15) (.tmp 25) _ rfl 30 i0 _ 5 32 Try.underlying22 hi0 hz0' hz1 hz2 rfl (by decide) A' j c' _ _ (by rfl) (by exact (hs.alloc _).drew) (· = wr.heap.size) (some ⟨wr.heap.size, 0, none⟩) 1 1 (entIn (1, t, o.1, o.2, 0)) (by rfl) (by exact (Rd.lit (sz := 5) wr _ #[.int .u8 1, .int .i64 t, .int .u8 o.1, .int .i32 o.2, .int .u8 0] 1 rfl).drew) (ent1_one _) q1 q2 ?_; intro A2 c2 w1 hown1 hmod1)
      all_goals
        clear g0 g1 g2
        go_wp2_with fail
        go_roundg (gk - 1)
        case measure => omega
        case rel =>
          have hz := hmod1.size
          simp at hz
          refine ⟨j + 1, A2, c2, by omega, by go_num, rfl, ?_, hb.trans ((((Below.refl _ wr).alloc (Nat.le_refl _) _).drew.mono hb.size).trans (hmod1.below (by simp; omega) fun b hb => hb))⟩
          rw [hsn.out, List.flatMap_append]
          refine Sl.mono (by simpa [entIn] using hown1) fun b hb => ?_
          rcases hb with hb | hb
          · exact hb
          · simp at hb; omega
    · obtain rfl : j = K := by omega
      have hrd := hs.lt
      rw [List.take_of_length_le (by rw [HK.out]; exact Nat.le_refl _)] at hrd
      clear hs
      go_wp2_with fail
      go_ret
      exact ⟨A', c', rfl, hrd, hb⟩
set_option maxRecDepth 100000 in
set_option maxHeartbeats 2000000 in
theorem rCalls_any (h1 : ts.length = n) (h2 : os.length = n') (hr1 : Rd w R 1 A n (ts.map fun x => Value.int .i64 x)) (hr2 : Rd w R' 2 B n' (os.flatMap opIn)) (hn : n ≤ 100000) (hn' : n' ≤ 100000) :
    Calls Try.prog 20 #[.slice A n c, .slice B n' c'] w (NewSl w 30 5 (min n n') ((callsL ts os).flatMap entIn)) := by
  obtain ⟨i0, hi0, hz0', hz1, hz2⟩ := info_parts info_ent
  obtain ⟨K, hK⟩ : ∃ K, min n n' = K := ⟨_, rfl⟩
  rw [hK]
  have hKn : K ≤ n ∧ K ≤ n' ∧ (n ≤ K ∨ n' ≤ K) := by omega
  have hKl : (callsL ts os).length = K := by rw [callsL_length, h1, h2, hK]
  have H1 := Lib.hid h1
  have H2 := Lib.hid h2
  have HK := Lib.hid hKl
  clear h1 h2 hK hKl
  go_enter Try.func20, Try.ntmps20
  go_wp2_with fail
  go_loopg [5, 6] K (fun gk v k wr => ∃ (j : Nat) (A' : Option Addr) (c' : Nat), j + gk = K ∧ k = .int .i64 (j : Int) ∧ v = .slice A' j c' ∧ Sl wr 30 5 A' j c' (((callsL ts os).take j).flatMap entIn) (fun b => w.heap.size ≤ b) ∧ Below w.heap.size w wr)
  case atStart => exact ⟨0, none, 0, by omega, rfl, rfl, Sl.nil _ _ _ _, Below.refl _ _⟩
  case round =>
    obtain ⟨j, A', c', hj, rfl, rfl, hs, hb⟩ := hrel
    by_cases hlt : j < K
    · have hz0 := hb.size
      obtain ⟨bt, ot, rfl, _, hct⟩ := (hr1.kept hb).at (by omega)
      obtain ⟨bo, oo, rfl, _, hco⟩ := (hr2.kept hb).at (by omega)
      have hj1 : j < ts.length := by rw [H1.out]; omega
      have hj2 : j < os.length := by rw [H2.out]; omega
      obtain ⟨c0, c1⟩ := op_at os j hj2
      have g0 := hct j (.int .i64 ts[j]) (by rw [List.getElem?_map, List.getElem?_eq_getElem hj1]; rfl)
      have g1 := hco _ _ c0
      have g2 := hco _ _ c1
      simp only [← Nat.add_assoc] at g1 g2
      have hsn := Lib.hid (calls_succ ts os j hj1 hj2)
      generalize ts[j] = t at *
      generalize os[j] = o at *
      clear hct hco c0 c1 hj1 hj2
      have q1 : j + 1 ≤ maxLen := by simp only [maxLen]; omega
      have q2 : (j + 1) * 32 ≤ 140737488355328 := by omega
      have hjn1 : j < n := by omega
      have hjn2 : j < n' := by omega
      go_wp2_with fail
      go_region_law (refine step_append_sl _ rfl (.tmp 19) (.tmp 29) _ rfl 30 i0 _ 5 32 Try.underlying22 hi0 hz0' hz1 hz2 rfl (by decide) A' j c' _ _ (by rfl) (by exact (hs.alloc _).drew) (· = wr.heap.size) (some ⟨wr.heap.size, 0, none⟩) 1 1 (entIn (1, t, o.1, o.2, 0)) (by rfl) (by exact (Rd.lit (sz := 5) wr _ #[.int .u8 1, .int .i64 t, .int .u8 o.1, .int .i32 o.2, .int .u8 0] 1 rfl).drew) (ent1_one _) q1 q2 ?_; intro A2 c2 w1 hown1 hmod1)
      all_goals
        clear g0 g1 g2
        go_wp2_with fail
        go_roundg (gk - 1)
        case measure => omega
        case rel =>
          have hz := hmod1.size
          simp at hz
          refine ⟨j + 1, A2, c2, by omega, by go_num, rfl, ?_, hb.trans ((((Below.refl _ wr).alloc (Nat.le_refl _) _).drew.mono hb.size).trans (hmod1.below (by simp; omega) fun b hb => hb))⟩
          rw [hsn.out, List.flatMap_append]
          refine Sl.mono (by simpa [entIn] using hown1) fun b hb => ?_
          rcases hb with hb | hb
          · exact hb
          · simp at hb; omega
    · obtain rfl : j = K := by omega
      have hrd := hs.lt
      rw [List.take_of_length_le (by rw [HK.out]; exact Nat.le_refl _)] at hrd
      clear hs
      by_cases hjn : j < n
      · have hjn' : ¬ j < n' := by omega
        go_wp2_with fail
        go_ret
        exact ⟨A', c', rfl, hrd, hb⟩
      · go_wp2_with fail
        go_ret
        exact ⟨A', c', rfl, hrd, hb⟩
end
end Go.Proofs.Ytefenbmchfbohaa
