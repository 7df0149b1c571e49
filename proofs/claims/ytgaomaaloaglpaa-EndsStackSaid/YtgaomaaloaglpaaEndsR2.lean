/-
  The deque at things apart: New, the pushes and the pops, Do; the chapter's example.
-/
import Derived.Test.YtgaomaaloaglpaaRingA
import Derived.Test.YtgaomaaloaglpaaEndsF
import Derived.Deep.OwnRows
namespace Go.Proofs.Ytgaomaaloaglpaa
open Go.RowKit Go.Rp

/-- As many as may be. -/
def cut (m : Int) : Nat := (max 0 (min m 1000)).toNat
theorem cut_is (m : Int) : max 0 (min m 1000) = (cut m : Int) := by unfold cut; omega
theorem cut_le (m : Int) : cut m ≤ 1000 := by unfold cut; omega
/-- A deque. -/
def ringR (p N : Nat) (l : List Int) : Res := ⟨fun w S => RingAt w p S N l, stable_ring p N l⟩
/-- What is told: a code and a value. -/
abbrev res (c v : Int) : Value := .agg #[.int .u8 c, .int .i32 v]

section
variable {B : Nat} {w : World} {p N : Nat} {l : List Int} {L : List Res}
theorem new_s (hB : B ≤ w.heap.size) (h : At B w L) (m : Int) : Calls Try.prog 33 #[.int .i64 m] w fun e w' => ∃ p, e = .returned (.pointer (some ⟨p, 0, none⟩)) ∧ At B w' (ringR p (cut m) [] :: L) ∧ Below B w w' := by
  have e1 := min_ii (k := .i64) (x := m) (y := 1000) rfl
  have e2 := max_ii (k := .i64) (cut_is m)
  have hc := cut_le m
  generalize cut m = N at *
  have hmk := run_make_row' (P := Try.prog) 65 21 (.int .i32 0) 4 Try.underlying65 (by kernel_rfl) rfl .i64 .i64 N (by omega) (by omega)
  have hq : At B ((w.alloc (.cells (madeCells #[.int .i32 0] N) 21)).alloc (.cells #[.slice (some ⟨w.heap.size, 0, none⟩) N N, .int .i64 0, .int .i64 0] 71)) (ringR (w.heap.size + 1) N [] :: L) := by
    refine h.made (fun x hx => Nat.le_trans hB hx) (((Below.refl _ w).alloc (Nat.le_refl _) _).alloc (by simp) _) ?_
    have hb := Blk.new (w.alloc (.cells (madeCells #[.int .i32 0] N) 21)) 71 #[.slice (some ⟨w.heap.size, 0, none⟩) N N, .int .i64 0, .int .i64 0]
    rw [World.size_alloc] at hb
    refine ⟨some ⟨w.heap.size, 0, none⟩, N, List.replicate N 0, 0, hb, ?_, ⟨by omega, by simp⟩, Rg.nil N, hc⟩
    have := Sl.of_made (S := fun x => w.heap.size ≤ x ∧ x < ((w.alloc (.cells (madeCells #[.int .i32 0] N) 21)).alloc (.cells #[.slice (some ⟨w.heap.size, 0, none⟩) N N, .int .i64 0, .int .i64 0] 71)).heap.size) w 21 1 N (madeCells #[.int .i32 0] N) (List.replicate N (.int .i32 0)) (made_one _ N) (by simp) (by unfold maxLen; omega) ⟨Nat.le_refl _, by simp; omega⟩
    rw [show iv (List.replicate N 0) = List.replicate N (.int .i32 0) by simp [iv]]
    exact this.alloc _
  have hb : Below B w ((w.alloc (.cells (madeCells #[.int .i32 0] N) 21)).alloc (.cells #[.slice (some ⟨w.heap.size, 0, none⟩) N N, .int .i64 0, .int .i64 0] 71)) := ((Below.refl _ w).alloc hB _).alloc (by simp; omega) _
  go_enter Try.func33, Try.ntmps33
  go_wp2
  go_ret
  exact ⟨w.heap.size + 1, rfl, hq, hb⟩
theorem step_same {P : Program} {f : FuncId} {args : Array Value} {w : World} {r : Ending} {Q : World → (Nat → Prop) → Prop} {S : Nat → Prop} (st : Stable Q) (h : Q w S) (hc : Calls P f args w fun e w' => e = r ∧ w = w') :
    Calls P f args w fun e w' => e = r ∧ Q w' (grow S w w') ∧ Mod S w w' :=
  hc.mono fun _ _ ⟨he, hb⟩ => ⟨he, by subst hb; exact st.mono h grow_left, by subst hb; exact Mod.refl _ _⟩
theorem pushL_s (hB : B ≤ w.heap.size) (h : At B w (ringR p N l :: L)) (x : Int) : Calls Try.prog 30 #[.pointer (some ⟨p, 0, none⟩), .int .i32 x] w fun e w' => e = .returned (.bool (decide (l.length < N))) ∧ At B w' (ringR p N (if l.length < N then x :: l else l) :: L) ∧ Below B w w' :=
  h.step hB fun S _ hS => by
    by_cases hl : l.length < N
    · simp only [hl, decide_true, if_true]
      exact (pushL_some w p S N l x hS hl).mono fun _ _ ⟨he, hs, hm⟩ => ⟨he, hs.mono grow_left, hm⟩
    · simp only [hl, decide_false, if_false]
      exact step_same (stable_ring p N l) hS (pushL_full w p S N l x hS (by have := RingAt.len hS; omega))
theorem pushR_s (hB : B ≤ w.heap.size) (h : At B w (ringR p N l :: L)) (x : Int) : Calls Try.prog 31 #[.pointer (some ⟨p, 0, none⟩), .int .i32 x] w fun e w' => e = .returned (.bool (decide (l.length < N))) ∧ At B w' (ringR p N (if l.length < N then l ++ [x] else l) :: L) ∧ Below B w w' :=
  h.step hB fun S _ hS => by
    by_cases hl : l.length < N
    · simp only [hl, decide_true, if_true]
      exact (pushR_some w p S N l x hS hl).mono fun _ _ ⟨he, hs, hm⟩ => ⟨he, hs.mono grow_left, hm⟩
    · simp only [hl, decide_false, if_false]
      exact step_same (stable_ring p N l) hS (pushR_full w p S N l x hS (by have := RingAt.len hS; omega))
theorem popL_s (hB : B ≤ w.heap.size) {x : Int} (h : At B w (ringR p N (x :: l) :: L)) : Calls Try.prog 28 #[.pointer (some ⟨p, 0, none⟩)] w fun e w' => e = .returned (.tuple #[.int .i32 x, .bool true]) ∧ At B w' (ringR p N l :: L) ∧ Below B w w' :=
  h.step (a' := ringR p N l) hB fun S _ hS => (popL_some w p S N l x hS).mono fun _ _ ⟨he, hs, hm⟩ => ⟨he, hs.mono grow_left, hm⟩
theorem popR_s (hB : B ≤ w.heap.size) {x : Int} (h : At B w (ringR p N (l ++ [x]) :: L)) : Calls Try.prog 29 #[.pointer (some ⟨p, 0, none⟩)] w fun e w' => e = .returned (.tuple #[.int .i32 x, .bool true]) ∧ At B w' (ringR p N l :: L) ∧ Below B w w' :=
  h.step (a' := ringR p N l) hB fun S _ hS => (popR_some w p S N l x hS).mono fun _ _ ⟨he, hs, hm⟩ => ⟨he, hs.mono grow_left, hm⟩
theorem popL0_s (hB : B ≤ w.heap.size) (h : At B w (ringR p N [] :: L)) : Calls Try.prog 28 #[.pointer (some ⟨p, 0, none⟩)] w fun e w' => e = .returned (.tuple #[.int .i32 0, .bool false]) ∧ At B w' (ringR p N [] :: L) ∧ Below B w w' :=
  h.step hB fun S _ hS => step_same (stable_ring p N []) hS (popL_none w p S N hS)
theorem popR0_s (hB : B ≤ w.heap.size) (h : At B w (ringR p N [] :: L)) : Calls Try.prog 29 #[.pointer (some ⟨p, 0, none⟩)] w fun e w' => e = .returned (.tuple #[.int .i32 0, .bool false]) ∧ At B w' (ringR p N [] :: L) ∧ Below B w w' :=
  h.step hB fun S _ hS => step_same (stable_ring p N []) hS (popR_none w p S N hS)
theorem rlen_s (h : At B w (ringR p N l :: L)) {n : Nat} (hn : l.length = n) : Calls Try.prog 20 #[.pointer (some ⟨p, 0, none⟩)] w fun e w' => e = .returned (.int .i64 (n : Int)) ∧ w = w' := by subst hn; exact rlen_any w p _ N l h.get
theorem rmost_s (h : At B w (ringR p N l :: L)) : Calls Try.prog 27 #[.pointer (some ⟨p, 0, none⟩)] w fun e w' => e = .returned (.int .i64 (N : Int)) ∧ w = w' := rmost_any w p _ N l h.get
theorem ring_len (h : At B w (ringR p N l :: L)) : l.length ≤ N ∧ N ≤ 1000 := RingAt.len h.get

theorem pushed_any (w : World) (b : Bool) : Calls Try.prog 42 #[.bool b] w fun e w' => e = .returned (res (if b then 1 else 3) 0) ∧ Below w.heap.size w w' := by
  cases b
  · simp only [Bool.false_eq_true, if_false]
    go_enter Try.func42, Try.ntmps42
    go_wp2_with fail
    refine bodyPost_ret (v := res 3 0) (by simp [results, Try.results42, go_sem, res]) rfl ⟨rfl, (Below.refl _ w).alloc (Nat.le_refl _) _⟩
  · simp only [if_true]
    go_enter Try.func42, Try.ntmps42
    go_wp2_with fail
    refine bodyPost_ret (v := res 1 0) (by simp [results, Try.results42, go_sem, res]) rfl ⟨rfl, (Below.refl _ w).alloc (Nat.le_refl _) _⟩
theorem popped_any (w : World) (v : Int) (b : Bool) : Calls Try.prog 43 #[.int .i32 v, .bool b] w fun e w' => e = .returned (res (if b then 2 else 4) (if b then v else 0)) ∧ Below w.heap.size w w' := by
  cases b
  · simp only [Bool.false_eq_true, if_false]
    go_enter Try.func43, Try.ntmps43
    go_wp2_with fail
    refine bodyPost_ret (v := res 4 0) (by simp [results, Try.results43, go_sem, res]) rfl ⟨rfl, (Below.refl _ w).alloc (Nat.le_refl _) _⟩
  · simp only [if_true]
    go_enter Try.func43, Try.ntmps43
    go_wp2_with fail
    refine bodyPost_ret (v := res 2 v) (by simp [results, Try.results43, go_sem, res]) rfl ⟨rfl, (Below.refl _ w).alloc (Nat.le_refl _) _⟩
theorem res_put {R : Nat} {t : TypeId} {v0 v1 : Value} (hB : B ≤ w.heap.size) (h : At B w (blkR R t #[v0, v1] :: L)) (a b : Value) : At B ((w.setCell ⟨R, 0, none⟩ a).setCell ⟨R, 1, none⟩ b) (blkR R t #[a, b] :: L) ∧ Below B w ((w.setCell ⟨R, 0, none⟩ a).setCell ⟨R, 1, none⟩ b) := by
  obtain ⟨S, hS, hSU, hnext⟩ := h.frontAny (fun x hx => Nat.le_trans hB hx)
  obtain ⟨hb, hR⟩ := hS
  obtain ⟨_, _, m⟩ := two_cells a b hb
  have m := m.mono (T := S) (fun x hx => hx ▸ hR)
  refine ⟨hnext (blkR R t #[a, b]) _ ⟨?_, .inl hR⟩ m, m.below hB fun b hb => (hSU b hb).1⟩
  simpa using (hb.set 0 a).set 1 b

set_option maxHeartbeats 2000000 in
theorem do_s (hB : B ≤ w.heap.size) (h : At B w (ringR p N l :: L)) (k v : Int) (h0 : 0 ≤ k) (h1 : k ≤ 255) {l' : List Int} {c x : Int} (hd : rDo N l k v = (l', c, x)) :
    Calls Try.prog 34 #[.pointer (some ⟨p, 0, none⟩), .agg #[.int .u8 k, .int .i32 v]] w fun e w' => e = .returned (res c x) ∧ At B w' (ringR p N l' :: L) ∧ Below B w w' := by
  have s2 : At B ((w.alloc (.cells #[.int .u8 k, .int .i32 v] 29)).alloc (.cells #[.int .u8 0, .int .i32 0] 42)) (ringR p N l :: blkR (w.heap.size + 1) 42 #[.int .u8 0, .int .i32 0] :: blkR w.heap.size 29 #[.int .u8 k, .int .i32 v] :: L) := by
    have s1 := (h.alloc hB #[.int .u8 k, .int .i32 v] 29).alloc (by simp; omega) #[.int .u8 0, .int .i32 0] 42
    rw [World.size_alloc] at s1
    exact s1.rot3
  have b2 : Below B w ((w.alloc (.cells #[.int .u8 k, .int .i32 v] 29)).alloc (.cells #[.int .u8 0, .int .i32 0] 42)) := ((Below.refl B w).alloc hB _).alloc (by simp; omega) _
  have hle2 : B ≤ ((w.alloc (.cells #[.int .u8 k, .int .i32 v] 29)).alloc (.cells #[.int .u8 0, .int .i32 0] 42)).heap.size := by simp; omega
  obtain ⟨hlN, hN⟩ := ring_len h
  have s5 : At B ((w.alloc (.cells #[.int .u8 k, .int .i32 v] 29)).alloc (.cells #[.int .u8 5, .int .i32 0] 42)) (ringR p N l :: L) := (h.alloc hB #[.int .u8 k, .int .i32 v] 29).drop.alloc (by simp; omega) #[.int .u8 5, .int .i32 0] 42 |>.drop
  have b5 : Below B w ((w.alloc (.cells #[.int .u8 k, .int .i32 v] 29)).alloc (.cells #[.int .u8 5, .int .i32 0] 42)) := ((Below.refl B w).alloc hB _).alloc (by simp; omega) _
  have S5 := Lib.hid s5
  have B5 := Lib.hid b5
  clear h s5 b5
  by_cases k1 : k = 1
  · subst k1
    by_cases hf : l.length < N
    · obtain ⟨rfl, rfl, rfl⟩ : v :: l = l' ∧ (1 : Int) = c ∧ (0 : Int) = x := by
        have e : rDo N l 1 v = (v :: l, 1, 0) := by unfold rDo; rw [if_pos rfl, if_neg (by omega)]
        rw [e] at hd; simpa using hd
      have hpu := pushL_s (w := (w.alloc (.cells #[.int .u8 1, .int .i32 v] 29)).alloc (.cells #[.int .u8 0, .int .i32 0] 42)) hle2 s2 v
      go_enter Try.func34, Try.ntmps34
      go_wp2_with fail
      generalize (w.alloc (.cells #[.int .u8 1, .int .i32 v] 29)).alloc (.cells #[.int .u8 0, .int .i32 0] 42) = w2 at *
      generalize w.heap.size + 1 = R1 at *
      refine hpu.mono ?_
      rintro e w5 ⟨rfl, s5, b5⟩
      have hle5 := Nat.le_trans hle2 b5.size
      have b5 := b2.trans b5
      clear hpu s2 b2
      go_wp2_with fail
      refine (pushed_any w5 _).mono ?_
      rintro e w6 ⟨rfl, b6⟩
      have s6 := s5.keep b6
      have hle6 := Nat.le_trans hle5 b6.size
      have b6 := b5.trans (b6.mono hle5)
      clear s5 b5
      simp only [hf, decide_true, if_true] at s6 ⊢
      have hR := s6.rot2.blk
      have r0 := hR.cell 0
      have r1 := hR.cell 1
      have f0 := hR.frozen 0
      have f1 := hR.frozen 1
      obtain ⟨s7, b7⟩ := res_put hle6 s6.rot2 (.int .u8 1) (.int .i32 0)
      have hR7 := s7.blk
      have q0 := hR7.cell 0
      have q1 := hR7.cell 1
      clear hR
      go_wp2_with fail
      refine bodyPost_ret (v := res 1 0) (by simp [results, Try.results34, go_sem, q0, q1, res]) rfl ⟨rfl, (Sep.drop s7).cons (fun _ h => Sep.drop h), b6.trans b7⟩
    · obtain ⟨rfl, rfl, rfl⟩ : l = l' ∧ (3 : Int) = c ∧ (0 : Int) = x := by
        have e : rDo N l 1 v = (l, 3, 0) := by unfold rDo; rw [if_pos rfl, if_pos (by omega)]
        rw [e] at hd; simpa using hd
      have hpu := pushL_s (w := (w.alloc (.cells #[.int .u8 1, .int .i32 v] 29)).alloc (.cells #[.int .u8 0, .int .i32 0] 42)) hle2 s2 v
      go_enter Try.func34, Try.ntmps34
      go_wp2_with fail
      generalize (w.alloc (.cells #[.int .u8 1, .int .i32 v] 29)).alloc (.cells #[.int .u8 0, .int .i32 0] 42) = w2 at *
      generalize w.heap.size + 1 = R1 at *
      refine hpu.mono ?_
      rintro e w5 ⟨rfl, s5, b5⟩
      have hle5 := Nat.le_trans hle2 b5.size
      have b5 := b2.trans b5
      clear hpu s2 b2
      go_wp2_with fail
      refine (pushed_any w5 _).mono ?_
      rintro e w6 ⟨rfl, b6⟩
      have s6 := s5.keep b6
      have hle6 := Nat.le_trans hle5 b6.size
      have b6 := b5.trans (b6.mono hle5)
      clear s5 b5
      simp only [hf, decide_false, if_false, Bool.false_eq_true] at s6 ⊢
      have hR := s6.rot2.blk
      have r0 := hR.cell 0
      have r1 := hR.cell 1
      have f0 := hR.frozen 0
      have f1 := hR.frozen 1
      obtain ⟨s7, b7⟩ := res_put hle6 s6.rot2 (.int .u8 3) (.int .i32 0)
      have hR7 := s7.blk
      have q0 := hR7.cell 0
      have q1 := hR7.cell 1
      clear hR
      go_wp2_with fail
      refine bodyPost_ret (v := res 3 0) (by simp [results, Try.results34, go_sem, q0, q1, res]) rfl ⟨rfl, (Sep.drop s7).cons (fun _ h => Sep.drop h), b6.trans b7⟩
  · have n1 : (k == 1) = false := by simpa using k1
    by_cases k2 : k = 2
    · subst k2
      by_cases hf : l.length < N
      · obtain ⟨rfl, rfl, rfl⟩ : l ++ [v] = l' ∧ (1 : Int) = c ∧ (0 : Int) = x := by
          have e : rDo N l 2 v = (l ++ [v], 1, 0) := by unfold rDo; rw [if_neg (by omega), if_pos rfl, if_neg (by omega)]
          rw [e] at hd; simpa using hd
        have hpu := pushR_s (w := (w.alloc (.cells #[.int .u8 2, .int .i32 v] 29)).alloc (.cells #[.int .u8 0, .int .i32 0] 42)) hle2 s2 v
        go_enter Try.func34, Try.ntmps34
        go_wp2_with fail
        generalize (w.alloc (.cells #[.int .u8 2, .int .i32 v] 29)).alloc (.cells #[.int .u8 0, .int .i32 0] 42) = w2 at *
        generalize w.heap.size + 1 = R1 at *
        refine hpu.mono ?_
        rintro e w5 ⟨rfl, s5, b5⟩
        have hle5 := Nat.le_trans hle2 b5.size
        have b5 := b2.trans b5
        clear hpu s2 b2
        go_wp2_with fail
        refine (pushed_any w5 _).mono ?_
        rintro e w6 ⟨rfl, b6⟩
        have s6 := s5.keep b6
        have hle6 := Nat.le_trans hle5 b6.size
        have b6 := b5.trans (b6.mono hle5)
        clear s5 b5
        simp only [hf, decide_true, if_true] at s6 ⊢
        have hR := s6.rot2.blk
        have r0 := hR.cell 0
        have r1 := hR.cell 1
        have f0 := hR.frozen 0
        have f1 := hR.frozen 1
        obtain ⟨s7, b7⟩ := res_put hle6 s6.rot2 (.int .u8 1) (.int .i32 0)
        have hR7 := s7.blk
        have q0 := hR7.cell 0
        have q1 := hR7.cell 1
        clear hR
        go_wp2_with fail
        refine bodyPost_ret (v := res 1 0) (by simp [results, Try.results34, go_sem, q0, q1, res]) rfl ⟨rfl, (Sep.drop s7).cons (fun _ h => Sep.drop h), b6.trans b7⟩
      · obtain ⟨rfl, rfl, rfl⟩ : l = l' ∧ (3 : Int) = c ∧ (0 : Int) = x := by
          have e : rDo N l 2 v = (l, 3, 0) := by unfold rDo; rw [if_neg (by omega), if_pos rfl, if_pos (by omega)]
          rw [e] at hd; simpa using hd
        have hpu := pushR_s (w := (w.alloc (.cells #[.int .u8 2, .int .i32 v] 29)).alloc (.cells #[.int .u8 0, .int .i32 0] 42)) hle2 s2 v
        go_enter Try.func34, Try.ntmps34
        go_wp2_with fail
        generalize (w.alloc (.cells #[.int .u8 2, .int .i32 v] 29)).alloc (.cells #[.int .u8 0, .int .i32 0] 42) = w2 at *
        generalize w.heap.size + 1 = R1 at *
        refine hpu.mono ?_
        rintro e w5 ⟨rfl, s5, b5⟩
        have hle5 := Nat.le_trans hle2 b5.size
        have b5 := b2.trans b5
        clear hpu s2 b2
        go_wp2_with fail
        refine (pushed_any w5 _).mono ?_
        rintro e w6 ⟨rfl, b6⟩
        have s6 := s5.keep b6
        have hle6 := Nat.le_trans hle5 b6.size
        have b6 := b5.trans (b6.mono hle5)
        clear s5 b5
        simp only [hf, decide_false, if_false, Bool.false_eq_true] at s6 ⊢
        have hR := s6.rot2.blk
        have r0 := hR.cell 0
        have r1 := hR.cell 1
        have f0 := hR.frozen 0
        have f1 := hR.frozen 1
        obtain ⟨s7, b7⟩ := res_put hle6 s6.rot2 (.int .u8 3) (.int .i32 0)
        have hR7 := s7.blk
        have q0 := hR7.cell 0
        have q1 := hR7.cell 1
        clear hR
        go_wp2_with fail
        refine bodyPost_ret (v := res 3 0) (by simp [results, Try.results34, go_sem, q0, q1, res]) rfl ⟨rfl, (Sep.drop s7).cons (fun _ h => Sep.drop h), b6.trans b7⟩
    · have n2 : (k == 2) = false := by simpa using k2
      by_cases k3 : k = 3
      · subst k3
        rcases l with _ | ⟨y, t⟩
        · obtain ⟨rfl, rfl, rfl⟩ : [] = l' ∧ (4 : Int) = c ∧ (0 : Int) = x := by
            have e : rDo N [] 3 v = ([], 4, 0) := rfl
            rw [e] at hd; simpa using hd
          have hpu := popL0_s hle2 s2
          go_enter Try.func34, Try.ntmps34
          go_wp2_with fail
          generalize (w.alloc (.cells #[.int .u8 3, .int .i32 v] 29)).alloc (.cells #[.int .u8 0, .int .i32 0] 42) = w2 at *
          generalize w.heap.size + 1 = R1 at *
          refine hpu.mono ?_
          rintro e w5 ⟨rfl, s5, b5⟩
          have hle5 := Nat.le_trans hle2 b5.size
          have b5 := b2.trans b5
          clear hpu s2 b2
          go_wp2_with fail
          refine (popped_any w5 _ _).mono ?_
          rintro e w6 ⟨rfl, b6⟩
          have s6 := s5.keep b6
          have hle6 := Nat.le_trans hle5 b6.size
          have b6 := b5.trans (b6.mono hle5)
          clear s5 b5
          simp only [if_false, Bool.false_eq_true] at s6 ⊢
          have hR := s6.rot2.blk
          have r0 := hR.cell 0
          have r1 := hR.cell 1
          have f0 := hR.frozen 0
          have f1 := hR.frozen 1
          obtain ⟨s7, b7⟩ := res_put hle6 s6.rot2 (.int .u8 4) (.int .i32 0)
          have hR7 := s7.blk
          have q0 := hR7.cell 0
          have q1 := hR7.cell 1
          clear hR
          go_wp2_with fail
          refine bodyPost_ret (v := res 4 0) (by simp [results, Try.results34, go_sem, q0, q1, res]) rfl ⟨rfl, (Sep.drop s7).cons (fun _ h => Sep.drop h), b6.trans b7⟩
        · obtain ⟨rfl, rfl, rfl⟩ : t = l' ∧ (2 : Int) = c ∧ y = x := by
            have e : rDo N (y :: t) 3 v = (t, 2, y) := rfl
            rw [e] at hd; simpa using hd
          have hpu := popL_s hle2 s2
          go_enter Try.func34, Try.ntmps34
          go_wp2_with fail
          generalize (w.alloc (.cells #[.int .u8 3, .int .i32 v] 29)).alloc (.cells #[.int .u8 0, .int .i32 0] 42) = w2 at *
          generalize w.heap.size + 1 = R1 at *
          refine hpu.mono ?_
          rintro e w5 ⟨rfl, s5, b5⟩
          have hle5 := Nat.le_trans hle2 b5.size
          have b5 := b2.trans b5
          clear hpu s2 b2
          go_wp2_with fail
          refine (popped_any w5 _ _).mono ?_
          rintro e w6 ⟨rfl, b6⟩
          have s6 := s5.keep b6
          have hle6 := Nat.le_trans hle5 b6.size
          have b6 := b5.trans (b6.mono hle5)
          clear s5 b5
          simp only [if_true] at s6 ⊢
          have hR := s6.rot2.blk
          have r0 := hR.cell 0
          have r1 := hR.cell 1
          have f0 := hR.frozen 0
          have f1 := hR.frozen 1
          obtain ⟨s7, b7⟩ := res_put hle6 s6.rot2 (.int .u8 2) (.int .i32 y)
          have hR7 := s7.blk
          have q0 := hR7.cell 0
          have q1 := hR7.cell 1
          clear hR
          go_wp2_with fail
          refine bodyPost_ret (v := res 2 y) (by simp [results, Try.results34, go_sem, q0, q1, res]) rfl ⟨rfl, (Sep.drop s7).cons (fun _ h => Sep.drop h), b6.trans b7⟩
      · have n3 : (k == 3) = false := by simpa using k3
        by_cases k4 : k = 4
        · subst k4
          rcases List.eq_nil_or_concat l with rfl | ⟨t, y, hty⟩
          · obtain ⟨rfl, rfl, rfl⟩ : [] = l' ∧ (4 : Int) = c ∧ (0 : Int) = x := by
              have e : rDo N [] 4 v = ([], 4, 0) := rfl
              rw [e] at hd; simpa using hd
            have hpu := popR0_s hle2 s2
            go_enter Try.func34, Try.ntmps34
            go_wp2_with fail
            generalize (w.alloc (.cells #[.int .u8 4, .int .i32 v] 29)).alloc (.cells #[.int .u8 0, .int .i32 0] 42) = w2 at *
            generalize w.heap.size + 1 = R1 at *
            refine hpu.mono ?_
            rintro e w5 ⟨rfl, s5, b5⟩
            have hle5 := Nat.le_trans hle2 b5.size
            have b5 := b2.trans b5
            clear hpu s2 b2
            go_wp2_with fail
            refine (popped_any w5 _ _).mono ?_
            rintro e w6 ⟨rfl, b6⟩
            have s6 := s5.keep b6
            have hle6 := Nat.le_trans hle5 b6.size
            have b6 := b5.trans (b6.mono hle5)
            clear s5 b5
            simp only [if_false, Bool.false_eq_true] at s6 ⊢
            have hR := s6.rot2.blk
            have r0 := hR.cell 0
            have r1 := hR.cell 1
            have f0 := hR.frozen 0
            have f1 := hR.frozen 1
            obtain ⟨s7, b7⟩ := res_put hle6 s6.rot2 (.int .u8 4) (.int .i32 0)
            have hR7 := s7.blk
            have q0 := hR7.cell 0
            have q1 := hR7.cell 1
            clear hR
            go_wp2_with fail
            refine bodyPost_ret (v := res 4 0) (by simp [results, Try.results34, go_sem, q0, q1, res]) rfl ⟨rfl, (Sep.drop s7).cons (fun _ h => Sep.drop h), b6.trans b7⟩
          · rw [List.concat_eq_append] at hty
            subst hty
            obtain ⟨rfl, rfl, rfl⟩ : t = l' ∧ (2 : Int) = c ∧ y = x := by
              rw [rDo_popR] at hd; simpa using hd
            have hpu := popR_s hle2 s2
            go_enter Try.func34, Try.ntmps34
            go_wp2_with fail
            generalize (w.alloc (.cells #[.int .u8 4, .int .i32 v] 29)).alloc (.cells #[.int .u8 0, .int .i32 0] 42) = w2 at *
            generalize w.heap.size + 1 = R1 at *
            refine hpu.mono ?_
            rintro e w5 ⟨rfl, s5, b5⟩
            have hle5 := Nat.le_trans hle2 b5.size
            have b5 := b2.trans b5
            clear hpu s2 b2
            go_wp2_with fail
            refine (popped_any w5 _ _).mono ?_
            rintro e w6 ⟨rfl, b6⟩
            have s6 := s5.keep b6
            have hle6 := Nat.le_trans hle5 b6.size
            have b6 := b5.trans (b6.mono hle5)
            clear s5 b5
            simp only [if_true] at s6 ⊢
            have hR := s6.rot2.blk
            have r0 := hR.cell 0
            have r1 := hR.cell 1
            have f0 := hR.frozen 0
            have f1 := hR.frozen 1
            obtain ⟨s7, b7⟩ := res_put hle6 s6.rot2 (.int .u8 2) (.int .i32 y)
            have hR7 := s7.blk
            have q0 := hR7.cell 0
            have q1 := hR7.cell 1
            clear hR
            go_wp2_with fail
            refine bodyPost_ret (v := res 2 y) (by simp [results, Try.results34, go_sem, q0, q1, res]) rfl ⟨rfl, (Sep.drop s7).cons (fun _ h => Sep.drop h), b6.trans b7⟩
        · have n4 : (k == 4) = false := by simpa using k4
          obtain ⟨rfl, rfl, rfl⟩ : l = l' ∧ (5 : Int) = c ∧ (0 : Int) = x := by
            have e : rDo N l k v = (l, 5, 0) := by unfold rDo; rw [if_neg k1, if_neg k2, if_neg k3, if_neg k4]
            rw [e] at hd; simpa using hd
          clear hd k1 k2 k3 k4
          go_enter Try.func34, Try.ntmps34
          go_wp2_with fail
          refine bodyPost_ret (v := res 5 0) (by simp [results, Try.results34, go_sem, res]) rfl ⟨rfl, S5.out, B5.out⟩
end
end Go.Proofs.Ytgaomaaloaglpaa
