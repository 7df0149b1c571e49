/-
  The deque's items: a loop over the iterator of a ring of cells, which collects.
-/
import Derived.RangeFuncNested
import Derived.RangeFuncBound
import Derived.RangeFuncCalls
import Derived.RangeFuncLeaves
import Derived.RangeFuncBox
import Derived.Shelf.Abstract
import Derived.Shelf.RegionOpen
import Derived.WalkKit
import Derived.OwnWalkIn
import Derived.TacticsInMore
import Derived.LoopNIn
import Derived.LoopIn
import Derived.Maps.AppendAt
import Derived.Test.YtgaomaaloaglpaaEndsR2
namespace Go.Proofs.Ytgaomaaloaglpaa
open Go.RowKit Go.Rp Go.Shelf

attribute [local go_sem] Oper.semAt_some

theorem info_i32 : (Try.prog.info? 21).map (fun i => (i.zero, i.size, i.bytes)) = some (some (.int .i32 0), 1, 4) := by kernel_rfl
/-- What a slice owns in new memory it has as its own. -/
theorem Sl.of_owns {w w' : World} {e sz n : Nat} {v : Value} {xs : List Value} (h : w'.ownsRow w.heap.size e sz v n xs) : ∃ A c, v = .slice A n c ∧ Sl w' e sz A n c xs (fun b => w.heap.size ≤ b ∧ b < w'.heap.size) := by
  obtain ⟨hl, ⟨rfl, rfl⟩ | ⟨g, cap, cur, rfl, hg, hb, hn, hc, hz, hx⟩⟩ := h
  · have : xs = [] := List.eq_nil_of_length_eq_zero (by simpa using hl)
    subst this
    exact ⟨none, 0, rfl, Sl.nil _ _ _ _⟩
  · have hb' : Blk w' g e cur := hb
    refine ⟨_, cap, rfl, ?_⟩
    have := Sl.of_blk hb' (S := fun b => w.heap.size ≤ b ∧ b < w'.heap.size) ⟨hg, hb'.lt⟩ n cap hn hc hz
    rwa [hx] at this

section
variable {w : World} {p N : Nat} {S : Nat → Prop} {l : List Int}
theorem RingAt.belowN {W W' : World} {n₀ : Nat} (h : RingAt W p S N l) (hS : ∀ b, S b → b < n₀) (hb : Below n₀ W W') : RingAt W' p S N l :=
  h.mod (T := fun b => n₀ ≤ b) ⟨hb.os, hb.tape, hb.output, hb.size, fun b _ hn => hb.block b (by omega)⟩ (fun b hs => by have := hS b hs; omega)
theorem RingAt.drewN (h : RingAt w p S N l) (n : Nat) : RingAt (w.drewN n) p S N l := h
/-- An item's cell. -/
theorem ring_at (h : RingAt w p S N l) {k : Nat} (hk : k < l.length) : ∃ g i, (Calls Try.prog 40 #[.pointer (some ⟨p, 0, none⟩), .int .i64 (k : Int)] w fun e w' => e = .returned (.pointer (some ⟨g, i, none⟩)) ∧ ∃ nq, w' = w.drewN nq) ∧ w.cell? ⟨g, i, none⟩ = some (.int .i32 l[k]) := by
  have hle := h.len
  obtain ⟨g, off, c, cs, f, hSg, hgp, hp, hrg, hN, hfN, hb, hs⟩ := ring_open h (by omega)
  refine ⟨g, off + (f + k) % N, at_raw w p g off N c f k (hb.cell 0) (hb.cell 1) hfN hN (by omega) rfl, (sl_cell hs (iv_q ?_)).1⟩
  rw [hrg.at_ k hk, List.getElem?_eq_getElem hk]
end

/-- What a round keeps: what lay below n₀, and the receiver's box. -/
def Keeps (n₀ Bn : Nat) (A B : World) : Prop := Below n₀ A B ∧ ∀ v, Boxed A Bn 92 v → Boxed B Bn 92 v
theorem Keeps.t {n₀ Bn : Nat} {A B C : World} (h : Keeps n₀ Bn A B) (k : Keeps n₀ Bn B C) : Keeps n₀ Bn A C := ⟨h.1.trans k.1, fun v hv => k.2 v (h.2 v hv)⟩
theorem Keeps.b {n₀ Bn : Nat} {w : World} (hn : n₀ ≤ w.heap.size) (W : World) (l : Nat) (o o' : Obj) (hl : w.heap.size ≤ l) (h : W.heap[l]? = some o) (ho : o.isCells = false) (hw : o.isWalk = false) : Keeps n₀ Bn W (W.putObj l o') :=
  ⟨belowK_b hn W l o o' hl h ho hw, fun v hv => hv.kept (grownBy_putObj' W l o') (fun e => by
    obtain rfl : Bn = l := by simpa using e
    rw [show W.heap[Bn]? = _ from hv] at h
    cases h; cases ho)⟩

set_option maxRecDepth 100000 in
set_option maxHeartbeats 2000000 in
theorem all1_in (n : Nat) (hn : 1 ≤ n) (l Bn n₀ p N : Nat) (S : Nat → Prop) (hS : ∀ b, S b → b < n₀) (xs : List Int) (J Jx : List Int → World → Prop) (hJ : ∀ s W nq, J s W → J s (W.drewN nq))
    (hY : ∀ pre x W, J pre W → pre.length < xs.length → YieldAt Fence.wide (n - 1) Try.prog l #[.int .i32 x] W fun e W' =>
      (e = .returned (.bool true) ∧ J (pre ++ [x]) W' ∧ Keeps n₀ Bn W W') ∨ (e = .returned (.bool false) ∧ Jx (pre ++ [x]) W'))
    (W : World) (hBn : Boxed W Bn 92 (.pointer (some ⟨p, 0, none⟩))) (hR : RingAt W p S N xs) (h0 : J [] W) :
    CallsIn Fence.wide n Try.prog 47 #[.func (.yield l) #[] #[], .pointer (some ⟨Bn, 0, none⟩)] W fun e W' => (∃ v, e = .returned v) ∧
      ((∃ ys, ys = xs ∧ J ys W') ∨ (∃ pre, pre <+: xs ∧ Jx pre W')) := by
  have hxl := hR.len
  have hc0 := hBn.cell
  have hc2 : W.cell? ⟨p, 2, none⟩ = some (.int .i64 (xs.length : Int)) := by obtain ⟨A, c, cs, f, hb, _⟩ := hR; exact hb.cell 2
  refine callsIn_of_wp Try.func47 rfl trivial ?_ rfl
  simp only [Try.ntmps47, List.size_toArray, List.length_cons, List.length_nil, Nat.reduceAdd, Nat.reduceSub, Array.replicate_succ, Array.replicate_zero, List.push_toArray, List.append_toArray, List.nil_append, List.cons_append]
  gi_wp2
  gi_loopw [8] (fun i wr => ∃ k : Nat, k ≤ xs.length ∧ i = .int .i64 k ∧ J (xs.take k) wr ∧ Boxed wr Bn 92 (.pointer (some ⟨p, 0, none⟩)) ∧ RingAt wr p S N xs)
    (fun i _ => xs.length - (intOf i).toNat)
  case atStart => exact ⟨0, Nat.zero_le _, rfl, h0, hBn, hR⟩
  case round =>
    clear hc0 hc2 hBn hR h0
    obtain ⟨k, hk, rfl, hJs, hBn, hR⟩ := hrel
    by_cases hlt : k < xs.length
    · have hc0 := hBn.cell
      obtain ⟨g, i, hat, hcell⟩ := ring_at hR hlt
      gi_wp2_with (refine ⟨trivial, ?_⟩; gi_at_call 40; refine (callsIn_wide.2 hat).mono ?_; rintro e w5 ⟨rfl, nq, rfl⟩; have hcell : (wr.drewN nq).cell? ⟨g, i, none⟩ = some (.int .i32 xs[k]) := hcell; obtain ⟨fn, tmps, assign, body, hy, hR2⟩ := hY _ xs[k] (wr.drewN nq) (hJ _ _ nq hJs) (by rw [List.length_take]; omega))
      refine hR2.mono ?_
      rintro e W3 (⟨rfl, hJ3, hk3⟩ | ⟨rfl, hJx3⟩)
      · gi_wp2
        go_roundw
        case rel => exact ⟨k + 1, by omega, by simp, by rw [List.take_succ_eq_append_getElem hlt]; exact hJ3, hk3.2 _ hBn, (hR.drewN nq).belowN hS hk3.1⟩
        case measure => simp [intOf]; omega
      · gi_wp2
        refine bodyPost_ret (results_none rfl _ _ _) rfl ?_
        exact ⟨⟨_, rfl⟩, .inr ⟨_, by rw [← List.take_succ_eq_append_getElem hlt]; exact List.take_prefix _ _, hJx3⟩⟩
    · obtain rfl : k = xs.length := by omega
      gi_wp2
      go_end0
      exact ⟨⟨_, rfl⟩, .inl ⟨_, rfl, by rwa [List.take_length] at hJs⟩⟩

theorem all_in (n : Nat) (p : Option Addr) (w : World) :
    CallsIn Fence.wide n Try.prog 44 #[.pointer p] w fun e w' => e = .returned (.func (.func 47) #[] #[.pointer (some ⟨w.heap.size, 0, none⟩)]) ∧ w' = w.alloc (.cells #[.pointer p] 92) := by
  refine callsIn_of_wp Try.func44 rfl trivial ?_ rfl
  simp only [Try.ntmps44, List.size_toArray, List.length_cons, List.length_nil, Nat.reduceAdd, Nat.reduceSub, Array.replicate_succ, Array.replicate_zero, List.push_toArray, List.append_toArray, List.nil_append, List.cons_append]
  gi_wp2
  go_ret
  exact ⟨rfl, rfl⟩

theorem all_stops (n : Nat) (hn : 1 ≤ n) (Bn n₀ p N : Nat) (S : Nat → Prop) (hS : ∀ b, S b → b < n₀) (xs : List Int) (w : World) (hn₀ : n₀ ≤ w.heap.size) (hBn : Boxed w Bn 92 (.pointer (some ⟨p, 0, none⟩))) (hR : RingAt w p S N xs) :
    SeqStopsK Fence.wide n Try.prog 47 #[.pointer (some ⟨Bn, 0, none⟩)] (fun x : Int => #[Value.int .i32 x]) (Keeps n₀ Bn) (fun ys => ys = xs) (fun pre => pre <+: xs) xs.length w := fun l J Jx W hW hJ _ hY h0 =>
  all1_in n hn l Bn n₀ p N S hS xs J Jx (fun s W nq h => hJ s W _ none h ⟨rfl, rfl, rfl, Nat.le_refl _, fun _ _ _ => rfl⟩ (fun r e => by cases e)) hY W ((hW.block Bn hBn.lt).trans hBn) (hR.belowN (fun b hb => Nat.lt_of_lt_of_le (hS b hb) hn₀) hW) h0

theorem run_make0 (W : World) (n : Nat) (hn : n ≤ 100000) : (Instr.makeSlice 65 (.int .i64 0) (.int .i64 (n : Int))).run Try.prog W = .ok (.slice (some ⟨W.heap.size, 0, none⟩) 0 n) (W.alloc (.cells (madeCells #[.int .i32 0] n) 21)) := by
  obtain ⟨i, hi, hz0, hz1, hz2⟩ := info_parts info_i32
  have := run_make (P := Try.prog) W 65 21 i (.int .i32 0) Try.underlying65 hi hz0 .i64 .i64 0 (n : Int) (by omega) (by omega) (by rw [hz2]; omega) (by omega)
  rw [hz1] at this
  simpa [Value.cells] using this

set_option maxRecDepth 100000 in
set_option maxHeartbeats 2000000 in
theorem items_any (w : World) (p N : Nat) (S : Nat → Prop) (xs : List Int) (hR : RingAt w p S N xs) :
    Calls Try.prog 36 #[.pointer (some ⟨p, 0, none⟩)] w (NewSl w 21 1 xs.length (iv xs)) := by
  obtain ⟨S', hR, hS⟩ : ∃ S' : Nat → Prop, RingAt w p S' N xs ∧ ∀ b, S' b → b < w.heap.size := ⟨_, hR.lt, fun b h => h.2⟩
  have hxl := hR.len
  have hc2 : w.cell? ⟨p, 2, none⟩ = some (.int .i64 (xs.length : Int)) := by obtain ⟨A, c, cs, f, hb, _⟩ := hR; exact hb.cell 2
  obtain ⟨i0, hi, hz0, hz1, hz2⟩ := info_parts info_i32
  have hmk := fun W => run_make0 W xs.length (by omega)
  refine (callsIn_wide (n := 3)).1 (callsIn_of_wp_marks Try.func36 rfl trivial ?_ rfl)
  simp only [Try.ntmps36, List.size_toArray, List.length_cons, List.length_nil, Nat.reduceAdd, Nat.reduceSub, Array.replicate_succ, Array.replicate_zero, List.push_toArray, List.append_toArray, List.nil_append, List.cons_append]
  gi_wp2_with (refine ⟨trivial, ?_⟩; gi_at_call 44; refine (all_in _ _ _).mono ?_; rintro e w' ⟨rfl, rfl⟩)
  have bO := Boxed.new (w.alloc (.cells (madeCells #[.int .i32 0] xs.length) 21)) 65 (.slice (some ⟨w.heap.size, 0, none⟩) 0 xs.length)
  have bR := Boxed.new ((w.alloc (.cells (madeCells #[.int .i32 0] xs.length) 21)).alloc (.cells #[.slice (some ⟨w.heap.size, 0, none⟩) 0 xs.length] 65)) 92 (.pointer (some ⟨p, 0, none⟩))
  rw [World.size_alloc] at bO bR
  rw [World.size_alloc] at bR
  have hB0 : Below w.heap.size w (((w.alloc (.cells (madeCells #[.int .i32 0] xs.length) 21)).alloc (.cells #[.slice (some ⟨w.heap.size, 0, none⟩) 0 xs.length] 65)).alloc (.cells #[.pointer (some ⟨p, 0, none⟩)] 92)) := (((Below.refl _ w).alloc (Nat.le_refl _) _).alloc (by simp) _).alloc (by simp; omega) _
  have hrow0 : (((w.alloc (.cells (madeCells #[.int .i32 0] xs.length) 21)).alloc (.cells #[.slice (some ⟨w.heap.size, 0, none⟩) 0 xs.length] 65)).alloc (.cells #[.pointer (some ⟨p, 0, none⟩)] 92)).ownsRow w.heap.size 21 1 (.slice (some ⟨w.heap.size, 0, none⟩) 0 xs.length) 0 [] :=
    ((World.ownsRow_made (e := 21) (size := 1) w (madeCells #[.int .i32 0] xs.length) xs.length (Nat.le_refl _) (by unfold maxLen; omega) (by simp [size_madeCells])).alloc _).alloc _
  have hR0 := hR.belowN hS hB0
  have bO0 := bO.alloc (.cells #[.pointer (some ⟨p, 0, none⟩)] 92)
  obtain ⟨W0, hW0⟩ : ∃ W0, ((w.alloc (.cells (madeCells #[.int .i32 0] xs.length) 21)).alloc (.cells #[.slice (some ⟨w.heap.size, 0, none⟩) 0 xs.length] 65)).alloc (.cells #[.pointer (some ⟨p, 0, none⟩)] 92) = W0 := ⟨_, rfl⟩
  have hsz : W0.heap.size = w.heap.size + 3 := by rw [← hW0]; simp
  rw [hW0] at bR hB0 hrow0 hR0 bO0 ⊢
  clear hW0 bO hc2 hmk
  refine wpIn_rangeFunc_ownG rfl (by omega) (gf := 47) (lb := #[.pointer (some ⟨w.heap.size + 1 + 1, 0, none⟩)]) rfl trivial (enters_of Try.func47 (by kernel_rfl) rfl)
    (all_stops 2 (by omega) (w.heap.size + 1 + 1) w.heap.size p N S' hS xs W0 (by omega) bR hR0) Keeps.t (Keeps.b (by omega)) (Below.refl _ _) (fun _ => rfl)
    (fun pre W => ((∃ v, Boxed W (w.heap.size + 1) 65 v ∧ W.ownsRow w.heap.size 21 1 v pre.length (iv pre) ∧ True) ∧ Boxed W (w.heap.size + 1 + 1) 92 (.pointer (some ⟨p, 0, none⟩))) ∧ Below w.heap.size w W)
    (fun _ _ _ => False)
    (OwnFrom.and (Own.from (fun s A B row hs hg hr => ⟨holdsRow_own w.heap.size (w.heap.size + 1) 65 21 1 (fun pre : List Int => pre.length) iv (fun _ _ => True) s A B row hs.1 hg hr, boxed_own _ _ (fun _ : List Int => .pointer (some ⟨p, 0, none⟩)) s A B row hs.2 hg hr⟩) _) (ownFrom_below (Nat.le_refl _) (by omega)))
    (fun _ _ _ _ _ hs _ _ => hs)
    ⟨⟨⟨_, bO0, hrow0, trivial⟩, bR⟩, hB0⟩
    (fun x => { tmps := #[.pointer (some ⟨p, 0, none⟩), undef, .slice none 0 0, .pointer (some ⟨w.heap.size + 1, 0, none⟩), .int .i32 x, .pointer (some ⟨p, 0, none⟩), .bool false, .pointer (some ⟨p, 0, none⟩), .pointer (some ⟨p, 0, none⟩), .pointer (some ⟨p, 0, none⟩), .pointer (some ⟨p, 2, none⟩), .int .i64 xs.length, .slice (some ⟨w.heap.size, 0, none⟩) 0 xs.length, .pointer (some ⟨p, 0, none⟩), .pointer (some ⟨p, 0, none⟩), .pointer (some ⟨p, 0, none⟩), .func (.func 47) #[] #[.pointer (some ⟨w.heap.size + 1 + 1, 0, none⟩)], .int .i32 x, undef, undef, undef, undef, undef], defers := [] }) ?assign ?body ?done ?stop
  case assign =>
    intro l x W K hK
    gi_wp2
    exact hK
  case body =>
    rintro l pre x W ⟨⟨⟨v, hv, hrow, _⟩, hbx⟩, hB⟩ hlt
    have hc := hv.cell
    gi_wp2_with (gi_at_builtin; refine wpListIn_append_own _ rfl _ _ 65 rfl w.heap.size 21 i0 (.int .i32 0) 1 4 Try.underlying65 hi hz0 hz1 hz2 rfl (by decide) _ _ _ rfl (hrow.alloc _) ⟨W.heap.size, 0, none⟩ 1 1 [.int .i32 x] rfl rfl (cell_one_new _ _ _) (by simp [Value.oneCell']) (by simp only [maxLen]; omega) (by omega) (by have := hB.size; simp; omega) ?_; intro v' w1 hown' hgrow _; obtain ⟨g', cap', rfl⟩ := ownsRow_succ hown'; obtain ⟨hv1, hv2, hr2, hk2, hb2⟩ := hv.appended (by decide) hrow hB.size (Nat.le_succ _) hown' hgrow; have hc1 := hv1.cell; have hf1 := hv1.frozen)
    have hk : ∀ u, Boxed W (w.heap.size + 1 + 1) 92 u → Boxed (w1.setCell ⟨w.heap.size + 1, 0, none⟩ (.slice (some ⟨g', 0, none⟩) (pre.length + 1) cap')) (w.heap.size + 1 + 1) 92 u := fun u hu => ((hu.alloc _).kept hgrow (hu.not_row (by decide) hrow)).other (by omega) _
    exact ⟨hk2.from _, ⟨hb2, hk⟩, ⟨⟨_, hv2, by simpa [iv] using hr2, trivial⟩, hk _ hbx⟩, hB.trans hb2⟩
  case done =>
    rintro D ys W hD rfl ⟨⟨⟨v, hv, hrow, _⟩, hbx⟩, hB⟩ hK
    have hc := hv.cell
    gi_wp2
    refine ⟨by simp, .inl ⟨_, _, rfl, run_takeDeferred hK, ?_⟩⟩
    obtain ⟨A, c, rfl, hs⟩ := Sl.of_owns (ownsRow_putObj hrow (.deferred none) hK rfl)
    exact ⟨_, results_tmp rfl _ _ _, A, c, rfl, hs, hB.trans (belowK_b (w := w) (Nat.le_refl _) W D _ _ (by omega) hK rfl rfl)⟩
  case stop =>
    rintro D c pre W _ _ h _
    exact h.elim
theorem items_nil (w : World) : Calls Try.prog 36 #[.pointer none] w (NewSl w 21 1 0 []) := by
  go_enter Try.func36, Try.ntmps36
  go_wp2
  go_ret
  exact ⟨none, 0, rfl, Sl.nil _ _ _ _, Below.refl _ _⟩
end Go.Proofs.Ytgaomaaloaglpaa
