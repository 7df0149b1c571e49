/-
  Lists that skip: a level as an iterator.
-/
import Derived.RangeFuncNested
import Derived.RangeFuncBound
import Derived.RangeFuncCalls
import Derived.RangeFuncLeaves
import Derived.RangeFuncBox
import Derived.Shelf.Abstract
import Derived.Shelf.RegionOpen
import Derived.OwnWalkIn
import Derived.TacticsInMore
import Derived.LoopNIn
import Derived.LoopIn
import Derived.Stop.RegionWithIn
import Derived.Sort.QuietIn
import Derived.Sort.LoopGhostIn
import Derived.Maps.AppendAt
import Derived.Test.YtpelpbnmjciheaaSkipF
namespace Go.Proofs.Ytpelpbnmjciheaa
open Go.RowKit Go.Rp Go.Shelf

attribute [local go_sem] Oper.semAt_some

/-- The towers of a level (from 0). -/
def lev (q : Nat) (T : List Tw) : List Tw := T.filter fun t => decide (q < t.2.2)
theorem lev_off {q : Nat} {C : List Tw} (h : ∀ t ∈ C, ¬ q < t.2.2) (R : List Tw) : lev q (C ++ R) = lev q R := by
  unfold lev
  rw [List.filter_append, List.filter_eq_nil_iff.2 (by simpa using h), List.nil_append]
theorem lev_behind {q : Nat} {C : List Tw} (h : ∀ t ∈ C, ¬ q < t.2.2) (D : List Tw) : lev q (D ++ C) = lev q D := by
  unfold lev
  rw [List.filter_append, (List.filter_eq_nil_iff (l := C)).2 (by simpa using h), List.append_nil]
theorem lev_on {q : Nat} {t : Tw} (h : q < t.2.2) (R : List Tw) : lev q (t :: R) = t :: lev q R := by
  unfold lev
  rw [List.filter_cons_of_pos (by simpa using h)]
/-- The i-th one of a level; the head where there is none. -/
def levAt (q s : Nat) (T : List Tw) (i : Nat) : Tw := (lev q T).getD i (s, 0, 0)
theorem levAt_lt {q s : Nat} {T : List Tw} {i : Nat} (h : i < (lev q T).length) : levAt q s T i = (lev q T)[i] := by
  unfold levAt
  rw [List.getD_eq_getElem?_getD, List.getElem?_eq_getElem h]
  rfl
/-- What stands there, whichever it is. -/
theorem levAt_cells {w : World} {s many m q : Nat} {T : List Tw} {g : Nat → Nat → Option Nat} {S : Nat → Prop} (h : Links w s many m T g S) (i : Nat) :
    w.cell? ⟨(levAt q s T i).1, 0, none⟩ = some (.int .i32 (levAt q s T i).2.1) ∧ w.cell? ⟨(levAt q s T i).1, 1, none⟩ = some (.int .i64 ((levAt q s T i).2.2 : Int)) := by
  unfold levAt
  rw [List.getD_eq_getElem?_getD]
  rcases hx : (lev q T)[i]? with _ | t
  · exact ⟨h.hd.cell 0, h.hd.cell 1⟩
  · exact h.val (List.mem_filter.1 (List.mem_of_getElem? hx)).1
theorem range_prefix {a b : Nat} (h : a ≤ b) : List.range a <+: List.range b := by
  obtain ⟨d, rfl⟩ := Nat.le.dest h
  rw [List.range_add]
  exact List.prefix_append _ _
/-- What a round keeps: what lay below n₀, and the iterator's two boxes. -/
def KeepsC (n₀ Bs Bn : Nat) (A B : World) : Prop := Below n₀ A B ∧ (∀ v, Boxed A Bs 34 v → Boxed B Bs 34 v) ∧ (∀ v, Boxed A Bn 3 v → Boxed B Bn 3 v)
theorem KeepsC.t {n₀ Bs Bn : Nat} {A B C : World} (h : KeepsC n₀ Bs Bn A B) (k : KeepsC n₀ Bs Bn B C) : KeepsC n₀ Bs Bn A C := ⟨h.1.trans k.1, fun v hv => k.2.1 v (h.2.1 v hv), fun v hv => k.2.2 v (h.2.2 v hv)⟩
theorem boxed_put {B : Nat} {t : TypeId} {v : Value} {W : World} {l : Nat} {o : Obj} (o' : Obj) (hv : Boxed W B t v) (h : W.heap[l]? = some o) (ho : o.isCells = false) : Boxed (W.putObj l o') B t v :=
  hv.kept (grownBy_putObj' W l o') (fun e => by
    obtain rfl : B = l := by simpa using e
    rw [show W.heap[B]? = _ from hv] at h
    cases h; cases ho)
theorem KeepsC.b {n₀ Bs Bn : Nat} {w : World} (hn : n₀ ≤ w.heap.size) (W : World) (l : Nat) (o o' : Obj) (hl : w.heap.size ≤ l) (h : W.heap[l]? = some o) (ho : o.isCells = false) (hw : o.isWalk = false) : KeepsC n₀ Bs Bn W (W.putObj l o') :=
  ⟨belowK_b hn W l o o' hl h ho hw, fun _ hv => boxed_put o' hv h ho, fun _ hv => boxed_put o' hv h ho⟩
theorem SkT.belowN {W W' : World} {n₀ s m : Nat} {S : Nat → Prop} {T : List Tw} (h : SkT W s S m T) (hS : ∀ b, S b → b < n₀) (hb : Below n₀ W W') : SkT W' s S m T :=
  ⟨h.links.mod (U := fun b => n₀ ≤ b) ⟨hb.os, hb.tape, hb.output, hb.size, fun b _ hn => hb.block b (by omega)⟩ (fun b hs => by have := hS b hs; omega), h.apart, h.high, h.room, h.most, h.sorted⟩

set_option maxRecDepth 100000 in
set_option maxHeartbeats 2000000 in
theorem level1_in (n : Nat) (hn : 1 ≤ n) (l Bs Bn n₀ s m q : Nat) (hq : q < 8) (S : Nat → Prop) (hS : ∀ b, S b → b < n₀) (T : List Tw) (J Jx : List Nat → World → Prop) (hJ : ∀ s W nq, J s W → J s (W.drewN nq))
    (hY : ∀ pre (i : Nat) W, J pre W → pre.length < (lev q T).length → YieldAt Fence.wide (n - 1) Try.prog l #[.pointer (some ⟨(levAt q s T i).1, 0, none⟩)] W fun e W' =>
      (e = .returned (.bool true) ∧ J (pre ++ [i]) W' ∧ KeepsC n₀ Bs Bn W W') ∨ (e = .returned (.bool false) ∧ Jx (pre ++ [i]) W'))
    (W : World) (hBs : Boxed W Bs 34 (.pointer (some ⟨s, 0, none⟩))) (hBn : Boxed W Bn 3 (.int .i64 ((q : Int) + 1))) (hT : SkT W s S m T) (h0 : J [] W) :
    CallsIn Fence.wide n Try.prog 31 #[.func (.yield l) #[] #[], .pointer (some ⟨Bs, 0, none⟩), .pointer (some ⟨Bn, 0, none⟩)] W fun e W' => (∃ v, e = .returned v) ∧
      ((∃ ys, ys = List.range (lev q T).length ∧ J ys W') ∨ (∃ pre, pre <+: List.range (lev q T).length ∧ Jx pre W')) := by
  have hc1 := hBs.cell
  have hc2 := hBn.cell
  have hn0 : Node s T s := .inl rfl
  have hcell := (hT.links.node hn0 hq).1
  rw [linkOf_head] at hcell
  have hw : IntKind.i64.wrap ((q : Int) + 1 - 1) = (q : Int) := by rw [Int.add_sub_cancel]; exact IntWalk.i64_in _ (by omega)
  have hq8 : (q : Int) < 8 := by omega
  refine callsIn_of_wp Try.func31 rfl trivial ?_ rfl
  simp only [Try.ntmps31, List.size_toArray, List.length_cons, List.length_nil, Nat.reduceAdd, Nat.reduceSub, Array.replicate_succ, Array.replicate_zero, List.push_toArray, List.append_toArray, List.nil_append, List.cons_append]
  gi_wp2
  gi_quiet (fail)
  gi_wp2
  gi_loopg [4] T.length (fun g v wr => ∃ D R : List Tw, T = D ++ R ∧ R.length = g ∧ v = np (nxt q R) ∧ J (List.range (lev q D).length) wr ∧ Boxed wr Bs 34 (.pointer (some ⟨s, 0, none⟩)) ∧ Boxed wr Bn 3 (.int .i64 ((q : Int) + 1)) ∧ SkT wr s S m T)
  case atStart => exact ⟨[], T, rfl, rfl, rfl, hJ _ _ _ h0, hBs, hBn, hT.keep (below_drewN (Below.refl _ W) _)⟩
  case round =>
    clear hc1 hc2 hcell hBs hBn hT h0 hn0
    obtain ⟨D, R, hTe, hg, rfl, hJs, hBs, hBn, hT⟩ := hrel
    have hc1 := hBs.cell
    have hc2 := hBn.cell
    have HT := Lib.hid hTe
    have HG := Lib.hid hg
    rcases nxt_cases q R with ⟨hx, hoff⟩ | ⟨C, ⟨yb, yv, yh⟩, R2, e, hk, hx, hoff⟩
    · have hlev : lev q T = lev q D := by
        rw [hTe]; exact lev_behind hoff D
      have HLEV := Lib.hid hlev
      rw [hx, np_none]
      clear hTe hg hlev hx hT
      gi_wp2
      refine ⟨fun _ h => (by cases h), ?_⟩
      gi_wp2
      go_end0
      rw [HLEV.out]
      exact ⟨⟨_, rfl⟩, .inl ⟨_, rfl, hJs⟩⟩
    · subst e
      have hTe2 : T = (D ++ C) ++ (yb, yv, yh) :: R2 := by rw [hTe]; simp
      have hDC : lev q (D ++ C) = lev q D := lev_behind hoff D
      have hlev : lev q T = lev q D ++ (yb, yv, yh) :: lev q R2 := by
        rw [hTe2, show lev q (D ++ C ++ (yb, yv, yh) :: R2) = lev q (D ++ C) ++ lev q ((yb, yv, yh) :: R2) from List.filter_append _ _, lev_on hk, hDC]
      have hlev1 : lev q (D ++ C ++ [(yb, yv, yh)]) = lev q D ++ [(yb, yv, yh)] := by
        rw [show lev q (D ++ C ++ [(yb, yv, yh)]) = lev q (D ++ C) ++ lev q [(yb, yv, yh)] from List.filter_append _ _, lev_on hk, hDC]; rfl
      have hi : (lev q D).length < (lev q T).length := by rw [hlev]; simp
      have hat : (levAt q s T (lev q D).length).1 = yb := by
        rw [levAt_lt hi]; simp [hlev]
      have hn2 : Node s T yb := .inr ⟨(yb, yv, yh), by rw [hTe2]; simp, rfl⟩
      obtain ⟨fn, tmps, assign, body, hy, hR2⟩ := hY (List.range (lev q D).length) (lev q D).length wr hJs (by simpa using hi)
      rw [hat] at hy
      rw [← List.range_succ] at hR2
      have hrs : (lev q D).length + 1 = (lev q (D ++ C ++ [(yb, yv, yh)])).length := by rw [hlev1]; simp
      have hpre : List.range ((lev q D).length + 1) <+: List.range (lev q T).length := range_prefix (by omega)
      have HRS := Lib.hid hrs
      have HT2 := Lib.hid hTe2
      have HPRE := Lib.hid hpre
      rw [hx, np_some]
      clear hTe hg hx hTe2 hDC hlev hlev1 hi hat hrs hpre hY
      gi_wp2
      refine hR2.mono ?_
      rintro e5 W3 (⟨rfl, hJ3, hk3⟩ | ⟨rfl, hJx3⟩)
      · have hBs3 := hk3.2.1 _ hBs
        have hBn3 := hk3.2.2 _ hBn
        have hT3 := hT.belowN hS hk3.1
        have hc3 := hBn3.cell
        have hcell := (hT3.links.node hn2 hq).1
        have hap := hT3.apart
        have hlk : linkOf s T yb q = nxt q R2 := by
          have hap2 := hap
          rw [HT2.out] at hap2 ⊢
          have := linkOf_at (k := q) hap2
          rwa [if_pos hk] at this
        rw [hlk] at hcell
        clear hlk hT hR2 hy
        gi_wp2
        gi_quiet (fail)
        gi_wp2
        gi_roundg R2.length
        case measure => have := HG.out; simp at this; omega
        case rel =>
          refine ⟨D ++ C ++ [(yb, yv, yh)], R2, by rw [HT2.out]; simp, rfl, rfl, ?_, hBs3, hBn3, hT3.keep (below_drewN (Below.refl _ W3) _)⟩
          rw [← HRS.out]
          exact hJ _ _ _ hJ3
      · gi_wp2
        go_end0
        exact ⟨⟨_, rfl⟩, .inr ⟨_, HPRE.out, hJx3⟩⟩

theorem level_in (q : Nat) (p : Option Addr) (k : Int) (w : World) :
    CallsIn Fence.wide q Try.prog 22 #[.pointer p, .int .i64 k] w fun e w' => e = .returned (.func (.func 31) #[] #[.pointer (some ⟨w.heap.size, 0, none⟩), .pointer (some ⟨w.heap.size + 1, 0, none⟩)]) ∧ w' = (w.alloc (.cells #[.pointer p] 34)).alloc (.cells #[.int .i64 k] 3) := by
  refine callsIn_of_wp Try.func22 rfl trivial ?_ rfl
  simp only [Try.ntmps22, List.size_toArray, List.length_cons, List.length_nil, Nat.reduceAdd, Nat.reduceSub, Array.replicate_succ, Array.replicate_zero, List.push_toArray, List.append_toArray, List.nil_append, List.cons_append]
  gi_wp2
  go_ret
  exact ⟨rfl, rfl⟩
theorem level_stops (n : Nat) (hn : 1 ≤ n) (Bs Bn n₀ s m q : Nat) (hq : q < 8) (S : Nat → Prop) (hS : ∀ b, S b → b < n₀) (T : List Tw) (w : World) (hn₀ : n₀ ≤ w.heap.size) (hBs : Boxed w Bs 34 (.pointer (some ⟨s, 0, none⟩))) (hBn : Boxed w Bn 3 (.int .i64 ((q : Int) + 1))) (hT : SkT w s S m T) :
    SeqStopsK Fence.wide n Try.prog 31 #[.pointer (some ⟨Bs, 0, none⟩), .pointer (some ⟨Bn, 0, none⟩)] (fun i : Nat => #[Value.pointer (some ⟨(levAt q s T i).1, 0, none⟩)]) (KeepsC n₀ Bs Bn) (fun ys => ys = List.range (lev q T).length) (fun pre => pre <+: List.range (lev q T).length) (lev q T).length w := fun l J Jx W hW hJ _ hY h0 =>
  level1_in n hn l Bs Bn n₀ s m q hq S hS T J Jx (fun s W nq h => hJ s W _ none h ⟨rfl, rfl, rfl, Nat.le_refl _, fun _ _ _ => rfl⟩ (fun r e => by cases e)) hY W ((hW.block Bs hBs.lt).trans hBs) ((hW.block Bn hBn.lt).trans hBn) (hT.belowN (fun b hb => Nat.lt_of_lt_of_le (hS b hb) hn₀) hW) h0
end Go.Proofs.Ytpelpbnmjciheaa
