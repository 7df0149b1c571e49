/-
  slices.Chunk at bytes as an iterator, and what bytes say: the walks.
-/
import Derived.RangeFuncNested
import Derived.RangeFuncBound
import Derived.RangeFuncCalls
import Derived.RangeFuncLeaves
import Derived.RangeFuncBox
import Derived.Shelf.Abstract
import Derived.Shelf.RegionOpen
import Derived.OwnWalkIn
import Derived.TacticsInMore
import Derived.LoopNIn
import Derived.LoopIn
import Derived.Stop.RegionWithIn
import Derived.Sort.QuietIn
import Derived.Maps.AppendAt
import Derived.Test.YtefenbmchfbohaaScrB
import Derived.Test.YtefenbmchfbohaaScrQ
namespace Go.Proofs.Ytefenbmchfbohaa
open Go.RowKit Go.Rp Go.Shelf

attribute [local go_sem] Oper.semAt_some

/-- What a slice owns in new memory it has as its own. -/
theorem Sl.of_owns {w w' : World} {e sz n : Nat} {v : Value} {xs : List Value} (h : w'.ownsRow w.heap.size e sz v n xs) : ∃ A c, v = .slice A n c ∧ Sl w' e sz A n c xs (fun b => w.heap.size ≤ b ∧ b < w'.heap.size) := by
  obtain ⟨hl, ⟨rfl, rfl⟩ | ⟨g, cap, cur, rfl, hg, hb, hn, hc, hz, hx⟩⟩ := h
  · have : xs = [] := List.eq_nil_of_length_eq_zero (by simpa using hl)
    subst this
    exact ⟨none, 0, rfl, Sl.nil _ _ _ _⟩
  · have hb' : Blk w' g e cur := hb
    refine ⟨_, cap, rfl, ?_⟩
    have := Sl.of_blk hb' (S := fun b => w.heap.size ≤ b ∧ b < w'.heap.size) ⟨hg, hb'.lt⟩ n cap hn hc hz
    rwa [hx] at this
theorem cells_lit (W : World) (t : TypeId) (cs : Array Value) (j : Nat) (u : Value) (h : cs.toList[j]? = some u) : (W.alloc (.cells cs t)).cell? ((⟨W.heap.size, 0, none⟩ : Addr).add j) = some u := by
  have h2 : (⟨W.heap.size, 0, none⟩ : Addr).add j = ⟨W.heap.size, j, none⟩ := by unfold Addr.add; split <;> simp_all
  rw [h2, (Blk.new W t cs).cell j]
  simpa using h
theorem keepsOthers_below {W W' : World} (h : Below W.heap.size W W') : KeepsOthers W W' := ⟨h.size, fun k o hk _ => (h.block k (Array.getElem?_eq_some_iff.1 hk).1).trans hk⟩
theorem grown_below {W W' : World} (h : Below W.heap.size W W') : W.grownBy W' none := ⟨h.os, h.tape, h.output, h.size, fun k hk _ => h.block k hk⟩

theorem min_ii {k : IntKind} {x y z : Int} (h : min x y = z) (ats : Array TypeId) (ty : TypeId) : Go.Builtin.min_ ats ty #[.int k x, .int k y] = (pure (.int k z) : Sem Value) := by
  have e : (if y < x then y else x) = z := by rw [← h, Int.min_def]; split <;> split <;> omega
  show ([Value.int k y].foldlM Go.Builtin.min2 (.int k x) : Sem Value) = _
  simp only [List.foldlM, Go.Builtin.min2, e]
  rfl
theorem min_nat {m e : Nat} (h : Nat.min 4 m = e) : min (4 : Int) (m : Int) = (e : Int) := by
  rw [← h, show Nat.min 4 m = min 4 m from rfl, Int.min_def, Nat.min_def]
  split <;> split <;> omega
theorem size_byte (W : World) : (sizeOf 5).run Try.prog W = .ok 1 W := by kernel_rfl
/-- 's[k:]' of bytes. -/
theorem bytes_from (A : Option Addr) (n c k m : Nat) (hn : n = k + m) : ∃ A' c', ∀ W, (Instr.slice 24 (.slice A n c) (some (.int .i64 (k : Int))) none none).run Try.prog W = .ok (.slice A' m c') W := by
  refine ⟨if c = k then A else A.map (·.add k), c - k, fun W => ?_⟩
  rw [run_slice_l W 24 A n c (by kernel_rfl) .i64 (k : Int) (by omega) (by omega)]
  rw [show Try.prog.elem 24 = 5 by kernel_rfl, size_byte W]
  simp only [Result.andThen, sliced, Int.toNat_natCast, Nat.mul_one]
  rw [show n - k = m by omega]
/-- 's[k:k+e:k+e]' of bytes. -/
theorem bytes_piece (b off n c k e : Nat) (h1 : k + e ≤ c) (he : 0 < e) (x : Int) (hx : x = (k : Int) + (e : Int)) : ∀ W, (Instr.slice 24 (.slice (some ⟨b, off, none⟩) n c) (some (.int .i64 (k : Int))) (some (.int .i64 x)) (some (.int .i64 x))).run Try.prog W = .ok (.slice (some ⟨b, off + k, none⟩) e e) W := by
  intro W
  rw [run_slice_lhm W 24 _ n c (by kernel_rfl) .i64 .i64 .i64 (k : Int) x x (by omega) (by omega) (by omega) (by omega)]
  rw [show Try.prog.elem 24 = 5 by kernel_rfl, size_byte W]
  simp only [Result.andThen, sliced, Int.toNat_natCast, Nat.mul_one]
  have hxt : x.toNat = k + e := by omega
  rw [hxt, if_neg (by omega), Nat.add_sub_cancel_left]
  simp [Addr.add]

theorem range_prefix {a b : Nat} (h : a ≤ b) : List.range a <+: List.range b := by
  obtain ⟨d, rfl⟩ := Nat.le.dest h
  rw [List.range_add]
  exact List.prefix_append _ _
/-- What a round keeps: what lay below n₀, and the iterator's two boxes. -/
def KeepsC (n₀ Bs Bn : Nat) (A B : World) : Prop := Below n₀ A B ∧ (∀ v, Boxed A Bs 24 v → Boxed B Bs 24 v) ∧ (∀ v, Boxed A Bn 3 v → Boxed B Bn 3 v)
theorem KeepsC.t {n₀ Bs Bn : Nat} {A B C : World} (h : KeepsC n₀ Bs Bn A B) (k : KeepsC n₀ Bs Bn B C) : KeepsC n₀ Bs Bn A C := ⟨h.1.trans k.1, fun v hv => k.2.1 v (h.2.1 v hv), fun v hv => k.2.2 v (h.2.2 v hv)⟩
theorem boxed_put {B : Nat} {t : TypeId} {v : Value} {W : World} {l : Nat} {o : Obj} (o' : Obj) (hv : Boxed W B t v) (h : W.heap[l]? = some o) (ho : o.isCells = false) : Boxed (W.putObj l o') B t v :=
  hv.kept (grownBy_putObj' W l o') (fun e => by
    obtain rfl : B = l := by simpa using e
    rw [show W.heap[B]? = _ from hv] at h
    cases h; cases ho)
theorem KeepsC.b {n₀ Bs Bn : Nat} {w : World} (hn : n₀ ≤ w.heap.size) (W : World) (l : Nat) (o o' : Obj) (hl : w.heap.size ≤ l) (h : W.heap[l]? = some o) (ho : o.isCells = false) (hw : o.isWalk = false) : KeepsC n₀ Bs Bn W (W.putObj l o') :=
  ⟨belowK_b hn W l o o' hl h ho hw, fun _ hv => boxed_put o' hv h ho, fun _ hv => boxed_put o' hv h ho⟩

set_option maxRecDepth 100000 in
set_option maxHeartbeats 2000000 in
theorem chunk1_in (q : Nat) (hq : 1 ≤ q) (l Bs Bn n₀ b off n c : Nat) (A : Option Addr) (hA : 0 < n → A = some ⟨b, off, none⟩) (hnc : n ≤ c) (hn : n ≤ 100000) (J Jx : List Nat → World → Prop) (hJ : ∀ s W nq, J s W → J s (W.drewN nq))
    (hY : ∀ pre (k : Nat) W, J pre W → pre.length < (n + 3) / 4 → YieldAt Fence.wide (q - 1) Try.prog l #[.slice (some ⟨b, off + 4 * k, none⟩) (Nat.min 4 (n - 4 * k)) (Nat.min 4 (n - 4 * k))] W fun e W' =>
      (e = .returned (.bool true) ∧ J (pre ++ [k]) W' ∧ KeepsC n₀ Bs Bn W W') ∨ (e = .returned (.bool false) ∧ Jx (pre ++ [k]) W'))
    (W : World) (hBs : Boxed W Bs 24 (.slice A n c)) (hBn : Boxed W Bn 3 (.int .i64 4)) (h0 : J [] W) :
    CallsIn Fence.wide q Try.prog 25 #[.func (.yield l) #[] #[], .pointer (some ⟨Bs, 0, none⟩), .pointer (some ⟨Bn, 0, none⟩)] W fun e W' => (∃ v, e = .returned v) ∧
      ((∃ ys, ys = List.range ((n + 3) / 4) ∧ J ys W') ∨ (∃ pre, pre <+: List.range ((n + 3) / 4) ∧ Jx pre W')) := by
  have hc1 := hBs.cell
  have hc2 := hBn.cell
  refine callsIn_of_wp Try.func25 rfl trivial ?_ rfl
  simp only [Try.ntmps25, List.size_toArray, List.length_cons, List.length_nil, Nat.reduceAdd, Nat.reduceSub, Array.replicate_succ, Array.replicate_zero, List.push_toArray, List.append_toArray, List.nil_append, List.cons_append]
  gi_wp2
  gi_loopw [4] (fun i wr => ∃ k : Nat, k ≤ (n + 3) / 4 ∧ i = .int .i64 ((4 * k : Nat) : Int) ∧ J (List.range k) wr ∧ Boxed wr Bs 24 (.slice A n c) ∧ Boxed wr Bn 3 (.int .i64 4))
    (fun i _ => n + 4 - (intOf i).toNat)
  case atStart => exact ⟨0, Nat.zero_le _, rfl, h0, hBs, hBn⟩
  case round =>
    clear hc1 hc2 hBs hBn h0
    obtain ⟨k, hk, rfl, hJs, hBs, hBn⟩ := hrel
    have hc1 := hBs.cell
    have hc2 := hBn.cell
    by_cases hlt : 4 * k < n
    · obtain rfl := hA (by omega)
      obtain ⟨i4, hi4⟩ : ∃ i4, 4 * k = i4 := ⟨_, rfl⟩
      obtain ⟨m, hm⟩ : ∃ m, n - i4 = m := ⟨_, rfl⟩
      obtain ⟨e, he⟩ : ∃ e, Nat.min 4 m = e := ⟨_, rfl⟩
      have he0 : 0 < e := by rw [← he]; exact Nat.lt_min.2 ⟨by omega, by omega⟩
      have hem : e ≤ m := by rw [← he]; exact Nat.min_le_right _ _
      obtain ⟨A3, c3, hs1⟩ := bytes_from (some ⟨b, off, none⟩) n c i4 m (by omega)
      have hs2 := bytes_piece b off n c i4 e (by omega) he0 ((i4 : Int) + (e : Int)) rfl
      have hmn := min_ii (k := .i64) (min_nat he)
      have htn : ((i4 : Int) + (e : Int)).toNat - i4 = e := by omega
      have hY2 := fun W => hY (List.range k) k W
      rw [hi4, hm, he] at hY2
      have HI4 := Lib.hid hi4
      rw [hi4] at hlt ⊢
      clear hi4
      have hi4n : (i4 : Int) < (n : Int) := by omega
      gi_wp2
      gi_quiet (fail)
      clear hs1 hmn he
      obtain ⟨fn, tmps, assign, body, hy, hR2⟩ := hY2 (wr.drewN nq) (hJ _ _ nq hJs) (by simp; have := HI4.out; omega)
      gi_wp2
      refine hR2.mono ?_
      rintro e5 W3 (⟨rfl, hJ3, hk3⟩ | ⟨rfl, hJx3⟩)
      · have hBs3 := hk3.2.1 _ hBs
        have hBn3 := hk3.2.2 _ hBn
        have hc3 := hBn3.cell
        gi_wp2
        go_roundw
        case rel => exact ⟨k + 1, by have := HI4.out; omega, by have := HI4.out; go_num, by rw [List.range_succ]; exact hJ3, hBs3, hBn3⟩
        case measure => simp [intOf]; omega
      · gi_wp2
        refine bodyPost_ret (results_none rfl _ _ _) rfl ?_
        refine ⟨⟨_, rfl⟩, .inr ⟨_, ?_, hJx3⟩⟩
        rw [← List.range_succ]
        exact range_prefix (by have := HI4.out; omega)
    · have hke : k = (n + 3) / 4 := by omega
      subst hke
      gi_wp2
      go_end0
      exact ⟨⟨_, rfl⟩, .inl ⟨_, rfl, hJs⟩⟩

theorem chunk_in (q : Nat) (A : Option Addr) (n c : Nat) (w : World) :
    CallsIn Fence.wide q Try.prog 21 #[.slice A n c, .int .i64 4] w fun e w' => e = .returned (.func (.func 25) #[] #[.pointer (some ⟨w.heap.size, 0, none⟩), .pointer (some ⟨w.heap.size + 1, 0, none⟩)]) ∧ w' = (w.alloc (.cells #[.slice A n c] 24)).alloc (.cells #[.int .i64 4] 3) := by
  refine callsIn_of_wp Try.func21 rfl trivial ?_ rfl
  simp only [Try.ntmps21, List.size_toArray, List.length_cons, List.length_nil, Nat.reduceAdd, Nat.reduceSub, Array.replicate_succ, Array.replicate_zero, List.push_toArray, List.append_toArray, List.nil_append, List.cons_append]
  gi_wp2
  go_ret
  exact ⟨rfl, rfl⟩

theorem chunk_stops (q : Nat) (hq : 1 ≤ q) (Bs Bn n₀ b off n c : Nat) (A : Option Addr) (hA : 0 < n → A = some ⟨b, off, none⟩) (hnc : n ≤ c) (hn : n ≤ 100000) (w : World) (hn₀ : n₀ ≤ w.heap.size) (hBs : Boxed w Bs 24 (.slice A n c)) (hBn : Boxed w Bn 3 (.int .i64 4)) :
    SeqStopsK Fence.wide q Try.prog 25 #[.pointer (some ⟨Bs, 0, none⟩), .pointer (some ⟨Bn, 0, none⟩)] (fun k : Nat => #[Value.slice (some ⟨b, off + 4 * k, none⟩) (Nat.min 4 (n - 4 * k)) (Nat.min 4 (n - 4 * k))]) (KeepsC n₀ Bs Bn) (fun ys => ys = List.range ((n + 3) / 4)) (fun pre => pre <+: List.range ((n + 3) / 4)) ((n + 3) / 4) w := fun l J Jx W hW hJ _ hY h0 =>
  chunk1_in q hq l Bs Bn n₀ b off n c A hA hnc hn J Jx (fun s W nq h => hJ s W _ none h ⟨rfl, rfl, rfl, Nat.le_refl _, fun _ _ _ => rfl⟩ (fun r e => by cases e)) hY W ((hW.block Bs hBs.lt).trans hBs) ((hW.block Bn hBn.lt).trans hBn) h0
end Go.Proofs.Ytefenbmchfbohaa
