/-
  ScriptCalls: for every input the law returns true and each argument reads as it read: the step from the walk to the row.
-/
import Derived.Test.YtefenbmchfbohaaRows
import Derived.Test.YtefenbmchfbohaaLawScriptCalls
import Derived.ProofKit
import Derived.OpenShut
import Derived.ShutString
import Derived.ChangeOld
import Derived.Below
import Derived.SizedLaws
namespace Go.Proofs.Ytefenbmchfbohaa.lawScriptCalls
open Go.ChangeShapes Go.WideShapes Go.ChangeAt Go.RowKit
open Go.ChangeMaps (open_string shut_string)
open Go.Rp

theorem own : ownKnob Try.prog.godebug = none := by kernel_rfl
theorem laidOut : laidOutB Try.prog = true := by kernel_rfl

set_option maxRecDepth 100000 in
theorem cells28 {H : Type} {enc : TypeId × Value → H} {w : World} {base : Nat} {spare : Nat → Bool} {held : Bool} {fuel : Nat} {cs : List Value} {x : DataW H × List MemPlace} (h : DataW.trod enc Try.prog w base spare held fuel 28 cs = some x) :
    ∃ (v0 : Int) (v1 : Int), cs = [.int .u8 v0, .int .i32 v1] ∧ (Lit.int .u8 v0).wf = true ∧ (Lit.int .i32 v1).wf = true := by
  obtain ⟨xs, n, _, hx, hl, hlen, hf⟩ := DataW.trod_struct Try.underlying28 h
  have hl2 : cs.length = 2 := hl.trans (by kernel_rfl)
  have hlen2 : xs.length = 2 := hlen
  clear hl hlen
  match cs, hl2 with
  | [c0, c1], _ =>
    have f0 : DataW.trod enc Try.prog w base spare held n 5 [c0] = some (xs[0]'(by omega)) := (hf 0 _ rfl).trans (List.getElem?_eq_getElem (by omega))
    obtain ⟨v0, e0, _, w0⟩ := DataW.trod_int Try.underlying5 f0
    simp only [List.cons.injEq, and_true] at e0
    obtain rfl := e0
    have f1 : DataW.trod enc Try.prog w base spare held n 21 [c1] = some (xs[1]'(by omega)) := (hf 1 _ rfl).trans (List.getElem?_eq_getElem (by omega))
    obtain ⟨v1, e1, _, w1⟩ := DataW.trod_int Try.underlying21 f1
    simp only [List.cons.injEq, and_true] at e1
    obtain rfl := e1
    exact ⟨v0, v1, rfl, w0, w1⟩

set_option maxRecDepth 100000 in
theorem lifted (os : Os) (started : os.Started) (H : Type) (enc : TypeId × Value → H) :
    ReturnsInHanded {} Try.checked os 7 .any (Rows.scriptCallsSpec.pre6 enc Try.prog Try.f7 Rows.scriptCallsRow.domain false) (Rows.scriptCallsSpec.post enc Try.prog Try.f7 false true false false) := by
  refine returnsInHanded_of_change_sized (C := Try.checked) own started (by kernel_rfl) Try.func7
    (ChangeSpec.witness6 (enc := enc) (C := Try.checked) false ⟨#[], #[.slice none 0 0, .slice none 0 0], []⟩ 8 (by kernel_rfl) (by kernel_rfl) (by kernel_rfl) (by kernel_rfl)) ?_
  intro W base args ds gs before hval0 hW _ hsz0 _
  have hval : ∀ (j : Nat) t v, Try.f7.params[j]? = some t → args[j]? = some v → Value.okWide Try.prog W .any base t v := hval0
  have hW' := hW
  obtain ⟨p, q, hA0, hV, rfl, _, _⟩ := hW
  have hA : DataW.TrodAll enc Try.prog W 0 (fun _ => true) true Try.f7.params.toList args.toList ds p := hA0
  have hsz : (DataW.weightsEach Try.prog (Try.f7.params.toList ++ Rows.scriptCallsSpec.plain.varTypes Try.prog) (ds ++ gs)).all (· ≤ reachBytes) = true := hsz0
  rw [Try.params7] at hA hval hsz
  obtain ⟨v0, vs0, d0, ds0, p0, q0, hargs0, rfl, rfl, h0, r0⟩ := trodAll_cons hA
  obtain ⟨v1, vs1, d1, ds1, p1, q1, rfl, rfl, rfl, h1, r1⟩ := trodAll_cons r0
  obtain ⟨rfl, rfl, rfl⟩ := trodAll_nil r1
  obtain rfl : args = #[v0, v1] := by cases args; simp_all
  obtain ⟨rfl, rfl⟩ := trodVars_none hV
  have k0 := h0
  have lt0 : ∀ x ∈ p0, x.block < W.heap.size := by obtain ⟨m, hm⟩ := k0; exact DataW.trod_lt m _ _ _ hm
  have k1 := h1
  have lt1 : ∀ x ∈ p1, x.block < W.heap.size := by obtain ⟨m, hm⟩ := k1; exact DataW.trod_lt m _ _ _ hm
  obtain ⟨a0, len0, cap0, rfl⟩ := okWide_slice Try.underlying41 (hval 0 41 v0 rfl rfl)
  obtain ⟨z0, w0⟩ : ∃ zs, InInts .i64 W a0 len0 cap0 zs := by
    obtain ⟨fuel, hf⟩ := h0
    rcases open_ints Try.underlying41 Try.underlying3 (by kernel_rfl) hf with ⟨hcs, _⟩ | ⟨x, l, c, zs, hcs, _, hl, hm, hz, hx, hcell, hwz⟩
    · simp [Value.cells] at hcs
      obtain ⟨rfl, rfl, rfl⟩ := hcs
      exact ⟨[], InInts.none_ _ _⟩
    · simp [Value.cells] at hcs
      obtain ⟨rfl, rfl, rfl⟩ := hcs
      have hx1 := congrArg Prod.fst hx
      simp only at hx1
      subst hx1
      have hreach := sized_slice hsz (j := 0) (t := 41) (e := 3) rfl rfl Try.underlying41
      rw [show Try.prog.bytesOf 3 = 8 from by kernel_rfl] at hreach
      exact ⟨_, InInts.of_row ⟨_, rfl, hl, hm, by simpa using hz, hcell, hwz⟩ (by simp [lits] at hreach hz; unfold reachBytes at hreach; omega)⟩
  obtain ⟨a1, len1, cap1, rfl⟩ := okWide_slice Try.underlying42 (hval 1 42 v1 rfl rfl)
  obtain ⟨z1, w1⟩ : ∃ xs, InRows 2 opIn opOk W a1 len1 cap1 xs := by
    obtain ⟨fuel, hf⟩ := h1
    have hdec : ∀ fuel cs x, DataW.trod enc Try.prog W 0 (fun _ => true) true fuel 28 cs = some x → ∃ r, cs = opIn r ∧ opOk r := fun fuel cs x h => by
      obtain ⟨v0, v1, rfl, w0, w1⟩ := cells28 h
      exact ⟨(v0, v1), rfl, ⟨w0, w1⟩⟩
    rcases Go.Deep.open_slice Try.underlying42 hf with ⟨hcs, _⟩ | ⟨x, l, c, m, n, D, Pl, hcs, _, hl, hm, hmm, hx, hi⟩
    · simp [Value.cells] at hcs
      obtain ⟨rfl, rfl, rfl⟩ := hcs
      exact ⟨[], InRows.none_⟩
    · simp [Value.cells] at hcs
      obtain ⟨rfl, rfl, rfl⟩ := hcs
      have hx1 := congrArg Prod.fst hx
      simp only at hx1
      subst hx1
      have hreach := sized_slice hsz (j := 1) (t := 42) (e := 28) rfl rfl Try.underlying42
      have hlm : len1 ≤ m := by rw [hmm]; split <;> omega
      rw [show Try.prog.bytesOf 28 = 8 from by kernel_rfl] at hreach
      exact InRows.of_row (by omega) hl hm (by simp only [List.length_map, List.length_range] at hreach; unfold reachBytes at hreach; omega) (rows_of (by kernel_rfl) hdec hi _ hlm)
  clear hA0 hval0
  refine (ScriptCalls_walk W a0 len0 cap0 _ w0 a1 len1 cap1 _ w1).mono fun e W' ⟨he, bel⟩ => ?_
  subst he
  exact ⟨_, rfl, _, _, _, [], _, [], hW', trodAll_mk1 (shut_bool Try.underlying4 _), (trodAll_cons_mk (Below.trod laidOut (by kernel_rfl) (of_decide_eq_true (by kernel_rfl)) k0 bel lt0) (trodAll_cons_mk (Below.trod laidOut (by kernel_rfl) (of_decide_eq_true (by kernel_rfl)) k1 bel lt1) trodAll_mk0)), rfl, bel.frame _, fun h => by cases h⟩

theorem over : Rows.scriptCallsRow.holds Try.pinned (OpenSpec.ofChange Rows.scriptCallsSpec) :=
  OpenClaim.holds_of_wide 7 Try.f7 rfl rfl rfl rfl rfl rfl rfl ⟨rfl, rfl, rfl, rfl, rfl⟩ rfl rfl rfl rfl rfl (by kernel_rfl) Try.func7 (by kernel_rfl)
    (of_decide_eq_true (by kernel_rfl)) (by unfold Func.isWrapper; first | (rw [if_pos (by decide +kernel)]; kernel_rfl) | (rw [if_neg (by decide +kernel)]; exact ⟨rfl, rfl⟩))
    (fun os started H enc _ => lifted os started H enc)

/-- THE STATEMENT. -/
theorem proved : Rows.ScriptCallsSaid := over
#print axioms proved
end Go.Proofs.Ytefenbmchfbohaa.lawScriptCalls
