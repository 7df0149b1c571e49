/-
  ScriptAsks: for every input the law returns true and each argument reads as it read: the step from the walk to the row.
-/
import Derived.Test.YtefenbmchfbohaaRows
import Derived.Test.YtefenbmchfbohaaLawScriptAsks
import Derived.ProofKit
import Derived.OpenShut
import Derived.ShutString
import Derived.ChangeOld
import Derived.Below
import Derived.SizedLaws
namespace Go.Proofs.Ytefenbmchfbohaa.lawScriptAsks
open Go.ChangeShapes Go.WideShapes Go.ChangeAt Go.RowKit
open Go.ChangeMaps (open_string shut_string)
open Go.Rp

theorem own : ownKnob Try.prog.godebug = none := by kernel_rfl
theorem laidOut : laidOutB Try.prog = true := by kernel_rfl

set_option maxRecDepth 100000 in
theorem cells28 {H : Type} {enc : TypeId × Value → H} {w : World} {base : Nat} {spare : Nat → Bool} {held : Bool} {fuel : Nat} {cs : List Value} {x : DataW H × List MemPlace} (h : DataW.trod enc Try.prog w base spare held fuel 28 cs = some x) :
    ∃ (v0 : Int) (v1 : Int), cs = [.int .u8 v0, .int .i32 v1] ∧ (Lit.int .u8 v0).wf = true ∧ (Lit.int .i32 v1).wf = true := by
  obtain ⟨xs, n, _, hx, hl, hlen, hf⟩ := DataW.trod_struct Try.underlying28 h
  have hl2 : cs.length = 2 := hl.trans (by kernel_rfl)
  have hlen2 : xs.length = 2 := hlen
  clear hl hlen
  match cs, hl2 with
  | [c0, c1], _ =>
    have f0 : DataW.trod enc Try.prog w base spare held n 5 [c0] = some (xs[0]'(by omega)) := (hf 0 _ rfl).trans (List.getElem?_eq_getElem (by omega))
    obtain ⟨v0, e0, _, w0⟩ := DataW.trod_int Try.underlying5 f0
    simp only [List.cons.injEq, and_true] at e0
    obtain rfl := e0
    have f1 : DataW.trod enc Try.prog w base spare held n 21 [c1] = some (xs[1]'(by omega)) := (hf 1 _ rfl).trans (List.getElem?_eq_getElem (by omega))
    obtain ⟨v1, e1, _, w1⟩ := DataW.trod_int Try.underlying21 f1
    simp only [List.cons.injEq, and_true] at e1
    obtain rfl := e1
    exact ⟨v0, v1, rfl, w0, w1⟩

set_option maxRecDepth 100000 in
theorem cells30 {H : Type} {enc : TypeId × Value → H} {w : World} {base : Nat} {spare : Nat → Bool} {held : Bool} {fuel : Nat} {cs : List Value} {x : DataW H × List MemPlace} (h : DataW.trod enc Try.prog w base spare held fuel 30 cs = some x) :
    ∃ (v0 : Int) (v1 : Int) (v2 : Int) (v3 : Int) (v4 : Int), cs = [.int .u8 v0, .int .i64 v1, .int .u8 v2, .int .i32 v3, .int .u8 v4] ∧ (Lit.int .u8 v0).wf = true ∧ (Lit.int .i64 v1).wf = true ∧ (Lit.int .u8 v2).wf = true ∧ (Lit.int .i32 v3).wf = true ∧ (Lit.int .u8 v4).wf = true := by
  obtain ⟨xs, n, _, hx, hl, hlen, hf⟩ := DataW.trod_struct Try.underlying30 h
  have hl2 : cs.length = 5 := hl.trans (by kernel_rfl)
  have hlen2 : xs.length = 4 := hlen
  clear hl hlen
  match cs, hl2 with
  | [c0, c1, c2, c3, c4], _ =>
    have f0 : DataW.trod enc Try.prog w base spare held n 5 [c0] = some (xs[0]'(by omega)) := (hf 0 _ rfl).trans (List.getElem?_eq_getElem (by omega))
    obtain ⟨v0, e0, _, w0⟩ := DataW.trod_int Try.underlying5 f0
    simp only [List.cons.injEq, and_true] at e0
    obtain rfl := e0
    have f1 : DataW.trod enc Try.prog w base spare held n 3 [c1] = some (xs[1]'(by omega)) := (hf 1 _ rfl).trans (List.getElem?_eq_getElem (by omega))
    obtain ⟨v1, e1, _, w1⟩ := DataW.trod_int Try.underlying3 f1
    simp only [List.cons.injEq, and_true] at e1
    obtain rfl := e1
    have f2 : DataW.trod enc Try.prog w base spare held n 28 [c2, c3] = some (xs[2]'(by omega)) := (hf 2 _ rfl).trans (List.getElem?_eq_getElem (by omega))
    obtain ⟨v2, v3, e2, w2, w3⟩ := cells28 f2
    simp only [List.cons.injEq, and_true] at e2
    obtain ⟨rfl, rfl⟩ := e2
    have f3 : DataW.trod enc Try.prog w base spare held n 5 [c4] = some (xs[3]'(by omega)) := (hf 3 _ rfl).trans (List.getElem?_eq_getElem (by omega))
    obtain ⟨v4, e3, _, w4⟩ := DataW.trod_int Try.underlying5 f3
    simp only [List.cons.injEq, and_true] at e3
    obtain rfl := e3
    exact ⟨v0, v1, v2, v3, v4, rfl, w0, w1, w2, w3, w4⟩

set_option maxRecDepth 100000 in
theorem lifted (os : Os) (started : os.Started) (H : Type) (enc : TypeId × Value → H) :
    ReturnsInHanded {} Try.checked os 8 .any (Rows.scriptAsksSpec.pre6 enc Try.prog Try.f8 Rows.scriptAsksRow.domain false) (Rows.scriptAsksSpec.post enc Try.prog Try.f8 false true false false) := by
  refine returnsInHanded_of_change_sized (C := Try.checked) own started (by kernel_rfl) Try.func8
    (ChangeSpec.witness6 (enc := enc) (C := Try.checked) false ⟨#[], #[.slice none 0 0, .slice none 0 0, .int .i64 0, .int .i64 0, .int .u8 0, .int .u8 0, .slice none 0 0, .slice none 0 0], []⟩ 8 (by kernel_rfl) (by kernel_rfl) (by kernel_rfl) (by kernel_rfl)) ?_
  intro W base args ds gs before hval0 hW _ hsz0 _
  have hval : ∀ (j : Nat) t v, Try.f8.params[j]? = some t → args[j]? = some v → Value.okWide Try.prog W .any base t v := hval0
  have hW' := hW
  obtain ⟨p, q, hA0, hV, rfl, _, _⟩ := hW
  have hA : DataW.TrodAll enc Try.prog W 0 (fun _ => true) true Try.f8.params.toList args.toList ds p := hA0
  have hsz : (DataW.weightsEach Try.prog (Try.f8.params.toList ++ Rows.scriptAsksSpec.plain.varTypes Try.prog) (ds ++ gs)).all (· ≤ reachBytes) = true := hsz0
  rw [Try.params8] at hA hval hsz
  obtain ⟨v0, vs0, d0, ds0, p0, q0, hargs0, rfl, rfl, h0, r0⟩ := trodAll_cons hA
  obtain ⟨v1, vs1, d1, ds1, p1, q1, rfl, rfl, rfl, h1, r1⟩ := trodAll_cons r0
  obtain ⟨v2, vs2, d2, ds2, p2, q2, rfl, rfl, rfl, h2, r2⟩ := trodAll_cons r1
  obtain ⟨v3, vs3, d3, ds3, p3, q3, rfl, rfl, rfl, h3, r3⟩ := trodAll_cons r2
  obtain ⟨v4, vs4, d4, ds4, p4, q4, rfl, rfl, rfl, h4, r4⟩ := trodAll_cons r3
  obtain ⟨v5, vs5, d5, ds5, p5, q5, rfl, rfl, rfl, h5, r5⟩ := trodAll_cons r4
  obtain ⟨v6, vs6, d6, ds6, p6, q6, rfl, rfl, rfl, h6, r6⟩ := trodAll_cons r5
  obtain ⟨v7, vs7, d7, ds7, p7, q7, rfl, rfl, rfl, h7, r7⟩ := trodAll_cons r6
  obtain ⟨rfl, rfl, rfl⟩ := trodAll_nil r7
  obtain rfl : args = #[v0, v1, v2, v3, v4, v5, v6, v7] := by cases args; simp_all
  obtain ⟨rfl, rfl⟩ := trodVars_none hV
  have k0 := h0
  have lt0 : ∀ x ∈ p0, x.block < W.heap.size := by obtain ⟨m, hm⟩ := k0; exact DataW.trod_lt m _ _ _ hm
  have k1 := h1
  have lt1 : ∀ x ∈ p1, x.block < W.heap.size := by obtain ⟨m, hm⟩ := k1; exact DataW.trod_lt m _ _ _ hm
  have k2 := h2
  have lt2 : ∀ x ∈ p2, x.block < W.heap.size := by obtain ⟨m, hm⟩ := k2; exact DataW.trod_lt m _ _ _ hm
  have k3 := h3
  have lt3 : ∀ x ∈ p3, x.block < W.heap.size := by obtain ⟨m, hm⟩ := k3; exact DataW.trod_lt m _ _ _ hm
  have k4 := h4
  have lt4 : ∀ x ∈ p4, x.block < W.heap.size := by obtain ⟨m, hm⟩ := k4; exact DataW.trod_lt m _ _ _ hm
  have k5 := h5
  have lt5 : ∀ x ∈ p5, x.block < W.heap.size := by obtain ⟨m, hm⟩ := k5; exact DataW.trod_lt m _ _ _ hm
  have k6 := h6
  have lt6 : ∀ x ∈ p6, x.block < W.heap.size := by obtain ⟨m, hm⟩ := k6; exact DataW.trod_lt m _ _ _ hm
  have k7 := h7
  have lt7 : ∀ x ∈ p7, x.block < W.heap.size := by obtain ⟨m, hm⟩ := k7; exact DataW.trod_lt m _ _ _ hm
  obtain ⟨a0, len0, cap0, rfl⟩ := okWide_slice Try.underlying24 (hval 0 24 v0 rfl rfl)
  obtain ⟨z0, w0⟩ : ∃ zs, InInts .u8 W a0 len0 cap0 zs := by
    obtain ⟨fuel, hf⟩ := h0
    rcases open_ints Try.underlying24 Try.underlying5 (by kernel_rfl) hf with ⟨hcs, _⟩ | ⟨x, l, c, zs, hcs, _, hl, hm, hz, hx, hcell, hwz⟩
    · simp [Value.cells] at hcs
      obtain ⟨rfl, rfl, rfl⟩ := hcs
      exact ⟨[], InInts.none_ _ _⟩
    · simp [Value.cells] at hcs
      obtain ⟨rfl, rfl, rfl⟩ := hcs
      have hx1 := congrArg Prod.fst hx
      simp only at hx1
      subst hx1
      have hreach := sized_slice hsz (j := 0) (t := 24) (e := 5) rfl rfl Try.underlying24
      rw [show Try.prog.bytesOf 5 = 1 from by kernel_rfl] at hreach
      exact ⟨_, InInts.of_row ⟨_, rfl, hl, hm, by simpa using hz, hcell, hwz⟩ (by simp [lits] at hreach hz; unfold reachBytes at hreach; omega)⟩
  obtain ⟨a1, len1, cap1, rfl⟩ := okWide_slice Try.underlying22 (hval 1 22 v1 rfl rfl)
  obtain ⟨z1, w1⟩ : ∃ xs, InRows 5 entIn entOk W a1 len1 cap1 xs := by
    obtain ⟨fuel, hf⟩ := h1
    have hdec : ∀ fuel cs x, DataW.trod enc Try.prog W 0 (fun _ => true) true fuel 30 cs = some x → ∃ r, cs = entIn r ∧ entOk r := fun fuel cs x h => by
      obtain ⟨v0, v1, v2, v3, v4, rfl, w0, w1, w2, w3, w4⟩ := cells30 h
      exact ⟨(v0, v1, v2, v3, v4), rfl, ⟨w0, w1, w2, w3, w4⟩⟩
    rcases Go.Deep.open_slice Try.underlying22 hf with ⟨hcs, _⟩ | ⟨x, l, c, m, n, D, Pl, hcs, _, hl, hm, hmm, hx, hi⟩
    · simp [Value.cells] at hcs
      obtain ⟨rfl, rfl, rfl⟩ := hcs
      exact ⟨[], InRows.none_⟩
    · simp [Value.cells] at hcs
      obtain ⟨rfl, rfl, rfl⟩ := hcs
      have hx1 := congrArg Prod.fst hx
      simp only at hx1
      subst hx1
      have hreach := sized_slice hsz (j := 1) (t := 22) (e := 30) rfl rfl Try.underlying22
      have hlm : len1 ≤ m := by rw [hmm]; split <;> omega
      rw [show Try.prog.bytesOf 30 = 32 from by kernel_rfl] at hreach
      exact InRows.of_row (by omega) hl hm (by simp only [List.length_map, List.length_range] at hreach; unfold reachBytes at hreach; omega) (rows_of (by kernel_rfl) hdec hi _ hlm)
  obtain ⟨x2, rfl, _, _, w2⟩ := open_int Try.underlying3 (hval 2 3 v2 rfl rfl) h2
  obtain ⟨x3, rfl, _, _, w3⟩ := open_int Try.underlying3 (hval 3 3 v3 rfl rfl) h3
  obtain ⟨x4, rfl, _, _, w4⟩ := open_int Try.underlying5 (hval 4 5 v4 rfl rfl) h4
  obtain ⟨x5, rfl, _, _, w5⟩ := open_int Try.underlying5 (hval 5 5 v5 rfl rfl) h5
  obtain ⟨a6, len6, cap6, rfl⟩ := okWide_slice Try.underlying41 (hval 6 41 v6 rfl rfl)
  obtain ⟨z6, w6⟩ : ∃ zs, InInts .i64 W a6 len6 cap6 zs := by
    obtain ⟨fuel, hf⟩ := h6
    rcases open_ints Try.underlying41 Try.underlying3 (by kernel_rfl) hf with ⟨hcs, _⟩ | ⟨x, l, c, zs, hcs, _, hl, hm, hz, hx, hcell, hwz⟩
    · simp [Value.cells] at hcs
      obtain ⟨rfl, rfl, rfl⟩ := hcs
      exact ⟨[], InInts.none_ _ _⟩
    · simp [Value.cells] at hcs
      obtain ⟨rfl, rfl, rfl⟩ := hcs
      have hx1 := congrArg Prod.fst hx
      simp only at hx1
      subst hx1
      have hreach := sized_slice hsz (j := 6) (t := 41) (e := 3) rfl rfl Try.underlying41
      rw [show Try.prog.bytesOf 3 = 8 from by kernel_rfl] at hreach
      exact ⟨_, InInts.of_row ⟨_, rfl, hl, hm, by simpa using hz, hcell, hwz⟩ (by simp [lits] at hreach hz; unfold reachBytes at hreach; omega)⟩
  obtain ⟨a7, len7, cap7, rfl⟩ := okWide_slice Try.underlying42 (hval 7 42 v7 rfl rfl)
  obtain ⟨z7, w7⟩ : ∃ xs, InRows 2 opIn opOk W a7 len7 cap7 xs := by
    obtain ⟨fuel, hf⟩ := h7
    have hdec : ∀ fuel cs x, DataW.trod enc Try.prog W 0 (fun _ => true) true fuel 28 cs = some x → ∃ r, cs = opIn r ∧ opOk r := fun fuel cs x h => by
      obtain ⟨v0, v1, rfl, w0, w1⟩ := cells28 h
      exact ⟨(v0, v1), rfl, ⟨w0, w1⟩⟩
    rcases Go.Deep.open_slice Try.underlying42 hf with ⟨hcs, _⟩ | ⟨x, l, c, m, n, D, Pl, hcs, _, hl, hm, hmm, hx, hi⟩
    · simp [Value.cells] at hcs
      obtain ⟨rfl, rfl, rfl⟩ := hcs
      exact ⟨[], InRows.none_⟩
    · simp [Value.cells] at hcs
      obtain ⟨rfl, rfl, rfl⟩ := hcs
      have hx1 := congrArg Prod.fst hx
      simp only at hx1
      subst hx1
      have hreach := sized_slice hsz (j := 7) (t := 42) (e := 28) rfl rfl Try.underlying42
      have hlm : len7 ≤ m := by rw [hmm]; split <;> omega
      rw [show Try.prog.bytesOf 28 = 8 from by kernel_rfl] at hreach
      exact InRows.of_row (by omega) hl hm (by simp only [List.length_map, List.length_range] at hreach; unfold reachBytes at hreach; omega) (rows_of (by kernel_rfl) hdec hi _ hlm)
  clear hA0 hval0
  refine (ScriptAsks_walk W a0 len0 cap0 _ w0 a1 len1 cap1 _ w1 x2 w2 x3 w3 x4 w4 x5 w5 a6 len6 cap6 _ w6 a7 len7 cap7 _ w7).mono fun e W' ⟨he, bel⟩ => ?_
  subst he
  exact ⟨_, rfl, _, _, _, [], _, [], hW', trodAll_mk1 (shut_bool Try.underlying4 _), (trodAll_cons_mk (Below.trod laidOut (by kernel_rfl) (of_decide_eq_true (by kernel_rfl)) k0 bel lt0) (trodAll_cons_mk (Below.trod laidOut (by kernel_rfl) (of_decide_eq_true (by kernel_rfl)) k1 bel lt1) (trodAll_cons_mk (Below.trod laidOut (by kernel_rfl) (of_decide_eq_true (by kernel_rfl)) k2 bel lt2) (trodAll_cons_mk (Below.trod laidOut (by kernel_rfl) (of_decide_eq_true (by kernel_rfl)) k3 bel lt3) (trodAll_cons_mk (Below.trod laidOut (by kernel_rfl) (of_decide_eq_true (by kernel_rfl)) k4 bel lt4) (trodAll_cons_mk (Below.trod laidOut (by kernel_rfl) (of_decide_eq_true (by kernel_rfl)) k5 bel lt5) (trodAll_cons_mk (Below.trod laidOut (by kernel_rfl) (of_decide_eq_true (by kernel_rfl)) k6 bel lt6) (trodAll_cons_mk (Below.trod laidOut (by kernel_rfl) (of_decide_eq_true (by kernel_rfl)) k7 bel lt7) trodAll_mk0)))))))), rfl, bel.frame _, fun h => by cases h⟩

theorem over : Rows.scriptAsksRow.holds Try.pinned (OpenSpec.ofChange Rows.scriptAsksSpec) :=
  OpenClaim.holds_of_wide 8 Try.f8 rfl rfl rfl rfl rfl rfl rfl ⟨rfl, rfl, rfl, rfl, rfl⟩ rfl rfl rfl rfl rfl (by kernel_rfl) Try.func8 (by kernel_rfl)
    (of_decide_eq_true (by kernel_rfl)) (by unfold Func.isWrapper; first | (rw [if_pos (by decide +kernel)]; kernel_rfl) | (rw [if_neg (by decide +kernel)]; exact ⟨rfl, rfl⟩))
    (fun os started H enc _ => lifted os started H enc)

/-- THE STATEMENT. -/
theorem proved : Rows.ScriptAsksSaid := over
#print axioms proved
end Go.Proofs.Ytefenbmchfbohaa.lawScriptAsks
