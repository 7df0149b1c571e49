/-
  Lists that skip: Copy.
-/
import Derived.Test.YtpelpbnmjciheaaSkipL2
namespace Go.Proofs.Ytpelpbnmjciheaa
open Go.RowKit Go.Rp Go.Shelf

attribute [local go_sem] Oper.semAt_some

section
variable {F : Fence} {n : Nat} {w : World} {ops : Array Oper} {o : Oper} {rest : List Oper} {a : Act} {K : Act → World → Prop} {Q : Exit → Act → World → Prop} {E : Prop} {b : Nat} {t : TypeId} {f : Nat → Option Nat} {cs : Array Value}
theorem wpIn_load_path (x : Operand) (ho : o.op = .load 53 x) (hx : a.eval x = .pointer (some ⟨b, 0, none⟩)) (h : Blk w b t (linkC f)) (hK : K (a.put o.dst (.agg (linkC f))) w) : Oper.wpIn F n Try.prog o a w K Q := by
  unfold Oper.wpIn
  refine ⟨?_, ?_⟩
  · simp [Oper.about, ho]
  · rw [Oper.semAt_plain F _ _ (by rw [ho]; intro c hc'; cases hc')]
    simp only [execOp, ho, hx, Instr.loadAt, Instr.sureAddr, Sem.run_bind, Sem.run_pure, Result.andThen_ok, load_path h]
    exact hK
theorem wpIn_store_path (x y : Operand) (ho : o.op = .store 53 x y) (hx : a.eval x = .pointer (some ⟨b, 0, none⟩)) (hy : a.eval y = .agg (linkC f)) (h : Blk w b t cs) (hcs : cs.size = 8)
    (hK : ∀ w', Blk w' b t (linkC f) → Mod (fun x => x = b) w w' → K (a.put o.dst undef) w') : Oper.wpIn F n Try.prog o a w K Q := by
  unfold Oper.wpIn
  refine ⟨?_, ?_⟩
  · simp [Oper.about, ho]
  · rw [Oper.semAt_plain F _ _ (by rw [ho]; intro c hc'; cases hc')]
    simp only [execOp, ho, hx, hy, Instr.storeAt, Instr.sureAddr, Sem.run_bind, Sem.run_pure, Result.andThen_ok, store_path h hcs f]
    obtain ⟨h1, h2⟩ := setRow_blk h (linkC f)
    exact hK _ h1 h2
theorem stepIn_load_path (hg : o.guard = none) (x : Operand) (ho : o.op = .load 53 x) (hx : a.eval x = .pointer (some ⟨b, 0, none⟩)) (h : Blk w b t (linkC f)) (hK : K (a.put o.dst (.agg (linkC f))) w) :
    if Region.wanted o (yielded ops a.tmps) = true then Oper.wpIn F n Try.prog o a w K Q else E := by
  rw [if_pos (by simp [Region.wanted, hg])]
  exact wpIn_load_path x ho hx h hK
theorem stepIn_store_path (hg : o.guard = none) (x y : Operand) (ho : o.op = .store 53 x y) (hx : a.eval x = .pointer (some ⟨b, 0, none⟩)) (hy : a.eval y = .agg (linkC f)) (h : Blk w b t cs) (hcs : cs.size = 8)
    (hK : ∀ w', Blk w' b t (linkC f) → Mod (fun x => x = b) w w' → K (a.put o.dst undef) w') : if Region.wanted o (yielded ops a.tmps) = true then Oper.wpIn F n Try.prog o a w K Q else E := by
  rw [if_pos (by simp [Region.wanted, hg])]
  exact wpIn_store_path x y ho hx hy h hcs hK
theorem wpListIn_store_path (hg : o.guard = none) (x y : Operand) (ho : o.op = .store 53 x y) (hx : a.eval x = .pointer (some ⟨b, 0, none⟩)) (hy : a.eval y = .agg (linkC f)) (h : Blk w b t cs) (hcs : cs.size = 8)
    (hK : ∀ w', Blk w' b t (linkC f) → Mod (fun x => x = b) w w' → wpListIn F n Try.prog ops Q rest (a.put o.dst undef) w') : wpListIn F n Try.prog ops Q (o :: rest) a w :=
  wpListIn_plain hg fun _ hK' => wpIn_store_path x y ho hx hy h hcs fun w' h1 h2 => hK' _ _ (hK w' h1 h2)
end
/-- A region's operations within a round, where none is deferred: as outside. -/
theorem wpOpIn_round {F : Fence} {n : Nat} {P : Program} {ops : Array Oper} {Q : Exit → Act → World → Prop} {K K' : Act → World → Prop} {a : Act} {w : World} {i : Nat} (l : Nat) (hr : F.round = none) (hnd : ∀ (o : Oper), ops[i]? = some o → ∀ c, o.op ≠ .defer c)
    (hK : ∀ a w, K a w → K' a w) (h : wpOpIn F n P ops Q i K a w) : wpOpIn (F.inRound l) n P ops Q i K' a w := by
  have h := wpOpIn_mono hK h
  unfold wpOpIn at *
  cases hi : ops[i]? with
  | none => simp only [hi] at h ⊢; exact h
  | some o =>
    simp only [hi] at h ⊢
    split
    · rename_i hw
      rw [if_pos hw] at h
      unfold Oper.wpIn at *
      rw [Oper.semAt_plain F _ _ (hnd o hi)] at h
      rw [Oper.semAt_plain (F.inRound l) _ _ (hnd o hi)]
      exact h
    · rename_i hw
      rw [if_neg hw] at h
      exact h
theorem wpAnyIn_round {F : Fence} {n : Nat} {P : Program} {md : Region.Mode} {ops : Array Oper} {Q : Exit → Act → World → Prop} (l : Nat) (hr : F.round = none) (hnd : ∀ (i : Nat) (o : Oper), ops[i]? = some o → ∀ c, o.op ≠ .defer c) :
    ∀ (fuel : Nat) (listed : Array Bool) (a : Act) (w : World), wpAnyIn F n P md ops Q fuel listed a w → wpAnyIn (F.inRound l) n P md ops Q fuel listed a w
  | 0, _, _, _, h => h
  | fuel + 1, listed, a, w, h => ⟨h.1, fun i hi => wpOpIn_round l hr (hnd i) (fun a w => wpAnyIn_round l hr hnd fuel _ a w) (h.2 i hi)⟩
theorem Links.any' {w w' : World} {s many most : Nat} {T : List Tw} {g : Nat → Nat → Option Nat} {S : Nat → Prop} (h : Links w s many most T g S) (hk : ∀ b t cs, Blk w b t cs → Blk w' b t cs) : Links w' s many most T g S := ⟨hk _ _ _ h.hd, h.hs, fun t ht => ⟨hk _ _ _ (h.tw t ht).1, (h.tw t ht).2⟩⟩
theorem Links.nodes {w : World} {s many most : Nat} {T : List Tw} {g : Nat → Nat → Option Nat} {S : Nat → Prop} (h : Links w s many most T g S) : Links w s many most T g (Node s T) := ⟨h.hd, .inl rfl, fun t ht => ⟨(h.tw t ht).1, .inr ⟨t, ht, rfl⟩⟩⟩

/-- A block of other cells is no node. -/
theorem Links.notnode {w : World} {s many most : Nat} {T : List Tw} {g : Nat → Nat → Option Nat} {S : Nat → Prop} (h : Links w s many most T g S) {b : Nat} {t : TypeId} {cs : Array Value} (hb : Blk w b t cs) (h1 : t ≠ 52) (h2 : t ≠ 50) : ¬ Node s T b := by
  rintro (rfl | ⟨u, hu, rfl⟩)
  · exact (h.hd.ne hb fun e => h1 e.symm) rfl
  · exact ((h.tw u hu).1.ne hb fun e => h2 e.symm) rfl
theorem keepsOthers_mod {S : Nat → Prop} {A B : World} (hm : Mod S A B) (hS : ∀ b, S b → ∃ t cs, Blk A b t cs) : KeepsOthers A B :=
  ⟨hm.size, fun k o hk ho => (hm.block k (Array.getElem?_eq_some_iff.1 hk).1 fun hs => by
    obtain ⟨t, cs, hb⟩ := hS k hs
    rw [show A.heap[k]? = _ from hb] at hk
    cases hk; cases ho).trans hk⟩
/-- What a round of Copy keeps. -/
structure CpK (n₀ : Nat) (A B : World) : Prop where
  blk : ∀ b t cs, t ≠ 52 → t ≠ 50 → t ≠ 53 → Blk A b t cs → Blk B b t cs
  oth : KeepsOthers A B
  bel : Below n₀ A B
theorem CpK.t {n₀ : Nat} {A B C : World} (h : CpK n₀ A B) (k : CpK n₀ B C) : CpK n₀ A C := ⟨fun b t cs h1 h2 h3 hb => k.blk b t cs h1 h2 h3 (h.blk b t cs h1 h2 h3 hb), h.oth.trans k.oth, h.bel.trans k.bel⟩
theorem cp_put {W W' : World} {n₀ out n m pb : Nat} {P P' : List Tw} {cs : Array Value} (hl : Links W out n m P (linkOf out P) (fun b => n₀ ≤ b)) (hm : Mod (Node out P) W W') (hl' : Links W' out n m P' (linkOf out P') (grow (Node out P) W W')) (hp : Blk W pb 53 cs) :
    CpK n₀ W W' ∧ Blk W' pb 53 cs ∧ Links W' out n m P' (linkOf out P') (fun b => n₀ ≤ b) := by
  have hn0 : ∀ b, Node out P b → n₀ ≤ b := fun b hb => hl.nodeS hb
  have hlt : n₀ ≤ W.heap.size := Nat.le_trans hl.hs (Nat.le_of_lt hl.hd.lt)
  refine ⟨⟨fun b t cs h1 h2 _ hb => hb.mod hm (hl.notnode hb h1 h2), keepsOthers_mod hm fun b hb => hl.blk hb, hm.below hlt hn0⟩, hp.mod hm (hl.notnode hp (by decide) (by decide)), hl'.mono fun b hb => ?_⟩
  rcases hb with hb | hb
  · exact hn0 b hb
  · omega
theorem cp_store {W W' : World} {n₀ out n m pb : Nat} {P : List Tw} {cs : Array Value} (hn : n₀ ≤ pb) (hl : Links W out n m P (linkOf out P) (fun b => n₀ ≤ b)) (hm : Mod (fun x => x = pb) W W') (hp : Blk W pb 53 cs) :
    CpK n₀ W W' ∧ Links W' out n m P (linkOf out P) (fun b => n₀ ≤ b) := by
  refine ⟨⟨fun b t cs2 _ _ h3 hb => hb.mod hm (fun e => by subst e; exact (hb.ne hp h3) rfl), keepsOthers_mod hm fun b hb => by subst hb; exact ⟨_, _, hp⟩, hm.below (Nat.le_trans hn (Nat.le_of_lt hp.lt)) fun b hb => by omega⟩, ?_⟩
  exact (hl.nodes.mod hm fun b hb e => by subst e; exact hl.notnode hp (by decide) (by decide) hb).mono fun b hb => hl.nodeS hb
theorem cp_many {W : World} {n₀ out n m : Nat} {P : List Tw} (hl : Links W out n m P (linkOf out P) (fun b => n₀ ≤ b)) (k : Nat) :
    CpK n₀ W (W.setCell ⟨out, 10, none⟩ (.int .i64 (k : Int))) ∧ Links (W.setCell ⟨out, 10, none⟩ (.int .i64 (k : Int))) out k m P (linkOf out P) (fun b => n₀ ≤ b) := by
  have hm := (Mod.refl (fun x => x = out) W).setCell (p := ⟨out, 10, none⟩) (.inl rfl) (.int .i64 (k : Int))
  exact ⟨⟨fun b t cs h1 _ _ hb => hb.mod hm (fun e => by subst e; exact (hb.ne hl.hd h1) rfl), keepsOthers_mod hm fun b hb => by subst hb; exact ⟨_, _, hl.hd⟩, hm.below (Nat.le_trans hl.hs (Nat.le_of_lt hl.hd.lt)) fun b hb => by rw [hb]; exact hl.hs⟩, hl.setMany k⟩
/-- What has been copied. -/
def CpI (n₀ out pb Bo Bs Bn s m : Nat) (it : Nat → It) (pre : List Nat) (W : World) : Prop :=
  ∃ P : List Tw, P.map (·.2) = pre.map it ∧ Links W out pre.length m P (linkOf out P) (fun b => n₀ ≤ b) ∧ Apart out P ∧ Blk W pb 53 (linkC fun k => some (lastT k out P)) ∧ Boxed W Bo 34 (.pointer (some ⟨out, 0, none⟩)) ∧ Boxed W Bs 34 (.pointer (some ⟨s, 0, none⟩)) ∧ Boxed W Bn 3 (.int .i64 1)
theorem cpI_own (n₀ out pb Bo Bs Bn s m : Nat) (it : Nat → It) : Own (CpI n₀ out pb Bo Bs Bn s m it) := by
  rintro pre X Y row ⟨P, h1, h2, h3, h4, h5, h6, h7⟩ hg hrow
  have hk : ∀ b t cs, Blk X b t cs → Blk Y b t cs := fun b t cs hb => (hg.block b hb.lt fun e => by
    obtain ⟨o, ho, hc⟩ := hrow b e.symm
    rw [show X.heap[b]? = _ from hb] at ho
    cases ho; cases hc).trans hb
  exact ⟨P, h1, h2.any' hk, h3, hk _ _ _ h4, hk _ _ _ h5, hk _ _ _ h6, hk _ _ _ h7⟩
theorem put_end {w : World} {s many most : Nat} {A : List Tw} {S : Nat → Prop} (v : Int) (h : Nat) (hl : Links w s many most A (linkOf s A) S) (ha : Apart s A) (h8 : h ≤ 8) :
    Calls Try.prog 20 #[.agg (linkC fun k => some (lastT k s A)), .pointer (some ⟨w.heap.size, 0, none⟩)] (w.alloc (.cells (towC v h fun _ => none) 50)) fun e w' => e = .returned (.agg (linkC fun k => some (lastT k s (A ++ [(w.heap.size, v, h)])))) ∧
      Links w' s many most (A ++ [(w.heap.size, v, h)]) (linkOf s (A ++ [(w.heap.size, v, h)])) (grow S w w') ∧ Apart s (A ++ [(w.heap.size, v, h)]) ∧ Mod S w w' :=
  put_new (A := A) (R := []) v h (by simpa using hl) (by simpa using ha) h8

/-- What a copy comes to. -/
theorem copied {w W : World} {n₀ s out n m : Nat} {S : Nat → Prop} {T P : List Tw} (hT : SkT w s S m T) (h0 : lev 0 T = T) (hP : P.map (·.2) = (List.range (lev 0 T).length).map fun i => ((levAt 0 s T i).2.1, tallI ((levAt 0 s T i).2.2 : Int)))
    (hl : Links W out n m P (linkOf out P) (fun b => n₀ ≤ b)) (ha : Apart out P) (hn : n = T.length) : SkAt W out (fun b => n₀ ≤ b ∧ b < W.heap.size) m (T.map (·.2)) := by
  have e : P.map (·.2) = T.map (·.2) := by
    rw [hP]
    apply List.ext_getElem
    · simp [h0]
    · intro i h1 h2
      have hi : i < (lev 0 T).length := by simpa using h1
      have hi2 : i < T.length := by simpa using h2
      have hat : levAt 0 s T i = T[i] := by rw [levAt_lt hi]; simp [h0]
      have hh := hT.high _ (List.getElem_mem hi2)
      have ht : tallI (T[i].2.2 : Int) = T[i].2.2 := by unfold tallI clamp; omega
      simp [hat, ht]
  have hlen : P.length = T.length := by have := congrArg List.length e; simpa using this
  refine ⟨P, e, ⟨by rw [hlen, ← hn]; exact hl.lt, ha, fun t ht => ?_, by rw [hlen]; exact hT.room, hT.most, ?_⟩⟩
  · have : t.2 ∈ T.map (·.2) := by rw [← e]; exact List.mem_map.2 ⟨t, ht, rfl⟩
    obtain ⟨u, hu, e2⟩ := List.mem_map.1 this
    rw [← e2]
    exact hT.high u hu
  · have h1 : (T.map (·.2)).Pairwise fun a b => a.1 ≤ b.1 := by rw [List.pairwise_map]; exact hT.sorted
    rw [← e, List.pairwise_map] at h1
    exact h1

set_option maxRecDepth 100000 in
set_option maxHeartbeats 2000000 in
theorem copy_any (w : World) (s m : Nat) (S : Nat → Prop) (L : List It) (h : SkAt w s S m L) :
    Calls Try.prog 15 #[.pointer (some ⟨s, 0, none⟩)] w fun e w' => ∃ p, e = .returned (.pointer (some ⟨p, 0, none⟩)) ∧ SkAt w' p (fun b => w.heap.size ≤ b ∧ b < w'.heap.size) m L ∧ Below w.heap.size w w' := by
  obtain ⟨T, rfl, hT⟩ := h
  obtain ⟨S', hT, hS⟩ : ∃ S' : Nat → Prop, SkT w s S' m T ∧ ∀ b, S' b → b < w.heap.size := ⟨fun b => S b ∧ b < w.heap.size, ⟨hT.links.lt, hT.apart, hT.high, hT.room, hT.most, hT.sorted⟩, fun b hb => hb.2⟩
  have hmo : mostI (m : Int) = m := by have := hT.most; unfold mostI clamp; omega
  have hnew := new_any (m : Int)
  rw [hmo] at hnew
  obtain ⟨W1, hW1⟩ : ∃ W1, w.alloc (.cells (skC (fun _ => none) 0 m) 52) = W1 := ⟨_, rfl⟩
  obtain ⟨out, hout⟩ : ∃ out, w.heap.size = out := ⟨_, rfl⟩
  have hl1 : Links W1 out 0 m [] (linkOf out []) (fun b => out ≤ b) := by
    rw [← hW1, ← hout]
    exact ⟨(skC_congr (g := linkOf w.heap.size [] w.heap.size) fun k _ => by rw [linkOf_head, nxt_nil]) ▸ Blk.new w _ _, Nat.le_refl _, nofun⟩
  refine (callsIn_wide (n := 3)).1 (callsIn_of_wp_marks Try.func15 rfl trivial ?_ rfl)
  simp only [Try.ntmps15, List.size_toArray, List.length_cons, List.length_nil, Nat.reduceAdd, Nat.reduceSub, Array.replicate_succ, Array.replicate_zero, List.push_toArray, List.append_toArray, List.nil_append, List.cons_append]
  have hb1 : Below w.heap.size w W1 := by rw [← hW1]; exact (Below.refl _ w).alloc (Nat.le_refl _) _
  have hz1 : W1.heap.size = out + 1 := by rw [← hW1]; simp; omega
  obtain ⟨W2, hW2⟩ : ∃ W2, W1.alloc (.cells #[.pointer (some ⟨out, 0, none⟩)] 34) = W2 := ⟨_, rfl⟩
  have hl2 : Links W2 out 0 m [] (linkOf out []) (fun b => out ≤ b) := by rw [← hW2]; exact hl1.alloc _
  have bo2 : Boxed W2 (out + 1) 34 (.pointer (some ⟨out, 0, none⟩)) := by rw [← hW2, ← hz1]; exact Boxed.new W1 _ _
  have hb2 : Below w.heap.size w W2 := by rw [← hW2]; exact hb1.alloc (by omega) _
  have hz2 : W2.heap.size = out + 2 := by rw [← hW2]; simp; omega
  have hwout : w.heap.size ≤ out := by omega
  have hbeg := begin_any hl2
  have hc2 := bo2.cell
  gi_wp2_with (first
    | (refine ⟨trivial, ?_⟩; gi_at_call 13; refine (callsIn_wide.2 (most_any hT.links)).mono ?_; rintro e w' ⟨rfl, e2⟩; rw [e2]; clear e2)
    | (refine ⟨trivial, ?_⟩; gi_at_call 8; refine (callsIn_wide.2 (hnew _)).mono ?_; rintro e w' ⟨rfl, e2⟩; rw [e2, hW1, hout]; clear e2)
    | (refine ⟨trivial, ?_⟩; gi_at_call 18; refine (callsIn_wide.2 hbeg).mono ?_; rintro e W3 ⟨rfl, b3⟩; have b3' := hb2.trans (b3.mono (by omega)); have hl3 := hl2.keep b3; have bo3 : Boxed W3 (out + 1) 34 (.pointer (some ⟨out, 0, none⟩)) := (b3.block (out + 1) (by omega)).trans bo2; have hz3 := b3.size; have hbk := Blk.new W3 53 (linkC fun _ => none))
    | (refine wpListIn_store_path rfl _ _ rfl rfl rfl hbk rfl ?_; intro W4 hp4 hm4)
    | (refine ⟨trivial, ?_⟩; gi_at_call 22; refine (level_in _ _ _ _).mono ?_; rintro e w' ⟨rfl, e2⟩; rw [e2]; clear e2))
  have hbs := Boxed.new W4 34 (.pointer (some ⟨s, 0, none⟩))
  have hbn := Boxed.new (W4.alloc (.cells #[.pointer (some ⟨s, 0, none⟩)] 34)) 3 (.int .i64 1)
  rw [World.size_alloc] at hbn
  have hbs := hbs.alloc (.cells #[.int .i64 1] 3)
  obtain ⟨pb, hpb⟩ : ∃ pb, W3.heap.size = pb := ⟨_, rfl⟩
  have hz4 := hm4.size
  simp only [World.size_alloc] at hz4
  have hm4' : Mod (fun x => x = pb) (W3.alloc (.cells (linkC fun _ => none) 53)) W4 := by rw [← hpb]; exact hm4
  have hl4 : Links W4 out 0 m [] (linkOf out []) (fun b => out ≤ b) := (hl3.lt.alloc _ |>.mod hm4' fun b hb e => by omega).mono fun b hb => hb.1
  have bo4 : Boxed W4 (out + 1) 34 (.pointer (some ⟨out, 0, none⟩)) := Blk.mod (t := 34) (Blk.alloc (t := 34) (show Blk W3 (out + 1) 34 #[.pointer (some ⟨out, 0, none⟩)] from bo3) (.cells (linkC fun _ => none) 53)) hm4' (by omega)
  have hb4 : Below w.heap.size w W4 := (b3'.alloc (by have := b3'.size; omega) _).trans (hm4'.below (by have := b3'.size; simp; omega) fun b hb => by omega)
  have hl0 := (hl4.alloc (.cells #[.pointer (some ⟨s, 0, none⟩)] 34)).alloc (.cells #[.int .i64 1] 3)
  have bo0 := (bo4.alloc (.cells #[.pointer (some ⟨s, 0, none⟩)] 34)).alloc (.cells #[.int .i64 1] 3)
  rw [hpb] at hp4
  have hp0 := (hp4.alloc (.cells #[.pointer (some ⟨s, 0, none⟩)] 34)).alloc (.cells #[.int .i64 1] 3)
  have hB0 := (hb4.alloc (by have := hb4.size; omega) (.cells #[.pointer (some ⟨s, 0, none⟩)] 34)).alloc (by have := hb4.size; simp; omega) (.cells #[.int .i64 1] 3)
  obtain ⟨q0, hq0⟩ : ∃ q0, W4.heap.size = q0 := ⟨_, rfl⟩
  have hz0 : ((W4.alloc (.cells #[.pointer (some ⟨s, 0, none⟩)] 34)).alloc (.cells #[.int .i64 1] 3)).heap.size = q0 + 2 := by simp; omega
  obtain ⟨W0, hW0⟩ : ∃ W0, (W4.alloc (.cells #[.pointer (some ⟨s, 0, none⟩)] 34)).alloc (.cells #[.int .i64 1] 3) = W0 := ⟨_, rfl⟩
  rw [hW0] at hbs hbn hl0 bo0 hp0 hB0 hz0 ⊢
  rw [hq0] at hbs hbn ⊢
  rw [hpb]
  have hT0 := hT.belowN hS hB0
  have hpbn : w.heap.size ≤ pb := by have := b3'.size; omega
  have hpq : pb < q0 := by have := hp4.lt; omega
  clear hW0 hp4 hl4 bo4 hb4 hm4 hm4' hbk hl3 bo3 b3 b3' hbeg hc2 hl2 bo2 hb2 hl1 hb1 hnew
  have hlev0 : lev 0 T = T := List.filter_eq_self.2 fun t ht => by have := hT.high t ht; simp; omega
  have hN : (lev 0 T).length ≤ 1000 := by rw [hlev0]; have := hT.room; have := hT.most; omega
  refine wpIn_rangeFunc_ownG rfl (by omega) (gf := 31) (lb := #[.pointer (some ⟨q0, 0, none⟩), .pointer (some ⟨q0 + 1, 0, none⟩)]) rfl trivial (enters_of Try.func31 (by kernel_rfl) rfl)
    (level_stops 2 (by omega) q0 (q0 + 1) w.heap.size s m 0 (by omega) S' hS T W0 (by have := hB0.size; omega) hbs hbn hT0) KeepsC.t (KeepsC.b (by have := hB0.size; omega)) (Below.refl _ _) (fun _ => rfl)
    (fun pre W => CpI w.heap.size out pb (out + 1) q0 (q0 + 1) s m (fun i => ((levAt 0 s T i).2.1, tallI ((levAt 0 s T i).2.2 : Int))) pre W ∧ Below w.heap.size w W)
    (fun _ _ _ => False)
    (OwnFrom.and (Own.from (cpI_own _ _ _ _ _ _ _ _ _) _) (ownFrom_below (Nat.le_refl _) (by have := hB0.size; omega)))
    (fun _ _ _ _ _ hs _ _ => hs)
    ⟨⟨[], rfl, hl0.mono fun b hb => by omega, by simp [Apart], hp0, bo0, hbs, hbn⟩, hB0⟩
    (fun i => { tmps := #[.pointer (some ⟨s, 0, none⟩), undef, .pointer none, .pointer (some ⟨out + 1, 0, none⟩), .pointer (some ⟨pb, 0, none⟩), .pointer (some ⟨(levAt 0 s T i).1, 0, none⟩), .pointer (some ⟨s, 0, none⟩), .int .i64 (m : Int), .pointer (some ⟨out, 0, none⟩), .pointer (some ⟨s, 0, none⟩), .bool false, undef, .pointer (some ⟨out, 0, none⟩), .agg (pathC fun _ => out), .pointer (some ⟨s, 0, none⟩), .func (.func 31) #[] #[.pointer (some ⟨q0, 0, none⟩), .pointer (some ⟨q0 + 1, 0, none⟩)], .pointer (some ⟨(levAt 0 s T i).1, 0, none⟩), undef, undef, undef, undef, undef, undef, undef, undef, undef, undef, undef, undef, undef, undef, undef, undef, undef, undef, undef], defers := [] }) ?assign ?body ?done ?stop
  case assign =>
    intro l x W K hK
    gi_wp2
    exact hK
  case body =>
    rintro l pre i W ⟨⟨P, hP, hl, hap, hp, hbo, hbs, hbn⟩, hB⟩ hlt
    obtain ⟨hcv, hch⟩ := levAt_cells (hT.belowN hS hB).links (q := 0) i
    obtain ⟨bx, hbx⟩ : ∃ bx, (levAt 0 s T i).1 = bx := ⟨_, rfl⟩
    obtain ⟨vx, hvx⟩ : ∃ vx, (levAt 0 s T i).2.1 = vx := ⟨_, rfl⟩
    obtain ⟨hx, hhx⟩ : ∃ hx, (levAt 0 s T i).2.2 = hx := ⟨_, rfl⟩
    have HVX := Lib.hid hvx
    have HHX := Lib.hid hhx
    rw [hbx, hvx] at hcv
    rw [hbx, hhx] at hch
    rw [hbx]
    clear hbx hvx hhx
    dsimp only
    gi_wp2
    refine wpIn_region_any (by kernel_rfl) ?_
    change wpAnyIn _ _ _ _ _ _ _ _ _ (World.drew _)
    refine wpAnyIn_round l rfl (fun j o ho c => ?_) _ _ _ _ ?_
    · rcases j with _ | _ | _ | _ | _ | _ | _ | _ | _ | _ | _ | _ | j
      all_goals (simp at ho; try subst ho; try (intro hc; cases hc))
    refine wpAnyIn_take (i := 1) (v := ?_) rfl rfl (by kernel_rfl) (by kernel_rfl) (by kernel_rfl) (fun _ _ _ h => h) ⟨Or.inl ⟨by rfl, ?_⟩, fun _ => rfl⟩ ?_
    rotate_left
    · intro w9
      go_simp
      try with_reducible rfl
    try simp only [Act.put, List.getElem_toArray, List.getElem_cons_succ, List.getElem_cons_zero, List.setIfInBounds_toArray, List.set_cons_zero, List.set_cons_succ]
    refine wpAnyIn_take (i := 2) (v := ?_) rfl rfl (by kernel_rfl) (by kernel_rfl) (by kernel_rfl) (fun _ _ _ h => h) ⟨Or.inl ⟨by rfl, ?_⟩, fun _ => rfl⟩ ?_
    rotate_left
    · intro w9
      go_simp
      try with_reducible rfl
    try simp only [Act.put, List.getElem_toArray, List.getElem_cons_succ, List.getElem_cons_zero, List.setIfInBounds_toArray, List.set_cons_zero, List.set_cons_succ]
    refine wpAnyIn_take (i := 3) (v := ?_) rfl rfl (by kernel_rfl) (by kernel_rfl) (by kernel_rfl) (fun _ _ _ h => h) ⟨Or.inl ⟨by rfl, ?_⟩, fun _ => rfl⟩ ?_
    rotate_left
    · intro w9
      go_simp
      try with_reducible rfl
    try simp only [Act.put, List.getElem_toArray, List.getElem_cons_succ, List.getElem_cons_zero, List.setIfInBounds_toArray, List.set_cons_zero, List.set_cons_succ]
    refine wpAnyIn_take (i := 5) (v := ?_) rfl rfl (by kernel_rfl) (by kernel_rfl) (by kernel_rfl) (fun _ _ _ h => h) ⟨Or.inl ⟨by rfl, ?_⟩, fun _ => rfl⟩ ?_
    rotate_left
    · intro w9
      go_simp
      try with_reducible rfl
    try simp only [Act.put, List.getElem_toArray, List.getElem_cons_succ, List.getElem_cons_zero, List.setIfInBounds_toArray, List.set_cons_zero, List.set_cons_succ]
    refine wpAnyIn_take (i := 6) (v := ?_) rfl rfl (by kernel_rfl) (by kernel_rfl) (by kernel_rfl) (fun _ _ _ h => h) ⟨Or.inl ⟨by rfl, ?_⟩, fun _ => rfl⟩ ?_
    rotate_left
    · intro w9
      go_simp
      try with_reducible rfl
    try simp only [Act.put, List.getElem_toArray, List.getElem_cons_succ, List.getElem_cons_zero, List.setIfInBounds_toArray, List.set_cons_zero, List.set_cons_succ]
    refine wpAnyIn_take (i := 7) (v := ?_) rfl rfl (by kernel_rfl) (by kernel_rfl) (by kernel_rfl) (fun _ _ _ h => h) ⟨Or.inl ⟨by rfl, ?_⟩, fun _ => rfl⟩ ?_
    rotate_left
    · intro w9
      go_simp
      try with_reducible rfl
    try simp only [Act.put, List.getElem_toArray, List.getElem_cons_succ, List.getElem_cons_zero, List.setIfInBounds_toArray, List.set_cons_zero, List.set_cons_succ]
    have hcv' : W.drew.cell? ⟨bx, 0, none⟩ = _ := hcv
    have hch' : W.drew.cell? ⟨bx, 1, none⟩ = _ := hch
    have hpD : Blk W.drew pb 53 _ := hp
    have hlD := hl.nodes.drew
    have hlB := hl.drew
    have k0 : CpK w.heap.size W W.drew := ⟨fun _ _ _ _ _ _ h => h, KeepsOthers.drew W, (Below.refl _ W).drew⟩
    have hlo := tallI_le (hx : Int)
    obtain ⟨th, hth⟩ : ∃ th, tallI (hx : Int) = th := ⟨_, rfl⟩
    rw [hth] at hlo
    have HTH := Lib.hid hth
    have HLO := Lib.hid hlo
    clear hth hlo
    refine wpAnyIn_ready (rs := [0, 4, 8]) (by kernel_rfl) (by simp) ?_
    refine AllReadyIn.cons rfl (fun K hK => ?_) (AllReadyIn.cons rfl (fun K hK => ?_) (AllReadyIn.cons rfl (fun K hK => ?_) AllReadyIn.nil))
    · skip
      refine stepIn_load_path rfl _ rfl rfl hpD ?_
      refine hK _ _ ?_
      clear hK K
      try simp only [Act.put, List.getElem_toArray, List.getElem_cons_succ, List.getElem_cons_zero, List.setIfInBounds_toArray, List.set_cons_zero, List.set_cons_succ]
      refine wpAnyIn_ready (rs := [4, 8]) (by kernel_rfl) (by simp) ?_
      refine AllReadyIn.cons rfl (fun K hK => ?_) (AllReadyIn.cons rfl (fun K hK => ?_) AllReadyIn.nil)
      · skip
        go_simp
        refine hK _ _ ?_
        clear hK K
        try simp only [Act.put, List.getElem_toArray, List.getElem_cons_succ, List.getElem_cons_zero, List.setIfInBounds_toArray, List.set_cons_zero, List.set_cons_succ]
        refine wpAnyIn_ready (rs := [8]) (by kernel_rfl) (by simp) ?_
        refine AllReadyIn.cons rfl (fun K hK => ?_) AllReadyIn.nil
        go_simp
        refine hK _ _ ?_
        clear hK K
        try simp only [Act.put, List.getElem_toArray, List.getElem_cons_succ, List.getElem_cons_zero, List.setIfInBounds_toArray, List.set_cons_zero, List.set_cons_succ]
        refine wpAnyIn_ready (rs := [9]) (by kernel_rfl) (by simp) ?_
        refine AllReadyIn.cons rfl (fun K hK => ?_) AllReadyIn.nil
        go_simp
        refine ⟨trivial, (callsIn_wide.2 (tall_any vx _ _)).mono ?_⟩
        rintro e w8 ⟨rfl, e2⟩
        rw [e2, HTH.out]
        clear e2
        refine hK _ _ ?_
        clear hK K
        try simp only [Act.put, List.getElem_toArray, List.getElem_cons_succ, List.getElem_cons_zero, List.setIfInBounds_toArray, List.set_cons_zero, List.set_cons_succ]
        refine wpAnyIn_ready (rs := [10]) (by kernel_rfl) (by simp) ?_
        refine AllReadyIn.cons rfl (fun K hK => ?_) AllReadyIn.nil
        go_simp
        refine ⟨trivial, (callsIn_wide.2 (put_end vx th hlD hap HLO.out.2)).mono ?_⟩
        rintro e w5 ⟨rfl, hl5, hap5, hm5⟩
        refine hK _ _ ?_
        clear hK K
        try simp only [Act.put, List.getElem_toArray, List.getElem_cons_succ, List.getElem_cons_zero, List.setIfInBounds_toArray, List.set_cons_zero, List.set_cons_succ]
        obtain ⟨k5, hp5, hl5⟩ := cp_put hlB hm5 hl5 hpD
        refine wpAnyIn_ready (rs := [11]) (by kernel_rfl) (by simp) ?_
        refine AllReadyIn.cons rfl (fun K hK => ?_) AllReadyIn.nil
        refine stepIn_store_path rfl _ _ rfl rfl rfl hp5 rfl ?_
        intro W6 h6 hm6
        refine hK _ _ ?_
        clear hK K
        try simp only [Act.put, List.getElem_toArray, List.getElem_cons_succ, List.getElem_cons_zero, List.setIfInBounds_toArray, List.set_cons_zero, List.set_cons_succ]
        obtain ⟨k6, hl6⟩ := cp_store hpbn hl5 hm6 hp5
        have k06 := k5.t k6
        have hbo6 : Boxed W6 (out + 1) 34 (.pointer (some ⟨out, 0, none⟩)) := k06.blk _ _ _ (by decide) (by decide) (by decide) hbo
        have hc6 := hbo6.cell
        obtain ⟨g1, g2, g3⟩ := hl6.sizes
        obtain ⟨k7, hl7⟩ := cp_many hl6 (pre.length + 1)
        refine wpAnyIn_done (by kernel_rfl) ?_ _
        have hpn : pre.length + 1 ≤ 1000 := by omega
        have kk := (k0.t k06).t k7
        have hp7 := h6.far (p := ⟨out, 10, none⟩) (h6.ne hl6.hd (by decide)) (.int .i64 ((pre.length + 1 : Nat) : Int))
        have HL7 := Lib.hid hl7
        have KK := Lib.hid kk
        have HP7 := Lib.hid hp7
        clear hl7 kk hp7 k7 k06 k6 k5 hl6 hl5 hp5 h6 hm6 hm5
        gi_wp2
        have kk := KK.out
        refine ⟨kk.oth.from _, ⟨kk.bel, fun v hv => kk.blk _ _ _ (by decide) (by decide) (by decide) hv, fun v hv => kk.blk _ _ _ (by decide) (by decide) (by decide) hv⟩, ⟨P ++ [(W.drew.heap.size, vx, th)], ?_, ?_, hap5, HP7.out, kk.blk _ _ _ (by decide) (by decide) (by decide) hbo, kk.blk _ _ _ (by decide) (by decide) (by decide) hbs, kk.blk _ _ _ (by decide) (by decide) (by decide) hbn⟩, hB.trans kk.bel⟩
        · rw [List.map_append, List.map_append, hP, List.map_singleton, List.map_singleton, HVX.out, HHX.out, HTH.out]
        · rw [List.length_append]
          exact HL7.out
      · skip
        go_simp
        refine hK _ _ ?_
        clear hK K
        try simp only [Act.put, List.getElem_toArray, List.getElem_cons_succ, List.getElem_cons_zero, List.setIfInBounds_toArray, List.set_cons_zero, List.set_cons_succ]
        refine wpAnyIn_ready (rs := [4]) (by kernel_rfl) (by simp) ?_
        refine AllReadyIn.cons rfl (fun K hK => ?_) AllReadyIn.nil
        go_simp
        refine hK _ _ ?_
        clear hK K
        try simp only [Act.put, List.getElem_toArray, List.getElem_cons_succ, List.getElem_cons_zero, List.setIfInBounds_toArray, List.set_cons_zero, List.set_cons_succ]
        refine wpAnyIn_ready (rs := [9]) (by kernel_rfl) (by simp) ?_
        refine AllReadyIn.cons rfl (fun K hK => ?_) AllReadyIn.nil
        go_simp
        refine ⟨trivial, (callsIn_wide.2 (tall_any vx _ _)).mono ?_⟩
        rintro e w8 ⟨rfl, e2⟩
        rw [e2, HTH.out]
        clear e2
        refine hK _ _ ?_
        clear hK K
        try simp only [Act.put, List.getElem_toArray, List.getElem_cons_succ, List.getElem_cons_zero, List.setIfInBounds_toArray, List.set_cons_zero, List.set_cons_succ]
        refine wpAnyIn_ready (rs := [10]) (by kernel_rfl) (by simp) ?_
        refine AllReadyIn.cons rfl (fun K hK => ?_) AllReadyIn.nil
        go_simp
        refine ⟨trivial, (callsIn_wide.2 (put_end vx th hlD hap HLO.out.2)).mono ?_⟩
        rintro e w5 ⟨rfl, hl5, hap5, hm5⟩
        refine hK _ _ ?_
        clear hK K
        try simp only [Act.put, List.getElem_toArray, List.getElem_cons_succ, List.getElem_cons_zero, List.setIfInBounds_toArray, List.set_cons_zero, List.set_cons_succ]
        obtain ⟨k5, hp5, hl5⟩ := cp_put hlB hm5 hl5 hpD
        refine wpAnyIn_ready (rs := [11]) (by kernel_rfl) (by simp) ?_
        refine AllReadyIn.cons rfl (fun K hK => ?_) AllReadyIn.nil
        refine stepIn_store_path rfl _ _ rfl rfl rfl hp5 rfl ?_
        intro W6 h6 hm6
        refine hK _ _ ?_
        clear hK K
        try simp only [Act.put, List.getElem_toArray, List.getElem_cons_succ, List.getElem_cons_zero, List.setIfInBounds_toArray, List.set_cons_zero, List.set_cons_succ]
        obtain ⟨k6, hl6⟩ := cp_store hpbn hl5 hm6 hp5
        have k06 := k5.t k6
        have hbo6 : Boxed W6 (out + 1) 34 (.pointer (some ⟨out, 0, none⟩)) := k06.blk _ _ _ (by decide) (by decide) (by decide) hbo
        have hc6 := hbo6.cell
        obtain ⟨g1, g2, g3⟩ := hl6.sizes
        obtain ⟨k7, hl7⟩ := cp_many hl6 (pre.length + 1)
        refine wpAnyIn_done (by kernel_rfl) ?_ _
        have hpn : pre.length + 1 ≤ 1000 := by omega
        have kk := (k0.t k06).t k7
        have hp7 := h6.far (p := ⟨out, 10, none⟩) (h6.ne hl6.hd (by decide)) (.int .i64 ((pre.length + 1 : Nat) : Int))
        have HL7 := Lib.hid hl7
        have KK := Lib.hid kk
        have HP7 := Lib.hid hp7
        clear hl7 kk hp7 k7 k06 k6 k5 hl6 hl5 hp5 h6 hm6 hm5
        gi_wp2
        have kk := KK.out
        refine ⟨kk.oth.from _, ⟨kk.bel, fun v hv => kk.blk _ _ _ (by decide) (by decide) (by decide) hv, fun v hv => kk.blk _ _ _ (by decide) (by decide) (by decide) hv⟩, ⟨P ++ [(W.drew.heap.size, vx, th)], ?_, ?_, hap5, HP7.out, kk.blk _ _ _ (by decide) (by decide) (by decide) hbo, kk.blk _ _ _ (by decide) (by decide) (by decide) hbs, kk.blk _ _ _ (by decide) (by decide) (by decide) hbn⟩, hB.trans kk.bel⟩
        · rw [List.map_append, List.map_append, hP, List.map_singleton, List.map_singleton, HVX.out, HHX.out, HTH.out]
        · rw [List.length_append]
          exact HL7.out
    · skip
      go_simp
      refine hK _ _ ?_
      clear hK K
      try simp only [Act.put, List.getElem_toArray, List.getElem_cons_succ, List.getElem_cons_zero, List.setIfInBounds_toArray, List.set_cons_zero, List.set_cons_succ]
      refine wpAnyIn_ready (rs := [0, 8]) (by kernel_rfl) (by simp) ?_
      refine AllReadyIn.cons rfl (fun K hK => ?_) (AllReadyIn.cons rfl (fun K hK => ?_) AllReadyIn.nil)
      · skip
        refine stepIn_load_path rfl _ rfl rfl hpD ?_
        refine hK _ _ ?_
        clear hK K
        try simp only [Act.put, List.getElem_toArray, List.getElem_cons_succ, List.getElem_cons_zero, List.setIfInBounds_toArray, List.set_cons_zero, List.set_cons_succ]
        refine wpAnyIn_ready (rs := [8]) (by kernel_rfl) (by simp) ?_
        refine AllReadyIn.cons rfl (fun K hK => ?_) AllReadyIn.nil
        go_simp
        refine hK _ _ ?_
        clear hK K
        try simp only [Act.put, List.getElem_toArray, List.getElem_cons_succ, List.getElem_cons_zero, List.setIfInBounds_toArray, List.set_cons_zero, List.set_cons_succ]
        refine wpAnyIn_ready (rs := [9]) (by kernel_rfl) (by simp) ?_
        refine AllReadyIn.cons rfl (fun K hK => ?_) AllReadyIn.nil
        go_simp
        refine ⟨trivial, (callsIn_wide.2 (tall_any vx _ _)).mono ?_⟩
        rintro e w8 ⟨rfl, e2⟩
        rw [e2, HTH.out]
        clear e2
        refine hK _ _ ?_
        clear hK K
        try simp only [Act.put, List.getElem_toArray, List.getElem_cons_succ, List.getElem_cons_zero, List.setIfInBounds_toArray, List.set_cons_zero, List.set_cons_succ]
        refine wpAnyIn_ready (rs := [10]) (by kernel_rfl) (by simp) ?_
        refine AllReadyIn.cons rfl (fun K hK => ?_) AllReadyIn.nil
        go_simp
        refine ⟨trivial, (callsIn_wide.2 (put_end vx th hlD hap HLO.out.2)).mono ?_⟩
        rintro e w5 ⟨rfl, hl5, hap5, hm5⟩
        refine hK _ _ ?_
        clear hK K
        try simp only [Act.put, List.getElem_toArray, List.getElem_cons_succ, List.getElem_cons_zero, List.setIfInBounds_toArray, List.set_cons_zero, List.set_cons_succ]
        obtain ⟨k5, hp5, hl5⟩ := cp_put hlB hm5 hl5 hpD
        refine wpAnyIn_ready (rs := [11]) (by kernel_rfl) (by simp) ?_
        refine AllReadyIn.cons rfl (fun K hK => ?_) AllReadyIn.nil
        refine stepIn_store_path rfl _ _ rfl rfl rfl hp5 rfl ?_
        intro W6 h6 hm6
        refine hK _ _ ?_
        clear hK K
        try simp only [Act.put, List.getElem_toArray, List.getElem_cons_succ, List.getElem_cons_zero, List.setIfInBounds_toArray, List.set_cons_zero, List.set_cons_succ]
        obtain ⟨k6, hl6⟩ := cp_store hpbn hl5 hm6 hp5
        have k06 := k5.t k6
        have hbo6 : Boxed W6 (out + 1) 34 (.pointer (some ⟨out, 0, none⟩)) := k06.blk _ _ _ (by decide) (by decide) (by decide) hbo
        have hc6 := hbo6.cell
        obtain ⟨g1, g2, g3⟩ := hl6.sizes
        obtain ⟨k7, hl7⟩ := cp_many hl6 (pre.length + 1)
        refine wpAnyIn_done (by kernel_rfl) ?_ _
        have hpn : pre.length + 1 ≤ 1000 := by omega
        have kk := (k0.t k06).t k7
        have hp7 := h6.far (p := ⟨out, 10, none⟩) (h6.ne hl6.hd (by decide)) (.int .i64 ((pre.length + 1 : Nat) : Int))
        have HL7 := Lib.hid hl7
        have KK := Lib.hid kk
        have HP7 := Lib.hid hp7
        clear hl7 kk hp7 k7 k06 k6 k5 hl6 hl5 hp5 h6 hm6 hm5
        gi_wp2
        have kk := KK.out
        refine ⟨kk.oth.from _, ⟨kk.bel, fun v hv => kk.blk _ _ _ (by decide) (by decide) (by decide) hv, fun v hv => kk.blk _ _ _ (by decide) (by decide) (by decide) hv⟩, ⟨P ++ [(W.drew.heap.size, vx, th)], ?_, ?_, hap5, HP7.out, kk.blk _ _ _ (by decide) (by decide) (by decide) hbo, kk.blk _ _ _ (by decide) (by decide) (by decide) hbs, kk.blk _ _ _ (by decide) (by decide) (by decide) hbn⟩, hB.trans kk.bel⟩
        · rw [List.map_append, List.map_append, hP, List.map_singleton, List.map_singleton, HVX.out, HHX.out, HTH.out]
        · rw [List.length_append]
          exact HL7.out
      · skip
        go_simp
        refine hK _ _ ?_
        clear hK K
        try simp only [Act.put, List.getElem_toArray, List.getElem_cons_succ, List.getElem_cons_zero, List.setIfInBounds_toArray, List.set_cons_zero, List.set_cons_succ]
        -- 0 and 9 are left
        refine wpAnyIn_ready (rs := [0, 9]) (by kernel_rfl) (by simp) ?_
        refine AllReadyIn.cons rfl (fun K hK => ?_) (AllReadyIn.cons rfl (fun K hK => ?_) AllReadyIn.nil)
        · skip
          refine stepIn_load_path rfl _ rfl rfl hpD ?_
          refine hK _ _ ?_
          clear hK K
          try simp only [Act.put, List.getElem_toArray, List.getElem_cons_succ, List.getElem_cons_zero, List.setIfInBounds_toArray, List.set_cons_zero, List.set_cons_succ]
          refine wpAnyIn_ready (rs := [9]) (by kernel_rfl) (by simp) ?_
          refine AllReadyIn.cons rfl (fun K hK => ?_) AllReadyIn.nil
          go_simp
          refine ⟨trivial, (callsIn_wide.2 (tall_any vx _ _)).mono ?_⟩
          rintro e w8 ⟨rfl, e2⟩
          rw [e2, HTH.out]
          clear e2
          refine hK _ _ ?_
          clear hK K
          try simp only [Act.put, List.getElem_toArray, List.getElem_cons_succ, List.getElem_cons_zero, List.setIfInBounds_toArray, List.set_cons_zero, List.set_cons_succ]
          refine wpAnyIn_ready (rs := [10]) (by kernel_rfl) (by simp) ?_
          refine AllReadyIn.cons rfl (fun K hK => ?_) AllReadyIn.nil
          go_simp
          refine ⟨trivial, (callsIn_wide.2 (put_end vx th hlD hap HLO.out.2)).mono ?_⟩
          rintro e w5 ⟨rfl, hl5, hap5, hm5⟩
          refine hK _ _ ?_
          clear hK K
          try simp only [Act.put, List.getElem_toArray, List.getElem_cons_succ, List.getElem_cons_zero, List.setIfInBounds_toArray, List.set_cons_zero, List.set_cons_succ]
          obtain ⟨k5, hp5, hl5⟩ := cp_put hlB hm5 hl5 hpD
          refine wpAnyIn_ready (rs := [11]) (by kernel_rfl) (by simp) ?_
          refine AllReadyIn.cons rfl (fun K hK => ?_) AllReadyIn.nil
          refine stepIn_store_path rfl _ _ rfl rfl rfl hp5 rfl ?_
          intro W6 h6 hm6
          refine hK _ _ ?_
          clear hK K
          try simp only [Act.put, List.getElem_toArray, List.getElem_cons_succ, List.getElem_cons_zero, List.setIfInBounds_toArray, List.set_cons_zero, List.set_cons_succ]
          obtain ⟨k6, hl6⟩ := cp_store hpbn hl5 hm6 hp5
          have k06 := k5.t k6
          have hbo6 : Boxed W6 (out + 1) 34 (.pointer (some ⟨out, 0, none⟩)) := k06.blk _ _ _ (by decide) (by decide) (by decide) hbo
          have hc6 := hbo6.cell
          obtain ⟨g1, g2, g3⟩ := hl6.sizes
          obtain ⟨k7, hl7⟩ := cp_many hl6 (pre.length + 1)
          refine wpAnyIn_done (by kernel_rfl) ?_ _
          have hpn : pre.length + 1 ≤ 1000 := by omega
          have kk := (k0.t k06).t k7
          have hp7 := h6.far (p := ⟨out, 10, none⟩) (h6.ne hl6.hd (by decide)) (.int .i64 ((pre.length + 1 : Nat) : Int))
          have HL7 := Lib.hid hl7
          have KK := Lib.hid kk
          have HP7 := Lib.hid hp7
          clear hl7 kk hp7 k7 k06 k6 k5 hl6 hl5 hp5 h6 hm6 hm5
          gi_wp2
          have kk := KK.out
          refine ⟨kk.oth.from _, ⟨kk.bel, fun v hv => kk.blk _ _ _ (by decide) (by decide) (by decide) hv, fun v hv => kk.blk _ _ _ (by decide) (by decide) (by decide) hv⟩, ⟨P ++ [(W.drew.heap.size, vx, th)], ?_, ?_, hap5, HP7.out, kk.blk _ _ _ (by decide) (by decide) (by decide) hbo, kk.blk _ _ _ (by decide) (by decide) (by decide) hbs, kk.blk _ _ _ (by decide) (by decide) (by decide) hbn⟩, hB.trans kk.bel⟩
          · rw [List.map_append, List.map_append, hP, List.map_singleton, List.map_singleton, HVX.out, HHX.out, HTH.out]
          · rw [List.length_append]
            exact HL7.out
        · skip
          go_simp
          refine ⟨trivial, (callsIn_wide.2 (tall_any vx _ _)).mono ?_⟩
          rintro e w8 ⟨rfl, e2⟩
          rw [e2, HTH.out]
          clear e2
          refine hK _ _ ?_
          clear hK K
          try simp only [Act.put, List.getElem_toArray, List.getElem_cons_succ, List.getElem_cons_zero, List.setIfInBounds_toArray, List.set_cons_zero, List.set_cons_succ]
          refine wpAnyIn_ready (rs := [0]) (by kernel_rfl) (by simp) ?_
          refine AllReadyIn.cons rfl (fun K hK => ?_) AllReadyIn.nil
          refine stepIn_load_path rfl _ rfl rfl (hpD.alloc _) ?_
          refine hK _ _ ?_
          clear hK K
          try simp only [Act.put, List.getElem_toArray, List.getElem_cons_succ, List.getElem_cons_zero, List.setIfInBounds_toArray, List.set_cons_zero, List.set_cons_succ]
          refine wpAnyIn_ready (rs := [10]) (by kernel_rfl) (by simp) ?_
          refine AllReadyIn.cons rfl (fun K hK => ?_) AllReadyIn.nil
          go_simp
          refine ⟨trivial, (callsIn_wide.2 (put_end vx th hlD hap HLO.out.2)).mono ?_⟩
          rintro e w5 ⟨rfl, hl5, hap5, hm5⟩
          refine hK _ _ ?_
          clear hK K
          try simp only [Act.put, List.getElem_toArray, List.getElem_cons_succ, List.getElem_cons_zero, List.setIfInBounds_toArray, List.set_cons_zero, List.set_cons_succ]
          obtain ⟨k5, hp5, hl5⟩ := cp_put hlB hm5 hl5 hpD
          refine wpAnyIn_ready (rs := [11]) (by kernel_rfl) (by simp) ?_
          refine AllReadyIn.cons rfl (fun K hK => ?_) AllReadyIn.nil
          refine stepIn_store_path rfl _ _ rfl rfl rfl hp5 rfl ?_
          intro W6 h6 hm6
          refine hK _ _ ?_
          clear hK K
          try simp only [Act.put, List.getElem_toArray, List.getElem_cons_succ, List.getElem_cons_zero, List.setIfInBounds_toArray, List.set_cons_zero, List.set_cons_succ]
          obtain ⟨k6, hl6⟩ := cp_store hpbn hl5 hm6 hp5
          have k06 := k5.t k6
          have hbo6 : Boxed W6 (out + 1) 34 (.pointer (some ⟨out, 0, none⟩)) := k06.blk _ _ _ (by decide) (by decide) (by decide) hbo
          have hc6 := hbo6.cell
          obtain ⟨g1, g2, g3⟩ := hl6.sizes
          obtain ⟨k7, hl7⟩ := cp_many hl6 (pre.length + 1)
          refine wpAnyIn_done (by kernel_rfl) ?_ _
          have hpn : pre.length + 1 ≤ 1000 := by omega
          have kk := (k0.t k06).t k7
          have hp7 := h6.far (p := ⟨out, 10, none⟩) (h6.ne hl6.hd (by decide)) (.int .i64 ((pre.length + 1 : Nat) : Int))
          have HL7 := Lib.hid hl7
          have KK := Lib.hid kk
          have HP7 := Lib.hid hp7
          clear hl7 kk hp7 k7 k06 k6 k5 hl6 hl5 hp5 h6 hm6 hm5
          gi_wp2
          have kk := KK.out
          refine ⟨kk.oth.from _, ⟨kk.bel, fun v hv => kk.blk _ _ _ (by decide) (by decide) (by decide) hv, fun v hv => kk.blk _ _ _ (by decide) (by decide) (by decide) hv⟩, ⟨P ++ [(W.drew.heap.size, vx, th)], ?_, ?_, hap5, HP7.out, kk.blk _ _ _ (by decide) (by decide) (by decide) hbo, kk.blk _ _ _ (by decide) (by decide) (by decide) hbs, kk.blk _ _ _ (by decide) (by decide) (by decide) hbn⟩, hB.trans kk.bel⟩
          · rw [List.map_append, List.map_append, hP, List.map_singleton, List.map_singleton, HVX.out, HHX.out, HTH.out]
          · rw [List.length_append]
            exact HL7.out
    · skip
      go_simp
      refine hK _ _ ?_
      clear hK K
      try simp only [Act.put, List.getElem_toArray, List.getElem_cons_succ, List.getElem_cons_zero, List.setIfInBounds_toArray, List.set_cons_zero, List.set_cons_succ]
      refine wpAnyIn_ready (rs := [0, 4]) (by kernel_rfl) (by simp) ?_
      refine AllReadyIn.cons rfl (fun K hK => ?_) (AllReadyIn.cons rfl (fun K hK => ?_) AllReadyIn.nil)
      · skip
        refine stepIn_load_path rfl _ rfl rfl hpD ?_
        refine hK _ _ ?_
        clear hK K
        try simp only [Act.put, List.getElem_toArray, List.getElem_cons_succ, List.getElem_cons_zero, List.setIfInBounds_toArray, List.set_cons_zero, List.set_cons_succ]
        refine wpAnyIn_ready (rs := [4]) (by kernel_rfl) (by simp) ?_
        refine AllReadyIn.cons rfl (fun K hK => ?_) AllReadyIn.nil
        go_simp
        refine hK _ _ ?_
        clear hK K
        try simp only [Act.put, List.getElem_toArray, List.getElem_cons_succ, List.getElem_cons_zero, List.setIfInBounds_toArray, List.set_cons_zero, List.set_cons_succ]
        refine wpAnyIn_ready (rs := [9]) (by kernel_rfl) (by simp) ?_
        refine AllReadyIn.cons rfl (fun K hK => ?_) AllReadyIn.nil
        go_simp
        refine ⟨trivial, (callsIn_wide.2 (tall_any vx _ _)).mono ?_⟩
        rintro e w8 ⟨rfl, e2⟩
        rw [e2, HTH.out]
        clear e2
        refine hK _ _ ?_
        clear hK K
        try simp only [Act.put, List.getElem_toArray, List.getElem_cons_succ, List.getElem_cons_zero, List.setIfInBounds_toArray, List.set_cons_zero, List.set_cons_succ]
        refine wpAnyIn_ready (rs := [10]) (by kernel_rfl) (by simp) ?_
        refine AllReadyIn.cons rfl (fun K hK => ?_) AllReadyIn.nil
        go_simp
        refine ⟨trivial, (callsIn_wide.2 (put_end vx th hlD hap HLO.out.2)).mono ?_⟩
        rintro e w5 ⟨rfl, hl5, hap5, hm5⟩
        refine hK _ _ ?_
        clear hK K
        try simp only [Act.put, List.getElem_toArray, List.getElem_cons_succ, List.getElem_cons_zero, List.setIfInBounds_toArray, List.set_cons_zero, List.set_cons_succ]
        obtain ⟨k5, hp5, hl5⟩ := cp_put hlB hm5 hl5 hpD
        refine wpAnyIn_ready (rs := [11]) (by kernel_rfl) (by simp) ?_
        refine AllReadyIn.cons rfl (fun K hK => ?_) AllReadyIn.nil
        refine stepIn_store_path rfl _ _ rfl rfl rfl hp5 rfl ?_
        intro W6 h6 hm6
        refine hK _ _ ?_
        clear hK K
        try simp only [Act.put, List.getElem_toArray, List.getElem_cons_succ, List.getElem_cons_zero, List.setIfInBounds_toArray, List.set_cons_zero, List.set_cons_succ]
        obtain ⟨k6, hl6⟩ := cp_store hpbn hl5 hm6 hp5
        have k06 := k5.t k6
        have hbo6 : Boxed W6 (out + 1) 34 (.pointer (some ⟨out, 0, none⟩)) := k06.blk _ _ _ (by decide) (by decide) (by decide) hbo
        have hc6 := hbo6.cell
        obtain ⟨g1, g2, g3⟩ := hl6.sizes
        obtain ⟨k7, hl7⟩ := cp_many hl6 (pre.length + 1)
        refine wpAnyIn_done (by kernel_rfl) ?_ _
        have hpn : pre.length + 1 ≤ 1000 := by omega
        have kk := (k0.t k06).t k7
        have hp7 := h6.far (p := ⟨out, 10, none⟩) (h6.ne hl6.hd (by decide)) (.int .i64 ((pre.length + 1 : Nat) : Int))
        have HL7 := Lib.hid hl7
        have KK := Lib.hid kk
        have HP7 := Lib.hid hp7
        clear hl7 kk hp7 k7 k06 k6 k5 hl6 hl5 hp5 h6 hm6 hm5
        gi_wp2
        have kk := KK.out
        refine ⟨kk.oth.from _, ⟨kk.bel, fun v hv => kk.blk _ _ _ (by decide) (by decide) (by decide) hv, fun v hv => kk.blk _ _ _ (by decide) (by decide) (by decide) hv⟩, ⟨P ++ [(W.drew.heap.size, vx, th)], ?_, ?_, hap5, HP7.out, kk.blk _ _ _ (by decide) (by decide) (by decide) hbo, kk.blk _ _ _ (by decide) (by decide) (by decide) hbs, kk.blk _ _ _ (by decide) (by decide) (by decide) hbn⟩, hB.trans kk.bel⟩
        · rw [List.map_append, List.map_append, hP, List.map_singleton, List.map_singleton, HVX.out, HHX.out, HTH.out]
        · rw [List.length_append]
          exact HL7.out
      · skip
        go_simp
        refine hK _ _ ?_
        clear hK K
        try simp only [Act.put, List.getElem_toArray, List.getElem_cons_succ, List.getElem_cons_zero, List.setIfInBounds_toArray, List.set_cons_zero, List.set_cons_succ]
        -- 0 and 9 are left
        refine wpAnyIn_ready (rs := [0, 9]) (by kernel_rfl) (by simp) ?_
        refine AllReadyIn.cons rfl (fun K hK => ?_) (AllReadyIn.cons rfl (fun K hK => ?_) AllReadyIn.nil)
        · skip
          refine stepIn_load_path rfl _ rfl rfl hpD ?_
          refine hK _ _ ?_
          clear hK K
          try simp only [Act.put, List.getElem_toArray, List.getElem_cons_succ, List.getElem_cons_zero, List.setIfInBounds_toArray, List.set_cons_zero, List.set_cons_succ]
          refine wpAnyIn_ready (rs := [9]) (by kernel_rfl) (by simp) ?_
          refine AllReadyIn.cons rfl (fun K hK => ?_) AllReadyIn.nil
          go_simp
          refine ⟨trivial, (callsIn_wide.2 (tall_any vx _ _)).mono ?_⟩
          rintro e w8 ⟨rfl, e2⟩
          rw [e2, HTH.out]
          clear e2
          refine hK _ _ ?_
          clear hK K
          try simp only [Act.put, List.getElem_toArray, List.getElem_cons_succ, List.getElem_cons_zero, List.setIfInBounds_toArray, List.set_cons_zero, List.set_cons_succ]
          refine wpAnyIn_ready (rs := [10]) (by kernel_rfl) (by simp) ?_
          refine AllReadyIn.cons rfl (fun K hK => ?_) AllReadyIn.nil
          go_simp
          refine ⟨trivial, (callsIn_wide.2 (put_end vx th hlD hap HLO.out.2)).mono ?_⟩
          rintro e w5 ⟨rfl, hl5, hap5, hm5⟩
          refine hK _ _ ?_
          clear hK K
          try simp only [Act.put, List.getElem_toArray, List.getElem_cons_succ, List.getElem_cons_zero, List.setIfInBounds_toArray, List.set_cons_zero, List.set_cons_succ]
          obtain ⟨k5, hp5, hl5⟩ := cp_put hlB hm5 hl5 hpD
          refine wpAnyIn_ready (rs := [11]) (by kernel_rfl) (by simp) ?_
          refine AllReadyIn.cons rfl (fun K hK => ?_) AllReadyIn.nil
          refine stepIn_store_path rfl _ _ rfl rfl rfl hp5 rfl ?_
          intro W6 h6 hm6
          refine hK _ _ ?_
          clear hK K
          try simp only [Act.put, List.getElem_toArray, List.getElem_cons_succ, List.getElem_cons_zero, List.setIfInBounds_toArray, List.set_cons_zero, List.set_cons_succ]
          obtain ⟨k6, hl6⟩ := cp_store hpbn hl5 hm6 hp5
          have k06 := k5.t k6
          have hbo6 : Boxed W6 (out + 1) 34 (.pointer (some ⟨out, 0, none⟩)) := k06.blk _ _ _ (by decide) (by decide) (by decide) hbo
          have hc6 := hbo6.cell
          obtain ⟨g1, g2, g3⟩ := hl6.sizes
          obtain ⟨k7, hl7⟩ := cp_many hl6 (pre.length + 1)
          refine wpAnyIn_done (by kernel_rfl) ?_ _
          have hpn : pre.length + 1 ≤ 1000 := by omega
          have kk := (k0.t k06).t k7
          have hp7 := h6.far (p := ⟨out, 10, none⟩) (h6.ne hl6.hd (by decide)) (.int .i64 ((pre.length + 1 : Nat) : Int))
          have HL7 := Lib.hid hl7
          have KK := Lib.hid kk
          have HP7 := Lib.hid hp7
          clear hl7 kk hp7 k7 k06 k6 k5 hl6 hl5 hp5 h6 hm6 hm5
          gi_wp2
          have kk := KK.out
          refine ⟨kk.oth.from _, ⟨kk.bel, fun v hv => kk.blk _ _ _ (by decide) (by decide) (by decide) hv, fun v hv => kk.blk _ _ _ (by decide) (by decide) (by decide) hv⟩, ⟨P ++ [(W.drew.heap.size, vx, th)], ?_, ?_, hap5, HP7.out, kk.blk _ _ _ (by decide) (by decide) (by decide) hbo, kk.blk _ _ _ (by decide) (by decide) (by decide) hbs, kk.blk _ _ _ (by decide) (by decide) (by decide) hbn⟩, hB.trans kk.bel⟩
          · rw [List.map_append, List.map_append, hP, List.map_singleton, List.map_singleton, HVX.out, HHX.out, HTH.out]
          · rw [List.length_append]
            exact HL7.out
        · skip
          go_simp
          refine ⟨trivial, (callsIn_wide.2 (tall_any vx _ _)).mono ?_⟩
          rintro e w8 ⟨rfl, e2⟩
          rw [e2, HTH.out]
          clear e2
          refine hK _ _ ?_
          clear hK K
          try simp only [Act.put, List.getElem_toArray, List.getElem_cons_succ, List.getElem_cons_zero, List.setIfInBounds_toArray, List.set_cons_zero, List.set_cons_succ]
          refine wpAnyIn_ready (rs := [0]) (by kernel_rfl) (by simp) ?_
          refine AllReadyIn.cons rfl (fun K hK => ?_) AllReadyIn.nil
          refine stepIn_load_path rfl _ rfl rfl (hpD.alloc _) ?_
          refine hK _ _ ?_
          clear hK K
          try simp only [Act.put, List.getElem_toArray, List.getElem_cons_succ, List.getElem_cons_zero, List.setIfInBounds_toArray, List.set_cons_zero, List.set_cons_succ]
          refine wpAnyIn_ready (rs := [10]) (by kernel_rfl) (by simp) ?_
          refine AllReadyIn.cons rfl (fun K hK => ?_) AllReadyIn.nil
          go_simp
          refine ⟨trivial, (callsIn_wide.2 (put_end vx th hlD hap HLO.out.2)).mono ?_⟩
          rintro e w5 ⟨rfl, hl5, hap5, hm5⟩
          refine hK _ _ ?_
          clear hK K
          try simp only [Act.put, List.getElem_toArray, List.getElem_cons_succ, List.getElem_cons_zero, List.setIfInBounds_toArray, List.set_cons_zero, List.set_cons_succ]
          obtain ⟨k5, hp5, hl5⟩ := cp_put hlB hm5 hl5 hpD
          refine wpAnyIn_ready (rs := [11]) (by kernel_rfl) (by simp) ?_
          refine AllReadyIn.cons rfl (fun K hK => ?_) AllReadyIn.nil
          refine stepIn_store_path rfl _ _ rfl rfl rfl hp5 rfl ?_
          intro W6 h6 hm6
          refine hK _ _ ?_
          clear hK K
          try simp only [Act.put, List.getElem_toArray, List.getElem_cons_succ, List.getElem_cons_zero, List.setIfInBounds_toArray, List.set_cons_zero, List.set_cons_succ]
          obtain ⟨k6, hl6⟩ := cp_store hpbn hl5 hm6 hp5
          have k06 := k5.t k6
          have hbo6 : Boxed W6 (out + 1) 34 (.pointer (some ⟨out, 0, none⟩)) := k06.blk _ _ _ (by decide) (by decide) (by decide) hbo
          have hc6 := hbo6.cell
          obtain ⟨g1, g2, g3⟩ := hl6.sizes
          obtain ⟨k7, hl7⟩ := cp_many hl6 (pre.length + 1)
          refine wpAnyIn_done (by kernel_rfl) ?_ _
          have hpn : pre.length + 1 ≤ 1000 := by omega
          have kk := (k0.t k06).t k7
          have hp7 := h6.far (p := ⟨out, 10, none⟩) (h6.ne hl6.hd (by decide)) (.int .i64 ((pre.length + 1 : Nat) : Int))
          have HL7 := Lib.hid hl7
          have KK := Lib.hid kk
          have HP7 := Lib.hid hp7
          clear hl7 kk hp7 k7 k06 k6 k5 hl6 hl5 hp5 h6 hm6 hm5
          gi_wp2
          have kk := KK.out
          refine ⟨kk.oth.from _, ⟨kk.bel, fun v hv => kk.blk _ _ _ (by decide) (by decide) (by decide) hv, fun v hv => kk.blk _ _ _ (by decide) (by decide) (by decide) hv⟩, ⟨P ++ [(W.drew.heap.size, vx, th)], ?_, ?_, hap5, HP7.out, kk.blk _ _ _ (by decide) (by decide) (by decide) hbo, kk.blk _ _ _ (by decide) (by decide) (by decide) hbs, kk.blk _ _ _ (by decide) (by decide) (by decide) hbn⟩, hB.trans kk.bel⟩
          · rw [List.map_append, List.map_append, hP, List.map_singleton, List.map_singleton, HVX.out, HHX.out, HTH.out]
          · rw [List.length_append]
            exact HL7.out
  case done =>
    rintro D ys W hD rfl ⟨⟨P, hP, hl, hap, hp, hbo, hbs, hbn⟩, hB⟩ hK
    have hc := hbo.cell
    have hI := cpI_own w.heap.size out pb (out + 1) q0 (q0 + 1) s m _ _ W (W.putObj D (.deferred none)) (some D) ⟨P, hP, hl, hap, hp, hbo, hbs, hbn⟩ (grownBy_putObj' W D _) (fun r e => by cases e; exact ⟨_, hK, rfl⟩)
    have HI := Lib.hid hI
    have HP := Lib.hid hP
    clear hI hP hl hap hp hbs hbn
    gi_wp2
    refine ⟨by simp, .inl ⟨_, _, rfl, run_takeDeferred hK, ?_⟩⟩
    obtain ⟨P', hP', hl', hap', _⟩ := HI.out
    refine ⟨_, results_tmp rfl _ _ _, out, rfl, copied hT hlev0 hP' hl' hap' (by rw [List.length_range, hlev0]), hB.trans (belowK_b (w := w) (Nat.le_refl _) W D _ _ (by have := hB0.size; omega) hK rfl rfl)⟩
  case stop =>
    rintro D c pre W _ _ h _
    exact h.elim
theorem copy_none (w : World) : Calls Try.prog 15 #[.pointer none] w fun e w' => ∃ p, e = .returned (.pointer (some ⟨p, 0, none⟩)) ∧ SkAt w' p (fun b => w.heap.size ≤ b ∧ b < w'.heap.size) 0 [] ∧ Below w.heap.size w w' := by
  have hnew := new_any 0 w
  rw [show mostI 0 = 0 by decide] at hnew
  have hsk := skAt_new w (m := 0) (by omega)
  go_enter Try.func15, Try.ntmps15
  go_wp2_with fail
  refine (most_none w).mono ?_
  rintro e w1 ⟨rfl, rfl⟩
  go_wp2_with fail
  refine hnew.mono ?_
  rintro e w1 ⟨rfl, e2⟩
  rw [e2]
  clear e2
  go_wp2_with fail
  go_ret
  exact ⟨_, rfl, (stable_sk _ 0 []).mono ((stable_sk _ 0 []).alloc hsk _) fun b hb => ⟨hb.1, by simp at hb ⊢; omega⟩, ((Below.refl _ _).alloc (Nat.le_refl _) _).alloc (by simp) _⟩
section
variable {B : Nat} {w : World} {p m : Nat} {l : List It} {L : List Res}
theorem copy_s (hB : B ≤ w.heap.size) (h : At B w (skR p m l :: L)) : Calls Try.prog 15 #[.pointer (some ⟨p, 0, none⟩)] w fun e w' => ∃ q, e = .returned (.pointer (some ⟨q, 0, none⟩)) ∧ At B w' (skR q m l :: skR p m l :: L) ∧ Below B w w' :=
  (copy_any w p m _ l h.get).mono fun e w' ⟨q, he, hs, hb⟩ => ⟨q, he, h.made (a := skR q m l) (fun x hx => Nat.le_trans hB hx) hb hs, hb.mono hB⟩
end
end Go.Proofs.Ytpelpbnmjciheaa
