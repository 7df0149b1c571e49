/-
  An operation that was looked at runs: all kinds of operations. Plain laws.
-/
import Derived.Test.YtmcnccfbligeaaaTzG
namespace Go.Tz
open Go.Rp Go.RowKit

section
variable {P : Program} {lay : Lay} {els : List (TypeId × TypeId × Nat)} {Fs : FuncId → Option Sg} {B F : Nat} {K K' : Bounds} {w w' : World} {G : FuncId → Bounds → Bounds} {Γ : Env} {a : Act} {S : Nat → Prop} {g : Gd} {o : Oper}
theorem ofs_split {cs : List CT} {vs : List Value} (h : Ofs lay B K w cs vs) : vs.length = cs.length := h.1
theorem op_ok (hG : GOK G) (hFs : ∀ f s, Fs f = some s → FnOK P lay G f s) (hel : ∀ p ∈ els, Elem lay P p.1 p.2.1 p.2.2) (hT : Typed lay B K w) (hBF : B ≤ F) (hF : F ≤ w.heap.size) (hE : EOK lay B F K w S Γ a) (hg : GH a g)
    (hS : ∀ i, .tmp i ∈ o.op.operands.toList → S i) {rt : Option AT} {gr : List Gr} (hc : chkOp P lay els Fs Γ g o = some (rt, gr)) (hfit : ∀ e, den G gr K e ≤ LIM) : Does P lay B F G K o a w rt gr := by
  unfold chkOp at hc
  have mv : ∀ x, (o.op = .move x ∨ o.op = .assign x) → (match x with
    | .tmp i => (look Γ g i).map fun t => (some t, ([] : List Gr))
    | x => (opnd Γ g x).map fun t => (some (.one t), [])) = some (rt, gr) → Does P lay B F G K o a w rt gr := fun x ho hc => by
    have hx : (execOp a.eval o).run P w = .ok (.value (a.eval x)) w := by
      unfold execOp
      rcases ho with ho | ho <;> simp [ho]
    have hSx : ∀ i, x = .tmp i → S i := fun i hi => hS i (by rcases ho with ho | ho <;> simp [ho, Op.operands, hi])
    split at hc
    · rename_i i
      obtain ⟨t, ht, he⟩ := Option.map_eq_some_iff.1 hc
      simp only [Prod.mk.injEq] at he
      obtain ⟨rfl, rfl⟩ := he
      exact does_value hT hx (look_ok hE hg (hSx i rfl) ht)
    · obtain ⟨t, ht, he⟩ := Option.map_eq_some_iff.1 hc
      simp only [Prod.mk.injEq] at he
      obtain ⟨rfl, rfl⟩ := he
      exact does_value (F := F) hT hx (opnd_ok hE hg hSx ht)
  split at hc
  · rename_i x ho; exact mv x (.inl ho) hc
  · rename_i x ho; exact mv x (.inr ho) hc
  · rename_i c x y ho
    split at hc
    · rename_i d
      split at hc
      · rename_i hd
        obtain ⟨b, hb⟩ := VOK.bool (F := F) (look_ok hE hg (hS d (by simp [ho, Op.operands])) hd)
        split at hc
        · rename_i t u ht hu
          obtain ⟨r, hr, he⟩ := Option.map_eq_some_iff.1 hc
          simp only [Prod.mk.injEq] at he
          obtain ⟨rfl, rfl⟩ := he
          refine does_value (F := F) hT (v := if b then a.eval x else a.eval y) ?_ (joinA_ok hr ?_)
          · unfold execOp
            simp only [ho, hb]
            cases b <;> rfl
          · cases b with
            | true => exact .inl (pickT_ok hE hg hb (fun i hi => hS i (by simp [ho, Op.operands, hi])) ht)
            | false => exact .inr (pickT_ok hE hg hb (fun i hi => hS i (by simp [ho, Op.operands, hi])) hu)
        · cases hc
      · cases hc
    · cases hc
  · rename_i e ho
    split at hc
    · rename_i i hi
      split at hc
      · rename_i z hz
        split at hc
        · rename_i zs hzs
          split at hc
          · rename_i hsub
            simp only [Option.some.injEq, Prod.mk.injEq] at hc
            obtain ⟨rfl, rfl⟩ := hc
            intro next Q hn
            obtain ⟨u, w', h1, hw, h2, h3, h4, h5⟩ := new_ok (P := P) (F := F) hT hF (ty := e) (v := z) ((constCs_ok hzs).sub hsub)
            have hx : (execOp a.eval o).run P w = .ok (.value (.pointer (some u))) w' := by
              unfold execOp
              simp only [ho, Instr.alloc]
              simp [zeroValue, typeInfo, hi, hz, h1]
            exact wp_value hx (hn _ w' (fun t ht => by obtain rfl := Option.some.inj ht; exact h2) h3 h4 h5 ⟨.inl hx, fun _ ad had => by rw [hw.2]; exact World.cell?_alloc_lt w _ ad had⟩)
          · cases hc
        · cases hc
      · cases hc
    · cases hc
  · rename_i e x ho
    split at hc
    · rename_i t ht
      split at hc
      · rename_i gr0 hgr
        simp only [Option.some.injEq, Prod.mk.injEq] at hc
        obtain ⟨rfl, rfl⟩ := hc
        obtain ⟨k1, k2⟩ := fit_ok (G := G) hgr (opnd_ok hE hg (fun i hi => hS i (by simp [ho, Op.operands, hi])) ht)
        intro next Q hn
        obtain ⟨u, w', h1, hw, h2, h3, h4, h5⟩ := new_ok (P := P) (F := F) (hT.le k2) hF (ty := e) (v := a.eval x) k1
        have hx : (execOp a.eval o).run P w = .ok (.value (.pointer (some u))) w' := by
          unfold execOp
          simp [ho, Instr.box, h1]
        exact wp_value hx (hn _ w' (fun t ht => by obtain rfl := Option.some.inj ht; exact h2) h3 h4 h5 ⟨.inl hx, fun _ ad had => by rw [hw.2]; exact World.cell?_alloc_lt w _ ad had⟩)
      · cases hc
    · cases hc
  · rename_i t parts ho
    split at hc
    · rename_i it fields hit hu
      split at hc
      · rename_i z places ps hz hpl hps
        split at hc
        · rename_i zs hzs
          obtain ⟨r, hr, he⟩ := Option.map_eq_some_iff.1 hc
          simp only [Prod.mk.injEq] at he
          obtain ⟨rfl, rfl⟩ := he
          have hp := partsT_ok hE hg (fun i hi => hS i (by rw [ho]; simpa [Op.operands] using hi)) hps
          obtain ⟨cells, h1, h2⟩ := fill_ok hp (constCs_ok hzs) hr
          have hb : P.built t (parts.map fun (i, x) => (i, a.eval x)).toList = some cells := by
            unfold Program.built
            simp only [hit, hu, hz, hpl, Array.toList_map]
            exact h1
          refine does_value (F := F) hT (v := .agg cells) ?_ ⟨cells, rfl, h2⟩
          unfold execOp
          simp only [ho, Sem.run_bind, run_build w t _ cells hb, Result.andThen_ok]
          rfl
        · cases hc
      · cases hc
    · cases hc
  · rename_i t n parts ho
    split at hc
    · rename_i e hu
      split at hc
      · rename_i ie hie
        split at hc
        · rename_i z ps hz hps
          split at hc
          · rename_i zs hzs
            split at hc
            · rename_i r hr
              split at hc
              · rename_i hcond
                obtain ⟨rfl, hsz, hpos, hle, hsub⟩ := hcond
                simp only [Option.some.injEq, Prod.mk.injEq] at hc
                obtain ⟨rfl, rfl⟩ := hc
                have hp := partsT_ok hE hg (fun i hi => hS i (by rw [ho]; simpa [Op.operands] using hi)) hps
                have hz0 : (Array.range (1 * ie.size)).map (z.cells[· % z.cells.size]!) = z.cells := by
                  apply Array.ext
                  · simp [hsz]
                  · intro i h1 h2
                    simp at h1
                    simp [Nat.mod_eq_of_lt h2, h2]
                obtain ⟨cells, h1, h2⟩ := fill_ok hp (constCs_ok hzs) hr
                have hrow := h2.sub hsub
                have hrun := run_buildSlice (P := P) w t e 1 (parts.map fun (i, x) => (i, a.eval x)) cells ie z hu hie hz (by omega) (by omega) (by rw [hz0, Array.toList_map]; exact h1)
                intro next Q hn
                have hx : (execOp a.eval o).run P w = .ok (.value (.slice (some ⟨w.heap.size, 0, none⟩) 1 1)) (w.alloc (.cells cells e)) := by
                  unfold execOp
                  simp only [ho, Sem.run_bind, hrun, Result.andThen_ok]
                  rfl
                refine wp_value hx (hn _ _ (fun t' ht => ?_) (hT.alloc _ _ (Ofs.row hrow)) ((Below.refl F w).alloc hF _) (Keeps.alloc w _) ⟨.inl hx, fun _ ad had => World.cell?_alloc_lt w _ ad had⟩)
                · obtain rfl := Option.some.inj ht
                  refine ⟨_, 1, 1, rfl, SlOK.blk (Blk.new w e cells) hT.size 1 1 (Nat.le_refl _) (by simp [maxLen]) ?_, fun a ha => ?_, by simp⟩
                  · have := hrow.1; simp at this; omega
                  · cases ha; exact hF
              · cases hc
            · cases hc
          · cases hc
        · cases hc
      · cases hc
    · cases hc
  · rename_i t x ho
    split at hc
    · rename_i cs d i hx hu hi
      split at hc
      · rename_i hcond
        simp only [Option.some.injEq, Prod.mk.injEq] at hc
        obtain ⟨rfl, rfl⟩ := hc
        obtain ⟨t0, ht0, hx⟩ := Option.bind_eq_some_iff.1 hx
        obtain ⟨u, h1, h2, _⟩ := load_ok (P := P) hT (asRd_ok hBF hx (opnd_ok hE hg (fun i hi => hS i (by simp [ho, Op.operands, hi])) ht0)) hu hi hcond.1 (fun hd => hcond.2.resolve_left (by simp [hd]))
        refine does_value (F := F) hT (v := u) ?_ h2
        unfold execOp
        simp only [ho, Sem.run_bind, h1, Result.andThen_ok]
        rfl
      · cases hc
    · cases hc
  · rename_i t x y ho
    split at hc
    · rename_i cs u i hx hy hi
      split at hc
      · rename_i hsz
        obtain ⟨gr0, hgr, he⟩ := Option.map_eq_some_iff.1 hc
        simp only [Prod.mk.injEq] at he
        obtain ⟨rfl, rfl⟩ := he
        obtain ⟨k1, k2⟩ := fit_ok (G := G) hgr (opnd_ok hE hg (fun i hi => hS i (by simp [ho, Op.operands, hi])) hy)
        obtain ⟨w', h1, h2, h3, h4, _⟩ := store_ok (P := P) (hT.le k2) hBF ((opnd_ok hE hg (fun i hi => hS i (by simp [ho, Op.operands, hi])) hx).keeps (Keeps.refl _) k2) hi hsz k1
        intro next Q hn
        have hx : (execOp a.eval o).run P w = .ok .skip w' := by
          unfold execOp
          simp only [ho, Sem.run_bind, h1, Result.andThen_ok]
          rfl
        exact wp_skipped hx (hn undef w' (fun t ht => by cases ht) h2 h3 h4 ⟨.inr (.inl ⟨hx, rfl⟩), fun h => by simp [isWrite, ho] at h⟩)
      · cases hc
    · cases hc
  · rename_i op xt x y yt ho
    split at hc
    · rename_i k lo hi k' lo' hi' hx hy
      split at hc
      · rename_i hop
        subst hop
        split at hc
        · rename_i hnn
          simp only [Option.some.injEq, Prod.mk.injEq] at hc
          obtain ⟨rfl, rfl⟩ := hc
          obtain ⟨u, eu, u1, u2⟩ := (opnd_ok hE hg (fun i hi => hS i (by simp [ho, Op.operands, hi])) hx).int
          obtain ⟨v, ev, v1, v2⟩ := (opnd_ok hE hg (fun i hi => hS i (by simp [ho, Op.operands, hi])) hy).int
          have hv : ¬ v < 0 := by omega
          refine does_value (F := F) hT (v := .int k (u.fdiv (2 ^ (min v.toNat k.bits)))) ?_ ?_
          · unfold execOp
            have hq : (eqGuard .shr xt x y (.int k u) (.int k' v)).run P w = .ok () w := rfl
            simp only [ho, eu, ev]
            rw [Sem.run_bind, Sem.run_bind, hq, Result.andThen_ok]
            simp [binOp, Op.shift, hv]
          · have hp : (0 : Int) < 2 ^ (min v.toNat k.bits) := Int.pow_pos (by omega)
            rw [Int.fdiv_eq_ediv_of_nonneg _ (by omega)]
            exact vok_int (F := F) (Int.ediv_nonneg (by omega) (by omega)) (Int.le_trans (Int.ediv_le_self _ (by omega)) u2)
        · cases hc
      split at hc
      · rename_i hk
        subst hk
        obtain ⟨t, ht, he⟩ := Option.map_eq_some_iff.1 hc
        simp only [Prod.mk.injEq] at he
        obtain ⟨rfl, rfl⟩ := he
        obtain ⟨u, eu, u1, u2⟩ := (opnd_ok hE hg (fun i hi => hS i (by simp [ho, Op.operands, hi])) hx).int
        obtain ⟨v, ev, v1, v2⟩ := (opnd_ok hE hg (fun i hi => hS i (by simp [ho, Op.operands, hi])) hy).int
        obtain ⟨r, h1, h2⟩ := binT_ok (P := P) (lay := lay) (B := B) (F := F) (K := K) (w := w) ht u1 u2 v1 v2 xt x y
        refine does_value (F := F) hT (v := r) ?_ h2
        unfold execOp
        simp only [ho, eu, ev]
        rw [Sem.run_bind, h1]
        rfl
      · cases hc
    · cases hc
  · rename_i xt x ho
    split at hc
    · rename_i hx
      simp only [Option.some.injEq, Prod.mk.injEq] at hc
      obtain ⟨rfl, rfl⟩ := hc
      obtain ⟨b, hb⟩ := VOK.bool (F := F) (opnd_ok hE hg (fun i hi => hS i (by simp [ho, Op.operands, hi])) hx)
      refine does_value (F := F) hT (v := .bool !b) ?_ (vok_bool (F := F) _)
      unfold execOp
      simp [ho, hb, Op.unary]
    · cases hc
  · rename_i src dst x ho
    split at hc
    · rename_i d k k' lo hi hsrc hdst hx
      simp only [Option.some.injEq, Prod.mk.injEq] at hc
      obtain ⟨rfl, rfl⟩ := hc
      obtain ⟨u, eu, u1, u2⟩ := (opnd_ok hE hg (fun i hi => hS i (by simp [ho, Op.operands, hi])) hx).int
      refine does_value (F := F) hT (v := .int k (k.wrap u)) ?_ (vok_rng (F := F) u1 u2)
      unfold execOp
      simp only [ho, eu, convert, Sem.run_bind, run_underlying hsrc, run_underlying hdst, Result.andThen_ok]
      cases d <;> rfl
    · cases hc
  · rename_i x i ho
    split at hc
    · rename_i j
      split at hc
      · rename_i ts hts
        obtain ⟨t, ht, he⟩ := Option.map_eq_some_iff.1 hc
        simp only [Prod.mk.injEq] at he
        obtain ⟨rfl, rfl⟩ := he
        obtain ⟨vs, e1, e2⟩ := look_ok hE hg (hS j (by simp [ho, Op.operands])) hts
        obtain ⟨v, hv, hv2⟩ := e2.at.2 i t ht
        refine does_value (F := F) hT (v := v) ?_ hv2
        unfold execOp
        have hv' : vs[i]? = some v := by simpa using hv
        simp [ho, e1, Instr.extract, hv']
      · cases hc
    · cases hc
  · rename_i s x f ho
    split at hc
    · rename_i fields cs hu hx
      split at hc
      · rename_i fd hfd
        split at hc
        · rename_i i hi
          split at hc
          · rename_i hcond
            simp only [Option.some.injEq, Prod.mk.injEq] at hc
            obtain ⟨rfl, rfl⟩ := hc
            obtain ⟨b, off, t, arr, hv, h1, h2, h3, h4⟩ := opnd_ok hE hg (fun i hi => hS i (by simp [ho, Op.operands, hi])) hx
            refine does_value (F := F) hT (v := .pointer (some ⟨b, off + fd.offset, none⟩)) ?_ ⟨b, off + fd.offset, t, arr, rfl, h1, h2, ?_, fun j c hj => ?_⟩
            · unfold execOp
              simp only [ho, hv, Instr.fieldAt, Instr.sureAddr, fieldPlace, sizeOf, typeInfo, Sem.run_bind, run_underlying hu, Result.andThen_ok, hfd, hi, run_program, Sem.run_pure]
              rw [if_neg hcond.1]
              simp [Addr.add_mid]
            · simp; omega
            · rw [List.getElem?_take] at hj
              split at hj
              · rw [List.getElem?_drop] at hj
                have := h4 _ c hj
                rwa [← Nat.add_assoc] at this
              · cases hj
          · cases hc
        · cases hc
      · cases hc
    · rename_i fields cs hu hx
      split at hc
      · rename_i fd hfd
        split at hc
        · rename_i i hi
          split at hc
          · rename_i hcond
            simp only [Option.some.injEq, Prod.mk.injEq] at hc
            obtain ⟨rfl, rfl⟩ := hc
            obtain ⟨b, off, t, arr, hv, h1, h2, h3, h4⟩ := opnd_ok hE hg (fun i hi => hS i (by simp [ho, Op.operands, hi])) hx
            refine does_value (F := F) hT (v := .pointer (some ⟨b, off + fd.offset, none⟩)) ?_ ⟨b, off + fd.offset, t, arr, rfl, h1, h2, ?_, fun j c hj => ?_⟩
            · unfold execOp
              simp only [ho, hv, Instr.fieldAt, Instr.sureAddr, fieldPlace, sizeOf, typeInfo, Sem.run_bind, run_underlying hu, Result.andThen_ok, hfd, hi, run_program, Sem.run_pure]
              rw [if_neg hcond.1]
              simp [Addr.add_mid]
            · simp; omega
            · rw [List.getElem?_take] at hj
              split at hj
              · rw [List.getElem?_drop] at hj
                have := h4 _ c hj
                rwa [← Nat.add_assoc] at this
              · cases hj
          · cases hc
        · cases hc
      · cases hc
    · cases hc
  · rename_i c ho
    obtain ⟨⟨t, gr0⟩, hr, he⟩ := Option.map_eq_some_iff.1 hc
    simp only [Prod.mk.injEq] at he
    obtain ⟨rfl, rfl⟩ := he
    exact chkCall_ok hG hFs hel hT hBF hF hE hg ho (fun i hi => hS i (by rw [ho]; simp only [Op.operands, Call.operands]; cases c.callee <;> simp [hi] <;> simpa using hi)) hr hfit
  · cases hc
end
end Go.Tz
/-
  A region that was looked at runs: in its own order, or in any. Plain laws.
-/
namespace Go.Tz
open Go.Rp Go.RowKit

def mentions (i : Nat) : Gd → Bool
  | some (d, _) => Nat.beq d i
  | none => false
def dropE (Γ : Env) (i : Nat) : Env := Γ.filter fun x => !(Nat.beq x.1 i) && !(mentions i x.2.1)
def setE (Γ : Env) (d : Option Nat) (g : Gd) (rt : Option AT) : Env :=
  match d, rt with
  | none, _ => Γ
  | some d, some t => (d, g, t) :: dropE Γ d
  | some d, none => dropE Γ d
/-- The guard of an operation, by the temporary that is looked at. -/
def gdOf (ops : Array Oper) (o : Oper) : Option Gd :=
  match o.guard with
  | none => some none
  | some (j, want) => match ops[j]? with
    | some p => match p.dst with
      | some d => some (some (d, want))
      | none => none
    | none => none
def dstOK (nt : Nat) (d : Option Nat) (g : Gd) : Bool :=
  match d with
  | none => true
  | some d => decide (d < nt) && !(mentions d g)
section
variable (P : Program) (lay : Lay) (els : List (TypeId × TypeId × Nat)) (Fs : FuncId → Option Sg) (nt : Nat)
def chkOps (ops : Array Oper) : Env → List Oper → Option (Env × List Gr)
  | Γ, [] => some (Γ, [])
  | Γ, o :: rest => match gdOf ops o with
    | some g => match chkOp P lay els Fs Γ g o with
      | some (rt, gr) => match dstOK nt o.dst g with
        | true => match chkOps ops (setE Γ o.dst g rt) rest with
          | some (Γ', gr') => some (Γ', gr ++ gr')
          | none => none
        | false => none
      | none => none
    | none => none
end
section
variable {P : Program} {lay : Lay} {els : List (TypeId × TypeId × Nat)} {Fs : FuncId → Option Sg} {nt B F : Nat} {K K' : Bounds} {w0 w w' : World} {G : FuncId → Bounds → Bounds} {Γ : Env} {a : Act} {S : Nat → Prop} {g : Gd} {o : Oper} {ops : Array Oper} {Q : Exit → Act → World → Prop}
/-- How things stand between operations. -/
structure St (lay : Lay) (nt B F : Nat) (w0 : World) (K : Bounds) (S : Nat → Prop) (Γ : Env) (a : Act) (w : World) : Prop where
  typed : Typed lay B K w
  env : EOK lay B F K w S Γ a
  below : Below F w0 w
  keeps : Keeps w0 w
  base : B ≤ F ∧ F ≤ w0.heap.size
  size : a.tmps.size = nt
  defers : a.defers = []
theorem St.le (h : St lay nt B F w0 K S Γ a w) (k : ∀ e, K e ≤ K' e) : St lay nt B F w0 K' S Γ a w :=
  ⟨h.typed.le k, fun i g t hi hm hg => (h.env i g t hi hm hg).keeps (Keeps.refl _) k, h.below, h.keeps, h.base, h.size, h.defers⟩
theorem eval_put_ne {d i : Nat} (v : Value) (h : i ≠ d) : (a.put (some d) v).eval (.tmp i) = a.eval (.tmp i) := by
  simp only [Act.put, Act.eval, Array.getD_eq_getD_getElem?]
  rw [Array.getElem?_setIfInBounds_ne (by omega)]
theorem eval_put_eq {d : Nat} (v : Value) (h : d < a.tmps.size) : (a.put (some d) v).eval (.tmp d) = v := by
  simp only [Act.put, Act.eval, Array.getD_eq_getD_getElem?]
  rw [Array.getElem?_setIfInBounds_self_of_lt h]
  rfl
theorem beq_ne {x i : Nat} (h : Nat.beq x i = false) : x ≠ i := fun e => by subst e; simp at h
theorem gh_put {d : Nat} (v : Value) (h : mentions d g = false) : GH (a.put (some d) v) g ↔ GH a g := by
  cases g with
  | none => exact Iff.rfl
  | some x =>
    obtain ⟨d', b⟩ := x
    simp only [GH]
    rw [eval_put_ne v (beq_ne h)]
theorem mem_dropE {d i : Nat} {t : AT} (h : (i, g, t) ∈ dropE Γ d) : (i, g, t) ∈ Γ ∧ i ≠ d ∧ mentions d g = false := by
  have := List.mem_filter.1 h
  simp only [Bool.and_eq_true, Bool.not_eq_true'] at this
  exact ⟨this.1, beq_ne this.2.1, this.2.2⟩
theorem wanted_iff {gd : Gd} (h : gdOf ops o = some gd) : Region.wanted o (yielded ops a.tmps) = true ↔ GH a gd := by
  unfold gdOf at h
  unfold Region.wanted
  split at h
  · rename_i hg
    obtain rfl := Option.some.inj h
    simp [hg, GH]
  · rename_i j want hg
    split at h
    · rename_i p hp
      split at h
      · rename_i d hd
        obtain rfl := Option.some.inj h
        simp only [hg, GH, yielded, hp, Option.bind_some, hd, Act.eval, Array.getD_eq_getD_getElem?]
        cases hx : a.tmps[d]? with
        | none => simp [undef]
        | some v => cases v <;> simp
      · cases h
    · cases h
/-- Behind an operation. -/
theorem St.after (h : St lay nt B F w0 K S Γ a w) {gr : List Gr} {gd : Gd} {rt : Option AT} {v : Value} (hk : ∀ e, K e ≤ K' e) (hv : GH a gd → ∀ t, rt = some t → TOK lay B F K' w' t v) (hT : Typed lay B K' w') (hb : Below F w w') (hke : Keeps w w') (hd : dstOK nt o.dst gd = true) :
    St lay nt B F w0 K' S (setE Γ o.dst gd rt) (a.put o.dst v) w' := by
  have old : ∀ i g t, S i → (i, g, t) ∈ Γ → GH a g → TOK lay B F K' w' t (a.eval (.tmp i)) := fun i g t hi hm hg => (h.env i g t hi hm hg).keeps hke hk
  refine ⟨hT, ?_, h.below.trans hb, h.keeps.trans hke, h.base, ?_, ?_⟩
  · cases hdst : o.dst with
    | none => exact old
    | some d =>
      rw [hdst] at hd
      simp only [dstOK, Bool.and_eq_true, decide_eq_true_eq, Bool.not_eq_true'] at hd
      have hdrop : ∀ i g t, S i → (i, g, t) ∈ dropE Γ d → GH (a.put (some d) v) g → TOK lay B F K' w' t ((a.put (some d) v).eval (.tmp i)) := fun i g t hi hm hg => by
        obtain ⟨m1, m2, m3⟩ := mem_dropE hm
        rw [eval_put_ne v m2]
        exact old i g t hi m1 ((gh_put v m3).1 hg)
      cases rt with
      | none => exact hdrop
      | some t0 =>
        intro i g t hi hm hg
        rcases List.mem_cons.1 hm with he | hm
        · simp only [Prod.mk.injEq] at he
          obtain ⟨rfl, rfl, rfl⟩ := he
          rw [eval_put_eq v (by rw [h.size]; exact hd.1)]
          exact hv ((gh_put v hd.2).1 hg) t rfl
        · exact hdrop i g t hi hm hg
  · rw [← h.size]
    cases o.dst <;> simp [Act.put]
  · rw [← h.defers]
    cases o.dst <;> simp [Act.put]
theorem St.lt (h : St lay nt B F w0 K S Γ a w) : F ≤ w.heap.size := Nat.le_trans h.base.2 h.below.size
section
theorem ops_ok (hG : GOK G) (hFs : ∀ f s, Fs f = some s → FnOK P lay G f s) (hel : ∀ p ∈ els, Elem lay P p.1 p.2.1 p.2.2) : ∀ (rest : List Oper) (Γ Γ' : Env) (gr : List Gr) (K : Bounds) (a : Act) (w : World), chkOps P lay els Fs nt ops Γ rest = some (Γ', gr) → (∀ e, den G gr K e ≤ LIM) → St lay nt B F w0 K (fun _ => True) Γ a w →
    (∀ a' w', St lay nt B F w0 (den G gr K) (fun _ => True) Γ' a' w' → Q .normal a' w') → wpList P ops Q rest a w
  | [], Γ, Γ', gr, K, a, w, h, _, hst, hq => by
    simp only [chkOps, Option.some.injEq, Prod.mk.injEq] at h
    obtain ⟨rfl, rfl⟩ := h
    exact hq a w hst
  | o :: rest, Γ, Γ', gr, K, a, w, h, hfit, hst, hq => by
    unfold chkOps at h
    split at h
    · rename_i g hg
      split at h
      · rename_i rt gr1 h1
        split at h
        · rename_i hd
          split at h
          · rename_i Γ2 gr2 h2
            simp only [Option.some.injEq, Prod.mk.injEq] at h
            obtain ⟨rfl, rfl⟩ := h
            rw [den_append] at hfit hq
            have hup := den_up hG gr1 K
            have hfit1 : ∀ e, den G gr1 K e ≤ LIM := fun e => Nat.le_trans (den_up hG gr2 _ e) (hfit e)
            unfold wpList
            split
            · rename_i hw
              have hgh := (wanted_iff hg).1 hw
              refine .inl (op_ok hG hFs hel hst.typed hst.base.1 hst.lt hst.env hgh (fun _ _ => trivial) h1 hfit1 _ _ fun v w' hv hT hb hk _ => ?_)
              exact ops_ok hG hFs hel rest _ _ _ _ _ _ h2 hfit (hst.after (gr := gr1) hup (fun _ => hv) hT hb hk hd) hq
            · rename_i hw
              have hgh : ¬ GH a g := fun hh => hw ((wanted_iff hg).2 hh)
              exact ops_ok hG hFs hel rest _ _ _ _ _ _ h2 hfit (hst.after (gr := gr1) hup (fun hh => absurd hh hgh) (hst.typed.le hup) (Below.refl _ _) (Keeps.refl _) hd) hq
          · cases h
        · cases h
      · cases h
    · cases h
end
end
end Go.Tz
/-
  A region whose operations come in any order. Plain laws.
-/
namespace Go.Tz
open Go.Rp Go.RowKit

def dsts (ops : Array Oper) : List Nat := ops.toList.filterMap (·.dst)
def bindsOn (o : Oper) : List Nat := (o.after.toList.filter (Region.binds .any)).map (·.on)
def readyTmp (ops : Array Oper) (o : Oper) (x : Nat) : Bool := !((dsts ops).contains x) || (bindsOn o).any fun j => decide ((ops[j]?).bind (·.dst) = some x)
def apartDst (ops : Array Oper) : Bool := (List.range ops.size).all fun i => (List.range ops.size).all fun j => decide (i = j) || decide ((ops[i]?).bind (·.dst) = none) || !decide ((ops[i]?).bind (·.dst) = (ops[j]?).bind (·.dst))
section
variable (P : Program) (lay : Lay) (els : List (TypeId × TypeId × Nat)) (Fs : FuncId → Option Sg) (nt : Nat)
def opDraw (ops : Array Oper) (Γ : Env) (i : Nat) (o : Oper) : Bool :=
  (bindsOn o).all (fun j => decide (j < i)) &&
  (match gdOf ops o with
   | some g => (match o.guard with
      | some (j, _) => (bindsOn o).contains j
      | none => true) &&
     (o.op.operands.toList.all fun x => match x with
      | .tmp x => readyTmp ops o x
      | _ => true) &&
     (match chkOp P lay els Fs Γ g o with
      | some (rt, []) => dstOK nt o.dst g && (match o.dst with
        | none => true
        | some d => Γ.all fun x => !(decide (x.1 = d)) || (decide (x.2.1 = g) && decide (rt = some x.2.2)))
      | _ => false)
   | none => false)
def drawOK (ops : Array Oper) (Γ : Env) : Bool :=
  apartDst ops && (ops.toList.zipIdx.all fun x => opDraw P lay els Fs nt ops Γ x.2 x.1) &&
  Γ.all fun x => match x.2.1 with
    | some (d, _) => !((dsts ops).contains d) || (dsts ops).contains x.1
    | none => true
end
section
variable {P : Program} {lay : Lay} {els : List (TypeId × TypeId × Nat)} {Fs : FuncId → Option Sg} {nt B F : Nat} {K K' : Bounds} {w0 w w' : World} {G : FuncId → Bounds → Bounds} {Γ : Env} {a : Act} {S : Nat → Prop} {g : Gd} {o : Oper} {ops : Array Oper} {Q : Exit → Act → World → Prop}
theorem mem_dsts {x : Nat} : x ∈ dsts ops ↔ ∃ (j : Nat) (o : Oper), ops[j]? = some o ∧ o.dst = some x := by
  unfold dsts
  rw [List.mem_filterMap]
  constructor
  · rintro ⟨o, ho, hd⟩
    obtain ⟨j, hj, rfl⟩ := List.mem_iff_getElem.1 ho
    exact ⟨j, _, by rw [← Array.getElem?_toList, List.getElem?_eq_getElem hj], hd⟩
  · rintro ⟨j, o, ho, hd⟩
    exact ⟨o, by rw [← Array.getElem?_toList] at ho; exact List.mem_of_getElem? ho, hd⟩
def Sl (ops : Array Oper) (listed : Array Bool) (x : Nat) : Prop := x ∉ dsts ops ∨ ∃ (j : Nat) (o : Oper), listed[j]? = some true ∧ ops[j]? = some o ∧ o.dst = some x
theorem mem_ready {listed : Array Bool} {i : Nat} (h : i ∈ Region.ready .any ops listed) : i < ops.size ∧ listed.getD i true = false ∧ ∃ o, ops[i]? = some o ∧ ∀ j ∈ bindsOn o, listed[j]? = some true := by
  unfold Region.ready at h
  obtain ⟨h1, h2⟩ := List.mem_filter.1 h
  simp only [Bool.and_eq_true, Bool.not_eq_true'] at h2
  refine ⟨by simpa using h1, h2.1, ?_⟩
  cases ho : ops[i]? with
  | none => simp [ho] at h2
  | some o =>
    refine ⟨o, rfl, fun j hj => ?_⟩
    simp only [ho, Option.map_some, Option.getD_some] at h2
    unfold bindsOn at hj
    obtain ⟨e, he, rfl⟩ := List.mem_map.1 hj
    obtain ⟨he1, he2⟩ := List.mem_filter.1 he
    have := Array.all_eq_true_iff_forall_mem.1 h2.2 e (by simpa using he1)
    simp only [he2, Bool.not_true, Bool.false_or] at this
    rw [Array.getD_eq_getD_getElem?] at this
    cases hl : listed[e.on]? with
    | none => simp [hl] at this
    | some b => simp [hl] at this; rw [this]
theorem ready_mem {listed : Array Bool} {i : Nat} {o : Oper} (h1 : ops[i]? = some o) (h2 : listed.getD i true = false) (h3 : ∀ j ∈ bindsOn o, listed[j]? = some true) : i ∈ Region.ready .any ops listed := by
  unfold Region.ready
  refine List.mem_filter.2 ⟨by simpa using (Array.getElem?_eq_some_iff.1 h1).1, ?_⟩
  simp only [Bool.and_eq_true, Bool.not_eq_true', h2, h1, Option.map_some, Option.getD_some, true_and]
  refine Array.all_eq_true_iff_forall_mem.2 fun e he => ?_
  cases hb : Region.binds .any e with
  | false => rfl
  | true =>
    have := h3 e.on (by unfold bindsOn; exact List.mem_map.2 ⟨e, List.mem_filter.2 ⟨by simpa using he, hb⟩, rfl⟩)
    simp [Array.getD_eq_getD_getElem?, this]
theorem all_listed {listed : Array Bool} (hs : listed.size = ops.size) (hb : ∀ (i : Nat) (o : Oper), ops[i]? = some o → ∀ j ∈ bindsOn o, j < i) (hr : Region.ready .any ops listed = []) : ∀ i, i < ops.size → listed[i]? = some true := by
  intro i
  induction i using Nat.strongRecOn with
  | _ i ih =>
    intro hi
    cases hl : listed[i]? with
    | none => rw [Array.getElem?_eq_none_iff] at hl; omega
    | some b =>
      cases b with
      | true => rfl
      | false =>
        exfalso
        have ho : ops[i]? = some ops[i] := Array.getElem?_eq_getElem hi
        have := ready_mem ho (listed := listed) (by simp [Array.getD_eq_getD_getElem?, hl]) (fun j hj => ih j (hb i _ ho j hj) (by have := hb i _ ho j hj; omega))
        rw [hr] at this
        cases this
section
theorem any_ok (hG : GOK G) (hFs : ∀ f s, Fs f = some s → FnOK P lay G f s) (hel : ∀ p ∈ els, Elem lay P p.1 p.2.1 p.2.2) (hd : drawOK P lay els Fs nt ops Γ = true) (hfit : ∀ e, K e ≤ LIM) (hq : ∀ a' w', St lay nt B F w0 K (fun _ => True) Γ a' w' → Q .normal a' w') : ∀ (fuel : Nat) (listed : Array Bool) (a : Act) (w : World),
    listed.size = ops.size → (∀ (j : Nat) (o : Oper), listed[j]? = some true → ops[j]? = some o → ∀ e ∈ bindsOn o, listed[e]? = some true) → St lay nt B F w0 K (Sl ops listed) Γ a w → ((List.range ops.size).filter fun i => listed.getD i true = false).length ≤ fuel → wpAny P .any ops Q fuel listed a w := by
  unfold drawOK at hd
  simp only [Bool.and_eq_true] at hd
  obtain ⟨⟨hap, hops⟩, hgs⟩ := hd
  have hop : ∀ (i : Nat) (o : Oper), ops[i]? = some o → opDraw P lay els Fs nt ops Γ i o = true := fun i o ho => by
    have := List.all_eq_true.1 hops (o, i) (by rw [List.mem_zipIdx_iff_getElem?]; simpa using ho)
    exact this
  have hbefore : ∀ (i : Nat) (o : Oper), ops[i]? = some o → ∀ j ∈ bindsOn o, j < i := fun i o ho j hj => by
    have := hop i o ho
    unfold opDraw at this
    simp only [Bool.and_eq_true] at this
    exact of_decide_eq_true (List.all_eq_true.1 this.1 j hj)
  have hapart : ∀ (i j : Nat) (o p : Oper) (d : Nat), ops[i]? = some o → ops[j]? = some p → o.dst = some d → p.dst = some d → i = j := fun i j o p d ho hp h1 h2 => by
    have hi := (Array.getElem?_eq_some_iff.1 ho).1
    have hj := (Array.getElem?_eq_some_iff.1 hp).1
    have := List.all_eq_true.1 (List.all_eq_true.1 hap i (by simpa using hi)) j (by simpa using hj)
    simpa [ho, hp, h1, h2] using this
  intro fuel
  have fin : ∀ (listed : Array Bool) (a : Act) (w : World), listed.size = ops.size → St lay nt B F w0 K (Sl ops listed) Γ a w → Region.ready .any ops listed = [] → Q .normal a w := fun listed a w hs hst hr => by
    refine hq a w ⟨hst.typed, fun i g t _ hm hg => hst.env i g t ?_ hm hg, hst.below, hst.keeps, hst.base, hst.size, hst.defers⟩
    by_cases hi : i ∈ dsts ops
    · obtain ⟨j, o, ho, hdst⟩ := mem_dsts.1 hi
      exact .inr ⟨j, o, all_listed hs hbefore hr j (Array.getElem?_eq_some_iff.1 ho).1, ho, hdst⟩
    · exact .inl hi
  induction fuel with
  | zero =>
    intro listed a w hs _ hst hc
    have hnil : Region.ready .any ops listed = [] := by
      cases hr : Region.ready .any ops listed with
      | nil => rfl
      | cons i rs =>
        have hm : i ∈ Region.ready .any ops listed := by rw [hr]; exact List.mem_cons_self ..
        obtain ⟨h1, h2, _⟩ := mem_ready hm
        have : i ∈ (List.range ops.size).filter fun i => listed.getD i true = false := List.mem_filter.2 ⟨by simpa using h1, by simpa using h2⟩
        have h0 := List.length_eq_zero_iff.1 (Nat.le_zero.1 hc)
        rw [h0] at this
        cases this
    exact ⟨hnil, fin listed a w hs hst hnil⟩
  | succ fuel ih =>
    intro listed a w hs hcl hst hc
    refine ⟨fin listed a w hs hst, fun i hm => ?_⟩
    obtain ⟨h1, h2, o, ho, h3⟩ := mem_ready hm
    have hli : listed[i]? = some false := by
      rw [Array.getD_eq_getD_getElem?] at h2
      cases hl : listed[i]? with
      | none => simp [hl] at h2
      | some b => simp [hl] at h2; rw [h2]
    have hset : ∀ j : Nat, (listed.setIfInBounds i true)[j]? = if j = i then some true else listed[j]? := fun j => by
      by_cases hj : j = i
      · subst hj; rw [if_pos rfl]; exact Array.getElem?_setIfInBounds_self_of_lt (by omega)
      · rw [if_neg hj]; exact Array.getElem?_setIfInBounds_ne (by omega)
    have hcl' : ∀ (j : Nat) (p : Oper), (listed.setIfInBounds i true)[j]? = some true → ops[j]? = some p → ∀ e ∈ bindsOn p, (listed.setIfInBounds i true)[e]? = some true := fun j p hj hp e he => by
      rw [hset] at hj ⊢
      split
      · rfl
      · by_cases hji : j = i
        · subst hji
          obtain rfl : o = p := by simpa [ho] using hp
          exact h3 e he
        · rw [if_neg hji] at hj
          exact hcl j p hj hp e he
    have hcount : ((List.range ops.size).filter fun k => (listed.setIfInBounds i true).getD k true = false).length ≤ fuel := by
      have e : ((List.range ops.size).filter fun k => (listed.setIfInBounds i true).getD k true = false) = ((List.range ops.size).filter fun k => listed.getD k true = false).filter fun k => decide (k ≠ i) := by
        rw [List.filter_filter]
        apply List.filter_congr
        intro k _
        simp only [Array.getD_eq_getD_getElem?, hset]
        by_cases hk : k = i
        · subst hk; simp
        · simp [hk]
      have hlt : (((List.range ops.size).filter fun k => listed.getD k true = false).filter fun k => decide (k ≠ i)).length < ((List.range ops.size).filter fun k => listed.getD k true = false).length :=
        List.length_filter_lt_length_iff_exists.2 ⟨i, List.mem_filter.2 ⟨by simpa using h1, by simpa using h2⟩, by simp⟩
      rw [e]
      omega
    have hod := hop i o ho
    unfold opDraw at hod
    simp only [Bool.and_eq_true] at hod
    obtain ⟨_, hod⟩ := hod
    split at hod
    · rename_i gd hgd
      simp only [Bool.and_eq_true] at hod
      obtain ⟨⟨hgon, htmps⟩, hod⟩ := hod
      split at hod
      · rename_i rt hchk
        simp only [Bool.and_eq_true] at hod
        obtain ⟨hdok, hent⟩ := hod
        -- entries that are settled do not look at what comes now
        have hguard : ∀ k d b t, (k, some (d, b), t) ∈ Γ → Sl ops listed k → o.dst = some d → False := fun k d b t hm' hk hdo => by
          have hdd : d ∈ dsts ops := mem_dsts.2 ⟨i, o, ho, hdo⟩
          have hke : k ∈ dsts ops := by
            have := List.all_eq_true.1 hgs _ hm'
            simpa [hdd] using this
          rcases hk with hk | ⟨j, p, hj, hp, hpd⟩
          · exact hk hke
          · have hpo := hop j p hp
            unfold opDraw at hpo
            simp only [Bool.and_eq_true] at hpo
            obtain ⟨_, hpo⟩ := hpo
            split at hpo
            · rename_i gp hgp
              simp only [Bool.and_eq_true] at hpo
              obtain ⟨⟨hgo, _⟩, hpo⟩ := hpo
              split at hpo
              · rename_i rtp _
                rw [hpd] at hpo
                simp only [Bool.and_eq_true] at hpo
                have := List.all_eq_true.1 hpo.2 _ hm'
                simp only [decide_true, Bool.not_true, Bool.false_or, Bool.and_eq_true, decide_eq_true_eq] at this
                have hgp2 := hgp
                rw [← this.1] at hgp2
                unfold gdOf at hgp2
                split at hgp2
                · cases hgp2
                · rename_i gi want hgi
                  rw [hgi] at hgo
                  split at hgp2
                  · rename_i q hq2
                    split at hgp2
                    · rename_i dq hdq
                      simp only [Option.some.injEq, Prod.mk.injEq] at hgp2
                      have hgl := hcl j p hj hp gi (by simpa using hgo)
                      have : gi = i := hapart gi i q o d hq2 ho (by rw [hdq, hgp2.1]) hdo
                      subst this
                      rw [hli] at hgl
                      cases hgl
                    · cases hgp2
                  · cases hgp2
              · cases hpo
            · cases hpo
        have hkey : ∀ k, Sl ops listed k → o.dst ≠ some k := fun k hk hdo => by
          rcases hk with hk | ⟨j, p, hj, hp, hpd⟩
          · exact hk (mem_dsts.2 ⟨i, o, ho, hdo⟩)
          · have := hapart j i p o k hp ho hpd hdo
            subst this
            rw [hli] at hj
            cases hj
        have next : ∀ v w', (GH a gd → ∀ t, rt = some t → TOK lay B F K w' t v) → Typed lay B K w' → Below F w w' → Keeps w w' → St lay nt B F w0 K (Sl ops (listed.setIfInBounds i true)) Γ (a.put o.dst v) w' := fun v w' hv hT hb hke => by
          refine ⟨hT, fun k g t hk hm' hg => ?_, hst.below.trans hb, hst.keeps.trans hke, hst.base, ?_, ?_⟩
          · by_cases hkd : o.dst = some k
            · rw [hkd] at hent hdok
              have := List.all_eq_true.1 hent _ hm'
              simp only [decide_true, Bool.not_true, Bool.false_or, Bool.and_eq_true, decide_eq_true_eq] at this
              obtain ⟨rfl, hrt⟩ := this
              simp only [dstOK, Bool.and_eq_true, decide_eq_true_eq, Bool.not_eq_true'] at hdok
              rw [hkd, eval_put_eq v (by rw [hst.size]; exact hdok.1)]
              rw [hkd] at hg
              exact hv ((gh_put v hdok.2).1 hg) t hrt
            · have hk' : Sl ops listed k := by
                rcases hk with hk | ⟨j, p, hj, hp, hpd⟩
                · exact .inl hk
                · rw [hset] at hj
                  by_cases hji : j = i
                  · subst hji
                    obtain rfl : o = p := by simpa [ho] using hp
                    exact absurd hpd hkd
                  · rw [if_neg hji] at hj
                    exact .inr ⟨j, p, hj, hp, hpd⟩
              cases hdst : o.dst with
              | none => rw [hdst] at hg; exact (hst.env k g t hk' hm' hg).keeps hke (fun _ => Nat.le_refl _)
              | some d =>
                rw [hdst] at hg
                have hkd' : k ≠ d := fun e => hkd (by rw [hdst, e])
                rw [eval_put_ne v hkd']
                have hmen : mentions d g = false := by
                  cases g with
                  | none => rfl
                  | some x =>
                    obtain ⟨d', b⟩ := x
                    cases hb : Nat.beq d' d with
                    | false => exact hb
                    | true =>
                      exfalso
                      obtain rfl := Nat.eq_of_beq_eq_true hb
                      exact hguard k d' b t hm' hk' hdst
                exact (hst.env k g t hk' hm' ((gh_put v hmen).1 hg)).keeps hke (fun _ => Nat.le_refl _)
          · rw [← hst.size]
            cases o.dst <;> simp [Act.put]
          · rw [← hst.defers]
            cases o.dst <;> simp [Act.put]
        have hS : ∀ x, .tmp x ∈ o.op.operands.toList → Sl ops listed x := fun x hx => by
          have := List.all_eq_true.1 htmps _ hx
          simp only [readyTmp, Bool.or_eq_true, Bool.not_eq_true'] at this
          rcases this with hc | hc
          · exact .inl (by simpa using hc)
          · obtain ⟨j, hj, hj2⟩ := List.any_eq_true.1 hc
            have hj3 := of_decide_eq_true hj2
            cases hoj : ops[j]? with
            | none => simp [hoj] at hj3
            | some p =>
              simp only [hoj, Option.bind_some] at hj3
              exact .inr ⟨j, p, h3 j hj, hoj, hj3⟩
        unfold wpOp
        rw [ho]
        dsimp only
        split
        · rename_i hw
          have hgh := (wanted_iff hgd).1 hw
          refine .inl (op_ok hG hFs hel hst.typed hst.base.1 hst.lt hst.env hgh hS hchk hfit _ _ fun v w' hv hT hb hk _ => ?_)
          exact ih _ _ _ (by simpa using hs) hcl' (next v w' (fun _ => hv) hT hb hk) hcount
        · rename_i hw
          have hgh : ¬ GH a gd := fun hh => hw ((wanted_iff hgd).2 hh)
          exact ih _ _ _ (by simpa using hs) hcl' (next undef w (fun hh => absurd hh hgh) hst.typed (Below.refl _ _) (Keeps.refl _)) hcount
      · cases hod
    · cases hod
end
end
end Go.Tz
