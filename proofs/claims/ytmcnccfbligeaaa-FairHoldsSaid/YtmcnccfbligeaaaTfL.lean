/-
  A function with facts is what its contract says. Plain laws.
-/
import Derived.Test.YtmcnccfbligeaaaTfK
namespace Go.Tz
open Go.Rp Go.RowKit

def C3.gh : C3 → Option Tm
  | .k x => some (.c x)
  | .av i => if i < 1000 then some (.gh (1000 + i)) else none
  | .al i => if i < 1000 then some (.gh (2000 + i)) else none
  | .af i j => if j < 100 then some (.gh (3000 + 100 * i + j)) else none
  | _ => none
def γArg (args : List Value) (n : Nat) : Int := if 3000 ≤ n then lenOf (partOf (args.getD ((n - 3000) / 100) undef) ((n - 3000) % 100)) else if 2000 ≤ n then lenOf (args.getD (n - 2000) undef) else intOf (args.getD (n - 1000) undef)
def argF : Nat → List A0 → List Fa
  | _, [] => []
  | i, t :: ts => (match t with
    | .val false [.int _ _ _] => eqs (.val (.t i)) (.gh (1000 + i)) 0
    | .val false [.sl _] => eqs (.len (.t i)) (.gh (2000 + i)) 0
    | .val false [.slb _ _] => eqs (.len (.t i)) (.gh (2000 + i)) 0
    | .val true cs => slsOf cs (fun j _ => if j < 100 then eqs (.len (.f i j)) (.gh (3000 + 100 * i + j)) 0 else []) 0
    | _ => []) ++ argF (i + 1) ts
def isI64 : IntKind → Bool
  | .i64 => true
  | _ => false
def rangeC (v : Vr) : CT → List Fa
  | .int k lo hi => bif isI64 k && !(decide (lo = -9223372036854775808)) then [.le (.c lo) (.val v) 0, .le (.val v) (.c hi) 0] else []
  | _ => []
def rangeA (i : Nat) : A0 → List Fa
  | .val true cs => cellsOf cs (fun j c => rangeC (.f i j) c) 0
  | _ => []
def rangesF : Nat → List A0 → Rs
  | _, [] => []
  | i, t :: ts => rangeS (some i) (some (.one t)) ++ (plain (rangeA i t) ++ rangesF (i + 1) ts)
def preF : List (C3 × C3 × Int) → List Fa
  | [] => []
  | (s, t, c) :: ps => (match s.gh, t.gh with
    | some s, some t => [.le s t c]
    | _, _ => []) ++ preF ps
def resBits (rs : List ResultVar) : Nat := rs.foldl (fun m r => match r with
  | .tmp t => m ||| bit t
  | .cell x _ => m ||| bit x) 0
def cellV (fs : List Fa) (p k : Nat) : Option Vr := match fs with
  | [] => none
  | .cell v q j :: fs => if q = p ∧ j = k then some v else cellV fs p k
  | _ :: fs => cellV fs p k
def outTm (outs : List A0) (rs : List ResultVar) (fs : List Fa) : C3 → Option Tm
  | .ov k => match rs[k]? with
    | some (.tmp t) => some (.val (.t t))
    | _ => none
  | .ol k => match rs[k]? with
    | some (.tmp t) => some (.len (.t t))
    | _ => none
  | .of_ k j => match rs[k]? with
    | some (.tmp t) => some (.len (.f t j))
    | some (.cell x _) => match rootOf fs x, outs[k]? with
      | some (p, o), some (.val true cs) => if j < cs.length then (cellV fs p (o + j)).map .len else none
      | _, _ => none
    | none => none
  | s => s.gh
section
variable (P : Program) (lay : Lay) (els : List (TypeId × TypeId × Nat)) (Fs : FuncId → Option Sg) (Xs : FuncId → Option Sx) (inv : Nat → Option Inv)
def resX (Γ : Env) (fs : List Fa) : ResultVar → Option A0
  | .tmp t => resT P (refine1 Γ fs t) (.tmp t)
  | r => resT P Γ r
def resFit (u t : A0) : Option (List Gr) := if sub0 u t = true then some [] else fitA u t
def ressX (Γ : Env) (fs : List Fa) : List ResultVar → List A0 → Option (List Gr)
  | [], [] => some []
  | r :: rs, t :: ts => match resX P Γ fs r with
    | some u => match resFit u t, ressX Γ fs rs ts with
      | some g1, some g2 => some (g1 ++ g2)
      | _, _ => none
    | none => none
  | _, _ => none
def postX (outs : List A0) (Γ : Env) (R : Rs) (rs : List ResultVar) : List (Option Bool × C3 × C3 × Int) → Bool
  | [] => true
  | (none, s, t, c) :: ps => (let fs := act R []
    match outTm outs rs fs s, outTm outs rs fs t with
    | some s, some t => ent fs s t c
    | _, _ => false) && postX outs Γ R rs ps
  | (some b, s, t, c) :: ps => (match rs with
    | [.tmp r] => (caseB Γ 3 R r b).all fun R' => !(alive R') || (let fs := act R' []
      match outTm outs rs fs s, outTm outs rs fs t with
      | some s, some t => ent fs s t c
      | _, _ => false)
    | _ => false) && postX outs Γ R rs ps
def frsX (Γ : Env) (R : Rs) (rs : List ResultVar) (l : List (Nat × Nat)) : Bool :=
  let fs := act R []
  l.all fun x => match rs[x.1]? with
    | some (.cell y _) => match rootOf fs y with
      | some (p, o) => fs.any fun f => match f with
        | .cell v q j => decide (q = p) && decide (j = o + x.2) && decide (Fa.frs v ∈ fs)
        | _ => false
      | none => false
    | some (.tmp t) => decide (Fa.frs (.f t x.2) ∈ fs)
    | none => false
def eltsX (Γ : Env) (R : Rs) (rs : List ResultVar) (l : List (C3 × Int)) : Bool := isNil l || (match rs with
  | [.tmp t] => (match look Γ none t with
    | some (.one (.slf _)) => true
    | some (.one (.sli _ _ _)) => true
    | some (.one (.val false [.nil])) => true
    | _ => false) && (let fs := act R []
    l.all fun x => match x.1.gh with
      | some T => fs.any fun f => match f with
        | .elts v u c' => Vr.eqb v (.t t) && ent fs u T (x.2 - c')
        | .le s (.c c) c' => Tm.eqb s (.len (.t t)) && decide (c + c' ≤ 0)
        | _ => false
      | none => false)
  | _ => false)
def endX (fn : Func) (s : Sx) (Γ : Env) (R : Rs) : Option (List Gr) := match ressX P Γ (act R []) fn.results.toList s.sg.outs with
  | some gr => if postX s.sg.outs Γ R fn.results.toList s.post && (frsX Γ R fn.results.toList s.frs && eltsX Γ R fn.results.toList s.els) = true then some gr else none
  | none => none
def endsX (fn : Func) (s : Sx) : Ways → Option (List Gr)
  | [] => some []
  | (.out _, _, _) :: _ => none
  | (.norm, Γ, R) :: ws => match endX P fn s Γ R, endsX fn s ws with
    | some g1, some g2 => some (mergeGr g1 g2)
    | _, _ => none
  | (.ret, Γ, R) :: ws => match endX P fn s Γ R, endsX fn s ws with
    | some g1, some g2 => some (mergeGr g1 g2)
    | _, _ => none
def chkFX (fn : Func) (c : Code) (s : Sx) : Option (List Gr) :=
  match chkW P lay els Fs Xs fn.ntmps inv (resBits fn.results.toList) (envOf 0 s.sg.ins) (((argF 0 s.sg.ins ++ preF s.pre).map fun f => (([] : Gs), f)) ++ rangesF 0 s.sg.ins) c with
  | some (ws, gr) => match endsX P fn s ws with
    | some gr' => if s.sg.ins.all isVal && decide (s.sg.ins.length ≤ fn.ntmps) && (ghs c).all (fun n => decide (n < 900)) then some (gr ++ gr') else none
    | none => none
  | none => none
end
section
variable {P : Program} {lay : Lay} {els : List (TypeId × TypeId × Nat)} {Fs : FuncId → Option Sg} {Xs : FuncId → Option Sx} {nt B F : Nat} {inv : Nat → Option Inv} {K K' : Bounds} {w0 w w' : World} {γ γ' : Nat → Int} {G : FuncId → Bounds → Bounds} {Γ Γ0 : Env} {R R0 : Rs} {a : Act} {g : Gd} {fs : List Fa} {args : List Value}
theorem gh_den {s : C3} {t : Tm} (h : s.gh = some t) (hγ : ∀ n, 1000 ≤ n → γ n = γArg args n) (n : Nat) (v : Value) : t.den γ a = s.den args n v := by
  cases s with
  | k x => obtain rfl := Option.some.inj h; rfl
  | av i =>
    simp only [C3.gh] at h
    split at h
    · obtain rfl := Option.some.inj h
      simp only [Tm.den, C3.den]
      rw [hγ _ (by omega)]
      unfold γArg
      rw [if_neg (by omega), if_neg (by omega), show 1000 + i - 1000 = i by omega]
    · cases h
  | al i =>
    simp only [C3.gh] at h
    split at h
    · obtain rfl := Option.some.inj h
      simp only [Tm.den, C3.den]
      rw [hγ _ (by omega)]
      unfold γArg
      rw [if_neg (by omega), if_pos (by omega), show 2000 + i - 2000 = i by omega]
    · cases h
  | af i j =>
    simp only [C3.gh] at h
    split at h
    · obtain rfl := Option.some.inj h
      simp only [Tm.den, C3.den]
      rw [hγ _ (by omega)]
      unfold γArg
      rw [if_pos (by omega), show (3000 + 100 * i + j - 3000) / 100 = i by omega, show (3000 + 100 * i + j - 3000) % 100 = j by omega]
    · cases h
  | ov i => simp [C3.gh] at h
  | ol i => simp [C3.gh] at h
  | of_ i j => simp [C3.gh] at h
theorem argF_ok (hγ : ∀ n, 1000 ≤ n → γ n = γArg args n) : ∀ (ts : List A0) (i : Nat), i + ts.length ≤ 1000 → (∀ k, k < ts.length → a.eval (.tmp (i + k)) = args.getD (i + k) undef) → FsOK γ a w (argF i ts)
  | [], _, _, _ => .nil
  | t :: ts, i, hi, hk => by
    have h0 : a.eval (.tmp i) = args.getD i undef := by simpa using hk 0 (by simp)
    simp only [List.length_cons] at hi
    unfold argF
    refine .app ?_ (argF_ok hγ ts (i + 1) (by omega) fun k hkl => ?_)
    · split
      · refine eqs_ok ?_
        simp only [Tm.den, Vr.ev, h0]
        rw [hγ _ (by omega)]
        unfold γArg
        rw [if_neg (by omega), if_neg (by omega), show 1000 + i - 1000 = i by omega]
        omega
      · refine eqs_ok ?_
        simp only [Tm.den, Vr.ev, h0]
        rw [hγ _ (by omega)]
        unfold γArg
        rw [if_neg (by omega), if_pos (by omega), show 2000 + i - 2000 = i by omega]
        omega
      · refine eqs_ok ?_
        simp only [Tm.den, Vr.ev, h0]
        rw [hγ _ (by omega)]
        unfold γArg
        rw [if_neg (by omega), if_pos (by omega), show 2000 + i - 2000 = i by omega]
        omega
      · refine slsOf_ok fun j c _ => ?_
        split
        · refine eqs_ok ?_
          simp only [Tm.den, Vr.ev, h0]
          rw [hγ _ (by omega)]
          unfold γArg
          rw [if_pos (by omega), show (3000 + 100 * i + (0 + j) - 3000) / 100 = i by omega, show (3000 + 100 * i + (0 + j) - 3000) % 100 = 0 + j by omega]
          omega
        · exact .nil
      · exact .nil
    · have := hk (k + 1) (by simp; omega)
      rwa [show i + (k + 1) = i + 1 + k by omega] at this
theorem cellsOf_ok' {g : Nat → CT → List Fa} : ∀ (cs : List CT) (j : Nat), (∀ k c, cs[k]? = some c → FsOK γ a w (g (j + k) c)) → FsOK γ a w (cellsOf cs g j)
  | [], _, _ => .nil
  | c :: cs, j, h => by
    refine .app (h 0 c rfl) (cellsOf_ok' cs (j + 1) fun k c' hk => ?_)
    have := h (k + 1) c' (by simpa using hk)
    rwa [show j + (k + 1) = j + 1 + k by omega] at this
theorem rangeA_ok {i : Nat} {t : A0} (h : VOK lay B F K w t (a.eval (.tmp i))) : FsOK γ a w (rangeA i t) := by
  unfold rangeA
  split
  · rename_i cs
    obtain ⟨arr, e1, e2⟩ := h
    refine cellsOf_ok' cs 0 fun k c hk => ?_
    rw [Nat.zero_add]
    unfold rangeC
    split
    · rename_i kk lo hi
      generalize (isI64 kk && !(decide (lo = -9223372036854775808))) = bb
      cases bb with
      | false => exact .nil
      | true =>
        have hl : k < arr.size := by have := (List.getElem?_eq_some_iff.1 hk).1; have := e2.1; simp at this; omega
        obtain ⟨x, hx, h1, h2⟩ := e2.2 k _ arr[k] hk (by simp [hl])
        have hv : (Vr.f i k).ev a = .int kk x := by simp [Vr.ev, e1, partOf, Array.getD_eq_getD_getElem?, hl, hx]
        refine .cons ?_ (.cons ?_ .nil)
        · show lo ≤ intOf ((Vr.f i k).ev a) + 0
          rw [hv]; simp only [intOf]; omega
        · show intOf ((Vr.f i k).ev a) ≤ hi + 0
          rw [hv]; simp only [intOf]; omega
    · exact .nil
  · exact .nil
theorem rangesF_ok (hlim : ∀ e, K e ≤ LIM) : ∀ (ts : List A0) (i : Nat), (∀ k t, ts[k]? = some t → VOK lay B F K w t (a.eval (.tmp (i + k)))) → RsOK γ a w (rangesF i ts)
  | [], _, _ => .nil
  | t :: ts, i, h => by
    unfold rangesF
    refine .app (rangeS_ok (lay := lay) (B := B) (F := F) (K := K) (w' := w) hlim fun d' hd t' ht => ?_) (.app (plain_ok (rangeA_ok (lay := lay) (B := B) (F := F) (K := K) (h 0 t rfl))) (rangesF_ok hlim ts (i + 1) fun k t' hk => ?_))
    · obtain rfl := Option.some.inj hd
      obtain rfl := Option.some.inj ht
      exact h 0 t rfl
    · have := h (k + 1) t' (by simpa using hk)
      rwa [show i + (k + 1) = i + 1 + k by omega] at this
theorem preF_ok (hγ : ∀ n, 1000 ≤ n → γ n = γArg args n) : ∀ {pre : List (C3 × C3 × Int)}, PreOK args pre → FsOK γ a w (preF pre)
  | [], _ => .nil
  | (s, t, c) :: ps, h => by
    unfold preF
    refine .app ?_ (preF_ok hγ fun x hx => h x (List.mem_cons_of_mem _ hx))
    split
    · rename_i s' t' hs ht
      refine .cons ?_ .nil
      show s'.den γ a ≤ t'.den γ a + c
      rw [gh_den hs hγ 0 undef, gh_den ht hγ 0 undef]
      exact h _ (List.mem_cons_self ..)
    · exact .nil
theorem cellV_mem : ∀ {fs : List Fa} {p k : Nat} {v : Vr}, cellV fs p k = some v → Fa.cell v p k ∈ fs
  | [], _, _, _, h => by cases h
  | f :: fs, p, k, v, h => by
    cases f with
    | cell u q j =>
      unfold cellV at h
      split at h
      · rename_i hq
        obtain ⟨rfl, rfl⟩ := hq
        obtain rfl := Option.some.inj h
        exact List.mem_cons_self ..
      · exact List.mem_cons_of_mem _ (cellV_mem h)
    | _ => exact List.mem_cons_of_mem _ (cellV_mem (by simpa [cellV] using h))
/-- A result, and where it was. -/
def ResIs (a : Act) (w : World) : ResultVar → Value → Prop
  | .tmp t, v => v = a.eval (.tmp t)
  | .cell x _, v => ∃ b off, a.eval (.tmp x) = .pointer (some ⟨b, off, none⟩) ∧ ∀ (j : Nat) (u : Value), v.cells[j]? = some u → w.cell? ⟨b, off + j, none⟩ = some u
theorem resX_ok (hγ : γ 999 = (F : Int)) (hst : St lay nt B F w0 K (fun _ => True) Γ a w) (hlim : ∀ e, K e ≤ LIM) (hfs : FsOK γ a w fs) {r : ResultVar} {t : A0} (h : resX P Γ fs r = some t) :
    ∃ v, (readR a.tmps r).run P w = .ok v w ∧ VOK lay B F K w t v ∧ ResIs a w r v := by
  cases r with
  | tmp i =>
    simp only [resX, resT] at h
    split at h
    · rename_i ht
      obtain rfl := Option.some.inj h
      exact ⟨_, rfl, look_ok (refine1_ok hγ hst.env hlim hfs i) (g := none) trivial trivial ht, rfl⟩
    · cases h
  | cell x ty =>
    simp only [resX, resT] at h
    split at h
    · rename_i cs d i hx hu hi
      split at h
      · rename_i hc
        obtain rfl := Option.some.inj h
        have hv : VOK lay B F K w (.ptr cs) (a.eval (.tmp x)) := look_ok hst.env (g := none) trivial trivial hx
        obtain ⟨u, h1, h2, b, off, h3, h4⟩ := load_ok (P := P) hst.typed (rd_of_ptr hst.base.1 hv) hu hi hc.1 (fun hd => hc.2.resolve_left (by simp [hd]))
        refine ⟨u, ?_, h2, b, off, h3, h4⟩
        have he' : a.tmps.getD x undef = .pointer (some ⟨b, off, none⟩) := h3
        rw [h3] at h1
        simp only [Instr.loadAt, Instr.sureAddr, Sem.run_bind, Sem.run_pure, Result.andThen_ok] at h1
        simp only [readR, he', asAddr, Sem.run_bind, Sem.run_pure, Result.andThen_ok]
        exact h1
      · cases h
    · cases h
def RessIs (a : Act) (w : World) : List ResultVar → List Value → Prop
  | [], [] => True
  | r :: rs, v :: vs => ResIs a w r v ∧ RessIs a w rs vs
  | _, _ => False
theorem RessIs.at : ∀ {rs : List ResultVar} {vs : List Value}, RessIs a w rs vs → ∀ (k : Nat) (r : ResultVar), rs[k]? = some r → ∃ v, vs[k]? = some v ∧ ResIs a w r v
  | [], [], _, _, _, h => by cases h
  | r :: rs, v :: vs, h, k, r', hr => by
    rcases k with _ | k
    · obtain rfl : r = r' := by simpa using hr
      exact ⟨v, rfl, h.1⟩
    · exact RessIs.at h.2 k r' (by simpa using hr)
theorem ressX_ok (hγ : γ 999 = (F : Int)) (hG : GOK G) (hst : St lay nt B F w0 K (fun _ => True) Γ a w) (hlim : ∀ e, K e ≤ LIM) (hfs : FsOK γ a w fs) : ∀ {rs : List ResultVar} {ts : List A0} {gr : List Gr}, ressX P Γ fs rs ts = some gr →
    ∃ vs, (rs.mapM (readR a.tmps)).run P w = .ok vs w ∧ VOKs lay B F (den G gr K) w ts vs ∧ RessIs a w rs vs
  | [], [], gr, h => by
    obtain rfl : [] = gr := by simpa [ressX] using h
    exact ⟨[], rfl, trivial, trivial⟩
  | r :: rs, t :: ts, gr, h => by
    unfold ressX at h
    split at h
    · rename_i u hu
      split at h
      · rename_i g1 g2 h1 h2
        obtain rfl := Option.some.inj h
        obtain ⟨v, k1, k2, k5⟩ := resX_ok hγ hst hlim hfs hu
        obtain ⟨vs, k3, k4, k6⟩ := ressX_ok hγ hG hst hlim hfs h2
        refine ⟨v :: vs, ?_, ⟨?_, ?_⟩, k5, k6⟩
        · rw [List.mapM_cons, Sem.run_bind, k1, Result.andThen_ok, Sem.run_bind, k3]
          rfl
        · have h3 : VOK lay B F (den G g1 K) w t v := by
            unfold resFit at h1
            split at h1
            · rename_i hs
              obtain rfl := Option.some.inj h1
              exact sub0_ok hs k2
            · exact (fitA_ok h1 k2).1
          rw [den_append]
          exact h3.keeps (Keeps.refl _) (den_up hG g2 _)
        · rw [den_append]
          exact k4.keeps (Keeps.refl _) (den_mono hG g2 (den_up hG g1 K))
      · cases h
    · cases h
  | [], _ :: _, _, h => by simp [ressX] at h
  | _ :: _, [], _, h => by simp [ressX] at h
theorem endsX_ok (hG : GOK G) {fn : Func} {s : Sx} : ∀ {ws : Ways} {gr : List Gr}, endsX P fn s ws = some gr → ∀ x ∈ ws, (∀ id, x.1 ≠ .out id) ∧ ∃ g1, endX P fn s x.2.1 x.2.2 = some g1 ∧ ∀ K e, den G g1 K e ≤ den G gr K e
  | [], _, _, x, hx => by cases hx
  | (.out id, Γ, R) :: ws, gr, h, x, hx => by simp [endsX] at h
  | (.norm, Γ, R) :: ws, gr, h, x, hx => by
    unfold endsX at h
    split at h
    · rename_i g1 g2 h1 h2
      obtain rfl := Option.some.inj h
      rcases List.mem_cons.1 hx with rfl | hx
      · exact ⟨fun id => by simp, g1, h1, merge_l hG _ _⟩
      · obtain ⟨k1, g3, k2, k3⟩ := endsX_ok hG h2 x hx
        exact ⟨k1, g3, k2, fun K e => Nat.le_trans (k3 K e) (merge_r hG _ _ K e)⟩
    · cases h
  | (.ret, Γ, R) :: ws, gr, h, x, hx => by
    unfold endsX at h
    split at h
    · rename_i g1 g2 h1 h2
      obtain rfl := Option.some.inj h
      rcases List.mem_cons.1 hx with rfl | hx
      · exact ⟨fun id => by simp, g1, h1, merge_l hG _ _⟩
      · obtain ⟨k1, g3, k2, k3⟩ := endsX_ok hG h2 x hx
        exact ⟨k1, g3, k2, fun K e => Nat.le_trans (k3 K e) (merge_r hG _ _ K e)⟩
    · cases h
theorem outTm_ok (hfs : FsOK γ a w fs) (hγ : ∀ n, 1000 ≤ n → γ n = γArg args n) {outs : List A0} {rs : List ResultVar} {vs : List Value} (hr : RessIs a w rs vs) (hty : VOKs lay B F K w outs vs) {n : Nat} {v : Value} (hv : ∀ k u, vs[k]? = some u → outAt n v k = u) {s : C3} {t : Tm} (h : outTm outs rs fs s = some t) : t.den γ a = s.den args n v := by
  cases s with
  | ov k =>
    simp only [outTm] at h
    split at h
    · rename_i i hk
      obtain rfl := Option.some.inj h
      obtain ⟨u, hu, hu2⟩ := hr.at k _ hk
      simp only [Tm.den, C3.den, Vr.ev, hv k u hu]
      rw [show u = a.eval (.tmp i) from hu2]
    · cases h
  | ol k =>
    simp only [outTm] at h
    split at h
    · rename_i i hk
      obtain rfl := Option.some.inj h
      obtain ⟨u, hu, hu2⟩ := hr.at k _ hk
      simp only [Tm.den, C3.den, Vr.ev, hv k u hu]
      rw [show u = a.eval (.tmp i) from hu2]
    · cases h
  | of_ k j =>
    simp only [outTm] at h
    split at h
    · rename_i i hk
      obtain rfl := Option.some.inj h
      obtain ⟨u, hu, hu2⟩ := hr.at k _ hk
      simp only [Tm.den, C3.den, Vr.ev, hv k u hu]
      rw [show u = a.eval (.tmp i) from hu2]
    · rename_i x ty hk
      split at h
      · rename_i p o cs hro hout
        split at h
        rotate_left
        · cases h
        rename_i hjc
        obtain ⟨z, hz, rfl⟩ := Option.map_eq_some_iff.1 h
        obtain ⟨u, hu, b, off, e1, e2⟩ := hr.at k _ hk
        obtain ⟨u', hu', arr, harr, hofs⟩ := hty.at.2 k _ hout
        rw [hu] at hu'
        obtain rfl := Option.some.inj hu'
        subst harr
        have hj : j < arr.size := by have := hofs.1; simp at this; omega
        obtain ⟨b1, f1, f2, _⟩ := hfs _ (rootOf_mem hro)
        obtain ⟨rfl, rfl⟩ : b = b1 ∧ off = o := by rw [e1] at f2; simpa using f2
        obtain ⟨b2, f3, f4⟩ := hfs _ (cellV_mem hz)
        obtain rfl : b = b2 := by rw [f1] at f3; simpa using f3
        have e3 := e2 j arr[j] (by simp [Value.cells, hj])
        rw [e3] at f4
        simp only [Tm.den, C3.den, hv k _ hu, partOf]
        rw [← Option.some.inj f4]
        simp [Array.getD_eq_getD_getElem?, hj]
      · cases h
    · cases h
  | k x => exact gh_den (by simpa [outTm] using h) hγ n v
  | av i => exact gh_den (by simpa [outTm] using h) hγ n v
  | al i => exact gh_den (by simpa [outTm] using h) hγ n v
  | af i j => exact gh_den (by simpa [outTm] using h) hγ n v
theorem part_some {u : Value} {j : Nat} {A : Option Addr} {m c : Nat} (h : partOf u j = .slice A m c) : ∃ arr, (u = .agg arr ∨ u = .tuple arr) ∧ arr[j]? = some (.slice A m c) := by
  unfold partOf at h
  split at h
  · rename_i j' arr
    refine ⟨arr, .inl rfl, ?_⟩
    rw [Array.getD_eq_getD_getElem?] at h
    cases hj : arr[j]? with
    | none => rw [hj] at h; simp [undef] at h
    | some x => rw [hj] at h; simp at h; rw [h]
  · rename_i j' arr
    refine ⟨arr, .inr rfl, ?_⟩
    rw [Array.getD_eq_getD_getElem?] at h
    cases hj : arr[j]? with
    | none => rw [hj] at h; simp [undef] at h
    | some x => rw [hj] at h; simp at h; rw [h]
  · simp [undef] at h
theorem frsX_ok {w1 : World} (hγ : γ 999 = (w1.heap.size : Int)) (hR : ∀ x ∈ R, GsOK a x.1 → x.2.ok γ a w) {rs : List ResultVar} {vs : List Value} (hr : RessIs a w rs vs) {outs : List A0} (hty : VOKs lay B F K w outs vs) {n : Nat} {v : Value} (hv : ∀ k u, vs[k]? = some u → outAt n v k = u) {l : List (Nat × Nat)} (h : frsX Γ R rs l = true) : FrsOK w1 n v l := fun x hx A m c ad h1 h2 => by
  have hfs : FsOK γ a w (act R []) := act_ok hR gsok_nil
  unfold frsX at h
  have h3 := List.all_eq_true.1 h x hx
  split at h3
  · rename_i y ty hk
    split at h3
    · rename_i p o hro
      obtain ⟨u, hu, b, off, e1, e2⟩ := hr.at _ _ hk
      rw [hv _ u hu] at h1
      obtain ⟨b1, f1, f2, _⟩ := hfs _ (rootOf_mem hro)
      obtain ⟨rfl, rfl⟩ : b = b1 ∧ off = o := by rw [e1] at f2; simpa using f2
      obtain ⟨f, hf, h4⟩ := List.any_eq_true.1 h3
      split at h4
      · rename_i z q j
        simp only [Bool.and_eq_true, decide_eq_true_eq] at h4
        obtain ⟨⟨rfl, rfl⟩, h5⟩ := h4
        obtain ⟨b2, f3, f4⟩ := hfs _ hf
        obtain rfl : b = b2 := by rw [f1] at f3; simpa using f3
        obtain ⟨arr, harr, hj⟩ := part_some h1
        obtain ⟨t, ht⟩ : ∃ t, outs[x.1]? = some t := by
          have hl := hty.at.1
          have := (List.getElem?_eq_some_iff.1 hu).1
          exact ⟨_, List.getElem?_eq_getElem (by omega)⟩
        obtain ⟨u', hu', hvt⟩ := hty.at.2 _ t ht
        rw [hu] at hu'
        obtain rfl := Option.some.inj hu'
        rcases harr with rfl | rfl
        · rw [e2 x.2 _ (by simpa [Value.cells] using hj)] at f4
          have := hfs _ h5 A m c ad (Option.some.inj f4).symm h2
          omega
        · exfalso
          match t, hvt with
          | .val false cs, hvt => exact absurd (Ofs.one hvt _ (List.mem_singleton.2 rfl)) (by simp [Value.oneCell'])
          | .val true cs, ⟨_, he, _⟩ => cases he
          | .sli _ _ _, ⟨_, _, _, he, _⟩ => cases he
          | .slf _, ⟨_, _, _, he, _⟩ => cases he
          | .ptr _, ⟨_, _, _, _, he, _⟩ => cases he
          | .rd _, ⟨_, _, _, _, he, _⟩ => cases he
          | .inp, ⟨_, _, _, he, _⟩ => cases he
          | .inpp, ⟨_, _, _, he, _⟩ => cases he
      · cases h4
    · cases h3
  · rename_i t hk
    obtain ⟨u, hu, hu2⟩ := hr.at _ _ hk
    rw [hv _ u hu] at h1
    have h5 := of_decide_eq_true h3
    have := hfs _ h5 A m c ad (by simp only [Vr.ev]; rw [← (show u = a.eval (.tmp t) from hu2)]; exact h1) h2
    omega
  · cases h3
theorem and_lr {x y : Bool} (h : (x && y) = true) : x = true ∧ y = true := by simpa using h
theorem eltsX_ok {F' : Nat} {K2 : Bounds} {w1 : World} (hγ0 : γ 999 = (w1.heap.size : Int)) (hγ : ∀ n, 1000 ≤ n → γ n = γArg args n) (hE : EOK lay B F K w (fun _ => True) Γ a) (hF : F = w1.heap.size) (hR : ∀ x ∈ R, GsOK a x.1 → x.2.ok γ a w) {rs : List ResultVar} {vs : List Value} (hr : RessIs a w rs vs) {outs : List A0} (hty : VOKs lay B F' K2 w outs vs) {v : Value} (hv : ∀ k u, vs[k]? = some u → outAt outs.length v k = u) {l : List (C3 × Int)} (h : eltsX Γ R rs l = true) : EltsOK args outs.length w1 w v l := by
  have hfs : FsOK γ a w (act R []) := act_ok hR gsok_nil
  unfold eltsX at h
  rcases of_or h with h | h
  · rw [isNil_eq h]
    exact fun x hx => by cases hx
  · split at h
    · rename_i t _
      simp only [Bool.and_eq_true] at h
      match vs, hr with
      | [u], hr =>
        have hu : u = a.eval (.tmp t) := hr.1
        have hvu : v = u := by
          have h1 := hv 0 u rfl
          have h2 := hty.at.1
          unfold outAt at h1
          rwa [if_pos (by simpa using h2.symm)] at h1
        intro x hx A m c hA
        have het : a.eval (.tmp t) = .slice A m c := hu.symm.trans (hvu.symm.trans hA)
        refine ⟨?_, fun ad ha => ?_⟩
        · have h3 := List.all_eq_true.1 h.2 x hx
          split at h3
          · rename_i T hT
            obtain ⟨f, hf, h4⟩ := List.any_eq_true.1 h3
            split at h4
            · rename_i v' u' c'
              simp only [Bool.and_eq_true] at h4
              obtain rfl := Vr.eqb_eq h4.1
              have hle := ent_ok hfs h4.2
              rw [gh_den (a := a) hT hγ outs.length v] at hle
              intro j hj
              obtain ⟨b1, o1, u1, f1, f2, k1, x1, f3, f4, f5⟩ := hfs _ hf A m c het j hj
              exact ⟨b1, o1, u1, f1, f2, k1, x1, f3, f4, by omega⟩
            · rename_i s c0 c'
              simp only [Bool.and_eq_true, decide_eq_true_eq] at h4
              have h5 := hfs _ hf
              rw [Tm.eqb_eq h4.1] at h5
              have h5 : lenOf (a.eval (.tmp t)) ≤ c0 + c' := h5
              rw [het] at h5
              simp only [lenOf] at h5
              exact fun j hj => by omega
            · cases h4
          · cases h3
        · subst hF
          have h6 := h.1
          split at h6
          · rename_i e hl
            obtain ⟨A', n', c', e1, _, e3⟩ : VOK lay B w1.heap.size K w (.slf e) (a.eval (.tmp t)) := look_ok hE (g := none) trivial trivial hl
            rw [het] at e1
            obtain ⟨rfl, _⟩ : A = A' ∧ _ := by simpa using e1
            exact e3 ad ha
          · rename_i e b j hl
            obtain ⟨A', n', c', e1, _, e3, _⟩ : VOK lay B w1.heap.size K w (.sli e b j) (a.eval (.tmp t)) := look_ok hE (g := none) trivial trivial hl
            rw [het] at e1
            obtain ⟨rfl, _⟩ : A = A' ∧ _ := by simpa using e1
            exact e3 ad ha
          · rename_i hl
            have e0 : VOK lay B w1.heap.size K w (.val false [.nil]) (a.eval (.tmp t)) := look_ok hE (g := none) trivial trivial hl
            have e1 : a.eval (.tmp t) = .slice none 0 0 := e0.2 0 _ _ rfl rfl
            rw [het] at e1
            obtain ⟨rfl, _⟩ : A = none ∧ _ := by simpa using e1
            cases ha
          · cases h6
    · cases h
theorem postX_ok (hE : EOK lay B F K w (fun _ => True) Γ a) (hR : ∀ x ∈ R, GsOK a x.1 → x.2.ok γ a w) (hγ : ∀ n, 1000 ≤ n → γ n = γArg args n) {outs : List A0} {rs : List ResultVar} {vs : List Value} (hr : RessIs a w rs vs) (hty : VOKs lay B F K w outs vs) {n : Nat} {v : Value} (hv : ∀ k u, vs[k]? = some u → outAt n v k = u) (h1 : ∀ u, vs = [u] → v = u) : ∀ {post : List (Option Bool × C3 × C3 × Int)}, postX outs Γ R rs post = true → PostOK args n v post
  | [], _, x, hx => by cases hx
  | (none, s, t, c) :: ps, h, x, hx => by
    unfold postX at h
    simp only [Bool.and_eq_true] at h
    rcases List.mem_cons.1 hx with rfl | hx
    · intro _
      have h2 := h.1
      split at h2
      · rename_i s' t' hs ht
        have hfs : FsOK γ a w (act R []) := act_ok hR gsok_nil
        have := ent_ok hfs h2
        rw [outTm_ok hfs hγ hr hty hv hs, outTm_ok hfs hγ hr hty hv ht] at this
        exact this
      · cases h2
    · exact postX_ok hE hR hγ hr hty hv h1 h.2 x hx
  | (some b, s, t, c) :: ps, h, x, hx => by
    unfold postX at h
    simp only [Bool.and_eq_true] at h
    rcases List.mem_cons.1 hx with rfl | hx
    · intro hb
      have hvb := hb b rfl
      have h2 := h.1
      split at h2
      · rename_i r
        match vs, hr with
        | [u], hr =>
          have hu : u = a.eval (.tmp r) := hr.1
          have hvu := h1 u rfl
          have hrb : a.eval (.tmp r) = .bool b := by rw [← hu, ← hvu, hvb]
          obtain ⟨R', m1, m2⟩ := caseB_ok hE 3 hR hrb
          have h3 := List.all_eq_true.1 h2 R' m1
          rw [alive_ok m2] at h3
          simp only [Bool.not_true, Bool.false_or] at h3
          split at h3
          · rename_i s' t' hs ht
            have hfs : FsOK γ a w (act R' []) := act_ok m2 gsok_nil
            have := ent_ok hfs h3
            rw [outTm_ok hfs hγ hr hty hv hs, outTm_ok hfs hγ hr hty hv ht] at this
            exact this
          · cases h3
      · cases h2
    · exact postX_ok hE hR hγ hr hty hv h1 h.2 x hx
section
theorem funcX_ok (hm : P.follows .mixedOrders = true) (hG : GOK G) (hFs : ∀ f s, Fs f = some s → FnOK P lay G f s) (hXs : ∀ f s, Xs f = some s → FnX P lay G f s) (hel : ∀ p ∈ els, Elem lay P p.1 p.2.1 p.2.2) {f : FuncId} {fn : Func} {c : Code} {s : Sx} (hf : P.funcs[f]? = some fn) (hb : fn.body = some c) (hname : (fn.name == "runtime.NumGoroutine") = false) {gr : List Gr} (hc : chkFX P lay els Fs Xs inv fn c s = some gr) (hgr : ∀ K e, den G gr K e ≤ G f K e) (hfl : s.sg.flat = true → ∀ K, G f K = K) (hlen : s.sg.ins.length ≤ 1000) : FnX P lay G f s := by
  refine ⟨fun args w => ?_, hfl, fun B K w args hfit hT hargs hpre => ?_⟩
  · unfold callFunc
    have hn : ¬ fn.name = "runtime.NumGoroutine" := by simpa using hname
    simp [hf, hn, hb]
  · unfold chkFX at hc
    split at hc
    · rename_i ws gr1 h1
      split at hc
      rotate_left
      · cases hc
      rename_i gr2 hws
      split at hc
      · rename_i hcond
        obtain rfl := Option.some.inj hc
        simp only [Bool.and_eq_true, decide_eq_true_eq] at hcond
        obtain ⟨⟨hins, hlen2⟩, hgh⟩ := hcond
        have hgr := hgr K
        rw [den_append] at hgr
        have hK1 : ∀ e, den G gr1 K e ≤ G f K e := fun e => Nat.le_trans (den_up hG gr2 _ e) (hgr e)
        have hlim1 : ∀ e, den G gr1 K e ≤ LIM := fun e => Nat.le_trans (hK1 e) (hfit e)
        refine calls_of_wp hf hb ?_
        have hal : args.size = s.sg.ins.length := by have := hargs.at.1; simpa using this
        have hev : ∀ i, i < args.size → (Act.mk (args ++ Array.replicate (fn.ntmps - args.size) undef) []).eval (.tmp i) = args.toList.getD i undef := fun i hi => by
          simp only [Act.eval, Array.getD_eq_getD_getElem?, Array.getElem?_append_left hi, List.getD, Array.getElem?_toList]
        have hst : St lay fn.ntmps B w.heap.size w K (fun _ => True) (envOf 0 s.sg.ins) { tmps := args ++ Array.replicate (fn.ntmps - args.size) undef, defers := [] } w := by
          refine ⟨hT, fun i g t _ hm' _ => ?_, Below.refl _ _, Keeps.refl _, ⟨hT.size, Nat.le_refl _⟩, by simp; omega, rfl⟩
          have key : ∀ (ts : List A0) (k : Nat), (i, g, t) ∈ envOf k ts → ∃ j t0, i = k + j ∧ ts[j]? = some t0 ∧ t = .one t0 := by
            intro ts
            induction ts with
            | nil => intro k h; cases h
            | cons t1 ts ih =>
              intro k h
              rcases List.mem_cons.1 h with he | h
              · simp only [Prod.mk.injEq] at he
                exact ⟨0, t1, by omega, rfl, he.2.2⟩
              · obtain ⟨j, t0, e1, e2, e3⟩ := ih (k + 1) h
                exact ⟨j + 1, t0, by omega, by simpa using e2, e3⟩
          obtain ⟨j, t0, e1, e2, e3⟩ := key _ _ hm'
          obtain rfl : i = j := by omega
          subst e3
          obtain ⟨v, hv1, hv2⟩ := hargs.at.2 i t0 e2
          have hi : i < args.size := by have := (List.getElem?_eq_some_iff.1 e2).1; omega
          have he : (Act.mk (args ++ Array.replicate (fn.ntmps - args.size) undef) []).eval (.tmp i) = v := by
            rw [hev i hi]; simp [List.getD, hv1]
          show VOK lay B w.heap.size K w t0 _
          rw [he]
          have hval : isVal t0 = true := List.all_eq_true.1 hins t0 (List.mem_of_getElem? e2)
          match t0, hv2, hval with
          | .val false cs, h, _ => exact h
          | .val true cs, h, _ => exact h
          | .inp, h, _ => exact h
        obtain ⟨γ0, hγ, hown⟩ : ∃ γ0 : Nat → Int, (∀ n, 1000 ≤ n → γ0 n = γArg args.toList n) ∧ γ0 999 = (w.heap.size : Int) := ⟨fun n => if n < 1000 then (w.heap.size : Int) else γArg args.toList n, fun n hn => if_neg (by omega), if_pos (by omega)⟩
        have hfacts : FsOK γ0 { tmps := args ++ Array.replicate (fn.ntmps - args.size) undef, defers := [] } w (argF 0 s.sg.ins ++ preF s.pre) := by
          refine .app (argF_ok hγ _ 0 (by omega) fun k hk => ?_) (preF_ok hγ hpre)
          rw [Nat.zero_add]
          exact hev k (by omega)
        have hlimK : ∀ e, K e ≤ LIM := fun e => Nat.le_trans (Nat.le_trans (den_up hG gr1 K e) (hK1 e)) (hfit e)
        have hranges : RsOK γ0 { tmps := args ++ Array.replicate (fn.ntmps - args.size) undef, defers := [] } w (rangesF 0 s.sg.ins) := by
          refine rangesF_ok (lay := lay) (B := B) (F := w.heap.size) (K := K) hlimK _ 0 fun k t hk => ?_
          rw [Nat.zero_add]
          have hm' : (k, (none : Gd), AT.one t) ∈ envOf 0 s.sg.ins := by
            have key : ∀ (ts : List A0) (i k : Nat) (t : A0), ts[k]? = some t → (i + k, (none : Gd), AT.one t) ∈ envOf i ts := by
              intro ts
              induction ts with
              | nil => intro i k t h; cases h
              | cons t1 ts ih =>
                intro i k t h
                rcases k with _ | k
                · obtain rfl : t1 = t := by simpa using h
                  exact List.mem_cons_self ..
                · have := ih (i + 1) k t (by simpa using h)
                  rw [show i + (k + 1) = i + 1 + k by omega]
                  exact List.mem_cons_of_mem _ this
            have := key s.sg.ins 0 k t hk
            rwa [Nat.zero_add] at this
          exact hst.env k none (.one t) trivial hm' trivial
        have hstx : StX lay fn.ntmps B w.heap.size w γ0 K (fun _ => True) (envOf 0 s.sg.ins) (((argF 0 s.sg.ins ++ preF s.pre).map fun f => (([] : Gs), f)) ++ rangesF 0 s.sg.ins) { tmps := args ++ Array.replicate (fn.ntmps - args.size) undef, defers := [] } w := by
          refine ⟨hst, rok_all fun x hx hg => ?_, hown⟩
          rcases List.mem_append.1 hx with hx | hx
          · obtain ⟨f, hf, rfl⟩ := List.mem_map.1 hx
            exact hfacts f hf
          · exact hranges x hx hg
        have fin : ∀ (Γ : Env) (R : Rs) (γ' : Nat → Int) (a' : Act) (w' : World), (∃ g1, endX P fn s Γ R = some g1 ∧ ∀ K e, den G g1 K e ≤ den G gr2 K e) → (∀ n, n ∉ ghs c → γ' n = γ0 n) → StX lay fn.ntmps B w.heap.size w γ' (den G gr1 K) (fun _ => True) Γ R a' w' →
            ∃ v, (results fn a'.tmps).run P w' = .ok v w' ∧ TOK lay B w.heap.size (G f K) w' (retT s.sg.outs) v ∧ PostOK args.toList s.sg.outs.length v s.post ∧ FrsOK w s.sg.outs.length v s.frs ∧ EltsOK args.toList s.sg.outs.length w w' v s.els := fun Γ R γ' a' w' he hag hs => by
          obtain ⟨g1, he, hg1⟩ := he
          unfold endX at he
          split at he
          rotate_left
          · cases he
          rename_i g1' hres
          split at he
          rotate_left
          · cases he
          rename_i hpost
          obtain rfl := Option.some.inj he
          have hγ' : ∀ n, 1000 ≤ n → γ' n = γArg args.toList n := fun n hn => (hag n fun h => by
            have := of_decide_eq_true (List.all_eq_true.1 hgh n h)
            omega).trans (hγ n hn)
          simp only [Bool.and_eq_true] at hpost
          have hfs : FsOK γ' a' w' (act R []) := act_ok hs.all gsok_nil
          obtain ⟨vs, r1, r2, r3⟩ := ressX_ok hs.own hG hs.st hlim1 hfs hres
          have r2 := r2.keeps (Keeps.refl w') (fun e => Nat.le_trans (hg1 _ e) (hgr e))
          have hl := r2.at.1
          have hrun : (results fn a'.tmps).run P w' = .ok (if h : vs.toArray.size = 1 then vs.toArray[0] else .tuple vs.toArray) w' := by
            rw [results_eq, Array.mapM_eq_mapM_toList, Sem.run_bind, Sem.run_map, r1]
            rfl
          have hvk : ∀ k u, vs[k]? = some u → outAt s.sg.outs.length (if h : vs.toArray.size = 1 then vs.toArray[0] else .tuple vs.toArray) k = u := fun k u hk => by
            unfold outAt
            by_cases h1 : vs.length = 1
            · obtain ⟨u0, rfl⟩ := List.length_eq_one_iff.1 h1
              rcases k with _ | k
              · obtain rfl : u0 = u := by simpa using hk
                simp [← hl]
              · simp at hk
            · rw [if_neg (by omega), dif_neg (by simpa using h1)]
              simp [partOf, Array.getD_eq_getD_getElem?, hk]
          refine ⟨_, hrun, ?_, postX_ok (hs.le hK1).st.env hs.all hγ' r3 r2 hvk (fun u hu => ?_) hpost.1, frsX_ok (Γ := Γ) hs.own hs.all r3 r2 hvk (of_decide_eq_true hpost.2).1, eltsX_ok (lay := lay) (B := B) (F := w.heap.size) (K := den G gr1 K) hs.own hγ' hs.st.env rfl hs.all r3 r2 hvk (of_decide_eq_true hpost.2).2⟩
          · match houts : s.sg.outs, vs, r2 with
            | [], [], _ => exact ⟨#[], rfl, trivial⟩
            | [t], [v], h2 => exact h2.1
            | t :: u :: ts, v :: v' :: vs, h2 => exact ⟨_, by simp; rfl, by simpa using h2⟩
          · subst hu
            simp
        refine way_ok hm hG hFs hXs hel c _ _ _ ws gr1 K (den G gr1 K) _ _ _ _ h1 (fun _ => Nat.le_refl _) hlim1 hstx fun x hx γ' a' w' hag hs => ?_
        obtain ⟨hno, hx2⟩ := endsX_ok hG hws x hx
        obtain ⟨ex, Γx, Rx⟩ := x
        cases ex with
        | norm =>
          obtain ⟨v, e1, e2, e3, e4⟩ := fin Γx Rx γ' a' w' hx2 hag hs
          exact bodyPost_end e1 hs.st.defers ⟨v, rfl, e2, hs.st.typed.le hK1, hs.st.below, e3, e4⟩
        | ret =>
          obtain ⟨v, e1, e2, e3, e4⟩ := fin Γx Rx γ' a' w' hx2 hag hs
          exact bodyPost_ret e1 hs.st.defers ⟨v, rfl, e2, hs.st.typed.le hK1, hs.st.below, e3, e4⟩
        | out id => exact absurd rfl (hno id)
      · cases hc
    · cases hc
end
end
end Go.Tz
