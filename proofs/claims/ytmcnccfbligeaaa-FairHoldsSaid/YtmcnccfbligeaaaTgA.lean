/-
  The functions of the document's world: what they take and give, how much they make longer.
-/
import Derived.Test.YtmcnccfbligeaaaTzC
import Derived.Test.YtmcnccfbligeaaaTfL
import Derived.Test.YtmcnccfbligeaaaChecked
namespace Go.Tz
/-- A table of functions. -/
def tab : List (Nat × Sg) → FuncId → Option Sg
  | [], _ => none
  | (g, s) :: l, f => bif Nat.beq g f then some s else tab l f
theorem tab_ok {P : Program} {lay : Lay} {G : FuncId → Bounds → Bounds} : ∀ {l : List (Nat × Sg)}, (∀ x ∈ l, FnOK P lay G x.1 x.2) → ∀ f s, tab l f = some s → FnOK P lay G f s
  | [], _, _, _, h => by cases h
  | (g, s) :: l, hl, f, s', h => by
    unfold tab at h
    cases hb : Nat.beq g f with
    | true =>
      rw [hb] at h
      obtain rfl := Nat.eq_of_beq_eq_true hb
      obtain rfl : s = s' := by simpa using h
      exact hl _ (List.mem_cons_self ..)
    | false =>
      rw [hb] at h
      exact tab_ok (fun x hx => hl x (List.mem_cons_of_mem _ hx)) f s' (by simpa using h)
def tabX : List (Nat × Sx) → FuncId → Option Sx
  | [], _ => none
  | (g, s) :: l, f => bif Nat.beq g f then some s else tabX l f
theorem tabX_ok {P : Program} {lay : Lay} {G : FuncId → Bounds → Bounds} : ∀ {l : List (Nat × Sx)}, (∀ x ∈ l, FnX P lay G x.1 x.2) → ∀ f s, tabX l f = some s → FnX P lay G f s
  | [], _, _, _, h => by cases h
  | (g, s) :: l, hl, f, s', h => by
    unfold tabX at h
    cases hb : Nat.beq g f with
    | true =>
      rw [hb] at h
      obtain rfl := Nat.eq_of_beq_eq_true hb
      obtain rfl : s = s' := by simpa using h
      exact hl _ (List.mem_cons_self ..)
    | false =>
      rw [hb] at h
      exact tabX_ok (fun x hx => hl x (List.mem_cons_of_mem _ hx)) f s' (by simpa using h)
def invs : List (Nat × Inv) → Nat → Option Inv
  | [], _ => none
  | (g, s) :: l, f => bif Nat.beq g f then some s else invs l f
theorem all_nil {α : Type} {p : α → Prop} : ∀ x ∈ ([] : List α), p x := fun _ h => by cases h
theorem all_cons {α : Type} {p : α → Prop} {y : α} {l : List α} (h : p y) (hl : ∀ x ∈ l, p x) : ∀ x ∈ y :: l, p x := fun x hx => by
  rcases List.mem_cons.1 hx with rfl | hx
  · exact h
  · exact hl x hx
end Go.Tz
namespace Go.Proofs.Ytmcnccfbligeaaa
open Go.RowKit Go.Rp Go.Tz

def aInt : A0 := .val false [i64T]
def aU8 : A0 := .val false [u8T]
def aBool : A0 := .val false [.bool]
def aMem : A0 := .val true [.int .i64 0 1000, .slb 2 1000, i64T]
def aTh : A0 := .val true [i64T, i64T, i64T, i64T, i64T, i64T, i64T, i64T, i64T, i64T, i64T, i64T, .sl 122]
def aOp : A0 := .val true [u8T, i32T]
def aObj : A0 := .val true [u8T, i64T, .slb 144 1000, .slb 4 20000]
def aConf : A0 := .val true [u8T, .int .i64 0 4, i64T, i64T, i64T, .bool]
def aEv : A0 := .val true [u8T, i64T, i64T, u8T, i32T, u8T, i32T, i64T]
def aEnt : A0 := .val true [u8T, i64T, u8T, i32T, u8T]
def aWorld : A0 := .val true [u8T, i64T, i64T, i64T, i64T, .bool, .int .i64 0 1000, .slb 2 1000, i64T, u8T, i64T, .slb 144 1000, .slb 4 20000, .sl 85, .sl 76, .sl 125, .sl 3, i64T]
def aSl (e : TypeId) : A0 := .val false [.sl e]
def aSb (e : TypeId) (m : Nat) : A0 := .val false [.slb e m]
def els : List (TypeId × TypeId × Nat) := [(23, 3, 8), (43, 2, 8), (47, 4, 1), (139, 21, 4), (118, 26, 8), (130, 28, 8), (22, 30, 48), (69, 74, 32), (51, 76, 48), (52, 125, 40), (83, 122, 24), (46, 144, 16), (50, 85, 120)]
theorem els_ok {ω : World} : ∀ p ∈ els, Elem (lay ω) Try.prog p.1 p.2.1 p.2.2 :=
  all_cons el_int (all_cons el_i64 (all_cons el_bool (all_cons el_i32 (all_cons el_op (all_cons el_res (all_cons el_span (all_cons el_ent (all_cons el_ev (all_cons el_app (all_cons el_it3 (all_cons el_item (all_cons el_th all_nil))))))))))))
/-- How much longer slices in rows get. -/
def gAdd (e : TypeId) (j : Nat) (K : Bounds) : Bounds := fun x => if x = e then K x + j else K x
def gApp (K : Bounds) : Bounds := (Gr.mul 125 1 [122, 85]).den (fun _ K => K) K
def gStep (K : Bounds) : Bounds := gAdd 122 1 K
def gPick (K : Bounds) : Bounds := gApp (gStep (gAdd 76 1 (gAdd 3 1 (gAdd 3 1 K))))
def gWDo (K : Bounds) : Bounds := gPick (gAdd 76 1 K)
def itG (g : Bounds → Bounds) : Nat → Bounds → Bounds
  | 0, K => K
  | n + 1, K => itG g n (g K)
def gLong (K : Bounds) : Bounds := itG gWDo 1001 (gAdd 85 8 K)
def G : FuncId → Bounds → Bounds := fun f K =>
  if f = 62 then gAdd 122 1 K else
  if f = 43 then gAdd 76 1 K else
  if f = 36 then gAdd 76 1 K else
  if f = 45 then gStep K else
  if f = 46 then gApp K else
  if f = 37 then gPick K else
  if f = 30 then gWDo K else
  if f = 27 then gAdd 85 8 K else
  if f = 18 then gLong K else K
structure Mo (g : Bounds → Bounds) : Prop where
  up : ∀ K e, K e ≤ g K e
  mono : ∀ K K', (∀ e, K e ≤ K' e) → ∀ e, g K e ≤ g K' e
theorem Mo.comp {g h : Bounds → Bounds} (mg : Mo g) (mh : Mo h) : Mo fun K => g (h K) := ⟨fun K e => Nat.le_trans (mh.up K e) (mg.up _ e), fun K K' hk e => mg.mono _ _ (mh.mono K K' hk) e⟩
theorem mo_id : Mo fun K => K := ⟨fun _ _ => Nat.le_refl _, fun _ _ h => h⟩
theorem mo_add (e : TypeId) (j : Nat) : Mo (gAdd e j) := ⟨fun K x => by unfold gAdd; split <;> omega, fun K K' h x => by have := h x; unfold gAdd; split <;> omega⟩
theorem gok0 : GOK (fun (_ : FuncId) (K : Bounds) => K) := ⟨fun _ _ _ => Nat.le_refl _, fun _ _ _ h => h⟩
theorem mo_app : Mo gApp := ⟨fun K e => Gr.den_up gok0 _ K e, fun _ _ h e => Gr.den_mono gok0 _ h e⟩
theorem mo_step : Mo gStep := mo_add _ _
theorem mo_pick : Mo gPick := mo_app.comp (mo_step.comp ((mo_add _ _).comp ((mo_add _ _).comp (mo_add _ _))))
theorem mo_wdo : Mo gWDo := mo_pick.comp (mo_add _ _)
theorem mo_it {g : Bounds → Bounds} (hg : Mo g) : ∀ n, Mo (itG g n)
  | 0 => mo_id
  | n + 1 => (mo_it hg n).comp hg
theorem mo_long : Mo gLong := by
  have h : Mo fun K => itG gWDo 1001 (gAdd 85 8 K) := Mo.comp (g := itG gWDo 1001) (h := gAdd 85 8) (mo_it mo_wdo 1001) (mo_add _ _)
  exact h
theorem mo_G (f : FuncId) : Mo (G f) := by
  unfold G
  repeat' split
  all_goals first | with_reducible exact mo_long | with_reducible exact mo_add _ _ | with_reducible exact mo_step | with_reducible exact mo_app | with_reducible exact mo_pick | with_reducible exact mo_wdo | with_reducible exact mo_id
theorem gok : GOK G := ⟨fun f => (mo_G f).up, fun f => (mo_G f).mono⟩
theorem mix : Try.prog.follows .mixedOrders = true := by kernel_rfl
end Go.Proofs.Ytmcnccfbligeaaa
