/-
  Things that lie apart from one another in memory: a list of them, and a step at the first. No program in sight.
-/
import Derived.Test.YtmcnccfbligeaaaMem
namespace Go.Rp
open Go.RowKit

/-- Something that lies in blocks of its own. -/
structure Res where
  Q : World → (Nat → Prop) → Prop
  st : Stable Q

/-- Things apart from one another, all in blocks of U. -/
def Sep (w : World) : (Nat → Prop) → List Res → Prop
  | _, [] => True
  | U, a :: l => ∃ S : Nat → Prop, (∀ b, S b → U b) ∧ a.Q w S ∧ Sep w (fun b => U b ∧ ¬ S b) l

section
variable {w w' : World} {U V S : Nat → Prop} {a b c d : Res} {l : List Res} {B : Nat}
theorem Sep.mono (h : Sep w U l) (hU : ∀ x, U x → V x) : Sep w V l := by
  induction l generalizing U V with
  | nil => trivial
  | cons a l ih =>
    obtain ⟨S, h1, h2, h3⟩ := h
    exact ⟨S, fun x hx => hU x (h1 x hx), h2, ih h3 fun x hx => ⟨hU x hx.1, hx.2⟩⟩
theorem Sep.lt (h : Sep w U l) : Sep w (fun x => U x ∧ x < w.heap.size) l := by
  induction l generalizing U with
  | nil => trivial
  | cons a l ih =>
    obtain ⟨S, h1, h2, h3⟩ := h
    exact ⟨_, fun x hx => ⟨h1 x hx.1, hx.2⟩, a.st.lt h2, (ih h3).mono fun x hx => ⟨⟨hx.1.1, hx.2⟩, fun hs => hx.1.2 hs.1⟩⟩
theorem Sep.mod {T : Nat → Prop} (h : Sep w U l) (hm : Mod T w w') (hd : ∀ x, U x → ¬ T x) : Sep w' U l := by
  induction l generalizing U with
  | nil => trivial
  | cons a l ih =>
    obtain ⟨S, h1, h2, h3⟩ := h
    exact ⟨S, h1, a.st.mod h2 hm fun x hx => hd x (h1 x hx), ih h3 fun x hx => hd x hx.1⟩
theorem Sep.keep (h : Sep w U l) (hb : Below w.heap.size w w') : Sep w' U l :=
  (h.lt.mod (T := fun b => w.heap.size ≤ b) (Mod.of_below hb) fun x hx => by omega).mono fun x hx => hx.1
theorem Sep.rot2 (h : Sep w U (a :: b :: l)) : Sep w U (b :: a :: l) := by
  obtain ⟨S, h1, h2, T, h3, h4, h5⟩ := h
  exact ⟨T, fun x hx => (h3 x hx).1, h4, S, fun x hx => ⟨h1 x hx, fun ht => (h3 x ht).2 hx⟩, h2, h5.mono fun x hx => ⟨⟨hx.1.1, hx.2⟩, hx.1.2⟩⟩
theorem Sep.cons {l' : List Res} (hl : ∀ V, Sep w V l → Sep w V l') (h' : Sep w U (a :: l)) : Sep w U (a :: l') := by
  obtain ⟨S, h1, h2, h3⟩ := h'
  exact ⟨S, h1, h2, hl _ h3⟩
/-- The third one first. -/
theorem Sep.rot3 (h : Sep w U (a :: b :: c :: l)) : Sep w U (c :: a :: b :: l) := (h.cons fun _ => Sep.rot2).rot2
theorem Sep.rot4 (h : Sep w U (a :: b :: c :: d :: l)) : Sep w U (d :: a :: b :: c :: l) := (h.cons fun _ => Sep.rot3).rot2
theorem Sep.rot5 {e : Res} (h : Sep w U (a :: b :: c :: d :: e :: l)) : Sep w U (e :: a :: b :: c :: d :: l) := (h.cons fun _ => Sep.rot4).rot2
/-- The first one is not asked for again. -/
theorem Sep.drop (h : Sep w U (a :: l)) : Sep w U l := by
  obtain ⟨S, h1, h2, h3⟩ := h
  exact h3.mono fun x hx => hx.1
/-- The first one, alone. -/
theorem Sep.get (h : Sep w U (a :: l)) : a.Q w U := by
  obtain ⟨S, h1, h2, h3⟩ := h
  exact a.st.mono h2 h1
theorem Sep.one (h : a.Q w U) : Sep w U [a] := ⟨U, fun _ h => h, h, trivial⟩
/-- What has just been made, beside all else. -/
theorem Sep.made (h : Sep w U l) (hU : ∀ x, w.heap.size ≤ x → U x) (hb : Below w.heap.size w w') (hq : a.Q w' (fun x => w.heap.size ≤ x ∧ x < w'.heap.size)) : Sep w' U (a :: l) :=
  ⟨_, fun x hx => hU x hx.1, hq, (h.lt.mod (T := fun b => w.heap.size ≤ b) (Mod.of_below hb) fun x hx => by omega).mono fun x hx => ⟨hx.1, fun hs => by omega⟩⟩
/-- A step at the first one. -/
theorem Sep.front {a' : Res} (h : Sep w U (a :: l)) (hU : ∀ x, w.heap.size ≤ x → U x) :
    ∃ S : Nat → Prop, a.Q w S ∧ (∀ x, S x → U x ∧ x < w.heap.size) ∧ ∀ w', a'.Q w' (grow S w w') → Mod S w w' → Sep w' U (a' :: l) := by
  obtain ⟨S, h1, h2, h3⟩ := h
  refine ⟨_, a.st.lt h2, fun x hx => ⟨h1 x hx.1, hx.2⟩, fun w' hq hm => ⟨_, ?_, hq, (h3.lt.mod hm fun x hx hs => hx.1.2 hs.1).mono fun x hx => ⟨hx.1.1, ?_⟩⟩⟩
  · rintro x (hx | hx)
    · exact h1 x hx.1
    · exact hU x hx.1
  · rintro (hs | hs)
    · exact hx.1.2 hs.1
    · omega
theorem Sep.step {P : Program} {f : FuncId} {args : Array Value} {r : Ending} {a' : Res} (h : Sep w (fun x => B ≤ x) (a :: l)) (hB : B ≤ w.heap.size)
    (hc : ∀ S : Nat → Prop, (∀ x, S x → x < w.heap.size) → a.Q w S → Calls P f args w fun e w' => e = r ∧ a'.Q w' (grow S w w') ∧ Mod S w w') :
    Calls P f args w fun e w' => e = r ∧ Sep w' (fun x => B ≤ x) (a' :: l) ∧ Below B w w' := by
  obtain ⟨S, h1, h2, h3⟩ := h.front (a' := a') fun x hx => Nat.le_trans hB hx
  exact (hc S (fun x hx => (h2 x hx).2) h1).mono fun e w' ⟨he, hq, hm⟩ => ⟨he, h3 w' hq hm, hm.below hB fun x hx => (h2 x hx).1⟩
/-- A step at the first one, which looks at the second one too. -/
theorem Sep.step2 {P : Program} {f : FuncId} {args : Array Value} {r : Ending} {a' : Res} (h : Sep w (fun x => B ≤ x) (a :: b :: l)) (hB : B ≤ w.heap.size)
    (hc : ∀ S R : Nat → Prop, (∀ x, R x → ¬ S x) → a.Q w S → b.Q w R → Calls P f args w fun e w' => e = r ∧ a'.Q w' (grow S w w') ∧ Mod S w w') :
    Calls P f args w fun e w' => e = r ∧ Sep w' (fun x => B ≤ x) (a' :: b :: l) ∧ Below B w w' := by
  obtain ⟨S, h1, h2, R, h4, h5, h6⟩ := h
  refine (hc _ _ ?_ (a.st.lt h2) (b.st.lt h5)).mono fun e w' ⟨he, hq, hm⟩ => ⟨he, ⟨_, ?_, hq, _, ?_, b.st.mod (b.st.lt h5) hm ?_, (h6.lt.mod hm ?_).mono ?_⟩, hm.below hB fun x hx => h1 x hx.1⟩
  · exact fun x hx hs => (h4 x hx.1).2 hs.1
  · rintro x (hx | hx)
    · exact h1 x hx.1
    · exact Nat.le_trans hB hx.1
  · rintro x hx
    refine ⟨(h4 x hx.1).1, ?_⟩
    rintro (hs | hs)
    · exact (h4 x hx.1).2 hs.1
    · omega
  · exact fun x hx hs => (h4 x hx.1).2 hs.1
  · exact fun x hx hs => hx.1.1.2 hs.1
  · intro x hx
    refine ⟨⟨hx.1.1.1, ?_⟩, fun hs => hx.1.2 hs.1⟩
    rintro (hs | hs)
    · exact hx.1.1.2 hs.1
    · omega
end

/-- A slice that is read. -/
def rdRes (sz : Nat) (hsz : 0 < sz) (A : Option Addr) (n : Nat) (xs : List Value) : Res := ⟨fun w R => Rd w R sz A n xs, stable_rd sz hsz A n xs⟩
/-- A slice of integers, read. -/
abbrev intsR (k : IntKind) (A : Option Addr) (n : Nat) (xs : List Int) : Res := rdRes 1 (by omega) A n (xs.map fun x => Value.int k x)
theorem stable_sl (e sz : Nat) (A : Option Addr) (n c : Nat) (xs : List Value) : Stable (fun w R => Sl w e sz A n c xs R) :=
  ⟨fun h hS => h.mono hS, fun h hm hd => h.mod hm hd, fun h => h.lt⟩
/-- A slice of the program's own. -/
def slRes (e sz : Nat) (A : Option Addr) (n c : Nat) (xs : List Value) : Res := ⟨fun w R => Sl w e sz A n c xs R, stable_sl e sz A n c xs⟩
/-- A block of cells. -/
theorem stable_blk (p : Nat) (t : TypeId) (cs : Array Value) : Stable (fun w R => Blk w p t cs ∧ R p) :=
  ⟨fun h hS => ⟨h.1, hS _ h.2⟩, fun h hm hd => ⟨h.1.mod hm (hd _ h.2), h.2⟩, fun h => ⟨h.1, h.2, h.1.lt⟩⟩
def blkR (p : Nat) (t : TypeId) (cs : Array Value) : Res := ⟨fun w R => Blk w p t cs ∧ R p, stable_blk p t cs⟩
section
variable {w : World} {l : List Res} {B : Nat}
theorem Sep.alloc (h : Sep w (fun x => B ≤ x) l) (hB : B ≤ w.heap.size) (cs : Array Value) (t : TypeId) : Sep (w.alloc (.cells cs t)) (fun x => B ≤ x) (blkR w.heap.size t cs :: l) :=
  h.made (fun x hx => Nat.le_trans hB hx) ((Below.refl _ w).alloc (Nat.le_refl _) _) ⟨Blk.new _ _ _, Nat.le_refl _, by simp⟩
theorem Sep.drewN (h : Sep w (fun x => B ≤ x) l) (n : Nat) : Sep (w.drewN n) (fun x => B ≤ x) l := h.keep (below_drewN (Below.refl _ w) n)
theorem Sep.drew (h : Sep w (fun x => B ≤ x) l) : Sep w.drew (fun x => B ≤ x) l := h.keep (Below.refl _ w).drew
theorem Sep.blk {p : Nat} {t : TypeId} {cs : Array Value} (h : Sep w (fun x => B ≤ x) (blkR p t cs :: l)) : Blk w p t cs := h.get.1
end
end Go.Rp
