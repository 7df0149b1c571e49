/-
  Spans.
-/
import Derived.Test.YtmcnccfbligeaaaTgB
import Derived.Test.YtmcnccfbligeaaaTgA
import Derived.Test.YtmcnccfbligeaaaFairB
namespace Go.Proofs.Ytmcnccfbligeaaa
open Go.RowKit Go.Rp Go.Tz

def s_spans : Sg := ⟨[aSl 76], [.slf 30], true⟩
def x_spans : Sx := ⟨s_spans, [], [(none, .ol 0, .al 0, 0)], [], []⟩
theorem d_spans {ω : World} : FnX Try.prog (lay ω) G 19 x_spans :=
  @funcX_ok Try.prog (lay ω) els (tab []) (tabX []) (invs [(3, ⟨[(3, .slf 30), (4, aInt)], [.le (.c 0) (.val (.t 4)) 0, .le (.val (.t 4)) (.len (.t 0)) 0, .le (.len (.t 3)) (.val (.t 4)) 0], .val (.t 4), .len (.t 0)⟩), (9, ⟨[(6, aBool), (7, aInt)], [.le (.c 0) (.val (.t 7)) 0, .le (.val (.t 7)) (.len (.t 0)) 0], .val (.t 7), .len (.t 0)⟩), (5003, ⟨[], [.le (.val (.t 4)) (.c 0) 0, .le (.c 0) (.val (.t 4)) 0, .le (.len (.t 3)) (.c 0) 0, .le (.len (.t 0)) (.gh 2000) 0, .le (.len (.t 0)) (.c 68719476736) 0], .c 1, .c 0⟩), (5009, ⟨[], [.le (.c 0) (.val (.t 4)) 0, .le (.val (.t 4)) (.len (.t 0)) (-1), .le (.len (.t 3)) (.val (.t 4)) 0, .le (.gh 7) (.val (.t 4)) 0, .le (.val (.t 4)) (.gh 7) 0, .le (.len (.t 0)) (.gh 6) 0, .le (.gh 6) (.len (.t 0)) 0, .le (.len (.t 0)) (.gh 2000) 0, .le (.len (.t 0)) (.c 68719476736) 0, .le (.c 0) (.val (.t 7)) 0, .le (.val (.t 7)) (.len (.t 0)) 0], .c 1, .c 0⟩), (5015, ⟨[], [.le (.c 0) (.val (.t 4)) 0, .le (.val (.t 4)) (.len (.t 0)) (-1), .le (.len (.t 3)) (.val (.t 4)) 0, .le (.gh 7) (.val (.t 4)) 0, .le (.val (.t 4)) (.gh 7) 0, .le (.len (.t 0)) (.gh 6) 0, .le (.gh 6) (.len (.t 0)) 0, .le (.len (.t 0)) (.gh 2000) 0, .le (.len (.t 0)) (.c 68719476736) 0], .c 1, .c 0⟩)]) G mix gok (tab_ok all_nil) (tabX_ok all_nil) els_ok 19 _ _ x_spans Try.func19 rfl rfl [] (by kernel_rfl) (fun _ _ => Nat.le_refl _) (fun _ _ => rfl) (by decide)
theorem c_spans {ω : World} : FnOK Try.prog (lay ω) G 19 s_spans := d_spans.plain rfl
end Go.Proofs.Ytmcnccfbligeaaa
/-
  Choices.
-/
namespace Go.Proofs.Ytmcnccfbligeaaa
open Go.RowKit Go.Rp Go.Tz

def s_func8 : Sg := ⟨[.inp, aInt], [.val false [.int .i64 0 255]], true⟩
def x_func8 : Sx := ⟨s_func8, [(.k 0, .av 1, 0)], [], [], []⟩
def s_config : Sg := ⟨[.inp], [aConf], true⟩
def x_config : Sx := ⟨s_config, [], [], [], []⟩
theorem d_func8 {ω : World} : FnX Try.prog (lay ω) G 33 x_func8 :=
  @funcX_ok Try.prog (lay ω) els (tab []) (tabX []) (invs []) G mix gok (tab_ok all_nil) (tabX_ok all_nil) els_ok 33 _ _ x_func8 Try.func33 rfl rfl [] (by kernel_rfl) (fun _ _ => Nat.le_refl _) (fun _ _ => rfl) (by decide)
theorem d_config {ω : World} : FnX Try.prog (lay ω) G 26 x_config :=
  @funcX_ok Try.prog (lay ω) els (tab []) (tabX [(33, x_func8)]) (invs []) G mix gok (tab_ok all_nil) (tabX_ok (all_cons d_func8 all_nil)) els_ok 26 _ _ x_config Try.func26 rfl rfl [] (by kernel_rfl) (fun _ _ => Nat.le_refl _) (fun _ _ => rfl) (by decide)
theorem c_config {ω : World} : FnOK Try.prog (lay ω) G 26 s_config := d_config.plain rfl
end Go.Proofs.Ytmcnccfbligeaaa
/-
  Rounds.
-/
namespace Go.Proofs.Ytmcnccfbligeaaa
open Go.RowKit Go.Rp Go.Tz

theorem gokR (j : Nat) : GOK (fun (_ : FuncId) => gAdd 74 j) := ⟨fun _ => (mo_add _ j).up, fun _ => (mo_add _ j).mono⟩
theorem not_ite {c : Prop} [Decidable c] {a b : List CT} {x : CT} (h1 : x ∉ a) (h2 : x ∉ b) : x ∉ (if c then a else b) := by split <;> assumption
theorem no_ent (t : TypeId) : CT.sl 74 ∉ layF t := by
  unfold layF
  repeat (refine not_ite (by decide) ?_)
  decide
theorem typed_off {ω : World} {B : Nat} {K K' : Bounds} {w : World} (h : Typed (lay ω) B K w) (hk : ∀ e, e ≠ 74 → K e ≤ K' e) : Typed (lay ω) B K' w := ⟨h.size, fun b t arr hB hb j u hu => by
  have hr := h.row b t arr hB hb j u hu
  unfold CellOK at hr ⊢
  split at hr
  · exact hr
  · exact hr
  · rename_i e he
    obtain ⟨A, n, c, h1, h2, h3⟩ := hr
    refine ⟨A, n, c, h1, Nat.le_trans h2 (hk e fun hee => ?_), h3⟩
    subst hee
    exact no_ent t (List.mem_of_getElem? he)
  · exact hr
  · exact hr
  · trivial, h.froz⟩
theorem ints_K {ω : World} {B : Nat} {K K' : Bounds} {w : World} {args : List Value} (h : VOKs (lay ω) B 0 K w [aInt, aInt] args) : VOKs (lay ω) B 0 K' w [aInt, aInt] args := by
  match args, h with
  | [u, v], ⟨h1, h2, _⟩ =>
    refine ⟨⟨h1.1, fun j c x hc hx => ?_⟩, ⟨h2.1, fun j c x hc hx => ?_⟩, trivial⟩
    · rcases j with _ | j
      · obtain rfl : i64T = c := by simpa using hc
        exact h1.2 0 _ x rfl hx
      · cases hc
    · rcases j with _ | j
      · obtain rfl : i64T = c := by simpa using hc
        exact h2.2 0 _ x rfl hx
      · cases hc
theorem forget {ω : World} {f : FuncId} {pre : List (C3 × C3 × Int)} (j : Nat) (h : FnX Try.prog (lay ω) (fun _ => gAdd 74 j) f ⟨⟨[aInt, aInt], [aSl 74], false⟩, pre, [], [], []⟩) (hG : ∀ K, G f K = K) (hj : j ≤ LIM := by decide) : FnX Try.prog (lay ω) G f ⟨⟨[aInt, aInt], [aSb 74 j], true⟩, pre, [], [], []⟩ := by
  refine ⟨h.enter, fun _ => hG, fun B K w args h1 h2 h3 h4 => ?_⟩
  have hlim : ∀ e, K e ≤ LIM := fun e => by have := h1 e; rwa [hG] at this
  refine (h.run B (fun x => if x = 74 then 0 else K x) w args (fun e => ?_) (typed_off h2 fun e he => by simp [he]) (ints_K h3) h4).mono fun e w' ⟨v, e1, e2, e3, e4, _⟩ => ⟨v, e1, ?_, ?_, e4, fun x hx => (by cases hx), fun x hx => (by cases hx), fun x hx => (by cases hx)⟩
  · unfold gAdd
    by_cases he : e = 74
    · simp [he, hj]
    · simp [he, hlim e]
  · have e2 : Ofs (lay ω) B (gAdd 74 j fun x => if x = 74 then 0 else K x) w' [.sl 74] [v] := e2
    obtain ⟨A, n, c, f1, f2, f3⟩ := e2.2 0 _ _ rfl rfl
    refine ⟨rfl, fun k c' x hc hx => ?_⟩
    rcases k with _ | k
    · obtain rfl : CT.slb 74 j = c' := by simpa using hc
      obtain rfl : v = x := by simpa using hx
      exact ⟨A, n, c, f1, by simpa [gAdd] using f2, f3⟩
    · cases hc
  · rw [hG]
    exact typed_off e3 fun e he => by simp [gAdd, he]
def s_roundsA1 : Sg := ⟨[aInt, aInt], [aSl 74], false⟩
def x_roundsA1 : Sx := ⟨s_roundsA1, [(.av 0, .k 64, 0), (.av 1, .k 16, 0)], [], [], []⟩
theorem d_roundsA1 {ω : World} : FnX Try.prog (lay ω) (fun _ => gAdd 74 1105) 29 x_roundsA1 :=
  @funcX_ok Try.prog (lay ω) els (tab []) (tabX []) (invs [(5, ⟨[(5, .sli 74 false 0), (6, aInt)], [.le (.c 0) (.val (.t 6)) 0, .le (.val (.t 6)) (.val (.t 1)) 0], .val (.t 6), .val (.t 1)⟩), (7005, ⟨[], [], .c 0, .c 16⟩), (8, ⟨[(5, .sli 74 false 0), (7, aInt)], [.le (.c 0) (.val (.t 7)) 0, .le (.val (.t 7)) (.val (.t 0)) 0], .val (.t 7), .val (.t 0)⟩), (7008, ⟨[(74, .sli 74 false 1)], [], .c 0, .c 64⟩), (5005, ⟨[], [.le (.c 1) (.val (.t 0)) 0, .le (.c 1) (.val (.t 1)) 0, .le (.val (.t 0)) (.c 64) 0, .le (.val (.t 1)) (.c 16) 0, .le (.c 0) (.val (.t 6)) 0, .le (.val (.t 6)) (.c 0) 0], .c 1, .c 0⟩), (5008, ⟨[], [.le (.c 1) (.val (.t 0)) 0, .le (.c 1) (.val (.t 1)) 0, .le (.val (.t 0)) (.c 64) 0, .le (.val (.t 1)) (.c 16) 0, .le (.gh 11) (.val (.t 6)) 0, .le (.val (.t 6)) (.gh 11) 0, .le (.val (.t 1)) (.gh 10) 0, .le (.gh 10) (.val (.t 1)) 0, .le (.c 0) (.val (.t 6)) 0, .le (.val (.t 6)) (.val (.t 1)) (-1), .le (.c 0) (.val (.t 7)) 0, .le (.val (.t 7)) (.c 0) 0], .c 1, .c 0⟩), (5006, ⟨[], [.le (.c 1) (.val (.t 0)) 0, .le (.c 1) (.val (.t 1)) 0, .le (.val (.t 0)) (.c 64) 0, .le (.val (.t 1)) (.c 16) 0, .le (.gh 11) (.val (.t 6)) 0, .le (.val (.t 6)) (.gh 11) 0, .le (.val (.t 1)) (.gh 10) 0, .le (.gh 10) (.val (.t 1)) 0, .le (.c 0) (.val (.t 6)) 0, .le (.val (.t 6)) (.val (.t 1)) (-1)], .c 1, .c 0⟩)]) (fun _ => gAdd 74 1105) mix (gokR 1105) (tab_ok all_nil) (tabX_ok all_nil) els_ok 29 _ _ x_roundsA1 Try.func29 rfl rfl [.add 74 1105] (by kernel_rfl) (fun _ _ => Nat.le_refl _) (fun h => by cases h) (by decide)
def s_roundsA : Sg := ⟨[aInt, aInt], [aSb 74 1105], true⟩
def x_roundsA : Sx := ⟨s_roundsA, [(.av 0, .k 64, 0), (.av 1, .k 16, 0)], [], [], []⟩
theorem d_roundsA {ω : World} : FnX Try.prog (lay ω) G 29 x_roundsA := forget 1105 d_roundsA1 (fun _ => rfl)
def s_roundsB1 : Sg := ⟨[aInt, aInt], [aSl 74], false⟩
def x_roundsB1 : Sx := ⟨s_roundsB1, [(.av 0, .k 2, 0), (.av 1, .k 250, 0)], [], [], []⟩
theorem d_roundsB1 {ω : World} : FnX Try.prog (lay ω) (fun _ => gAdd 74 753) 29 x_roundsB1 :=
  @funcX_ok Try.prog (lay ω) els (tab []) (tabX []) (invs [(5, ⟨[(5, .sli 74 false 0), (6, aInt)], [.le (.c 0) (.val (.t 6)) 0, .le (.val (.t 6)) (.val (.t 1)) 0], .val (.t 6), .val (.t 1)⟩), (7005, ⟨[], [], .c 0, .c 250⟩), (8, ⟨[(5, .sli 74 false 0), (7, aInt)], [.le (.c 0) (.val (.t 7)) 0, .le (.val (.t 7)) (.val (.t 0)) 0], .val (.t 7), .val (.t 0)⟩), (7008, ⟨[(74, .sli 74 false 1)], [], .c 0, .c 2⟩), (5005, ⟨[], [.le (.c 1) (.val (.t 0)) 0, .le (.c 1) (.val (.t 1)) 0, .le (.val (.t 0)) (.c 2) 0, .le (.val (.t 1)) (.c 250) 0, .le (.c 0) (.val (.t 6)) 0, .le (.val (.t 6)) (.c 0) 0], .c 1, .c 0⟩), (5008, ⟨[], [.le (.c 1) (.val (.t 0)) 0, .le (.c 1) (.val (.t 1)) 0, .le (.val (.t 0)) (.c 2) 0, .le (.val (.t 1)) (.c 250) 0, .le (.gh 11) (.val (.t 6)) 0, .le (.val (.t 6)) (.gh 11) 0, .le (.val (.t 1)) (.gh 10) 0, .le (.gh 10) (.val (.t 1)) 0, .le (.c 0) (.val (.t 6)) 0, .le (.val (.t 6)) (.val (.t 1)) (-1), .le (.c 0) (.val (.t 7)) 0, .le (.val (.t 7)) (.c 0) 0], .c 1, .c 0⟩), (5006, ⟨[], [.le (.c 1) (.val (.t 0)) 0, .le (.c 1) (.val (.t 1)) 0, .le (.val (.t 0)) (.c 2) 0, .le (.val (.t 1)) (.c 250) 0, .le (.gh 11) (.val (.t 6)) 0, .le (.val (.t 6)) (.gh 11) 0, .le (.val (.t 1)) (.gh 10) 0, .le (.gh 10) (.val (.t 1)) 0, .le (.c 0) (.val (.t 6)) 0, .le (.val (.t 6)) (.val (.t 1)) (-1)], .c 1, .c 0⟩)]) (fun _ => gAdd 74 753) mix (gokR 753) (tab_ok all_nil) (tabX_ok all_nil) els_ok 29 _ _ x_roundsB1 Try.func29 rfl rfl [.add 74 753] (by kernel_rfl) (fun _ _ => Nat.le_refl _) (fun h => by cases h) (by decide)
def s_roundsB : Sg := ⟨[aInt, aInt], [aSb 74 753], true⟩
def x_roundsB : Sx := ⟨s_roundsB, [(.av 0, .k 2, 0), (.av 1, .k 250, 0)], [], [], []⟩
theorem d_roundsB {ω : World} : FnX Try.prog (lay ω) G 29 x_roundsB := forget 753 d_roundsB1 (fun _ => rfl)
end Go.Proofs.Ytmcnccfbligeaaa
/-
  What a long run came to, read as picks and as operations; how long its lists are.
-/
namespace Go.Proofs.Ytmcnccfbligeaaa
open Go.RowKit Go.Rp Go.Tz

theorem spans_of {ω : World} {B : Nat} {K : Bounds} {w : World} : ∀ (n : Nat) (xs : List Value), xs.length = n * 8 → (∀ (j : Nat) (u : Value), xs[j]? = some u → CellOK (lay ω) B K w ((lay ω 30)[j % 8]?) u) → ∃ spans : List Span, xs = spans.flatMap spanIn ∧ spans.length = n ∧ ∀ s ∈ spans, spanOk s
  | 0, xs, hl, _ => ⟨[], by simpa using List.eq_nil_of_length_eq_zero (by simpa using hl), rfl, fun _ h => by cases h⟩
  | n + 1, xs, hl, h => by
    match xs, hl, h with
    | x0 :: x1 :: x2 :: x3 :: x4 :: x5 :: x6 :: x7 :: rest, hl, h =>
      obtain ⟨spans, e1, e2, e3⟩ := spans_of n rest (by simp at hl; omega) fun j u hj => by
        have := h (j + 8) u (by simpa using hj)
        rwa [Nat.add_mod_right] at this
      obtain ⟨z0, rfl, a0, b0⟩ : CellOK (lay ω) B K w (some i64T) x0 := h 0 x0 rfl
      obtain ⟨z1, rfl, a1, b1⟩ : CellOK (lay ω) B K w (some i64T) x1 := h 1 x1 rfl
      obtain ⟨z2, rfl, a2, b2⟩ : CellOK (lay ω) B K w (some u8T) x2 := h 2 x2 rfl
      obtain ⟨z3, rfl, a3, b3⟩ : CellOK (lay ω) B K w (some i32T) x3 := h 3 x3 rfl
      obtain ⟨z4, rfl, a4, b4⟩ : CellOK (lay ω) B K w (some u8T) x4 := h 4 x4 rfl
      obtain ⟨z5, rfl, a5, b5⟩ : CellOK (lay ω) B K w (some i32T) x5 := h 5 x5 rfl
      obtain ⟨z6, rfl, a6, b6⟩ : CellOK (lay ω) B K w (some i64T) x6 := h 6 x6 rfl
      obtain ⟨z7, rfl, a7, b7⟩ : CellOK (lay ω) B K w (some i64T) x7 := h 7 x7 rfl
      refine ⟨⟨z0, z1, z2, z3, z4, z5, z6, z7⟩ :: spans, by rw [e1]; rfl, by simp [e2], fun s hs => ?_⟩
      rcases List.mem_cons.1 hs with rfl | hs
      · constructor <;> (simp [Lit.wf, IntKind.min, IntKind.max, IntKind.signed, IntKind.bits] <;> omega)
      · exact e3 s hs
    | [], hl, _ => simp at hl
    | [_], hl, _ => simp at hl; omega
    | [_, _], hl, _ => simp at hl; omega
    | [_, _, _], hl, _ => simp at hl; omega
    | [_, _, _, _], hl, _ => simp at hl; omega
    | [_, _, _, _, _], hl, _ => simp at hl; omega
    | [_, _, _, _, _, _], hl, _ => simp at hl; omega
    | [_, _, _, _, _, _, _], hl, _ => simp at hl; omega
theorem picks_of {ω : World} {B : Nat} {K : Bounds} {w : World} : ∀ (xs : List Value), (∀ (j : Nat) (u : Value), xs[j]? = some u → CellOK (lay ω) B K w ((lay ω 3)[j % 1]?) u) → ∃ picks : List Int, xs = picks.map (fun x => Value.int .i64 x) ∧ ∀ z ∈ picks, (Lit.int .i64 z).wf = true
  | [], _ => ⟨[], rfl, fun _ h => by cases h⟩
  | x :: xs, h => by
    obtain ⟨picks, e1, e2⟩ := picks_of xs fun j u hj => by
      have := h (j + 1) u (by simpa using hj)
      rwa [Nat.mod_one] at this ⊢
    obtain ⟨z, rfl, a, b⟩ : CellOK (lay ω) B K w (some i64T) x := h 0 x rfl
    refine ⟨z :: picks, by rw [e1]; rfl, fun y hy => ?_⟩
    rcases List.mem_cons.1 hy with rfl | hy
    · simp [Lit.wf, IntKind.min, IntKind.max, IntKind.signed, IntKind.bits]; omega
    · exact e2 y hy
/-- Picks that lie in a slice of a memory whose rows are of their types. -/
theorem Picks.typed {ω : World} {B : Nat} {K : Bounds} {w : World} {A : Option Addr} {n c : Nat} (hs : SlOK (lay ω) B w 3 A n c) (h : Typed (lay ω) B K w) (hn : n ≤ LIM) : ∃ picks, Picks w A n picks ∧ Rd w (fun b => ∃ a, A = some a ∧ a.block = b) 1 A n (picks.map fun x => Value.int .i64 x) := by
  obtain ⟨xs, e1, e2, e3⟩ := hs.cells h
  obtain ⟨picks, f1, f2⟩ := picks_of (ω := ω) (B := B) (K := K) (w := w) xs e2
  have e1 : xs.length = n * 1 := e1
  have hrd : Rd w (fun b => ∃ a, A = some a ∧ a.block = b) 1 A n (picks.map fun x => Value.int .i64 x) := by
    have := e3.rd
    rw [f1] at this
    exact this
  refine ⟨picks, ⟨⟨_, hrd⟩, ?_, by simp only [LIM] at hn; omega, f2⟩, hrd⟩
  · rw [f1] at e1
    simpa using e1
theorem Spans.typed {ω : World} {B : Nat} {K : Bounds} {w : World} {A : Option Addr} {n c : Nat} (hs : SlOK (lay ω) B w 30 A n c) (h : Typed (lay ω) B K w) (hn : n ≤ LIM) : ∃ spans, Spans w A n spans ∧ Go.Rp.Sl w 30 8 A n c (spans.flatMap spanIn) (fun b => ∃ a, A = some a ∧ a.block = b) := by
  obtain ⟨xs, e1, e2, e3⟩ := hs.cells h
  obtain ⟨spans, f1, f2, f3⟩ := spans_of (ω := ω) (B := B) (K := K) (w := w) n xs e1 e2
  have e3 : Go.Rp.Sl w 30 8 A n c xs (fun b => ∃ a, A = some a ∧ a.block = b) := e3
  rw [f1] at e3
  exact ⟨spans, ⟨⟨_, e3.rd⟩, f2, by simp only [LIM] at hn; omega, f3⟩, e3⟩
theorem spans_set : ∀ (spans : List Span) (q : Nat) (hq : q < spans.length) (z : Int), (spans.flatMap spanIn).set (q * 8 + 7) (.int .i64 z) = (spans.set q { spans[q] with to := z }).flatMap spanIn
  | s :: spans, 0, _, z => by
    simp only [List.flatMap_cons, List.set_cons_zero, List.getElem_cons_zero]
    rfl
  | s :: spans, q + 1, hq, z => by
    have ih := spans_set spans q (by simpa using hq) z
    simp only [List.flatMap_cons, List.set_cons_succ, List.getElem_cons_succ]
    rw [List.set_append_right _ _ (by simp [spanIn]; omega), ← ih]
    congr 2
    simp [spanIn]
    omega
def Bd (i : Nat) (K : Bounds) : Prop := ∀ e, K e ≤ (if e = 125 then i * 20000 else if e = 85 then 8 else 2 * i)
theorem bd_step {i : Nat} (hi : i ≤ 1001) {K : Bounds} (h : Bd i K) : Bd (i + 1) (gWDo K) := by
  have h1 := h 125
  have h2 := h 85
  have h3 := h 122
  simp at h1 h2 h3
  have h4 : (K 122 + 1 + 1) * (K 85 + 1) ≤ 2004 * 9 := Nat.mul_le_mul (by omega) (by omega)
  intro e
  have he := h e
  simp only [gWDo, gPick, gApp, gStep, gAdd, Gr.den, prodK]
  by_cases e1 : e = 125
  · subst e1
    simp
    omega
  · by_cases e2 : e = 85
    · subst e2
      simpa using h2
    · by_cases e3 : e = 76
      · subst e3
        simp at he ⊢
        omega
      · by_cases e4 : e = 3
        · subst e4
          simp at he ⊢
          omega
        · by_cases e5 : e = 122
          · subst e5
            simp at he ⊢
            omega
          · simp only [if_neg e1, if_neg e2, if_neg e3, if_neg e4, if_neg e5] at he ⊢
            omega
theorem bd_it (n : Nat) : ∀ (i : Nat) (K : Bounds), i + n ≤ 1001 → Bd i K → Bd (i + n) (itG gWDo n K) := by
  induction n with
  | zero => intro i K _ h; exact h
  | succ n ih =>
    intro i K hi h
    have := ih (i + 1) (gWDo K) (by omega) (bd_step (by omega) h)
    rwa [show i + 1 + n = i + (n + 1) by omega] at this
theorem long_lim (e : TypeId) : gLong (fun _ => 0) e ≤ LIM := by
  have h0 : Bd 0 (gAdd 85 8 fun _ => 0) := fun e => by
    unfold gAdd
    repeat' split
    all_goals simp_all
  have h := bd_it 1001 0 _ (by omega) h0 e
  have h1 : gLong (fun _ => 0) e = itG gWDo 1001 (gAdd 85 8 fun _ => 0) e := by with_reducible (unfold gLong; rfl)
  rw [h1]
  simp only [LIM]
  repeat' split at h
  all_goals omega
end Go.Proofs.Ytmcnccfbligeaaa
