/-
  What came in, and what a long run gives, taken apart.
-/
import Derived.Test.YtmcnccfbligeaaaTg7
import Derived.Test.YtmcnccfbligeaaaTg8
import Derived.Test.YtmcnccfbligeaaaFairV
import Derived.Test.YtmcnccfbligeaaaIn
namespace Go.Proofs.Ytmcnccfbligeaaa
open Go.RowKit Go.Rp Go.Tz

theorem inp_in {w w1 : World} {a : Option Addr} {n c : Nat} {zs : List Int} (h : InInts .u8 w a n c zs) (hb : Below w.heap.size w w1) {K : Bounds} : VOK (lay w1) w1.heap.size 0 K w1 .inp (.slice a n c) := by
  refine ⟨a, n, c, rfl, by have := h.reach; simp only [maxLen]; omega, fun j hj => ?_⟩
  obtain ⟨b, off, e1, e2, e3⟩ := h.rd.2 (by omega)
  have hl := h.len
  have hj' : j < zs.length := by omega
  have hw := wf_u8 (h.wf zs[j] (List.getElem_mem hj'))
  refine ⟨b, off, zs[j], e1, Nat.lt_of_lt_of_le e2 hb.size, ?_, hw.1, hw.2⟩
  show w1.cell? ⟨b, off + j, none⟩ = _
  rw [hb.cell e2]
  exact e3 j _ (by simp [hj'])
theorem typed_now (w : World) : Typed (lay w) w.heap.size (fun _ => 0) w := ⟨Nat.le_refl _, fun b t arr hB hb => absurd hb.lt (by omega), fun _ _ => rfl⟩
theorem long_lim' (e : TypeId) : G 18 (fun _ => 0) e ≤ LIM := by rw [G_long]; exact long_lim e
theorem list18 (l : List Value) (h : l.length = 18) : ∃ x0 x1 x2 x3 x4 x5 x6 x7 x8 x9 x10 x11 x12 x13 x14 x15 x16 x17, l = [x0, x1, x2, x3, x4, x5, x6, x7, x8, x9, x10, x11, x12, x13, x14, x15, x16, x17] := by
  rcases l with _ | ⟨x0, l⟩
  · simp at h
  rcases l with _ | ⟨x1, l⟩
  · simp at h
  rcases l with _ | ⟨x2, l⟩
  · simp at h
  rcases l with _ | ⟨x3, l⟩
  · simp at h
  rcases l with _ | ⟨x4, l⟩
  · simp at h
  rcases l with _ | ⟨x5, l⟩
  · simp at h
  rcases l with _ | ⟨x6, l⟩
  · simp at h
  rcases l with _ | ⟨x7, l⟩
  · simp at h
  rcases l with _ | ⟨x8, l⟩
  · simp at h
  rcases l with _ | ⟨x9, l⟩
  · simp at h
  rcases l with _ | ⟨x10, l⟩
  · simp at h
  rcases l with _ | ⟨x11, l⟩
  · simp at h
  rcases l with _ | ⟨x12, l⟩
  · simp at h
  rcases l with _ | ⟨x13, l⟩
  · simp at h
  rcases l with _ | ⟨x14, l⟩
  · simp at h
  rcases l with _ | ⟨x15, l⟩
  · simp at h
  rcases l with _ | ⟨x16, l⟩
  · simp at h
  rcases l with _ | ⟨x17, l⟩
  · simp at h
  rcases l with _ | ⟨x18, l⟩
  · exact ⟨_, _, _, _, _, _, _, _, _, _, _, _, _, _, _, _, _, _, rfl⟩
  · simp at h
theorem list6 (l : List Value) (h : l.length = 6) : ∃ x0 x1 x2 x3 x4 x5, l = [x0, x1, x2, x3, x4, x5] := by
  rcases l with _ | ⟨x0, l⟩
  · simp at h
  rcases l with _ | ⟨x1, l⟩
  · simp at h
  rcases l with _ | ⟨x2, l⟩
  · simp at h
  rcases l with _ | ⟨x3, l⟩
  · simp at h
  rcases l with _ | ⟨x4, l⟩
  · simp at h
  rcases l with _ | ⟨x5, l⟩
  · simp at h
  rcases l with _ | ⟨x6, l⟩
  · exact ⟨_, _, _, _, _, _, rfl⟩
  · simp at h
/-- What a long run gives. -/
theorem long_gives {ω : World} {B F : Nat} {K : Bounds} {w : World} {v : Value} (h : TOK (lay ω) B F K w (.tup [aConf, aWorld]) v) :
    ∃ ob th cap age ps pl z0 z1 z2 z3 z4 z5 z6 A7 m7 k7 z8 z9 z10 A11 m11 k11 A12 m12 k12 A13 m13 k13 A14 m14 k14 A15 m15 k15 A16 m16 k16 z17, v = .tuple #[confV ob th cap age ps pl, .agg #[.int .u8 z0, .int .i64 z1, .int .i64 z2, .int .i64 z3, .int .i64 z4, .bool z5, .int .i64 z6, .slice A7 m7 k7, .int .i64 z8, .int .u8 z9, .int .i64 z10, .slice A11 m11 k11, .slice A12 m12 k12, .slice A13 m13 k13, .slice A14 m14 k14, .slice A15 m15 k15, .slice A16 m16 k16, .int .i64 z17]] ∧
      Ofs (lay ω) B K w (lay ω 38) (confV ob th cap age ps pl).cells.toList ∧ Ofs (lay ω) B K w (lay ω 54) [.int .u8 z0, .int .i64 z1, .int .i64 z2, .int .i64 z3, .int .i64 z4, .bool z5, .int .i64 z6, .slice A7 m7 k7, .int .i64 z8, .int .u8 z9, .int .i64 z10, .slice A11 m11 k11, .slice A12 m12 k12, .slice A13 m13 k13, .slice A14 m14 k14, .slice A15 m15 k15, .slice A16 m16 k16, .int .i64 z17] ∧
      (m14 ≤ K 76 ∧ SlOK (lay ω) B w 76 A14 m14 k14) ∧ (m16 ≤ K 3 ∧ SlOK (lay ω) B w 3 A16 m16 k16) := by
  obtain ⟨vs, rfl, hvs⟩ := h
  obtain ⟨l⟩ := vs
  match l, hvs with
  | [x, y], ⟨hx, hy, _⟩ =>
    obtain ⟨arr1, rfl, ho1⟩ := hx
    obtain ⟨arr2, rfl, ho2⟩ := hy
    obtain ⟨l1⟩ := arr1
    obtain ⟨l2⟩ := arr2
    obtain ⟨y0, y1, y2, y3, y4, y5, rfl⟩ := list6 l1 ho1.1
    obtain ⟨x0, x1, x2, x3, x4, x5, x6, x7, x8, x9, x10, x11, x12, x13, x14, x15, x16, x17, rfl⟩ := list18 l2 ho2.1
    obtain ⟨ob, rfl, _⟩ := ho1.2 0 _ _ rfl rfl
    obtain ⟨th, rfl, _⟩ := ho1.2 1 _ _ rfl rfl
    obtain ⟨cap, rfl, _⟩ := ho1.2 2 _ _ rfl rfl
    obtain ⟨age, rfl, _⟩ := ho1.2 3 _ _ rfl rfl
    obtain ⟨ps, rfl, _⟩ := ho1.2 4 _ _ rfl rfl
    obtain ⟨pl, rfl⟩ := ho1.2 5 _ _ rfl rfl
    obtain ⟨z0, rfl, _⟩ := ho2.2 0 _ _ rfl rfl
    obtain ⟨z1, rfl, _⟩ := ho2.2 1 _ _ rfl rfl
    obtain ⟨z2, rfl, _⟩ := ho2.2 2 _ _ rfl rfl
    obtain ⟨z3, rfl, _⟩ := ho2.2 3 _ _ rfl rfl
    obtain ⟨z4, rfl, _⟩ := ho2.2 4 _ _ rfl rfl
    obtain ⟨z5, rfl⟩ := ho2.2 5 _ _ rfl rfl
    obtain ⟨z6, rfl, _⟩ := ho2.2 6 _ _ rfl rfl
    obtain ⟨A7, m7, k7, rfl, _⟩ := ho2.2 7 _ _ rfl rfl
    obtain ⟨z8, rfl, _⟩ := ho2.2 8 _ _ rfl rfl
    obtain ⟨z9, rfl, _⟩ := ho2.2 9 _ _ rfl rfl
    obtain ⟨z10, rfl, _⟩ := ho2.2 10 _ _ rfl rfl
    obtain ⟨A11, m11, k11, rfl, _⟩ := ho2.2 11 _ _ rfl rfl
    obtain ⟨A12, m12, k12, rfl, _⟩ := ho2.2 12 _ _ rfl rfl
    obtain ⟨A13, m13, k13, rfl, _⟩ := ho2.2 13 _ _ rfl rfl
    obtain ⟨A14, m14, k14, rfl, p14, q14⟩ := ho2.2 14 _ _ rfl rfl
    obtain ⟨A15, m15, k15, rfl, _⟩ := ho2.2 15 _ _ rfl rfl
    obtain ⟨A16, m16, k16, rfl, p16, q16⟩ := ho2.2 16 _ _ rfl rfl
    obtain ⟨z17, rfl, _⟩ := ho2.2 17 _ _ rfl rfl
    exact ⟨ob, th, cap, age, ps, pl, _, _, _, _, _, _, _, _, _, _, _, _, _, _, _, _, _, _, _, _, _, _, _, _, _, _, _, _, _, _, _, _, rfl, ho1, ho2, ⟨p14, q14⟩, ⟨p16, q16⟩⟩
theorem long_v {w w1 : World} {a1 : Option Addr} {n1 c1 : Nat} {zs1 : List Int} (h1 : InInts .u8 w a1 n1 c1 zs1) {a2 : Option Addr} {n2 c2 : Nat} {zs2 : List Int} (h2 : InInts .u8 w a2 n2 c2 zs2) (hb : Below w.heap.size w w1) :
    Calls Try.prog 18 #[.slice a1 n1 c1, .slice a2 n2 c2, .int .i64 250] w1 fun e w2 => ∃ v, e = .returned v ∧ TOK (lay w1) w1.heap.size w1.heap.size (G 18 fun _ => 0) w2 (.tup [aConf, aWorld]) v ∧ Typed (lay w1) w1.heap.size (G 18 fun _ => 0) w2 ∧ Below w1.heap.size w1 w2 := by
  have hin : VOKs (lay w1) w1.heap.size 0 (fun _ => 0) w1 x_long.sg.ins #[Value.slice a1 n1 c1, .slice a2 n2 c2, .int .i64 250].toList := by
    refine ⟨inp_in h1 hb, inp_in h2 hb, ⟨rfl, fun j c x hc hx => ?_⟩, trivial⟩
    rcases j with _ | j
    · obtain rfl : i64T = c := by simpa using hc
      obtain rfl : Value.int .i64 250 = x := by simpa using hx
      exact ⟨250, rfl, by decide, by decide⟩
    · cases hc
  have hpre : PreOK #[Value.slice a1 n1 c1, .slice a2 n2 c2, .int .i64 250].toList x_long.pre := fun x hx => by
    obtain rfl := List.mem_singleton.1 hx
    show (250 : Int) ≤ 250 + 0
    omega
  exact ((d_long (ω := w1)).run w1.heap.size (fun _ => 0) w1 _ long_lim' (typed_now w1) hin hpre).mono fun e w2 ⟨v, e1, e2, e3, e4, _⟩ => ⟨v, e1, e2, e3, e4⟩
theorem spans_v {ω : World} {B : Nat} {K : Bounds} {w : World} (hT : Typed (lay ω) B K w) (hK : ∀ e, K e ≤ LIM) {A : Option Addr} {m k : Nat} (hm : m ≤ K 76) (hs : SlOK (lay ω) B w 76 A m k) :
    Calls Try.prog 19 #[.slice A m k] w fun e w' => ∃ A' n c, e = .returned (.slice A' n c) ∧ SlOK (lay ω) B w' 30 A' n c ∧ FreshA w.heap.size A' ∧ n ≤ m ∧ Typed (lay ω) B K w' ∧ Below w.heap.size w w' := by
  have hf : G 19 K = K := (d_spans (ω := ω)).flat rfl K
  have hin : VOKs (lay ω) B 0 K w x_spans.sg.ins #[Value.slice A m k].toList := by
    refine ⟨⟨rfl, fun j c x hc hx => ?_⟩, trivial⟩
    rcases j with _ | j
    · obtain rfl : CT.sl 76 = c := by simpa using hc
      obtain rfl : Value.slice A m k = x := by simpa using hx
      exact ⟨A, m, k, rfl, hm, hs⟩
    · cases hc
  refine ((d_spans (ω := ω)).run B K w _ (by rw [hf]; exact hK) hT hin (fun x hx => by cases hx)).mono fun e w' ⟨v, e1, e2, e3, e4, e5, _⟩ => ?_
  rw [hf] at e2 e3
  obtain ⟨A', n, c, rfl, f2, f3⟩ : VOK (lay ω) B w.heap.size K w' (.slf 30) v := e2
  have h5 := e5 _ (List.mem_singleton.2 rfl) (fun b hb => by cases hb)
  have h5 : (n : Int) ≤ (m : Int) + 0 := h5
  exact ⟨A', n, c, e1, f2, f3, by omega, e3, e4⟩
end Go.Proofs.Ytmcnccfbligeaaa
