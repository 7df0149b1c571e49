/-
  append at the first of things that lie apart. No program in sight.
-/
import Derived.Test.YtpelpbnmjciheaaMore
namespace Go.Rp
open Go.RowKit

theorem wpList_append_at {P : Program} {w : World} {B : Nat} {L : List Res} {ops : Array Oper} {rest : List Oper} {o : Oper} {a : Act} {Q : Exit → Act → World → Prop} (hgd : o.guard = none) (s x : Operand) (t : TypeId)
    (ho : o.op = .call { callee := .builtin .append, args := #[s, x], argTypes := #[t, t] })
    (e : TypeId) (i : TypeInfo) (z : Value) (sz bytes : Nat) (ht : P.underlying t = some (.slice e)) (hi : P.info? e = some i) (hz : i.zero = some z)
    (hsize : i.size = sz) (hby : i.bytes = bytes) (hzs : z.cells.size = sz) (hsz : 0 < sz)
    {A : Option Addr} {n c : Nat} {xs : List Value} (hs : a.eval s = .slice A n c) (hat : Sep w (fun x => B ≤ x) (slRes e sz A n c xs :: L)) (hB : B ≤ w.heap.size)
    (R : Nat → Prop) (A2 : Option Addr) (m c2 : Nat) (news : List Value) (hx : a.eval x = .slice A2 m c2) (hr : Rd w R sz A2 m news) (h1 : ∀ u ∈ news, u.oneCell' = true)
    (h63 : n + m ≤ maxLen) (hbytes : (n + m) * bytes ≤ 140737488355328)
    (h : ∀ A' c' w', Sep w' (fun x => B ≤ x) (slRes e sz A' (n + m) c' (xs ++ news) :: L) → Below B w w' → wpList P ops Q rest (a.put o.dst (.slice A' (n + m) c')) w') : wpList P ops Q (o :: rest) a w := by
  obtain ⟨S, hS, hSU, hnext⟩ := hat.frontAny (fun x hx => Nat.le_trans hB hx)
  exact wpList_append_sl w hgd s x t ho e i z sz bytes ht hi hz hsize hby hzs hsz A n c xs S hs hS R A2 m c2 news hx hr h1 h63 hbytes fun A' c' w' h2 h3 => h A' c' w' (hnext (slRes e sz A' (n + m) c' (xs ++ news)) w' h2 h3) (h3.below hB fun b hb => (hSU b hb).1)
theorem Sep.back3 {w : World} {U : Nat → Prop} {a b c : Res} {l : List Res} (h : Sep w U (a :: b :: c :: l)) : Sep w U (l ++ [a, b, c]) := by
  have h1 : Sep w U (b :: c :: (l ++ [a])) := h.snoc
  have := h1.back2
  simpa using this
theorem Sep.back5 {w : World} {U : Nat → Prop} {a b c d e : Res} {l : List Res} (h : Sep w U (a :: b :: c :: d :: e :: l)) : Sep w U (l ++ [a, b, c, d, e]) := by
  have h1 : Sep w U (c :: d :: e :: (l ++ [a, b])) := h.back2
  have := h1.back3
  simpa using this
end Go.Rp
