/-
  The deeds that come in: a kind, a value, a height, values and heights.
-/
import Derived.Test.YtpelpbnmjciheaaSkipS
import Derived.Test.YtpelpbnmjciheaaIn
import Derived.Test.YtpelpbnmjciheaaFields
namespace Go.Proofs.Ytpelpbnmjciheaa
open Go.RowKit Go.Rp

def deedOk (w : World) (d : Deed) : Prop := (Lit.int .u8 d.k).wf = true ∧ InInts .i32 w d.a d.n d.c d.vs ∧ InInts .i64 w d.b d.m d.d d.hs

set_option maxHeartbeats 1000000 in
theorem deed_dec {H : Type} {enc : TypeId × Value → H} {w : World} {base : Nat} {spare : Nat → Bool} {held : Bool} {fuel : Nat} {cs : List Value} {x : DataW H × List MemPlace} (hsp : ∀ g, spare g = true) (h : DataW.trod enc Try.prog w base spare held fuel 31 cs = some x) (hw : ∀ q ∈ x.1.weights Try.prog 31, q ≤ reachBytes) :
    ∃ d, cs = deedIn d ∧ deedOk w d := by
  obtain ⟨xs, n, _, hx, hl, hlen, hf⟩ := DataW.trod_struct Try.underlying31 h
  have hl2 : cs.length = 5 := hl.trans (by kernel_rfl)
  have hlen2 : xs.length = 5 := hlen
  clear hl hlen
  match cs, hl2, xs, hlen2 with
  | [c0, c1, c2, c3, c4], _, [y0, y1, y2, y3, y4], _ =>
    have f0 : DataW.trod enc Try.prog w base spare held n 5 [c0] = some y0 := hf 0 _ rfl
    have f1 : DataW.trod enc Try.prog w base spare held n 21 [c1] = some y1 := hf 1 _ rfl
    have f2 : DataW.trod enc Try.prog w base spare held n 3 [c2] = some y2 := hf 2 _ rfl
    have f3 : DataW.trod enc Try.prog w base spare held n 26 [c3] = some y3 := hf 3 _ rfl
    have f4 : DataW.trod enc Try.prog w base spare held n 27 [c4] = some y4 := hf 4 _ rfl
    obtain ⟨v0, e0, _, w0⟩ := DataW.trod_int Try.underlying5 f0
    obtain ⟨v1, e1, _, w1⟩ := DataW.trod_int Try.underlying21 f1
    obtain ⟨v2, e2, _, w2⟩ := DataW.trod_int Try.underlying3 f2
    simp only [List.cons.injEq, and_true] at e0 e1 e2
    obtain rfl := e0
    obtain rfl := e1
    obtain rfl := e2
    have hw3 : ∀ q ∈ y3.1.weights Try.prog 26, q ≤ reachBytes := fun q hq => hw q (by
      rw [hx]
      simp only [DataW.weights, Try.underlying31]
      exact DataW.weights_mem_each (j := 3) (t := 26) (d := y3.1) rfl rfl q hq)
    have hw4 : ∀ q ∈ y4.1.weights Try.prog 27, q ≤ reachBytes := fun q hq => hw q (by
      rw [hx]
      simp only [DataW.weights, Try.underlying31]
      exact DataW.weights_mem_each (j := 4) (t := 27) (d := y4.1) rfl rfl q hq)
    obtain ⟨a, m, c, zs, rfl, hin⟩ := inInts_of Try.underlying26 Try.underlying21 (by kernel_rfl) 4 (by kernel_rfl) (by omega) hsp f3 hw3
    obtain ⟨a', m', c', zs', rfl, hin'⟩ := inInts_of Try.underlying27 Try.underlying3 (by kernel_rfl) 8 (by kernel_rfl) (by omega) hsp f4 hw4
    exact ⟨⟨v0, v1, v2, a, m, c, a', m', c', zs, zs'⟩, rfl, w0, hin, hin'⟩
end Go.Proofs.Ytpelpbnmjciheaa
