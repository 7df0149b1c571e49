/-
  The deeds that come in: an integer, and a slice of bytes.
-/
import Derived.Test.YtnoaidlhebmgmaaCoinE
import Derived.Test.YtnoaidlhebmgmaaFields
namespace Go.Proofs.Ytnoaidlhebmgmaa
open Go.RowKit Go.Rp

/-- A deed: its kind, the slice of its bits, and what that reads as. -/
abbrev Deed := Int × Option Addr × Nat × Nat × List Int
def deedIn (d : Deed) : List Value := [.int .u8 d.1, .slice d.2.1 d.2.2.1 d.2.2.2.1]
def deedOk (w : World) (d : Deed) : Prop := (Lit.int .u8 d.1).wf = true ∧ InInts .u8 w d.2.1 d.2.2.1 d.2.2.2.1 d.2.2.2.2

theorem deed_dec {H : Type} {enc : TypeId × Value → H} {w : World} {base : Nat} {spare : Nat → Bool} {held : Bool} {fuel : Nat} {cs : List Value} {x : DataW H × List MemPlace} (hsp : ∀ g, spare g = true) (h : DataW.trod enc Try.prog w base spare held fuel 34 cs = some x) (hw : ∀ q ∈ x.1.weights Try.prog 34, q ≤ reachBytes) :
    ∃ d, cs = deedIn d ∧ deedOk w d := by
  obtain ⟨xs, n, _, hx, hl, hlen, hf⟩ := DataW.trod_struct Try.underlying34 h
  have hl2 : cs.length = 2 := hl.trans (by kernel_rfl)
  have hlen2 : xs.length = 2 := hlen
  clear hl hlen
  match cs, hl2, xs, hlen2 with
  | [c0, c1], _, [y0, y1], _ =>
    have f0 : DataW.trod enc Try.prog w base spare held n 5 [c0] = some y0 := hf 0 _ rfl
    have f1 : DataW.trod enc Try.prog w base spare held n 22 [c1] = some y1 := hf 1 _ rfl
    obtain ⟨v0, e0, _, w0⟩ := DataW.trod_int Try.underlying5 f0
    simp only [List.cons.injEq, and_true] at e0
    obtain rfl := e0
    have hw1 : ∀ q ∈ y1.1.weights Try.prog 22, q ≤ reachBytes := fun q hq => hw q (by
      rw [hx]
      simp only [DataW.weights, Try.underlying34]
      exact DataW.weights_mem_each (j := 1) (t := 22) (d := y1.1) rfl rfl q hq)
    obtain ⟨a, m, c, zs, rfl, hin⟩ := inInts_of Try.underlying22 Try.underlying5 (by kernel_rfl) 1 (by kernel_rfl) (by omega) hsp f1 hw1
    exact ⟨(v0, a, m, c, zs), rfl, w0, hin⟩
end Go.Proofs.Ytnoaidlhebmgmaa
