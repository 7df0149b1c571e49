/-
  No cell of these rows narrows 'for every input' (looked for: loops, veiled, ifaces, maps, wideKeys, modest, calm, conditions, laid).
  DERIVED. THE GIVEN ROWS OF THIS SEAT. 6 by the template 'for every input the law returns true; each argument reads behind the call as it read before'; 0 by the template 'total and deterministic' (their statements: YtmcnccfbligeaaaTotals.lean).
  GIVEN WITH THE SEED: the statements are not yours to turn. If you find one false, say at which input.
  Laid BY PROGRAM, IN A SANDBOX (cutbox-rows.mjs): the forced cells as the released guide's own fill.sh prints them over the translation 43ed9770f094911a… (all of the seat's roots in one cut). By AI agents, Wed Nov 11 2026. No macro, syntax, notation, axiom, sorry.
-/
import Derived.Test.YtmcnccfbligeaaaChecked
import GoSem.Claim
import GoSem.ClaimJoined
import GoSem.ClaimMapViews
import Derived.JoinedTies
import Derived.KernelRfl
namespace Go.Proofs.Ytmcnccfbligeaaa
/- THE CELL 'sum', in the pinned program and in every row, IS THE sha256 OF THE DUMP (.gsa) THAT YtmcnccfbligeaaaProg.lean LOADS. Nothing in Lean hashes anything: it is a label: what it is worth is what the hold of that sum in a sandbox is worth. -/
noncomputable def Try.pinned : Pinned := { name := "ytmcnccfbligeaaa", sum := "43ed9770f094911ab37df5b4c8bddc2447b3ec58de40f7d87d20f2d85c0b18fa", checked := Try.checked }
namespace Rows
def none {H : Type} : Left H := { results := [], args := [] }

/-- 'reaperlaw21.FairRounds': WHATEVER THE INPUT: true; the input reads as it did. -/
def fairRoundsSpec : ChangeSpec := { name := "fairRounds", fn := fun _ => fun
  | [d1, d2, d3, d4] => { results := [.lit (.bool true)], args := [d1, d2, d3, d4] }
  | _ => none }
def fairRoundsRow : OpenClaim := { program := "ytmcnccfbligeaaa", sum := "43ed9770f094911ab37df5b4c8bddc2447b3ec58de40f7d87d20f2d85c0b18fa", func := "reaper/reaperlaw21.FairRounds", spec := "fairRounds", apart := false }
def FairRoundsSaid : Prop := fairRoundsRow.holds Try.pinned (OpenSpec.ofChange fairRoundsSpec)

/-- ITS FALSE NEIGHBOUR: 'it returns false'. Refute it at one input. -/
def fairRoundsWrong : ChangeSpec := { name := "fairRounds", fn := fun _ => fun
  | [d1, d2, d3, d4] => { results := [.lit (.bool false)], args := [d1, d2, d3, d4] }
  | _ => none }
def FairRoundsWrongFalsely : Prop := fairRoundsRow.holds Try.pinned (OpenSpec.ofChange fairRoundsWrong)

/-- 'reaperlaw21.FairMore': WHATEVER THE INPUT: true; the input reads as it did. -/
def fairMoreSpec : ChangeSpec := { name := "fairMore", fn := fun _ => fun
  | [d1, d2, d3, d4, d5] => { results := [.lit (.bool true)], args := [d1, d2, d3, d4, d5] }
  | _ => none }
def fairMoreRow : OpenClaim := { program := "ytmcnccfbligeaaa", sum := "43ed9770f094911ab37df5b4c8bddc2447b3ec58de40f7d87d20f2d85c0b18fa", func := "reaper/reaperlaw21.FairMore", spec := "fairMore", apart := false }
def FairMoreSaid : Prop := fairMoreRow.holds Try.pinned (OpenSpec.ofChange fairMoreSpec)

/-- ITS FALSE NEIGHBOUR: 'it returns false'. Refute it at one input. -/
def fairMoreWrong : ChangeSpec := { name := "fairMore", fn := fun _ => fun
  | [d1, d2, d3, d4, d5] => { results := [.lit (.bool false)], args := [d1, d2, d3, d4, d5] }
  | _ => none }
def FairMoreWrongFalsely : Prop := fairMoreRow.holds Try.pinned (OpenSpec.ofChange fairMoreWrong)

/-- 'reaperlaw21.FairBounds': WHATEVER THE INPUT: true; the input reads as it did. -/
def fairBoundsSpec : ChangeSpec := { name := "fairBounds", fn := fun _ => fun
  | [d1, d2, d3, d4] => { results := [.lit (.bool true)], args := [d1, d2, d3, d4] }
  | _ => none }
def fairBoundsRow : OpenClaim := { program := "ytmcnccfbligeaaa", sum := "43ed9770f094911ab37df5b4c8bddc2447b3ec58de40f7d87d20f2d85c0b18fa", func := "reaper/reaperlaw21.FairBounds", spec := "fairBounds", apart := false }
def FairBoundsSaid : Prop := fairBoundsRow.holds Try.pinned (OpenSpec.ofChange fairBoundsSpec)

/-- ITS FALSE NEIGHBOUR: 'it returns false'. Refute it at one input. -/
def fairBoundsWrong : ChangeSpec := { name := "fairBounds", fn := fun _ => fun
  | [d1, d2, d3, d4] => { results := [.lit (.bool false)], args := [d1, d2, d3, d4] }
  | _ => none }
def FairBoundsWrongFalsely : Prop := fairBoundsRow.holds Try.pinned (OpenSpec.ofChange fairBoundsWrong)

/-- 'reaperlaw21.FairAsks': WHATEVER THE INPUT: true; the input reads as it did. -/
def fairAsksSpec : ChangeSpec := { name := "fairAsks", fn := fun _ => fun
  | [d1, d2, d3, d4, d5, d6, d7, d8, d9, d10, d11] => { results := [.lit (.bool true)], args := [d1, d2, d3, d4, d5, d6, d7, d8, d9, d10, d11] }
  | _ => none }
def fairAsksRow : OpenClaim := { program := "ytmcnccfbligeaaa", sum := "43ed9770f094911ab37df5b4c8bddc2447b3ec58de40f7d87d20f2d85c0b18fa", func := "reaper/reaperlaw21.FairAsks", spec := "fairAsks", apart := false }
def FairAsksSaid : Prop := fairAsksRow.holds Try.pinned (OpenSpec.ofChange fairAsksSpec)

/-- ITS FALSE NEIGHBOUR: 'it returns false'. Refute it at one input. -/
def fairAsksWrong : ChangeSpec := { name := "fairAsks", fn := fun _ => fun
  | [d1, d2, d3, d4, d5, d6, d7, d8, d9, d10, d11] => { results := [.lit (.bool false)], args := [d1, d2, d3, d4, d5, d6, d7, d8, d9, d10, d11] }
  | _ => none }
def FairAsksWrongFalsely : Prop := fairAsksRow.holds Try.pinned (OpenSpec.ofChange fairAsksWrong)

/-- 'reaperlaw21.FairHolds': WHATEVER THE INPUT: true; the input reads as it did. -/
def fairHoldsSpec : ChangeSpec := { name := "fairHolds", fn := fun _ => fun
  | [d1, d2, d3, d4, d5] => { results := [.lit (.bool true)], args := [d1, d2, d3, d4, d5] }
  | _ => none }
def fairHoldsRow : OpenClaim := { program := "ytmcnccfbligeaaa", sum := "43ed9770f094911ab37df5b4c8bddc2447b3ec58de40f7d87d20f2d85c0b18fa", func := "reaper/reaperlaw21.FairHolds", spec := "fairHolds", apart := false }
def FairHoldsSaid : Prop := fairHoldsRow.holds Try.pinned (OpenSpec.ofChange fairHoldsSpec)

/-- ITS FALSE NEIGHBOUR: 'it returns false'. Refute it at one input. -/
def fairHoldsWrong : ChangeSpec := { name := "fairHolds", fn := fun _ => fun
  | [d1, d2, d3, d4, d5] => { results := [.lit (.bool false)], args := [d1, d2, d3, d4, d5] }
  | _ => none }
def FairHoldsWrongFalsely : Prop := fairHoldsRow.holds Try.pinned (OpenSpec.ofChange fairHoldsWrong)

/-- 'reaperlaw21.FairLate': WHATEVER THE INPUT: true; the input reads as it did. -/
def fairLateSpec : ChangeSpec := { name := "fairLate", fn := fun _ => fun
  | [d1, d2, d3] => { results := [.lit (.bool true)], args := [d1, d2, d3] }
  | _ => none }
def fairLateRow : OpenClaim := { program := "ytmcnccfbligeaaa", sum := "43ed9770f094911ab37df5b4c8bddc2447b3ec58de40f7d87d20f2d85c0b18fa", func := "reaper/reaperlaw21.FairLate", spec := "fairLate", apart := false }
def FairLateSaid : Prop := fairLateRow.holds Try.pinned (OpenSpec.ofChange fairLateSpec)

/-- ITS FALSE NEIGHBOUR: 'it returns false'. Refute it at one input. -/
def fairLateWrong : ChangeSpec := { name := "fairLate", fn := fun _ => fun
  | [d1, d2, d3] => { results := [.lit (.bool false)], args := [d1, d2, d3] }
  | _ => none }
def FairLateWrongFalsely : Prop := fairLateRow.holds Try.pinned (OpenSpec.ofChange fairLateWrong)

/- THE SECOND FORM. 'bulk': how many values and letters a reading holds, each counted each time it is reached (what is shared counts as often as it is met; a slice's spare places count too). A statement '..UptoSaid' is the law's where the arguments, and the package variables that the reading takes, are together of bulk at most 1048576: NARROWER than '..Said'. Prove '..Said' where nothing that the law and all that it calls make is longer than what came in: it says more and counts as full. Else prove '..UptoSaid'. A law counts once. -/
mutual
def uptoBulk {H : Type} : DataW H → Nat
  | .lit (.string bytes) => bytes.length + 1
  | .lit _ => 1
  | .nil => 1
  | .ptr d => uptoBulk d + 1
  | .slice elems spare => uptoBulkAll elems + uptoBulkAll spare + 1
  | .agg parts => uptoBulkAll parts + 1
  | .iface _ d => uptoBulk d + 1
  | .map entries => uptoBulkEntries entries + 1
  | .held _ => 1
def uptoBulkAll {H : Type} : List (DataW H) → Nat
  | [] => 0
  | d :: r => uptoBulk d + uptoBulkAll r
def uptoBulkEntries {H : Type} : List (Lit × DataW H) → Nat
  | [] => 0
  | x :: r => uptoBulkEntry x + uptoBulkEntries r
def uptoBulkEntry {H : Type} : Lit × DataW H → Nat
  | (.string bytes, d) => bytes.length + uptoBulk d + 1
  | (_, d) => uptoBulk d + 1
 end
def uptoSmall : (H : Type) → List (DataW H) → Bool := fun _ ds => decide (uptoBulkAll ds ≤ 1048576)
def OpenSpec.upto (s : _root_.Go.ChangeSpec) : _root_.Go.OpenSpec := { _root_.Go.OpenSpec.ofChange s with cond := some uptoSmall }

/-- 'reaperlaw21.FairRounds', WHERE WHAT IT READS IS OF BULK AT MOST 1048576: true; the input reads as it did. -/
def fairRoundsUptoRow : OpenClaim := { program := "ytmcnccfbligeaaa", sum := "43ed9770f094911ab37df5b4c8bddc2447b3ec58de40f7d87d20f2d85c0b18fa", func := "reaper/reaperlaw21.FairRounds", spec := "fairRounds", apart := false, narrowed := true }
def FairRoundsUptoSaid : Prop := fairRoundsUptoRow.holds Try.pinned (OpenSpec.upto fairRoundsSpec)

/-- 'reaperlaw21.FairMore', WHERE WHAT IT READS IS OF BULK AT MOST 1048576: true; the input reads as it did. -/
def fairMoreUptoRow : OpenClaim := { program := "ytmcnccfbligeaaa", sum := "43ed9770f094911ab37df5b4c8bddc2447b3ec58de40f7d87d20f2d85c0b18fa", func := "reaper/reaperlaw21.FairMore", spec := "fairMore", apart := false, narrowed := true }
def FairMoreUptoSaid : Prop := fairMoreUptoRow.holds Try.pinned (OpenSpec.upto fairMoreSpec)

/-- 'reaperlaw21.FairBounds', WHERE WHAT IT READS IS OF BULK AT MOST 1048576: true; the input reads as it did. -/
def fairBoundsUptoRow : OpenClaim := { program := "ytmcnccfbligeaaa", sum := "43ed9770f094911ab37df5b4c8bddc2447b3ec58de40f7d87d20f2d85c0b18fa", func := "reaper/reaperlaw21.FairBounds", spec := "fairBounds", apart := false, narrowed := true }
def FairBoundsUptoSaid : Prop := fairBoundsUptoRow.holds Try.pinned (OpenSpec.upto fairBoundsSpec)

/-- 'reaperlaw21.FairAsks', WHERE WHAT IT READS IS OF BULK AT MOST 1048576: true; the input reads as it did. -/
def fairAsksUptoRow : OpenClaim := { program := "ytmcnccfbligeaaa", sum := "43ed9770f094911ab37df5b4c8bddc2447b3ec58de40f7d87d20f2d85c0b18fa", func := "reaper/reaperlaw21.FairAsks", spec := "fairAsks", apart := false, narrowed := true }
def FairAsksUptoSaid : Prop := fairAsksUptoRow.holds Try.pinned (OpenSpec.upto fairAsksSpec)

/-- 'reaperlaw21.FairHolds', WHERE WHAT IT READS IS OF BULK AT MOST 1048576: true; the input reads as it did. -/
def fairHoldsUptoRow : OpenClaim := { program := "ytmcnccfbligeaaa", sum := "43ed9770f094911ab37df5b4c8bddc2447b3ec58de40f7d87d20f2d85c0b18fa", func := "reaper/reaperlaw21.FairHolds", spec := "fairHolds", apart := false, narrowed := true }
def FairHoldsUptoSaid : Prop := fairHoldsUptoRow.holds Try.pinned (OpenSpec.upto fairHoldsSpec)

/-- 'reaperlaw21.FairLate', WHERE WHAT IT READS IS OF BULK AT MOST 1048576: true; the input reads as it did. -/
def fairLateUptoRow : OpenClaim := { program := "ytmcnccfbligeaaa", sum := "43ed9770f094911ab37df5b4c8bddc2447b3ec58de40f7d87d20f2d85c0b18fa", func := "reaper/reaperlaw21.FairLate", spec := "fairLate", apart := false, narrowed := true }
def FairLateUptoSaid : Prop := fairLateUptoRow.holds Try.pinned (OpenSpec.upto fairLateSpec)

end Rows
end Go.Proofs.Ytmcnccfbligeaaa
