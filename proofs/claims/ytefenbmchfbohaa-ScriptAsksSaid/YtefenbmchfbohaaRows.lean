/-
  No cell of these rows narrows 'for every input' (looked for: loops, veiled, ifaces, maps, wideKeys, modest, calm, conditions, laid).
  DERIVED. THE GIVEN ROWS OF THIS SEAT. 6 by the template 'for every input the law returns true; each argument reads behind the call as it read before'; 0 by the template 'total and deterministic' (their statements: YtefenbmchfbohaaTotals.lean).
  GIVEN WITH THE SEED: the statements are not yours to turn. If you find one false, say at which input.
  Laid BY PROGRAM, IN A SANDBOX (cutbox-rows.mjs): the forced cells as the released guide's own fill.sh prints them over the translation 4f3cd838d06c8cd3… (all of the seat's roots in one cut). By AI agents, Wed Nov 11 2026. No macro, syntax, notation, axiom, sorry.
-/
import Derived.Test.YtefenbmchfbohaaChecked
import GoSem.Claim
import GoSem.ClaimJoined
import GoSem.ClaimMapViews
import Derived.JoinedTies
import Derived.KernelRfl
namespace Go.Proofs.Ytefenbmchfbohaa
/- THE CELL 'sum', in the pinned program and in every row, IS THE sha256 OF THE DUMP (.gsa) THAT YtefenbmchfbohaaProg.lean LOADS. Nothing in Lean hashes anything: it is a label: what it is worth is what the hold of that sum in a sandbox is worth. -/
noncomputable def Try.pinned : Pinned := { name := "ytefenbmchfbohaa", sum := "4f3cd838d06c8cd34c130aae6c5c8efc72112c9c0e3d23c089a90f230b9779ab", checked := Try.checked }
namespace Rows
def none {H : Type} : Left H := { results := [], args := [] }

/-- 'reaperlaw03.ScriptKinds': WHATEVER THE INPUT: true; the input reads as it did. -/
def scriptKindsSpec : ChangeSpec := { name := "scriptKinds", fn := fun _ => fun
  | [d1, d2, d3, d4, d5] => { results := [.lit (.bool true)], args := [d1, d2, d3, d4, d5] }
  | _ => none }
def scriptKindsRow : OpenClaim := { program := "ytefenbmchfbohaa", sum := "4f3cd838d06c8cd34c130aae6c5c8efc72112c9c0e3d23c089a90f230b9779ab", func := "reaper/reaperlaw03.ScriptKinds", spec := "scriptKinds", unfollowed := true, recurses := true, apart := false }
def ScriptKindsSaid : Prop := scriptKindsRow.holds Try.pinned (OpenSpec.ofChange scriptKindsSpec)

/-- ITS FALSE NEIGHBOUR: 'it returns false'. Refute it at one input. -/
def scriptKindsWrong : ChangeSpec := { name := "scriptKinds", fn := fun _ => fun
  | [d1, d2, d3, d4, d5] => { results := [.lit (.bool false)], args := [d1, d2, d3, d4, d5] }
  | _ => none }
def ScriptKindsWrongFalsely : Prop := scriptKindsRow.holds Try.pinned (OpenSpec.ofChange scriptKindsWrong)

/-- 'reaperlaw03.ScriptParts': WHATEVER THE INPUT: true; the input reads as it did. -/
def scriptPartsSpec : ChangeSpec := { name := "scriptParts", fn := fun _ => fun
  | [d1, d2] => { results := [.lit (.bool true)], args := [d1, d2] }
  | _ => none }
def scriptPartsRow : OpenClaim := { program := "ytefenbmchfbohaa", sum := "4f3cd838d06c8cd34c130aae6c5c8efc72112c9c0e3d23c089a90f230b9779ab", func := "reaper/reaperlaw03.ScriptParts", spec := "scriptParts", unfollowed := true, recurses := true, apart := false }
def ScriptPartsSaid : Prop := scriptPartsRow.holds Try.pinned (OpenSpec.ofChange scriptPartsSpec)

/-- ITS FALSE NEIGHBOUR: 'it returns false'. Refute it at one input. -/
def scriptPartsWrong : ChangeSpec := { name := "scriptParts", fn := fun _ => fun
  | [d1, d2] => { results := [.lit (.bool false)], args := [d1, d2] }
  | _ => none }
def ScriptPartsWrongFalsely : Prop := scriptPartsRow.holds Try.pinned (OpenSpec.ofChange scriptPartsWrong)

/-- 'reaperlaw03.ScriptRounds': WHATEVER THE INPUT: true; the input reads as it did. -/
def scriptRoundsSpec : ChangeSpec := { name := "scriptRounds", fn := fun _ => fun
  | [d1, d2] => { results := [.lit (.bool true)], args := [d1, d2] }
  | _ => none }
def scriptRoundsRow : OpenClaim := { program := "ytefenbmchfbohaa", sum := "4f3cd838d06c8cd34c130aae6c5c8efc72112c9c0e3d23c089a90f230b9779ab", func := "reaper/reaperlaw03.ScriptRounds", spec := "scriptRounds", unfollowed := true, recurses := true, apart := false }
def ScriptRoundsSaid : Prop := scriptRoundsRow.holds Try.pinned (OpenSpec.ofChange scriptRoundsSpec)

/-- ITS FALSE NEIGHBOUR: 'it returns false'. Refute it at one input. -/
def scriptRoundsWrong : ChangeSpec := { name := "scriptRounds", fn := fun _ => fun
  | [d1, d2] => { results := [.lit (.bool false)], args := [d1, d2] }
  | _ => none }
def ScriptRoundsWrongFalsely : Prop := scriptRoundsRow.holds Try.pinned (OpenSpec.ofChange scriptRoundsWrong)

/-- 'reaperlaw03.ScriptBack': WHATEVER THE INPUT: true; the input reads as it did. -/
def scriptBackSpec : ChangeSpec := { name := "scriptBack", fn := fun _ => fun
  | [d1, d2] => { results := [.lit (.bool true)], args := [d1, d2] }
  | _ => none }
def scriptBackRow : OpenClaim := { program := "ytefenbmchfbohaa", sum := "4f3cd838d06c8cd34c130aae6c5c8efc72112c9c0e3d23c089a90f230b9779ab", func := "reaper/reaperlaw03.ScriptBack", spec := "scriptBack", unfollowed := true, recurses := true, apart := false }
def ScriptBackSaid : Prop := scriptBackRow.holds Try.pinned (OpenSpec.ofChange scriptBackSpec)

/-- ITS FALSE NEIGHBOUR: 'it returns false'. Refute it at one input. -/
def scriptBackWrong : ChangeSpec := { name := "scriptBack", fn := fun _ => fun
  | [d1, d2] => { results := [.lit (.bool false)], args := [d1, d2] }
  | _ => none }
def ScriptBackWrongFalsely : Prop := scriptBackRow.holds Try.pinned (OpenSpec.ofChange scriptBackWrong)

/-- 'reaperlaw03.ScriptCalls': WHATEVER THE INPUT: true; the input reads as it did. -/
def scriptCallsSpec : ChangeSpec := { name := "scriptCalls", fn := fun _ => fun
  | [d1, d2] => { results := [.lit (.bool true)], args := [d1, d2] }
  | _ => none }
def scriptCallsRow : OpenClaim := { program := "ytefenbmchfbohaa", sum := "4f3cd838d06c8cd34c130aae6c5c8efc72112c9c0e3d23c089a90f230b9779ab", func := "reaper/reaperlaw03.ScriptCalls", spec := "scriptCalls", unfollowed := true, recurses := true, apart := false }
def ScriptCallsSaid : Prop := scriptCallsRow.holds Try.pinned (OpenSpec.ofChange scriptCallsSpec)

/-- ITS FALSE NEIGHBOUR: 'it returns false'. Refute it at one input. -/
def scriptCallsWrong : ChangeSpec := { name := "scriptCalls", fn := fun _ => fun
  | [d1, d2] => { results := [.lit (.bool false)], args := [d1, d2] }
  | _ => none }
def ScriptCallsWrongFalsely : Prop := scriptCallsRow.holds Try.pinned (OpenSpec.ofChange scriptCallsWrong)

/-- 'reaperlaw03.ScriptAsks': WHATEVER THE INPUT: true; the input reads as it did. -/
def scriptAsksSpec : ChangeSpec := { name := "scriptAsks", fn := fun _ => fun
  | [d1, d2, d3, d4, d5, d6, d7, d8] => { results := [.lit (.bool true)], args := [d1, d2, d3, d4, d5, d6, d7, d8] }
  | _ => none }
def scriptAsksRow : OpenClaim := { program := "ytefenbmchfbohaa", sum := "4f3cd838d06c8cd34c130aae6c5c8efc72112c9c0e3d23c089a90f230b9779ab", func := "reaper/reaperlaw03.ScriptAsks", spec := "scriptAsks", unfollowed := true, recurses := true, apart := false }
def ScriptAsksSaid : Prop := scriptAsksRow.holds Try.pinned (OpenSpec.ofChange scriptAsksSpec)

/-- ITS FALSE NEIGHBOUR: 'it returns false'. Refute it at one input. -/
def scriptAsksWrong : ChangeSpec := { name := "scriptAsks", fn := fun _ => fun
  | [d1, d2, d3, d4, d5, d6, d7, d8] => { results := [.lit (.bool false)], args := [d1, d2, d3, d4, d5, d6, d7, d8] }
  | _ => none }
def ScriptAsksWrongFalsely : Prop := scriptAsksRow.holds Try.pinned (OpenSpec.ofChange scriptAsksWrong)

/- THE SECOND FORM. 'bulk': how many values and letters a reading holds, each counted each time it is reached (what is shared counts as often as it is met; a slice's spare places count too). A statement '..UptoSaid' is the law's where the arguments, and the package variables that the reading takes, are together of bulk at most 1048576: NARROWER than '..Said'. Prove '..Said' where nothing that the law and all that it calls make is longer than what came in: it says more and counts as full. Else prove '..UptoSaid'. A law counts once. -/
mutual
def uptoBulk {H : Type} : DataW H → Nat
  | .lit (.string bytes) => bytes.length + 1
  | .lit _ => 1
  | .nil => 1
  | .ptr d => uptoBulk d + 1
  | .slice elems spare => uptoBulkAll elems + uptoBulkAll spare + 1
  | .agg parts => uptoBulkAll parts + 1
  | .iface _ d => uptoBulk d + 1
  | .map entries => uptoBulkEntries entries + 1
  | .held _ => 1
def uptoBulkAll {H : Type} : List (DataW H) → Nat
  | [] => 0
  | d :: r => uptoBulk d + uptoBulkAll r
def uptoBulkEntries {H : Type} : List (Lit × DataW H) → Nat
  | [] => 0
  | x :: r => uptoBulkEntry x + uptoBulkEntries r
def uptoBulkEntry {H : Type} : Lit × DataW H → Nat
  | (.string bytes, d) => bytes.length + uptoBulk d + 1
  | (_, d) => uptoBulk d + 1
 end
def uptoSmall : (H : Type) → List (DataW H) → Bool := fun _ ds => decide (uptoBulkAll ds ≤ 1048576)
def OpenSpec.upto (s : _root_.Go.ChangeSpec) : _root_.Go.OpenSpec := { _root_.Go.OpenSpec.ofChange s with cond := some uptoSmall }

/-- 'reaperlaw03.ScriptKinds', WHERE WHAT IT READS IS OF BULK AT MOST 1048576: true; the input reads as it did. -/
def scriptKindsUptoRow : OpenClaim := { program := "ytefenbmchfbohaa", sum := "4f3cd838d06c8cd34c130aae6c5c8efc72112c9c0e3d23c089a90f230b9779ab", func := "reaper/reaperlaw03.ScriptKinds", spec := "scriptKinds", unfollowed := true, recurses := true, apart := false, narrowed := true }
def ScriptKindsUptoSaid : Prop := scriptKindsUptoRow.holds Try.pinned (OpenSpec.upto scriptKindsSpec)

/-- 'reaperlaw03.ScriptParts', WHERE WHAT IT READS IS OF BULK AT MOST 1048576: true; the input reads as it did. -/
def scriptPartsUptoRow : OpenClaim := { program := "ytefenbmchfbohaa", sum := "4f3cd838d06c8cd34c130aae6c5c8efc72112c9c0e3d23c089a90f230b9779ab", func := "reaper/reaperlaw03.ScriptParts", spec := "scriptParts", unfollowed := true, recurses := true, apart := false, narrowed := true }
def ScriptPartsUptoSaid : Prop := scriptPartsUptoRow.holds Try.pinned (OpenSpec.upto scriptPartsSpec)

/-- 'reaperlaw03.ScriptRounds', WHERE WHAT IT READS IS OF BULK AT MOST 1048576: true; the input reads as it did. -/
def scriptRoundsUptoRow : OpenClaim := { program := "ytefenbmchfbohaa", sum := "4f3cd838d06c8cd34c130aae6c5c8efc72112c9c0e3d23c089a90f230b9779ab", func := "reaper/reaperlaw03.ScriptRounds", spec := "scriptRounds", unfollowed := true, recurses := true, apart := false, narrowed := true }
def ScriptRoundsUptoSaid : Prop := scriptRoundsUptoRow.holds Try.pinned (OpenSpec.upto scriptRoundsSpec)

/-- 'reaperlaw03.ScriptBack', WHERE WHAT IT READS IS OF BULK AT MOST 1048576: true; the input reads as it did. -/
def scriptBackUptoRow : OpenClaim := { program := "ytefenbmchfbohaa", sum := "4f3cd838d06c8cd34c130aae6c5c8efc72112c9c0e3d23c089a90f230b9779ab", func := "reaper/reaperlaw03.ScriptBack", spec := "scriptBack", unfollowed := true, recurses := true, apart := false, narrowed := true }
def ScriptBackUptoSaid : Prop := scriptBackUptoRow.holds Try.pinned (OpenSpec.upto scriptBackSpec)

/-- 'reaperlaw03.ScriptCalls', WHERE WHAT IT READS IS OF BULK AT MOST 1048576: true; the input reads as it did. -/
def scriptCallsUptoRow : OpenClaim := { program := "ytefenbmchfbohaa", sum := "4f3cd838d06c8cd34c130aae6c5c8efc72112c9c0e3d23c089a90f230b9779ab", func := "reaper/reaperlaw03.ScriptCalls", spec := "scriptCalls", unfollowed := true, recurses := true, apart := false, narrowed := true }
def ScriptCallsUptoSaid : Prop := scriptCallsUptoRow.holds Try.pinned (OpenSpec.upto scriptCallsSpec)

/-- 'reaperlaw03.ScriptAsks', WHERE WHAT IT READS IS OF BULK AT MOST 1048576: true; the input reads as it did. -/
def scriptAsksUptoRow : OpenClaim := { program := "ytefenbmchfbohaa", sum := "4f3cd838d06c8cd34c130aae6c5c8efc72112c9c0e3d23c089a90f230b9779ab", func := "reaper/reaperlaw03.ScriptAsks", spec := "scriptAsks", unfollowed := true, recurses := true, apart := false, narrowed := true }
def ScriptAsksUptoSaid : Prop := scriptAsksUptoRow.holds Try.pinned (OpenSpec.upto scriptAsksSpec)

end Rows
end Go.Proofs.Ytefenbmchfbohaa
