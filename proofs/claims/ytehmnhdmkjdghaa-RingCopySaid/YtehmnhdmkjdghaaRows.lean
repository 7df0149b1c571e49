/-
  No cell of these rows narrows 'for every input' (looked for: loops, veiled, ifaces, maps, wideKeys, modest, calm, conditions, laid).
  DERIVED. THE GIVEN ROWS OF THIS SEAT. 7 by the template 'for every input the law returns true; each argument reads behind the call as it read before'; 0 by the template 'total and deterministic' (their statements: YtehmnhdmkjdghaaTotals.lean).
  GIVEN WITH THE SEED: the statements are not yours to turn. If you find one false, say at which input.
  Laid BY PROGRAM, IN A SANDBOX (cutbox-rows.mjs): the forced cells as the released guide's own fill.sh prints them over the translation b83b4468a500758b… (all of the seat's roots in one cut). By AI agents, Wed Nov 11 2026. No macro, syntax, notation, axiom, sorry.
-/
import Derived.Test.YtehmnhdmkjdghaaChecked
import GoSem.Claim
import GoSem.ClaimJoined
import GoSem.ClaimMapViews
import Derived.JoinedTies
import Derived.KernelRfl
namespace Go.Proofs.Ytehmnhdmkjdghaa
/- THE CELL 'sum', in the pinned program and in every row, IS THE sha256 OF THE DUMP (.gsa) THAT YtehmnhdmkjdghaaProg.lean LOADS. Nothing in Lean hashes anything: it is a label: what it is worth is what the hold of that sum in a sandbox is worth. -/
noncomputable def Try.pinned : Pinned := { name := "ytehmnhdmkjdghaa", sum := "b83b4468a500758b69f863cb3c7c42a4f8c5be99bb733407ccae29dde3323b7d", checked := Try.checked }
namespace Rows
def none {H : Type} : Left H := { results := [], args := [] }

/-- 'reaperlaw05.RingStack': WHATEVER THE INPUT: true; the input reads as it did. -/
def ringStackSpec : ChangeSpec := { name := "ringStack", fn := fun _ => fun
  | [d1, d2, d3] => { results := [.lit (.bool true)], args := [d1, d2, d3] }
  | _ => none }
def ringStackRow : OpenClaim := { program := "ytehmnhdmkjdghaa", sum := "b83b4468a500758b69f863cb3c7c42a4f8c5be99bb733407ccae29dde3323b7d", func := "reaper/reaperlaw05.RingStack", spec := "ringStack", apart := false }
def RingStackSaid : Prop := ringStackRow.holds Try.pinned (OpenSpec.ofChange ringStackSpec)

/-- ITS FALSE NEIGHBOUR: 'it returns false'. Refute it at one input. -/
def ringStackWrong : ChangeSpec := { name := "ringStack", fn := fun _ => fun
  | [d1, d2, d3] => { results := [.lit (.bool false)], args := [d1, d2, d3] }
  | _ => none }
def RingStackWrongFalsely : Prop := ringStackRow.holds Try.pinned (OpenSpec.ofChange ringStackWrong)

/-- 'reaperlaw05.RingMost': WHATEVER THE INPUT: true; the input reads as it did. -/
def ringMostSpec : ChangeSpec := { name := "ringMost", fn := fun _ => fun
  | [d1, d2, d3] => { results := [.lit (.bool true)], args := [d1, d2, d3] }
  | _ => none }
def ringMostRow : OpenClaim := { program := "ytehmnhdmkjdghaa", sum := "b83b4468a500758b69f863cb3c7c42a4f8c5be99bb733407ccae29dde3323b7d", func := "reaper/reaperlaw05.RingMost", spec := "ringMost", apart := false }
def RingMostSaid : Prop := ringMostRow.holds Try.pinned (OpenSpec.ofChange ringMostSpec)

/-- ITS FALSE NEIGHBOUR: 'it returns false'. Refute it at one input. -/
def ringMostWrong : ChangeSpec := { name := "ringMost", fn := fun _ => fun
  | [d1, d2, d3] => { results := [.lit (.bool false)], args := [d1, d2, d3] }
  | _ => none }
def RingMostWrongFalsely : Prop := ringMostRow.holds Try.pinned (OpenSpec.ofChange ringMostWrong)

/-- 'reaperlaw05.RingDoes': WHATEVER THE INPUT: true; the input reads as it did. -/
def ringDoesSpec : ChangeSpec := { name := "ringDoes", fn := fun _ => fun
  | [d1, d2, d3, d4] => { results := [.lit (.bool true)], args := [d1, d2, d3, d4] }
  | _ => none }
def ringDoesRow : OpenClaim := { program := "ytehmnhdmkjdghaa", sum := "b83b4468a500758b69f863cb3c7c42a4f8c5be99bb733407ccae29dde3323b7d", func := "reaper/reaperlaw05.RingDoes", spec := "ringDoes", unfollowed := true, recurses := true, apart := false }
def RingDoesSaid : Prop := ringDoesRow.holds Try.pinned (OpenSpec.ofChange ringDoesSpec)

/-- ITS FALSE NEIGHBOUR: 'it returns false'. Refute it at one input. -/
def ringDoesWrong : ChangeSpec := { name := "ringDoes", fn := fun _ => fun
  | [d1, d2, d3, d4] => { results := [.lit (.bool false)], args := [d1, d2, d3, d4] }
  | _ => none }
def RingDoesWrongFalsely : Prop := ringDoesRow.holds Try.pinned (OpenSpec.ofChange ringDoesWrong)

/-- 'reaperlaw05.RingTurned': WHATEVER THE INPUT: true; the input reads as it did. -/
def ringTurnedSpec : ChangeSpec := { name := "ringTurned", fn := fun _ => fun
  | [d1, d2] => { results := [.lit (.bool true)], args := [d1, d2] }
  | _ => none }
def ringTurnedRow : OpenClaim := { program := "ytehmnhdmkjdghaa", sum := "b83b4468a500758b69f863cb3c7c42a4f8c5be99bb733407ccae29dde3323b7d", func := "reaper/reaperlaw05.RingTurned", spec := "ringTurned", unfollowed := true, recurses := true, apart := false }
def RingTurnedSaid : Prop := ringTurnedRow.holds Try.pinned (OpenSpec.ofChange ringTurnedSpec)

/-- ITS FALSE NEIGHBOUR: 'it returns false'. Refute it at one input. -/
def ringTurnedWrong : ChangeSpec := { name := "ringTurned", fn := fun _ => fun
  | [d1, d2] => { results := [.lit (.bool false)], args := [d1, d2] }
  | _ => none }
def RingTurnedWrongFalsely : Prop := ringTurnedRow.holds Try.pinned (OpenSpec.ofChange ringTurnedWrong)

/-- 'reaperlaw05.RingQueue': WHATEVER THE INPUT: true; the input reads as it did. -/
def ringQueueSpec : ChangeSpec := { name := "ringQueue", fn := fun _ => fun
  | [d1, d2, d3] => { results := [.lit (.bool true)], args := [d1, d2, d3] }
  | _ => none }
def ringQueueRow : OpenClaim := { program := "ytehmnhdmkjdghaa", sum := "b83b4468a500758b69f863cb3c7c42a4f8c5be99bb733407ccae29dde3323b7d", func := "reaper/reaperlaw05.RingQueue", spec := "ringQueue", unfollowed := true, recurses := true, apart := false }
def RingQueueSaid : Prop := ringQueueRow.holds Try.pinned (OpenSpec.ofChange ringQueueSpec)

/-- ITS FALSE NEIGHBOUR: 'it returns false'. Refute it at one input. -/
def ringQueueWrong : ChangeSpec := { name := "ringQueue", fn := fun _ => fun
  | [d1, d2, d3] => { results := [.lit (.bool false)], args := [d1, d2, d3] }
  | _ => none }
def RingQueueWrongFalsely : Prop := ringQueueRow.holds Try.pinned (OpenSpec.ofChange ringQueueWrong)

/-- 'reaperlaw05.RingTurns': WHATEVER THE INPUT: true; the input reads as it did. -/
def ringTurnsSpec : ChangeSpec := { name := "ringTurns", fn := fun _ => fun
  | [d1, d2, d3] => { results := [.lit (.bool true)], args := [d1, d2, d3] }
  | _ => none }
def ringTurnsRow : OpenClaim := { program := "ytehmnhdmkjdghaa", sum := "b83b4468a500758b69f863cb3c7c42a4f8c5be99bb733407ccae29dde3323b7d", func := "reaper/reaperlaw05.RingTurns", spec := "ringTurns", unfollowed := true, recurses := true, apart := false }
def RingTurnsSaid : Prop := ringTurnsRow.holds Try.pinned (OpenSpec.ofChange ringTurnsSpec)

/-- ITS FALSE NEIGHBOUR: 'it returns false'. Refute it at one input. -/
def ringTurnsWrong : ChangeSpec := { name := "ringTurns", fn := fun _ => fun
  | [d1, d2, d3] => { results := [.lit (.bool false)], args := [d1, d2, d3] }
  | _ => none }
def RingTurnsWrongFalsely : Prop := ringTurnsRow.holds Try.pinned (OpenSpec.ofChange ringTurnsWrong)

/-- 'reaperlaw05.RingCopy': WHATEVER THE INPUT: true; the input reads as it did. -/
def ringCopySpec : ChangeSpec := { name := "ringCopy", fn := fun _ => fun
  | [d1, d2, d3, d4] => { results := [.lit (.bool true)], args := [d1, d2, d3, d4] }
  | _ => none }
def ringCopyRow : OpenClaim := { program := "ytehmnhdmkjdghaa", sum := "b83b4468a500758b69f863cb3c7c42a4f8c5be99bb733407ccae29dde3323b7d", func := "reaper/reaperlaw05.RingCopy", spec := "ringCopy", unfollowed := true, recurses := true, apart := false }
def RingCopySaid : Prop := ringCopyRow.holds Try.pinned (OpenSpec.ofChange ringCopySpec)

/-- ITS FALSE NEIGHBOUR: 'it returns false'. Refute it at one input. -/
def ringCopyWrong : ChangeSpec := { name := "ringCopy", fn := fun _ => fun
  | [d1, d2, d3, d4] => { results := [.lit (.bool false)], args := [d1, d2, d3, d4] }
  | _ => none }
def RingCopyWrongFalsely : Prop := ringCopyRow.holds Try.pinned (OpenSpec.ofChange ringCopyWrong)

/- THE SECOND FORM. 'bulk': how many values and letters a reading holds, each counted each time it is reached (what is shared counts as often as it is met; a slice's spare places count too). A statement '..UptoSaid' is the law's where the arguments, and the package variables that the reading takes, are together of bulk at most 1048576: NARROWER than '..Said'. Prove '..Said' where nothing that the law and all that it calls make is longer than what came in: it says more and counts as full. Else prove '..UptoSaid'. A law counts once. -/
mutual
def uptoBulk {H : Type} : DataW H → Nat
  | .lit (.string bytes) => bytes.length + 1
  | .lit _ => 1
  | .nil => 1
  | .ptr d => uptoBulk d + 1
  | .slice elems spare => uptoBulkAll elems + uptoBulkAll spare + 1
  | .agg parts => uptoBulkAll parts + 1
  | .iface _ d => uptoBulk d + 1
  | .map entries => uptoBulkEntries entries + 1
  | .held _ => 1
def uptoBulkAll {H : Type} : List (DataW H) → Nat
  | [] => 0
  | d :: r => uptoBulk d + uptoBulkAll r
def uptoBulkEntries {H : Type} : List (Lit × DataW H) → Nat
  | [] => 0
  | x :: r => uptoBulkEntry x + uptoBulkEntries r
def uptoBulkEntry {H : Type} : Lit × DataW H → Nat
  | (.string bytes, d) => bytes.length + uptoBulk d + 1
  | (_, d) => uptoBulk d + 1
 end
def uptoSmall : (H : Type) → List (DataW H) → Bool := fun _ ds => decide (uptoBulkAll ds ≤ 1048576)
def OpenSpec.upto (s : _root_.Go.ChangeSpec) : _root_.Go.OpenSpec := { _root_.Go.OpenSpec.ofChange s with cond := some uptoSmall }

/-- 'reaperlaw05.RingStack', WHERE WHAT IT READS IS OF BULK AT MOST 1048576: true; the input reads as it did. -/
def ringStackUptoRow : OpenClaim := { program := "ytehmnhdmkjdghaa", sum := "b83b4468a500758b69f863cb3c7c42a4f8c5be99bb733407ccae29dde3323b7d", func := "reaper/reaperlaw05.RingStack", spec := "ringStack", apart := false, narrowed := true }
def RingStackUptoSaid : Prop := ringStackUptoRow.holds Try.pinned (OpenSpec.upto ringStackSpec)

/-- 'reaperlaw05.RingMost', WHERE WHAT IT READS IS OF BULK AT MOST 1048576: true; the input reads as it did. -/
def ringMostUptoRow : OpenClaim := { program := "ytehmnhdmkjdghaa", sum := "b83b4468a500758b69f863cb3c7c42a4f8c5be99bb733407ccae29dde3323b7d", func := "reaper/reaperlaw05.RingMost", spec := "ringMost", apart := false, narrowed := true }
def RingMostUptoSaid : Prop := ringMostUptoRow.holds Try.pinned (OpenSpec.upto ringMostSpec)

/-- 'reaperlaw05.RingDoes', WHERE WHAT IT READS IS OF BULK AT MOST 1048576: true; the input reads as it did. -/
def ringDoesUptoRow : OpenClaim := { program := "ytehmnhdmkjdghaa", sum := "b83b4468a500758b69f863cb3c7c42a4f8c5be99bb733407ccae29dde3323b7d", func := "reaper/reaperlaw05.RingDoes", spec := "ringDoes", unfollowed := true, recurses := true, apart := false, narrowed := true }
def RingDoesUptoSaid : Prop := ringDoesUptoRow.holds Try.pinned (OpenSpec.upto ringDoesSpec)

/-- 'reaperlaw05.RingTurned', WHERE WHAT IT READS IS OF BULK AT MOST 1048576: true; the input reads as it did. -/
def ringTurnedUptoRow : OpenClaim := { program := "ytehmnhdmkjdghaa", sum := "b83b4468a500758b69f863cb3c7c42a4f8c5be99bb733407ccae29dde3323b7d", func := "reaper/reaperlaw05.RingTurned", spec := "ringTurned", unfollowed := true, recurses := true, apart := false, narrowed := true }
def RingTurnedUptoSaid : Prop := ringTurnedUptoRow.holds Try.pinned (OpenSpec.upto ringTurnedSpec)

/-- 'reaperlaw05.RingQueue', WHERE WHAT IT READS IS OF BULK AT MOST 1048576: true; the input reads as it did. -/
def ringQueueUptoRow : OpenClaim := { program := "ytehmnhdmkjdghaa", sum := "b83b4468a500758b69f863cb3c7c42a4f8c5be99bb733407ccae29dde3323b7d", func := "reaper/reaperlaw05.RingQueue", spec := "ringQueue", unfollowed := true, recurses := true, apart := false, narrowed := true }
def RingQueueUptoSaid : Prop := ringQueueUptoRow.holds Try.pinned (OpenSpec.upto ringQueueSpec)

/-- 'reaperlaw05.RingTurns', WHERE WHAT IT READS IS OF BULK AT MOST 1048576: true; the input reads as it did. -/
def ringTurnsUptoRow : OpenClaim := { program := "ytehmnhdmkjdghaa", sum := "b83b4468a500758b69f863cb3c7c42a4f8c5be99bb733407ccae29dde3323b7d", func := "reaper/reaperlaw05.RingTurns", spec := "ringTurns", unfollowed := true, recurses := true, apart := false, narrowed := true }
def RingTurnsUptoSaid : Prop := ringTurnsUptoRow.holds Try.pinned (OpenSpec.upto ringTurnsSpec)

/-- 'reaperlaw05.RingCopy', WHERE WHAT IT READS IS OF BULK AT MOST 1048576: true; the input reads as it did. -/
def ringCopyUptoRow : OpenClaim := { program := "ytehmnhdmkjdghaa", sum := "b83b4468a500758b69f863cb3c7c42a4f8c5be99bb733407ccae29dde3323b7d", func := "reaper/reaperlaw05.RingCopy", spec := "ringCopy", unfollowed := true, recurses := true, apart := false, narrowed := true }
def RingCopyUptoSaid : Prop := ringCopyUptoRow.holds Try.pinned (OpenSpec.upto ringCopySpec)

end Rows
end Go.Proofs.Ytehmnhdmkjdghaa
