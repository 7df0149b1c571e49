/-
  No cell of these rows narrows 'for every input' (looked for: loops, veiled, ifaces, maps, wideKeys, modest, calm, conditions, laid).
  DERIVED. THE GIVEN ROWS OF THIS SEAT. 7 by the template 'for every input the law returns true; each argument reads behind the call as it read before'; 0 by the template 'total and deterministic' (their statements: YthgljcmlnccjaaaTotals.lean).
  GIVEN WITH THE SEED: the statements are not yours to turn. If you find one false, say at which input.
  Laid BY PROGRAM, IN A SANDBOX (cutbox-rows.mjs): the forced cells as the released guide's own fill.sh prints them over the translation 0ecb420d4940e11c… (all of the seat's roots in one cut). By AI agents, Wed Nov 11 2026. No macro, syntax, notation, axiom, sorry.
-/
import Derived.Test.YthgljcmlnccjaaaChecked
import GoSem.Claim
import GoSem.ClaimJoined
import GoSem.ClaimMapViews
import Derived.JoinedTies
import Derived.KernelRfl
namespace Go.Proofs.Ythgljcmlnccjaaa
/- THE CELL 'sum', in the pinned program and in every row, IS THE sha256 OF THE DUMP (.gsa) THAT YthgljcmlnccjaaaProg.lean LOADS. Nothing in Lean hashes anything: it is a label: what it is worth is what the hold of that sum in a sandbox is worth. -/
noncomputable def Try.pinned : Pinned := { name := "ythgljcmlnccjaaa", sum := "0ecb420d4940e11c3c572c00e8c8d8d0b8d58080ac40acb2df0c45b4e2a1b628", checked := Try.checked }
namespace Rows
def none {H : Type} : Left H := { results := [], args := [] }

/-- 'reaperlaw07.SkipHeights': WHATEVER THE INPUT: true; the input reads as it did. -/
def skipHeightsSpec : ChangeSpec := { name := "skipHeights", fn := fun _ => fun
  | [d1, d2, d3] => { results := [.lit (.bool true)], args := [d1, d2, d3] }
  | _ => none }
def skipHeightsRow : OpenClaim := { program := "ythgljcmlnccjaaa", sum := "0ecb420d4940e11c3c572c00e8c8d8d0b8d58080ac40acb2df0c45b4e2a1b628", func := "reaper/reaperlaw07.SkipHeights", spec := "skipHeights", unfollowed := true, recurses := true, apart := false }
def SkipHeightsSaid : Prop := skipHeightsRow.holds Try.pinned (OpenSpec.ofChange skipHeightsSpec)

/-- ITS FALSE NEIGHBOUR: 'it returns false'. Refute it at one input. -/
def skipHeightsWrong : ChangeSpec := { name := "skipHeights", fn := fun _ => fun
  | [d1, d2, d3] => { results := [.lit (.bool false)], args := [d1, d2, d3] }
  | _ => none }
def SkipHeightsWrongFalsely : Prop := skipHeightsRow.holds Try.pinned (OpenSpec.ofChange skipHeightsWrong)

/-- 'reaperlaw07.SkipSorts': WHATEVER THE INPUT: true; the input reads as it did. -/
def skipSortsSpec : ChangeSpec := { name := "skipSorts", fn := fun _ => fun
  | [d1, d2] => { results := [.lit (.bool true)], args := [d1, d2] }
  | _ => none }
def skipSortsRow : OpenClaim := { program := "ythgljcmlnccjaaa", sum := "0ecb420d4940e11c3c572c00e8c8d8d0b8d58080ac40acb2df0c45b4e2a1b628", func := "reaper/reaperlaw07.SkipSorts", spec := "skipSorts", unfollowed := true, recurses := true, apart := false }
def SkipSortsSaid : Prop := skipSortsRow.holds Try.pinned (OpenSpec.ofChange skipSortsSpec)

/-- ITS FALSE NEIGHBOUR: 'it returns false'. Refute it at one input. -/
def skipSortsWrong : ChangeSpec := { name := "skipSorts", fn := fun _ => fun
  | [d1, d2] => { results := [.lit (.bool false)], args := [d1, d2] }
  | _ => none }
def SkipSortsWrongFalsely : Prop := skipSortsRow.holds Try.pinned (OpenSpec.ofChange skipSortsWrong)

/-- 'reaperlaw07.SkipBatch': WHATEVER THE INPUT: true; the input reads as it did. -/
def skipBatchSpec : ChangeSpec := { name := "skipBatch", fn := fun _ => fun
  | [d1, d2, d3, d4, d5] => { results := [.lit (.bool true)], args := [d1, d2, d3, d4, d5] }
  | _ => none }
def skipBatchRow : OpenClaim := { program := "ythgljcmlnccjaaa", sum := "0ecb420d4940e11c3c572c00e8c8d8d0b8d58080ac40acb2df0c45b4e2a1b628", func := "reaper/reaperlaw07.SkipBatch", spec := "skipBatch", unfollowed := true, recurses := true, apart := false }
def SkipBatchSaid : Prop := skipBatchRow.holds Try.pinned (OpenSpec.ofChange skipBatchSpec)

/-- ITS FALSE NEIGHBOUR: 'it returns false'. Refute it at one input. -/
def skipBatchWrong : ChangeSpec := { name := "skipBatch", fn := fun _ => fun
  | [d1, d2, d3, d4, d5] => { results := [.lit (.bool false)], args := [d1, d2, d3, d4, d5] }
  | _ => none }
def SkipBatchWrongFalsely : Prop := skipBatchRow.holds Try.pinned (OpenSpec.ofChange skipBatchWrong)

/-- 'reaperlaw07.SkipLevels': WHATEVER THE INPUT: true; the input reads as it did. -/
def skipLevelsSpec : ChangeSpec := { name := "skipLevels", fn := fun _ => fun
  | [d1, d2, d3] => { results := [.lit (.bool true)], args := [d1, d2, d3] }
  | _ => none }
def skipLevelsRow : OpenClaim := { program := "ythgljcmlnccjaaa", sum := "0ecb420d4940e11c3c572c00e8c8d8d0b8d58080ac40acb2df0c45b4e2a1b628", func := "reaper/reaperlaw07.SkipLevels", spec := "skipLevels", unfollowed := true, recurses := true, apart := false }
def SkipLevelsSaid : Prop := skipLevelsRow.holds Try.pinned (OpenSpec.ofChange skipLevelsSpec)

/-- ITS FALSE NEIGHBOUR: 'it returns false'. Refute it at one input. -/
def skipLevelsWrong : ChangeSpec := { name := "skipLevels", fn := fun _ => fun
  | [d1, d2, d3] => { results := [.lit (.bool false)], args := [d1, d2, d3] }
  | _ => none }
def SkipLevelsWrongFalsely : Prop := skipLevelsRow.holds Try.pinned (OpenSpec.ofChange skipLevelsWrong)

/-- 'reaperlaw07.SkipMin': WHATEVER THE INPUT: true; the input reads as it did. -/
def skipMinSpec : ChangeSpec := { name := "skipMin", fn := fun _ => fun
  | [d1, d2, d3] => { results := [.lit (.bool true)], args := [d1, d2, d3] }
  | _ => none }
def skipMinRow : OpenClaim := { program := "ythgljcmlnccjaaa", sum := "0ecb420d4940e11c3c572c00e8c8d8d0b8d58080ac40acb2df0c45b4e2a1b628", func := "reaper/reaperlaw07.SkipMin", spec := "skipMin", unfollowed := true, recurses := true, apart := false }
def SkipMinSaid : Prop := skipMinRow.holds Try.pinned (OpenSpec.ofChange skipMinSpec)

/-- ITS FALSE NEIGHBOUR: 'it returns false'. Refute it at one input. -/
def skipMinWrong : ChangeSpec := { name := "skipMin", fn := fun _ => fun
  | [d1, d2, d3] => { results := [.lit (.bool false)], args := [d1, d2, d3] }
  | _ => none }
def SkipMinWrongFalsely : Prop := skipMinRow.holds Try.pinned (OpenSpec.ofChange skipMinWrong)

/-- 'reaperlaw07.SkipDoes': WHATEVER THE INPUT: true; the input reads as it did. -/
def skipDoesSpec : ChangeSpec := { name := "skipDoes", fn := fun _ => fun
  | [d1, d2, d3, d4] => { results := [.lit (.bool true)], args := [d1, d2, d3, d4] }
  | _ => none }
def skipDoesRow : OpenClaim := { program := "ythgljcmlnccjaaa", sum := "0ecb420d4940e11c3c572c00e8c8d8d0b8d58080ac40acb2df0c45b4e2a1b628", func := "reaper/reaperlaw07.SkipDoes", spec := "skipDoes", unfollowed := true, recurses := true, apart := false }
def SkipDoesSaid : Prop := skipDoesRow.holds Try.pinned (OpenSpec.ofChange skipDoesSpec)

/-- ITS FALSE NEIGHBOUR: 'it returns false'. Refute it at one input. -/
def skipDoesWrong : ChangeSpec := { name := "skipDoes", fn := fun _ => fun
  | [d1, d2, d3, d4] => { results := [.lit (.bool false)], args := [d1, d2, d3, d4] }
  | _ => none }
def SkipDoesWrongFalsely : Prop := skipDoesRow.holds Try.pinned (OpenSpec.ofChange skipDoesWrong)

/-- 'reaperlaw07.SkipNone': WHATEVER THE INPUT: true; the input reads as it did. -/
def skipNoneSpec : ChangeSpec := { name := "skipNone", fn := fun _ => fun
  | [d1, d2, d3] => { results := [.lit (.bool true)], args := [d1, d2, d3] }
  | _ => none }
def skipNoneRow : OpenClaim := { program := "ythgljcmlnccjaaa", sum := "0ecb420d4940e11c3c572c00e8c8d8d0b8d58080ac40acb2df0c45b4e2a1b628", func := "reaper/reaperlaw07.SkipNone", spec := "skipNone", unfollowed := true, recurses := true, apart := false }
def SkipNoneSaid : Prop := skipNoneRow.holds Try.pinned (OpenSpec.ofChange skipNoneSpec)

/-- ITS FALSE NEIGHBOUR: 'it returns false'. Refute it at one input. -/
def skipNoneWrong : ChangeSpec := { name := "skipNone", fn := fun _ => fun
  | [d1, d2, d3] => { results := [.lit (.bool false)], args := [d1, d2, d3] }
  | _ => none }
def SkipNoneWrongFalsely : Prop := skipNoneRow.holds Try.pinned (OpenSpec.ofChange skipNoneWrong)

/- THE SECOND FORM. 'bulk': how many values and letters a reading holds, each counted each time it is reached (what is shared counts as often as it is met; a slice's spare places count too). A statement '..UptoSaid' is the law's where the arguments, and the package variables that the reading takes, are together of bulk at most 1048576: NARROWER than '..Said'. Prove '..Said' where nothing that the law and all that it calls make is longer than what came in: it says more and counts as full. Else prove '..UptoSaid'. A law counts once. -/
mutual
def uptoBulk {H : Type} : DataW H → Nat
  | .lit (.string bytes) => bytes.length + 1
  | .lit _ => 1
  | .nil => 1
  | .ptr d => uptoBulk d + 1
  | .slice elems spare => uptoBulkAll elems + uptoBulkAll spare + 1
  | .agg parts => uptoBulkAll parts + 1
  | .iface _ d => uptoBulk d + 1
  | .map entries => uptoBulkEntries entries + 1
  | .held _ => 1
def uptoBulkAll {H : Type} : List (DataW H) → Nat
  | [] => 0
  | d :: r => uptoBulk d + uptoBulkAll r
def uptoBulkEntries {H : Type} : List (Lit × DataW H) → Nat
  | [] => 0
  | x :: r => uptoBulkEntry x + uptoBulkEntries r
def uptoBulkEntry {H : Type} : Lit × DataW H → Nat
  | (.string bytes, d) => bytes.length + uptoBulk d + 1
  | (_, d) => uptoBulk d + 1
 end
def uptoSmall : (H : Type) → List (DataW H) → Bool := fun _ ds => decide (uptoBulkAll ds ≤ 1048576)
def OpenSpec.upto (s : _root_.Go.ChangeSpec) : _root_.Go.OpenSpec := { _root_.Go.OpenSpec.ofChange s with cond := some uptoSmall }

/-- 'reaperlaw07.SkipHeights', WHERE WHAT IT READS IS OF BULK AT MOST 1048576: true; the input reads as it did. -/
def skipHeightsUptoRow : OpenClaim := { program := "ythgljcmlnccjaaa", sum := "0ecb420d4940e11c3c572c00e8c8d8d0b8d58080ac40acb2df0c45b4e2a1b628", func := "reaper/reaperlaw07.SkipHeights", spec := "skipHeights", unfollowed := true, recurses := true, apart := false, narrowed := true }
def SkipHeightsUptoSaid : Prop := skipHeightsUptoRow.holds Try.pinned (OpenSpec.upto skipHeightsSpec)

/-- 'reaperlaw07.SkipSorts', WHERE WHAT IT READS IS OF BULK AT MOST 1048576: true; the input reads as it did. -/
def skipSortsUptoRow : OpenClaim := { program := "ythgljcmlnccjaaa", sum := "0ecb420d4940e11c3c572c00e8c8d8d0b8d58080ac40acb2df0c45b4e2a1b628", func := "reaper/reaperlaw07.SkipSorts", spec := "skipSorts", unfollowed := true, recurses := true, apart := false, narrowed := true }
def SkipSortsUptoSaid : Prop := skipSortsUptoRow.holds Try.pinned (OpenSpec.upto skipSortsSpec)

/-- 'reaperlaw07.SkipBatch', WHERE WHAT IT READS IS OF BULK AT MOST 1048576: true; the input reads as it did. -/
def skipBatchUptoRow : OpenClaim := { program := "ythgljcmlnccjaaa", sum := "0ecb420d4940e11c3c572c00e8c8d8d0b8d58080ac40acb2df0c45b4e2a1b628", func := "reaper/reaperlaw07.SkipBatch", spec := "skipBatch", unfollowed := true, recurses := true, apart := false, narrowed := true }
def SkipBatchUptoSaid : Prop := skipBatchUptoRow.holds Try.pinned (OpenSpec.upto skipBatchSpec)

/-- 'reaperlaw07.SkipLevels', WHERE WHAT IT READS IS OF BULK AT MOST 1048576: true; the input reads as it did. -/
def skipLevelsUptoRow : OpenClaim := { program := "ythgljcmlnccjaaa", sum := "0ecb420d4940e11c3c572c00e8c8d8d0b8d58080ac40acb2df0c45b4e2a1b628", func := "reaper/reaperlaw07.SkipLevels", spec := "skipLevels", unfollowed := true, recurses := true, apart := false, narrowed := true }
def SkipLevelsUptoSaid : Prop := skipLevelsUptoRow.holds Try.pinned (OpenSpec.upto skipLevelsSpec)

/-- 'reaperlaw07.SkipMin', WHERE WHAT IT READS IS OF BULK AT MOST 1048576: true; the input reads as it did. -/
def skipMinUptoRow : OpenClaim := { program := "ythgljcmlnccjaaa", sum := "0ecb420d4940e11c3c572c00e8c8d8d0b8d58080ac40acb2df0c45b4e2a1b628", func := "reaper/reaperlaw07.SkipMin", spec := "skipMin", unfollowed := true, recurses := true, apart := false, narrowed := true }
def SkipMinUptoSaid : Prop := skipMinUptoRow.holds Try.pinned (OpenSpec.upto skipMinSpec)

/-- 'reaperlaw07.SkipDoes', WHERE WHAT IT READS IS OF BULK AT MOST 1048576: true; the input reads as it did. -/
def skipDoesUptoRow : OpenClaim := { program := "ythgljcmlnccjaaa", sum := "0ecb420d4940e11c3c572c00e8c8d8d0b8d58080ac40acb2df0c45b4e2a1b628", func := "reaper/reaperlaw07.SkipDoes", spec := "skipDoes", unfollowed := true, recurses := true, apart := false, narrowed := true }
def SkipDoesUptoSaid : Prop := skipDoesUptoRow.holds Try.pinned (OpenSpec.upto skipDoesSpec)

/-- 'reaperlaw07.SkipNone', WHERE WHAT IT READS IS OF BULK AT MOST 1048576: true; the input reads as it did. -/
def skipNoneUptoRow : OpenClaim := { program := "ythgljcmlnccjaaa", sum := "0ecb420d4940e11c3c572c00e8c8d8d0b8d58080ac40acb2df0c45b4e2a1b628", func := "reaper/reaperlaw07.SkipNone", spec := "skipNone", unfollowed := true, recurses := true, apart := false, narrowed := true }
def SkipNoneUptoSaid : Prop := skipNoneUptoRow.holds Try.pinned (OpenSpec.upto skipNoneSpec)

end Rows
end Go.Proofs.Ythgljcmlnccjaaa
