/-
  No cell of these rows narrows 'for every input' (looked for: loops, veiled, ifaces, maps, wideKeys, modest, calm, conditions, laid).
  DERIVED. THE GIVEN ROWS OF THIS SEAT. 8 by the template 'for every input the law returns true; each argument reads behind the call as it read before'; 0 by the template 'total and deterministic' (their statements: YtgcfopallncnlabTotals.lean).
  GIVEN WITH THE SEED: the statements are not yours to turn. If you find one false, say at which input.
  Laid BY PROGRAM, IN A SANDBOX (cutbox-rows.mjs): the forced cells as the released guide's own fill.sh prints them over the translation 657cdb79ed4b691f… (all of the seat's roots in one cut). By AI agents, Wed Nov 11 2026. No macro, syntax, notation, axiom, sorry.
-/
import Derived.Test.YtgcfopallncnlabChecked
import GoSem.Claim
import GoSem.ClaimJoined
import GoSem.ClaimMapViews
import Derived.JoinedTies
import Derived.KernelRfl
namespace Go.Proofs.Ytgcfopallncnlab
/- THE CELL 'sum', in the pinned program and in every row, IS THE sha256 OF THE DUMP (.gsa) THAT YtgcfopallncnlabProg.lean LOADS. Nothing in Lean hashes anything: it is a label: what it is worth is what the hold of that sum in a sandbox is worth. -/
noncomputable def Try.pinned : Pinned := { name := "ytgcfopallncnlab", sum := "657cdb79ed4b691f03c52130d159c0044a6a6299b9f56e8c43433509436a3d14", checked := Try.checked }
namespace Rows
def none {H : Type} : Left H := { results := [], args := [] }

/-- 'gaugerlaw03.SeedsRange': WHATEVER THE INPUT: true; the input reads as it did. -/
def seedsRangeSpec : ChangeSpec := { name := "seedsRange", fn := fun _ => fun
  | [d1, d2, d3] => { results := [.lit (.bool true)], args := [d1, d2, d3] }
  | _ => none }
def seedsRangeRow : OpenClaim := { program := "ytgcfopallncnlab", sum := "657cdb79ed4b691f03c52130d159c0044a6a6299b9f56e8c43433509436a3d14", func := "gauger/gaugerlaw03.SeedsRange", spec := "seedsRange", unfollowed := true, recurses := true, apart := false }
def SeedsRangeSaid : Prop := seedsRangeRow.holds Try.pinned (OpenSpec.ofChange seedsRangeSpec)

/-- ITS FALSE NEIGHBOUR: 'it returns false'. Refute it at one input. -/
def seedsRangeWrong : ChangeSpec := { name := "seedsRange", fn := fun _ => fun
  | [d1, d2, d3] => { results := [.lit (.bool false)], args := [d1, d2, d3] }
  | _ => none }
def SeedsRangeWrongFalsely : Prop := seedsRangeRow.holds Try.pinned (OpenSpec.ofChange seedsRangeWrong)

/-- 'gaugerlaw03.SeedsShift': WHATEVER THE INPUT: true; the input reads as it did. -/
def seedsShiftSpec : ChangeSpec := { name := "seedsShift", fn := fun _ => fun
  | [d1, d2, d3] => { results := [.lit (.bool true)], args := [d1, d2, d3] }
  | _ => none }
def seedsShiftRow : OpenClaim := { program := "ytgcfopallncnlab", sum := "657cdb79ed4b691f03c52130d159c0044a6a6299b9f56e8c43433509436a3d14", func := "gauger/gaugerlaw03.SeedsShift", spec := "seedsShift", unfollowed := true, recurses := true, apart := false }
def SeedsShiftSaid : Prop := seedsShiftRow.holds Try.pinned (OpenSpec.ofChange seedsShiftSpec)

/-- ITS FALSE NEIGHBOUR: 'it returns false'. Refute it at one input. -/
def seedsShiftWrong : ChangeSpec := { name := "seedsShift", fn := fun _ => fun
  | [d1, d2, d3] => { results := [.lit (.bool false)], args := [d1, d2, d3] }
  | _ => none }
def SeedsShiftWrongFalsely : Prop := seedsShiftRow.holds Try.pinned (OpenSpec.ofChange seedsShiftWrong)

/-- 'gaugerlaw04.HashTells': WHATEVER THE INPUT: true; the input reads as it did. -/
def hashTellsSpec : ChangeSpec := { name := "hashTells", fn := fun _ => fun
  | [d1, d2] => { results := [.lit (.bool true)], args := [d1, d2] }
  | _ => none }
def hashTellsRow : OpenClaim := { program := "ytgcfopallncnlab", sum := "657cdb79ed4b691f03c52130d159c0044a6a6299b9f56e8c43433509436a3d14", func := "gauger/gaugerlaw04.HashTells", spec := "hashTells", unfollowed := true, recurses := true, apart := false }
def HashTellsSaid : Prop := hashTellsRow.holds Try.pinned (OpenSpec.ofChange hashTellsSpec)

/-- ITS FALSE NEIGHBOUR: 'it returns false'. Refute it at one input. -/
def hashTellsWrong : ChangeSpec := { name := "hashTells", fn := fun _ => fun
  | [d1, d2] => { results := [.lit (.bool false)], args := [d1, d2] }
  | _ => none }
def HashTellsWrongFalsely : Prop := hashTellsRow.holds Try.pinned (OpenSpec.ofChange hashTellsWrong)

/-- 'gaugerlaw04.HashThrough': WHATEVER THE INPUT: true; the input reads as it did. -/
def hashThroughSpec : ChangeSpec := { name := "hashThrough", fn := fun _ => fun
  | [d] => { results := [.lit (.bool true)], args := [d] }
  | _ => none }
def hashThroughRow : OpenClaim := { program := "ytgcfopallncnlab", sum := "657cdb79ed4b691f03c52130d159c0044a6a6299b9f56e8c43433509436a3d14", func := "gauger/gaugerlaw04.HashThrough", spec := "hashThrough", unfollowed := true, recurses := true, apart := false }
def HashThroughSaid : Prop := hashThroughRow.holds Try.pinned (OpenSpec.ofChange hashThroughSpec)

/-- ITS FALSE NEIGHBOUR: 'it returns false'. Refute it at one input. -/
def hashThroughWrong : ChangeSpec := { name := "hashThrough", fn := fun _ => fun
  | [d] => { results := [.lit (.bool false)], args := [d] }
  | _ => none }
def HashThroughWrongFalsely : Prop := hashThroughRow.holds Try.pinned (OpenSpec.ofChange hashThroughWrong)

/-- 'gaugerlaw04.HashMeets': WHATEVER THE INPUT: true; the input reads as it did. -/
def hashMeetsSpec : ChangeSpec := { name := "hashMeets", fn := fun _ => fun
  | [d1, d2, d3] => { results := [.lit (.bool true)], args := [d1, d2, d3] }
  | _ => none }
def hashMeetsRow : OpenClaim := { program := "ytgcfopallncnlab", sum := "657cdb79ed4b691f03c52130d159c0044a6a6299b9f56e8c43433509436a3d14", func := "gauger/gaugerlaw04.HashMeets", spec := "hashMeets", unfollowed := true, recurses := true, apart := false }
def HashMeetsSaid : Prop := hashMeetsRow.holds Try.pinned (OpenSpec.ofChange hashMeetsSpec)

/-- ITS FALSE NEIGHBOUR: 'it returns false'. Refute it at one input. -/
def hashMeetsWrong : ChangeSpec := { name := "hashMeets", fn := fun _ => fun
  | [d1, d2, d3] => { results := [.lit (.bool false)], args := [d1, d2, d3] }
  | _ => none }
def HashMeetsWrongFalsely : Prop := hashMeetsRow.holds Try.pinned (OpenSpec.ofChange hashMeetsWrong)

/-- 'gaugerlaw04.HashUnlike': WHATEVER THE INPUT: true; the input reads as it did. -/
def hashUnlikeSpec : ChangeSpec := { name := "hashUnlike", fn := fun _ => fun
  | [d1, d2, d3] => { results := [.lit (.bool true)], args := [d1, d2, d3] }
  | _ => none }
def hashUnlikeRow : OpenClaim := { program := "ytgcfopallncnlab", sum := "657cdb79ed4b691f03c52130d159c0044a6a6299b9f56e8c43433509436a3d14", func := "gauger/gaugerlaw04.HashUnlike", spec := "hashUnlike", unfollowed := true, recurses := true, apart := false }
def HashUnlikeSaid : Prop := hashUnlikeRow.holds Try.pinned (OpenSpec.ofChange hashUnlikeSpec)

/-- ITS FALSE NEIGHBOUR: 'it returns false'. Refute it at one input. -/
def hashUnlikeWrong : ChangeSpec := { name := "hashUnlike", fn := fun _ => fun
  | [d1, d2, d3] => { results := [.lit (.bool false)], args := [d1, d2, d3] }
  | _ => none }
def HashUnlikeWrongFalsely : Prop := hashUnlikeRow.holds Try.pinned (OpenSpec.ofChange hashUnlikeWrong)

/-- 'gaugerlaw04.HashRange': WHATEVER THE INPUT: true; the input reads as it did. -/
def hashRangeSpec : ChangeSpec := { name := "hashRange", fn := fun _ => fun
  | [d1, d2] => { results := [.lit (.bool true)], args := [d1, d2] }
  | _ => none }
def hashRangeRow : OpenClaim := { program := "ytgcfopallncnlab", sum := "657cdb79ed4b691f03c52130d159c0044a6a6299b9f56e8c43433509436a3d14", func := "gauger/gaugerlaw04.HashRange", spec := "hashRange", unfollowed := true, recurses := true, apart := false }
def HashRangeSaid : Prop := hashRangeRow.holds Try.pinned (OpenSpec.ofChange hashRangeSpec)

/-- ITS FALSE NEIGHBOUR: 'it returns false'. Refute it at one input. -/
def hashRangeWrong : ChangeSpec := { name := "hashRange", fn := fun _ => fun
  | [d1, d2] => { results := [.lit (.bool false)], args := [d1, d2] }
  | _ => none }
def HashRangeWrongFalsely : Prop := hashRangeRow.holds Try.pinned (OpenSpec.ofChange hashRangeWrong)

/-- 'gaugerlaw04.HashSteps': WHATEVER THE INPUT: true; the input reads as it did. -/
def hashStepsSpec : ChangeSpec := { name := "hashSteps", fn := fun _ => fun
  | [d1, d2, d3] => { results := [.lit (.bool true)], args := [d1, d2, d3] }
  | _ => none }
def hashStepsRow : OpenClaim := { program := "ytgcfopallncnlab", sum := "657cdb79ed4b691f03c52130d159c0044a6a6299b9f56e8c43433509436a3d14", func := "gauger/gaugerlaw04.HashSteps", spec := "hashSteps", unfollowed := true, recurses := true, apart := false }
def HashStepsSaid : Prop := hashStepsRow.holds Try.pinned (OpenSpec.ofChange hashStepsSpec)

/-- ITS FALSE NEIGHBOUR: 'it returns false'. Refute it at one input. -/
def hashStepsWrong : ChangeSpec := { name := "hashSteps", fn := fun _ => fun
  | [d1, d2, d3] => { results := [.lit (.bool false)], args := [d1, d2, d3] }
  | _ => none }
def HashStepsWrongFalsely : Prop := hashStepsRow.holds Try.pinned (OpenSpec.ofChange hashStepsWrong)

/- THE SECOND FORM. 'bulk': how many values and letters a reading holds, each counted each time it is reached (what is shared counts as often as it is met; a slice's spare places count too). A statement '..UptoSaid' is the law's where the arguments, and the package variables that the reading takes, are together of bulk at most 1048576: NARROWER than '..Said'. Prove '..Said' where nothing that the law and all that it calls make is longer than what came in: it says more and counts as full. Else prove '..UptoSaid'. A law counts once. -/
mutual
def uptoBulk {H : Type} : DataW H → Nat
  | .lit (.string bytes) => bytes.length + 1
  | .lit _ => 1
  | .nil => 1
  | .ptr d => uptoBulk d + 1
  | .slice elems spare => uptoBulkAll elems + uptoBulkAll spare + 1
  | .agg parts => uptoBulkAll parts + 1
  | .iface _ d => uptoBulk d + 1
  | .map entries => uptoBulkEntries entries + 1
  | .held _ => 1
def uptoBulkAll {H : Type} : List (DataW H) → Nat
  | [] => 0
  | d :: r => uptoBulk d + uptoBulkAll r
def uptoBulkEntries {H : Type} : List (Lit × DataW H) → Nat
  | [] => 0
  | x :: r => uptoBulkEntry x + uptoBulkEntries r
def uptoBulkEntry {H : Type} : Lit × DataW H → Nat
  | (.string bytes, d) => bytes.length + uptoBulk d + 1
  | (_, d) => uptoBulk d + 1
 end
def uptoSmall : (H : Type) → List (DataW H) → Bool := fun _ ds => decide (uptoBulkAll ds ≤ 1048576)
def OpenSpec.upto (s : _root_.Go.ChangeSpec) : _root_.Go.OpenSpec := { _root_.Go.OpenSpec.ofChange s with cond := some uptoSmall }

/-- 'gaugerlaw03.SeedsRange', WHERE WHAT IT READS IS OF BULK AT MOST 1048576: true; the input reads as it did. -/
def seedsRangeUptoRow : OpenClaim := { program := "ytgcfopallncnlab", sum := "657cdb79ed4b691f03c52130d159c0044a6a6299b9f56e8c43433509436a3d14", func := "gauger/gaugerlaw03.SeedsRange", spec := "seedsRange", unfollowed := true, recurses := true, apart := false, narrowed := true }
def SeedsRangeUptoSaid : Prop := seedsRangeUptoRow.holds Try.pinned (OpenSpec.upto seedsRangeSpec)

/-- 'gaugerlaw03.SeedsShift', WHERE WHAT IT READS IS OF BULK AT MOST 1048576: true; the input reads as it did. -/
def seedsShiftUptoRow : OpenClaim := { program := "ytgcfopallncnlab", sum := "657cdb79ed4b691f03c52130d159c0044a6a6299b9f56e8c43433509436a3d14", func := "gauger/gaugerlaw03.SeedsShift", spec := "seedsShift", unfollowed := true, recurses := true, apart := false, narrowed := true }
def SeedsShiftUptoSaid : Prop := seedsShiftUptoRow.holds Try.pinned (OpenSpec.upto seedsShiftSpec)

/-- 'gaugerlaw04.HashTells', WHERE WHAT IT READS IS OF BULK AT MOST 1048576: true; the input reads as it did. -/
def hashTellsUptoRow : OpenClaim := { program := "ytgcfopallncnlab", sum := "657cdb79ed4b691f03c52130d159c0044a6a6299b9f56e8c43433509436a3d14", func := "gauger/gaugerlaw04.HashTells", spec := "hashTells", unfollowed := true, recurses := true, apart := false, narrowed := true }
def HashTellsUptoSaid : Prop := hashTellsUptoRow.holds Try.pinned (OpenSpec.upto hashTellsSpec)

/-- 'gaugerlaw04.HashThrough', WHERE WHAT IT READS IS OF BULK AT MOST 1048576: true; the input reads as it did. -/
def hashThroughUptoRow : OpenClaim := { program := "ytgcfopallncnlab", sum := "657cdb79ed4b691f03c52130d159c0044a6a6299b9f56e8c43433509436a3d14", func := "gauger/gaugerlaw04.HashThrough", spec := "hashThrough", unfollowed := true, recurses := true, apart := false, narrowed := true }
def HashThroughUptoSaid : Prop := hashThroughUptoRow.holds Try.pinned (OpenSpec.upto hashThroughSpec)

/-- 'gaugerlaw04.HashMeets', WHERE WHAT IT READS IS OF BULK AT MOST 1048576: true; the input reads as it did. -/
def hashMeetsUptoRow : OpenClaim := { program := "ytgcfopallncnlab", sum := "657cdb79ed4b691f03c52130d159c0044a6a6299b9f56e8c43433509436a3d14", func := "gauger/gaugerlaw04.HashMeets", spec := "hashMeets", unfollowed := true, recurses := true, apart := false, narrowed := true }
def HashMeetsUptoSaid : Prop := hashMeetsUptoRow.holds Try.pinned (OpenSpec.upto hashMeetsSpec)

/-- 'gaugerlaw04.HashUnlike', WHERE WHAT IT READS IS OF BULK AT MOST 1048576: true; the input reads as it did. -/
def hashUnlikeUptoRow : OpenClaim := { program := "ytgcfopallncnlab", sum := "657cdb79ed4b691f03c52130d159c0044a6a6299b9f56e8c43433509436a3d14", func := "gauger/gaugerlaw04.HashUnlike", spec := "hashUnlike", unfollowed := true, recurses := true, apart := false, narrowed := true }
def HashUnlikeUptoSaid : Prop := hashUnlikeUptoRow.holds Try.pinned (OpenSpec.upto hashUnlikeSpec)

/-- 'gaugerlaw04.HashRange', WHERE WHAT IT READS IS OF BULK AT MOST 1048576: true; the input reads as it did. -/
def hashRangeUptoRow : OpenClaim := { program := "ytgcfopallncnlab", sum := "657cdb79ed4b691f03c52130d159c0044a6a6299b9f56e8c43433509436a3d14", func := "gauger/gaugerlaw04.HashRange", spec := "hashRange", unfollowed := true, recurses := true, apart := false, narrowed := true }
def HashRangeUptoSaid : Prop := hashRangeUptoRow.holds Try.pinned (OpenSpec.upto hashRangeSpec)

/-- 'gaugerlaw04.HashSteps', WHERE WHAT IT READS IS OF BULK AT MOST 1048576: true; the input reads as it did. -/
def hashStepsUptoRow : OpenClaim := { program := "ytgcfopallncnlab", sum := "657cdb79ed4b691f03c52130d159c0044a6a6299b9f56e8c43433509436a3d14", func := "gauger/gaugerlaw04.HashSteps", spec := "hashSteps", unfollowed := true, recurses := true, apart := false, narrowed := true }
def HashStepsUptoSaid : Prop := hashStepsUptoRow.holds Try.pinned (OpenSpec.upto hashStepsSpec)

end Rows
end Go.Proofs.Ytgcfopallncnlab
