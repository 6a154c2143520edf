/-
  No cell of these rows narrows 'for every input' (looked for: loops, veiled, ifaces, maps, wideKeys, modest, calm, conditions, laid).
  DERIVED. THE GIVEN ROWS OF THIS SEAT. 12 by the template 'for every input the law returns true; each argument reads behind the call as it read before'; 0 by the template 'total and deterministic' (their statements: YtfjhecgicemoeaaTotals.lean).
  GIVEN WITH THE SEED: the statements are not yours to turn. If you find one false, say at which input.
  Laid BY PROGRAM, IN A SANDBOX (cutbox-rows.mjs): the forced cells as the released guide's own fill.sh prints them over the translation 5f62564962c91434… (all of the seat's roots in one cut). By AI agents, Wed Nov 11 2026. No macro, syntax, notation, axiom, sorry.
-/
import Derived.Test.YtfjhecgicemoeaaChecked
import GoSem.Claim
import GoSem.ClaimJoined
import GoSem.ClaimMapViews
import Derived.JoinedTies
import Derived.KernelRfl
namespace Go.Proofs.Ytfjhecgicemoeaa
/- THE CELL 'sum', in the pinned program and in every row, IS THE sha256 OF THE DUMP (.gsa) THAT YtfjhecgicemoeaaProg.lean LOADS. Nothing in Lean hashes anything: it is a label: what it is worth is what the hold of that sum in a sandbox is worth. -/
noncomputable def Try.pinned : Pinned := { name := "ytfjhecgicemoeaa", sum := "5f62564962c914348d94a8e3edad59812f054479f9af1f088c0b6af2f83b7a84", checked := Try.checked }
namespace Rows
def none {H : Type} : Left H := { results := [], args := [] }

/-- 'gaugerlaw07.ShapeRight': WHATEVER THE INPUT: true; the input reads as it did. -/
def shapeRightSpec : ChangeSpec := { name := "shapeRight", fn := fun _ => fun
  | [d1, d2] => { results := [.lit (.bool true)], args := [d1, d2] }
  | _ => none }
def shapeRightRow : OpenClaim := { program := "ytfjhecgicemoeaa", sum := "5f62564962c914348d94a8e3edad59812f054479f9af1f088c0b6af2f83b7a84", func := "gauger/gaugerlaw07.ShapeRight", spec := "shapeRight", unfollowed := true, recurses := true, apart := false }
def ShapeRightSaid : Prop := shapeRightRow.holds Try.pinned (OpenSpec.ofChange shapeRightSpec)

/-- ITS FALSE NEIGHBOUR: 'it returns false'. Refute it at one input. -/
def shapeRightWrong : ChangeSpec := { name := "shapeRight", fn := fun _ => fun
  | [d1, d2] => { results := [.lit (.bool false)], args := [d1, d2] }
  | _ => none }
def ShapeRightWrongFalsely : Prop := shapeRightRow.holds Try.pinned (OpenSpec.ofChange shapeRightWrong)

/-- 'gaugerlaw07.ShapeColumns': WHATEVER THE INPUT: true; the input reads as it did. -/
def shapeColumnsSpec : ChangeSpec := { name := "shapeColumns", fn := fun _ => fun
  | [d1, d2, d3] => { results := [.lit (.bool true)], args := [d1, d2, d3] }
  | _ => none }
def shapeColumnsRow : OpenClaim := { program := "ytfjhecgicemoeaa", sum := "5f62564962c914348d94a8e3edad59812f054479f9af1f088c0b6af2f83b7a84", func := "gauger/gaugerlaw07.ShapeColumns", spec := "shapeColumns", unfollowed := true, recurses := true, apart := false }
def ShapeColumnsSaid : Prop := shapeColumnsRow.holds Try.pinned (OpenSpec.ofChange shapeColumnsSpec)

/-- ITS FALSE NEIGHBOUR: 'it returns false'. Refute it at one input. -/
def shapeColumnsWrong : ChangeSpec := { name := "shapeColumns", fn := fun _ => fun
  | [d1, d2, d3] => { results := [.lit (.bool false)], args := [d1, d2, d3] }
  | _ => none }
def ShapeColumnsWrongFalsely : Prop := shapeColumnsRow.holds Try.pinned (OpenSpec.ofChange shapeColumnsWrong)

/-- 'gaugerlaw07.ShapeHashes': WHATEVER THE INPUT: true; the input reads as it did. -/
def shapeHashesSpec : ChangeSpec := { name := "shapeHashes", fn := fun _ => fun
  | [d] => { results := [.lit (.bool true)], args := [d] }
  | _ => none }
def shapeHashesRow : OpenClaim := { program := "ytfjhecgicemoeaa", sum := "5f62564962c914348d94a8e3edad59812f054479f9af1f088c0b6af2f83b7a84", func := "gauger/gaugerlaw07.ShapeHashes", spec := "shapeHashes", unfollowed := true, recurses := true, apart := false }
def ShapeHashesSaid : Prop := shapeHashesRow.holds Try.pinned (OpenSpec.ofChange shapeHashesSpec)

/-- ITS FALSE NEIGHBOUR: 'it returns false'. Refute it at one input. -/
def shapeHashesWrong : ChangeSpec := { name := "shapeHashes", fn := fun _ => fun
  | [d] => { results := [.lit (.bool false)], args := [d] }
  | _ => none }
def ShapeHashesWrongFalsely : Prop := shapeHashesRow.holds Try.pinned (OpenSpec.ofChange shapeHashesWrong)

/-- 'gaugerlaw07.ShapeHalves': WHATEVER THE INPUT: true; the input reads as it did. -/
def shapeHalvesSpec : ChangeSpec := { name := "shapeHalves", fn := fun _ => fun
  | [d1, d2] => { results := [.lit (.bool true)], args := [d1, d2] }
  | _ => none }
def shapeHalvesRow : OpenClaim := { program := "ytfjhecgicemoeaa", sum := "5f62564962c914348d94a8e3edad59812f054479f9af1f088c0b6af2f83b7a84", func := "gauger/gaugerlaw07.ShapeHalves", spec := "shapeHalves", unfollowed := true, recurses := true, apart := false }
def ShapeHalvesSaid : Prop := shapeHalvesRow.holds Try.pinned (OpenSpec.ofChange shapeHalvesSpec)

/-- ITS FALSE NEIGHBOUR: 'it returns false'. Refute it at one input. -/
def shapeHalvesWrong : ChangeSpec := { name := "shapeHalves", fn := fun _ => fun
  | [d1, d2] => { results := [.lit (.bool false)], args := [d1, d2] }
  | _ => none }
def ShapeHalvesWrongFalsely : Prop := shapeHalvesRow.holds Try.pinned (OpenSpec.ofChange shapeHalvesWrong)

/-- 'gaugerlaw07.ShapeBelongs': WHATEVER THE INPUT: true; the input reads as it did. -/
def shapeBelongsSpec : ChangeSpec := { name := "shapeBelongs", fn := fun _ => fun
  | [d1, d2, d3] => { results := [.lit (.bool true)], args := [d1, d2, d3] }
  | _ => none }
def shapeBelongsRow : OpenClaim := { program := "ytfjhecgicemoeaa", sum := "5f62564962c914348d94a8e3edad59812f054479f9af1f088c0b6af2f83b7a84", func := "gauger/gaugerlaw07.ShapeBelongs", spec := "shapeBelongs", unfollowed := true, recurses := true, apart := false }
def ShapeBelongsSaid : Prop := shapeBelongsRow.holds Try.pinned (OpenSpec.ofChange shapeBelongsSpec)

/-- ITS FALSE NEIGHBOUR: 'it returns false'. Refute it at one input. -/
def shapeBelongsWrong : ChangeSpec := { name := "shapeBelongs", fn := fun _ => fun
  | [d1, d2, d3] => { results := [.lit (.bool false)], args := [d1, d2, d3] }
  | _ => none }
def ShapeBelongsWrongFalsely : Prop := shapeBelongsRow.holds Try.pinned (OpenSpec.ofChange shapeBelongsWrong)

/-- 'gaugerlaw07.ShapeWrong': WHATEVER THE INPUT: true; the input reads as it did. -/
def shapeWrongSpec : ChangeSpec := { name := "shapeWrong", fn := fun _ => fun
  | [d1, d2, d3] => { results := [.lit (.bool true)], args := [d1, d2, d3] }
  | _ => none }
def shapeWrongRow : OpenClaim := { program := "ytfjhecgicemoeaa", sum := "5f62564962c914348d94a8e3edad59812f054479f9af1f088c0b6af2f83b7a84", func := "gauger/gaugerlaw07.ShapeWrong", spec := "shapeWrong", unfollowed := true, recurses := true, apart := false }
def ShapeWrongSaid : Prop := shapeWrongRow.holds Try.pinned (OpenSpec.ofChange shapeWrongSpec)

/-- ITS FALSE NEIGHBOUR: 'it returns false'. Refute it at one input. -/
def shapeWrongWrong : ChangeSpec := { name := "shapeWrong", fn := fun _ => fun
  | [d1, d2, d3] => { results := [.lit (.bool false)], args := [d1, d2, d3] }
  | _ => none }
def ShapeWrongWrongFalsely : Prop := shapeWrongRow.holds Try.pinned (OpenSpec.ofChange shapeWrongWrong)

/-- 'gaugerlaw06.GridPlays': WHATEVER THE INPUT: true; the input reads as it did. -/
def gridPlaysSpec : ChangeSpec := { name := "gridPlays", fn := fun _ => fun
  | [d1, d2, d3] => { results := [.lit (.bool true)], args := [d1, d2, d3] }
  | _ => none }
def gridPlaysRow : OpenClaim := { program := "ytfjhecgicemoeaa", sum := "5f62564962c914348d94a8e3edad59812f054479f9af1f088c0b6af2f83b7a84", func := "gauger/gaugerlaw06.GridPlays", spec := "gridPlays", inPlace := ["math/bits.Add64", "math/bits.Sub64"], unfollowed := true, recurses := true, apart := false }
def GridPlaysSaid : Prop := gridPlaysRow.holds Try.pinned (OpenSpec.ofChange gridPlaysSpec)

/-- ITS FALSE NEIGHBOUR: 'it returns false'. Refute it at one input. -/
def gridPlaysWrong : ChangeSpec := { name := "gridPlays", fn := fun _ => fun
  | [d1, d2, d3] => { results := [.lit (.bool false)], args := [d1, d2, d3] }
  | _ => none }
def GridPlaysWrongFalsely : Prop := gridPlaysRow.holds Try.pinned (OpenSpec.ofChange gridPlaysWrong)

/-- 'gaugerlaw06.GridJoins': WHATEVER THE INPUT: true; the input reads as it did. -/
def gridJoinsSpec : ChangeSpec := { name := "gridJoins", fn := fun _ => fun
  | [d1, d2] => { results := [.lit (.bool true)], args := [d1, d2] }
  | _ => none }
def gridJoinsRow : OpenClaim := { program := "ytfjhecgicemoeaa", sum := "5f62564962c914348d94a8e3edad59812f054479f9af1f088c0b6af2f83b7a84", func := "gauger/gaugerlaw06.GridJoins", spec := "gridJoins", inPlace := ["math/bits.Add64", "math/bits.Sub64"], unfollowed := true, recurses := true, apart := false }
def GridJoinsSaid : Prop := gridJoinsRow.holds Try.pinned (OpenSpec.ofChange gridJoinsSpec)

/-- ITS FALSE NEIGHBOUR: 'it returns false'. Refute it at one input. -/
def gridJoinsWrong : ChangeSpec := { name := "gridJoins", fn := fun _ => fun
  | [d1, d2] => { results := [.lit (.bool false)], args := [d1, d2] }
  | _ => none }
def GridJoinsWrongFalsely : Prop := gridJoinsRow.holds Try.pinned (OpenSpec.ofChange gridJoinsWrong)

/-- 'gaugerlaw06.GridBack': WHATEVER THE INPUT: true; the input reads as it did. -/
def gridBackSpec : ChangeSpec := { name := "gridBack", fn := fun _ => fun
  | [d] => { results := [.lit (.bool true)], args := [d] }
  | _ => none }
def gridBackRow : OpenClaim := { program := "ytfjhecgicemoeaa", sum := "5f62564962c914348d94a8e3edad59812f054479f9af1f088c0b6af2f83b7a84", func := "gauger/gaugerlaw06.GridBack", spec := "gridBack", inPlace := ["math/bits.Add64", "math/bits.Sub64"], unfollowed := true, recurses := true, apart := false }
def GridBackSaid : Prop := gridBackRow.holds Try.pinned (OpenSpec.ofChange gridBackSpec)

/-- ITS FALSE NEIGHBOUR: 'it returns false'. Refute it at one input. -/
def gridBackWrong : ChangeSpec := { name := "gridBack", fn := fun _ => fun
  | [d] => { results := [.lit (.bool false)], args := [d] }
  | _ => none }
def GridBackWrongFalsely : Prop := gridBackRow.holds Try.pinned (OpenSpec.ofChange gridBackWrong)

/-- 'gaugerlaw06.GridTwice': WHATEVER THE INPUT: true; the input reads as it did. -/
def gridTwiceSpec : ChangeSpec := { name := "gridTwice", fn := fun _ => fun
  | [d1, d2, d3] => { results := [.lit (.bool true)], args := [d1, d2, d3] }
  | _ => none }
def gridTwiceRow : OpenClaim := { program := "ytfjhecgicemoeaa", sum := "5f62564962c914348d94a8e3edad59812f054479f9af1f088c0b6af2f83b7a84", func := "gauger/gaugerlaw06.GridTwice", spec := "gridTwice", inPlace := ["math/bits.Add64", "math/bits.Sub64"], unfollowed := true, recurses := true, apart := false }
def GridTwiceSaid : Prop := gridTwiceRow.holds Try.pinned (OpenSpec.ofChange gridTwiceSpec)

/-- ITS FALSE NEIGHBOUR: 'it returns false'. Refute it at one input. -/
def gridTwiceWrong : ChangeSpec := { name := "gridTwice", fn := fun _ => fun
  | [d1, d2, d3] => { results := [.lit (.bool false)], args := [d1, d2, d3] }
  | _ => none }
def GridTwiceWrongFalsely : Prop := gridTwiceRow.holds Try.pinned (OpenSpec.ofChange gridTwiceWrong)

/-- 'gaugerlaw06.GridApart': WHATEVER THE INPUT: true; the input reads as it did. -/
def gridApartSpec : ChangeSpec := { name := "gridApart", fn := fun _ => fun
  | [d] => { results := [.lit (.bool true)], args := [d] }
  | _ => none }
def gridApartRow : OpenClaim := { program := "ytfjhecgicemoeaa", sum := "5f62564962c914348d94a8e3edad59812f054479f9af1f088c0b6af2f83b7a84", func := "gauger/gaugerlaw06.GridApart", spec := "gridApart", inPlace := ["math/bits.Add64", "math/bits.Sub64"], unfollowed := true, recurses := true, apart := false }
def GridApartSaid : Prop := gridApartRow.holds Try.pinned (OpenSpec.ofChange gridApartSpec)

/-- ITS FALSE NEIGHBOUR: 'it returns false'. Refute it at one input. -/
def gridApartWrong : ChangeSpec := { name := "gridApart", fn := fun _ => fun
  | [d] => { results := [.lit (.bool false)], args := [d] }
  | _ => none }
def GridApartWrongFalsely : Prop := gridApartRow.holds Try.pinned (OpenSpec.ofChange gridApartWrong)

/-- 'gaugerlaw06.GridNone': WHATEVER THE INPUT: true; the input reads as it did. -/
def gridNoneSpec : ChangeSpec := { name := "gridNone", fn := fun _ => fun
  | [d1, d2] => { results := [.lit (.bool true)], args := [d1, d2] }
  | _ => none }
def gridNoneRow : OpenClaim := { program := "ytfjhecgicemoeaa", sum := "5f62564962c914348d94a8e3edad59812f054479f9af1f088c0b6af2f83b7a84", func := "gauger/gaugerlaw06.GridNone", spec := "gridNone", inPlace := ["math/bits.Add64", "math/bits.Sub64"], unfollowed := true, recurses := true, apart := false }
def GridNoneSaid : Prop := gridNoneRow.holds Try.pinned (OpenSpec.ofChange gridNoneSpec)

/-- ITS FALSE NEIGHBOUR: 'it returns false'. Refute it at one input. -/
def gridNoneWrong : ChangeSpec := { name := "gridNone", fn := fun _ => fun
  | [d1, d2] => { results := [.lit (.bool false)], args := [d1, d2] }
  | _ => none }
def GridNoneWrongFalsely : Prop := gridNoneRow.holds Try.pinned (OpenSpec.ofChange gridNoneWrong)

/- THE SECOND FORM. 'bulk': how many values and letters a reading holds, each counted each time it is reached (what is shared counts as often as it is met; a slice's spare places count too). A statement '..UptoSaid' is the law's where the arguments, and the package variables that the reading takes, are together of bulk at most 1048576: NARROWER than '..Said'. Prove '..Said' where nothing that the law and all that it calls make is longer than what came in: it says more and counts as full. Else prove '..UptoSaid'. A law counts once. -/
mutual
def uptoBulk {H : Type} : DataW H → Nat
  | .lit (.string bytes) => bytes.length + 1
  | .lit _ => 1
  | .nil => 1
  | .ptr d => uptoBulk d + 1
  | .slice elems spare => uptoBulkAll elems + uptoBulkAll spare + 1
  | .agg parts => uptoBulkAll parts + 1
  | .iface _ d => uptoBulk d + 1
  | .map entries => uptoBulkEntries entries + 1
  | .held _ => 1
def uptoBulkAll {H : Type} : List (DataW H) → Nat
  | [] => 0
  | d :: r => uptoBulk d + uptoBulkAll r
def uptoBulkEntries {H : Type} : List (Lit × DataW H) → Nat
  | [] => 0
  | x :: r => uptoBulkEntry x + uptoBulkEntries r
def uptoBulkEntry {H : Type} : Lit × DataW H → Nat
  | (.string bytes, d) => bytes.length + uptoBulk d + 1
  | (_, d) => uptoBulk d + 1
 end
def uptoSmall : (H : Type) → List (DataW H) → Bool := fun _ ds => decide (uptoBulkAll ds ≤ 1048576)
def OpenSpec.upto (s : _root_.Go.ChangeSpec) : _root_.Go.OpenSpec := { _root_.Go.OpenSpec.ofChange s with cond := some uptoSmall }

/-- 'gaugerlaw07.ShapeRight', WHERE WHAT IT READS IS OF BULK AT MOST 1048576: true; the input reads as it did. -/
def shapeRightUptoRow : OpenClaim := { program := "ytfjhecgicemoeaa", sum := "5f62564962c914348d94a8e3edad59812f054479f9af1f088c0b6af2f83b7a84", func := "gauger/gaugerlaw07.ShapeRight", spec := "shapeRight", unfollowed := true, recurses := true, apart := false, narrowed := true }
def ShapeRightUptoSaid : Prop := shapeRightUptoRow.holds Try.pinned (OpenSpec.upto shapeRightSpec)

/-- 'gaugerlaw07.ShapeColumns', WHERE WHAT IT READS IS OF BULK AT MOST 1048576: true; the input reads as it did. -/
def shapeColumnsUptoRow : OpenClaim := { program := "ytfjhecgicemoeaa", sum := "5f62564962c914348d94a8e3edad59812f054479f9af1f088c0b6af2f83b7a84", func := "gauger/gaugerlaw07.ShapeColumns", spec := "shapeColumns", unfollowed := true, recurses := true, apart := false, narrowed := true }
def ShapeColumnsUptoSaid : Prop := shapeColumnsUptoRow.holds Try.pinned (OpenSpec.upto shapeColumnsSpec)

/-- 'gaugerlaw07.ShapeHashes', WHERE WHAT IT READS IS OF BULK AT MOST 1048576: true; the input reads as it did. -/
def shapeHashesUptoRow : OpenClaim := { program := "ytfjhecgicemoeaa", sum := "5f62564962c914348d94a8e3edad59812f054479f9af1f088c0b6af2f83b7a84", func := "gauger/gaugerlaw07.ShapeHashes", spec := "shapeHashes", unfollowed := true, recurses := true, apart := false, narrowed := true }
def ShapeHashesUptoSaid : Prop := shapeHashesUptoRow.holds Try.pinned (OpenSpec.upto shapeHashesSpec)

/-- 'gaugerlaw07.ShapeHalves', WHERE WHAT IT READS IS OF BULK AT MOST 1048576: true; the input reads as it did. -/
def shapeHalvesUptoRow : OpenClaim := { program := "ytfjhecgicemoeaa", sum := "5f62564962c914348d94a8e3edad59812f054479f9af1f088c0b6af2f83b7a84", func := "gauger/gaugerlaw07.ShapeHalves", spec := "shapeHalves", unfollowed := true, recurses := true, apart := false, narrowed := true }
def ShapeHalvesUptoSaid : Prop := shapeHalvesUptoRow.holds Try.pinned (OpenSpec.upto shapeHalvesSpec)

/-- 'gaugerlaw07.ShapeBelongs', WHERE WHAT IT READS IS OF BULK AT MOST 1048576: true; the input reads as it did. -/
def shapeBelongsUptoRow : OpenClaim := { program := "ytfjhecgicemoeaa", sum := "5f62564962c914348d94a8e3edad59812f054479f9af1f088c0b6af2f83b7a84", func := "gauger/gaugerlaw07.ShapeBelongs", spec := "shapeBelongs", unfollowed := true, recurses := true, apart := false, narrowed := true }
def ShapeBelongsUptoSaid : Prop := shapeBelongsUptoRow.holds Try.pinned (OpenSpec.upto shapeBelongsSpec)

/-- 'gaugerlaw07.ShapeWrong', WHERE WHAT IT READS IS OF BULK AT MOST 1048576: true; the input reads as it did. -/
def shapeWrongUptoRow : OpenClaim := { program := "ytfjhecgicemoeaa", sum := "5f62564962c914348d94a8e3edad59812f054479f9af1f088c0b6af2f83b7a84", func := "gauger/gaugerlaw07.ShapeWrong", spec := "shapeWrong", unfollowed := true, recurses := true, apart := false, narrowed := true }
def ShapeWrongUptoSaid : Prop := shapeWrongUptoRow.holds Try.pinned (OpenSpec.upto shapeWrongSpec)

/-- 'gaugerlaw06.GridPlays', WHERE WHAT IT READS IS OF BULK AT MOST 1048576: true; the input reads as it did. -/
def gridPlaysUptoRow : OpenClaim := { program := "ytfjhecgicemoeaa", sum := "5f62564962c914348d94a8e3edad59812f054479f9af1f088c0b6af2f83b7a84", func := "gauger/gaugerlaw06.GridPlays", spec := "gridPlays", inPlace := ["math/bits.Add64", "math/bits.Sub64"], unfollowed := true, recurses := true, apart := false, narrowed := true }
def GridPlaysUptoSaid : Prop := gridPlaysUptoRow.holds Try.pinned (OpenSpec.upto gridPlaysSpec)

/-- 'gaugerlaw06.GridJoins', WHERE WHAT IT READS IS OF BULK AT MOST 1048576: true; the input reads as it did. -/
def gridJoinsUptoRow : OpenClaim := { program := "ytfjhecgicemoeaa", sum := "5f62564962c914348d94a8e3edad59812f054479f9af1f088c0b6af2f83b7a84", func := "gauger/gaugerlaw06.GridJoins", spec := "gridJoins", inPlace := ["math/bits.Add64", "math/bits.Sub64"], unfollowed := true, recurses := true, apart := false, narrowed := true }
def GridJoinsUptoSaid : Prop := gridJoinsUptoRow.holds Try.pinned (OpenSpec.upto gridJoinsSpec)

/-- 'gaugerlaw06.GridBack', WHERE WHAT IT READS IS OF BULK AT MOST 1048576: true; the input reads as it did. -/
def gridBackUptoRow : OpenClaim := { program := "ytfjhecgicemoeaa", sum := "5f62564962c914348d94a8e3edad59812f054479f9af1f088c0b6af2f83b7a84", func := "gauger/gaugerlaw06.GridBack", spec := "gridBack", inPlace := ["math/bits.Add64", "math/bits.Sub64"], unfollowed := true, recurses := true, apart := false, narrowed := true }
def GridBackUptoSaid : Prop := gridBackUptoRow.holds Try.pinned (OpenSpec.upto gridBackSpec)

/-- 'gaugerlaw06.GridTwice', WHERE WHAT IT READS IS OF BULK AT MOST 1048576: true; the input reads as it did. -/
def gridTwiceUptoRow : OpenClaim := { program := "ytfjhecgicemoeaa", sum := "5f62564962c914348d94a8e3edad59812f054479f9af1f088c0b6af2f83b7a84", func := "gauger/gaugerlaw06.GridTwice", spec := "gridTwice", inPlace := ["math/bits.Add64", "math/bits.Sub64"], unfollowed := true, recurses := true, apart := false, narrowed := true }
def GridTwiceUptoSaid : Prop := gridTwiceUptoRow.holds Try.pinned (OpenSpec.upto gridTwiceSpec)

/-- 'gaugerlaw06.GridApart', WHERE WHAT IT READS IS OF BULK AT MOST 1048576: true; the input reads as it did. -/
def gridApartUptoRow : OpenClaim := { program := "ytfjhecgicemoeaa", sum := "5f62564962c914348d94a8e3edad59812f054479f9af1f088c0b6af2f83b7a84", func := "gauger/gaugerlaw06.GridApart", spec := "gridApart", inPlace := ["math/bits.Add64", "math/bits.Sub64"], unfollowed := true, recurses := true, apart := false, narrowed := true }
def GridApartUptoSaid : Prop := gridApartUptoRow.holds Try.pinned (OpenSpec.upto gridApartSpec)

/-- 'gaugerlaw06.GridNone', WHERE WHAT IT READS IS OF BULK AT MOST 1048576: true; the input reads as it did. -/
def gridNoneUptoRow : OpenClaim := { program := "ytfjhecgicemoeaa", sum := "5f62564962c914348d94a8e3edad59812f054479f9af1f088c0b6af2f83b7a84", func := "gauger/gaugerlaw06.GridNone", spec := "gridNone", inPlace := ["math/bits.Add64", "math/bits.Sub64"], unfollowed := true, recurses := true, apart := false, narrowed := true }
def GridNoneUptoSaid : Prop := gridNoneUptoRow.holds Try.pinned (OpenSpec.upto gridNoneSpec)

end Rows
end Go.Proofs.Ytfjhecgicemoeaa
