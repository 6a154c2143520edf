/-
  No cell of these rows narrows 'for every input' (looked for: loops, veiled, ifaces, maps, wideKeys, modest, calm, conditions, laid).
  DERIVED. THE GIVEN ROWS OF THIS SEAT. 11 by the template 'for every input the law returns true; each argument reads behind the call as it read before'; 0 by the template 'total and deterministic' (their statements: YtcinlcbmjboaaaaTotals.lean).
  GIVEN WITH THE SEED: the statements are not yours to turn. If you find one false, say at which input.
  Laid BY PROGRAM, IN A SANDBOX (cutbox-rows.mjs): the forced cells as the released guide's own fill.sh prints them over the translation b5c35dd2c91b8e32… (all of the seat's roots in one cut). By AI agents, Wed Nov 11 2026. No macro, syntax, notation, axiom, sorry.
-/
import Derived.Test.YtcinlcbmjboaaaaChecked
import GoSem.Claim
import GoSem.ClaimJoined
import GoSem.ClaimMapViews
import Derived.JoinedTies
import Derived.KernelRfl
namespace Go.Proofs.Ytcinlcbmjboaaaa
/- THE CELL 'sum', in the pinned program and in every row, IS THE sha256 OF THE DUMP (.gsa) THAT YtcinlcbmjboaaaaProg.lean LOADS. Nothing in Lean hashes anything: it is a label: what it is worth is what the hold of that sum in a sandbox is worth. -/
noncomputable def Try.pinned : Pinned := { name := "ytcinlcbmjboaaaa", sum := "b5c35dd2c91b8e32e7ac42eb53c3bf77822dd4368ff1dccbd2616625b22f345d", checked := Try.checked }
namespace Rows
def none {H : Type} : Left H := { results := [], args := [] }

/-- 'gaugerlaw08.LinearSums': WHATEVER THE INPUT: true; the input reads as it did. -/
def linearSumsSpec : ChangeSpec := { name := "linearSums", fn := fun _ => fun
  | [d] => { results := [.lit (.bool true)], args := [d] }
  | _ => none }
def linearSumsRow : OpenClaim := { program := "ytcinlcbmjboaaaa", sum := "b5c35dd2c91b8e32e7ac42eb53c3bf77822dd4368ff1dccbd2616625b22f345d", func := "gauger/gaugerlaw08.LinearSums", spec := "linearSums", inPlace := ["math/bits.Add64"], unfollowed := true, recurses := true, apart := false }
def LinearSumsSaid : Prop := linearSumsRow.holds Try.pinned (OpenSpec.ofChange linearSumsSpec)

/-- ITS FALSE NEIGHBOUR: 'it returns false'. Refute it at one input. -/
def linearSumsWrong : ChangeSpec := { name := "linearSums", fn := fun _ => fun
  | [d] => { results := [.lit (.bool false)], args := [d] }
  | _ => none }
def LinearSumsWrongFalsely : Prop := linearSumsRow.holds Try.pinned (OpenSpec.ofChange linearSumsWrong)

/-- 'gaugerlaw08.LinearLeast': WHATEVER THE INPUT: true; the input reads as it did. -/
def linearLeastSpec : ChangeSpec := { name := "linearLeast", fn := fun _ => fun
  | [d1, d2] => { results := [.lit (.bool true)], args := [d1, d2] }
  | _ => none }
def linearLeastRow : OpenClaim := { program := "ytcinlcbmjboaaaa", sum := "b5c35dd2c91b8e32e7ac42eb53c3bf77822dd4368ff1dccbd2616625b22f345d", func := "gauger/gaugerlaw08.LinearLeast", spec := "linearLeast", inPlace := ["math/bits.Add64"], unfollowed := true, recurses := true, apart := false }
def LinearLeastSaid : Prop := linearLeastRow.holds Try.pinned (OpenSpec.ofChange linearLeastSpec)

/-- ITS FALSE NEIGHBOUR: 'it returns false'. Refute it at one input. -/
def linearLeastWrong : ChangeSpec := { name := "linearLeast", fn := fun _ => fun
  | [d1, d2] => { results := [.lit (.bool false)], args := [d1, d2] }
  | _ => none }
def LinearLeastWrongFalsely : Prop := linearLeastRow.holds Try.pinned (OpenSpec.ofChange linearLeastWrong)

/-- 'gaugerlaw08.LinearMiddle': WHATEVER THE INPUT: true; the input reads as it did. -/
def linearMiddleSpec : ChangeSpec := { name := "linearMiddle", fn := fun _ => fun
  | [d1, d2, d3] => { results := [.lit (.bool true)], args := [d1, d2, d3] }
  | _ => none }
def linearMiddleRow : OpenClaim := { program := "ytcinlcbmjboaaaa", sum := "b5c35dd2c91b8e32e7ac42eb53c3bf77822dd4368ff1dccbd2616625b22f345d", func := "gauger/gaugerlaw08.LinearMiddle", spec := "linearMiddle", inPlace := ["math/bits.Add64"], unfollowed := true, recurses := true, apart := false }
def LinearMiddleSaid : Prop := linearMiddleRow.holds Try.pinned (OpenSpec.ofChange linearMiddleSpec)

/-- ITS FALSE NEIGHBOUR: 'it returns false'. Refute it at one input. -/
def linearMiddleWrong : ChangeSpec := { name := "linearMiddle", fn := fun _ => fun
  | [d1, d2, d3] => { results := [.lit (.bool false)], args := [d1, d2, d3] }
  | _ => none }
def LinearMiddleWrongFalsely : Prop := linearMiddleRow.holds Try.pinned (OpenSpec.ofChange linearMiddleWrong)

/-- 'gaugerlaw08.LinearPlays': WHATEVER THE INPUT: true; the input reads as it did. -/
def linearPlaysSpec : ChangeSpec := { name := "linearPlays", fn := fun _ => fun
  | [d1, d2, d3] => { results := [.lit (.bool true)], args := [d1, d2, d3] }
  | _ => none }
def linearPlaysRow : OpenClaim := { program := "ytcinlcbmjboaaaa", sum := "b5c35dd2c91b8e32e7ac42eb53c3bf77822dd4368ff1dccbd2616625b22f345d", func := "gauger/gaugerlaw08.LinearPlays", spec := "linearPlays", inPlace := ["math/bits.Add64"], unfollowed := true, recurses := true, apart := false }
def LinearPlaysSaid : Prop := linearPlaysRow.holds Try.pinned (OpenSpec.ofChange linearPlaysSpec)

/-- ITS FALSE NEIGHBOUR: 'it returns false'. Refute it at one input. -/
def linearPlaysWrong : ChangeSpec := { name := "linearPlays", fn := fun _ => fun
  | [d1, d2, d3] => { results := [.lit (.bool false)], args := [d1, d2, d3] }
  | _ => none }
def LinearPlaysWrongFalsely : Prop := linearPlaysRow.holds Try.pinned (OpenSpec.ofChange linearPlaysWrong)

/-- 'gaugerlaw08.LinearOrder': WHATEVER THE INPUT: true; the input reads as it did. -/
def linearOrderSpec : ChangeSpec := { name := "linearOrder", fn := fun _ => fun
  | [d] => { results := [.lit (.bool true)], args := [d] }
  | _ => none }
def linearOrderRow : OpenClaim := { program := "ytcinlcbmjboaaaa", sum := "b5c35dd2c91b8e32e7ac42eb53c3bf77822dd4368ff1dccbd2616625b22f345d", func := "gauger/gaugerlaw08.LinearOrder", spec := "linearOrder", inPlace := ["math/bits.Add64"], unfollowed := true, recurses := true, apart := false }
def LinearOrderSaid : Prop := linearOrderRow.holds Try.pinned (OpenSpec.ofChange linearOrderSpec)

/-- ITS FALSE NEIGHBOUR: 'it returns false'. Refute it at one input. -/
def linearOrderWrong : ChangeSpec := { name := "linearOrder", fn := fun _ => fun
  | [d] => { results := [.lit (.bool false)], args := [d] }
  | _ => none }
def LinearOrderWrongFalsely : Prop := linearOrderRow.holds Try.pinned (OpenSpec.ofChange linearOrderWrong)

/-- 'gaugerlaw08.LinearBack': WHATEVER THE INPUT: true; the input reads as it did. -/
def linearBackSpec : ChangeSpec := { name := "linearBack", fn := fun _ => fun
  | [d1, d2, d3] => { results := [.lit (.bool true)], args := [d1, d2, d3] }
  | _ => none }
def linearBackRow : OpenClaim := { program := "ytcinlcbmjboaaaa", sum := "b5c35dd2c91b8e32e7ac42eb53c3bf77822dd4368ff1dccbd2616625b22f345d", func := "gauger/gaugerlaw08.LinearBack", spec := "linearBack", inPlace := ["math/bits.Add64"], unfollowed := true, recurses := true, apart := false }
def LinearBackSaid : Prop := linearBackRow.holds Try.pinned (OpenSpec.ofChange linearBackSpec)

/-- ITS FALSE NEIGHBOUR: 'it returns false'. Refute it at one input. -/
def linearBackWrong : ChangeSpec := { name := "linearBack", fn := fun _ => fun
  | [d1, d2, d3] => { results := [.lit (.bool false)], args := [d1, d2, d3] }
  | _ => none }
def LinearBackWrongFalsely : Prop := linearBackRow.holds Try.pinned (OpenSpec.ofChange linearBackWrong)

/-- 'gaugerlaw09.ConservePlays': WHATEVER THE INPUT: true; the input reads as it did. -/
def conservePlaysSpec : ChangeSpec := { name := "conservePlays", fn := fun _ => fun
  | [d] => { results := [.lit (.bool true)], args := [d] }
  | _ => none }
def conservePlaysRow : OpenClaim := { program := "ytcinlcbmjboaaaa", sum := "b5c35dd2c91b8e32e7ac42eb53c3bf77822dd4368ff1dccbd2616625b22f345d", func := "gauger/gaugerlaw09.ConservePlays", spec := "conservePlays", inPlace := ["math/bits.Add64"], unfollowed := true, recurses := true, apart := false }
def ConservePlaysSaid : Prop := conservePlaysRow.holds Try.pinned (OpenSpec.ofChange conservePlaysSpec)

/-- ITS FALSE NEIGHBOUR: 'it returns false'. Refute it at one input. -/
def conservePlaysWrong : ChangeSpec := { name := "conservePlays", fn := fun _ => fun
  | [d] => { results := [.lit (.bool false)], args := [d] }
  | _ => none }
def ConservePlaysWrongFalsely : Prop := conservePlaysRow.holds Try.pinned (OpenSpec.ofChange conservePlaysWrong)

/-- 'gaugerlaw09.ConserveRises': WHATEVER THE INPUT: true; the input reads as it did. -/
def conserveRisesSpec : ChangeSpec := { name := "conserveRises", fn := fun _ => fun
  | [d1, d2, d3] => { results := [.lit (.bool true)], args := [d1, d2, d3] }
  | _ => none }
def conserveRisesRow : OpenClaim := { program := "ytcinlcbmjboaaaa", sum := "b5c35dd2c91b8e32e7ac42eb53c3bf77822dd4368ff1dccbd2616625b22f345d", func := "gauger/gaugerlaw09.ConserveRises", spec := "conserveRises", inPlace := ["math/bits.Add64"], unfollowed := true, recurses := true, apart := false }
def ConserveRisesSaid : Prop := conserveRisesRow.holds Try.pinned (OpenSpec.ofChange conserveRisesSpec)

/-- ITS FALSE NEIGHBOUR: 'it returns false'. Refute it at one input. -/
def conserveRisesWrong : ChangeSpec := { name := "conserveRises", fn := fun _ => fun
  | [d1, d2, d3] => { results := [.lit (.bool false)], args := [d1, d2, d3] }
  | _ => none }
def ConserveRisesWrongFalsely : Prop := conserveRisesRow.holds Try.pinned (OpenSpec.ofChange conserveRisesWrong)

/-- 'gaugerlaw09.ConserveBounds': WHATEVER THE INPUT: true; the input reads as it did. -/
def conserveBoundsSpec : ChangeSpec := { name := "conserveBounds", fn := fun _ => fun
  | [d1, d2] => { results := [.lit (.bool true)], args := [d1, d2] }
  | _ => none }
def conserveBoundsRow : OpenClaim := { program := "ytcinlcbmjboaaaa", sum := "b5c35dd2c91b8e32e7ac42eb53c3bf77822dd4368ff1dccbd2616625b22f345d", func := "gauger/gaugerlaw09.ConserveBounds", spec := "conserveBounds", inPlace := ["math/bits.Add64"], unfollowed := true, recurses := true, apart := false }
def ConserveBoundsSaid : Prop := conserveBoundsRow.holds Try.pinned (OpenSpec.ofChange conserveBoundsSpec)

/-- ITS FALSE NEIGHBOUR: 'it returns false'. Refute it at one input. -/
def conserveBoundsWrong : ChangeSpec := { name := "conserveBounds", fn := fun _ => fun
  | [d1, d2] => { results := [.lit (.bool false)], args := [d1, d2] }
  | _ => none }
def ConserveBoundsWrongFalsely : Prop := conserveBoundsRow.holds Try.pinned (OpenSpec.ofChange conserveBoundsWrong)

/-- 'gaugerlaw09.ConserveNone': WHATEVER THE INPUT: true; the input reads as it did. -/
def conserveNoneSpec : ChangeSpec := { name := "conserveNone", fn := fun _ => fun
  | [d1, d2] => { results := [.lit (.bool true)], args := [d1, d2] }
  | _ => none }
def conserveNoneRow : OpenClaim := { program := "ytcinlcbmjboaaaa", sum := "b5c35dd2c91b8e32e7ac42eb53c3bf77822dd4368ff1dccbd2616625b22f345d", func := "gauger/gaugerlaw09.ConserveNone", spec := "conserveNone", inPlace := ["math/bits.Add64"], unfollowed := true, recurses := true, apart := false }
def ConserveNoneSaid : Prop := conserveNoneRow.holds Try.pinned (OpenSpec.ofChange conserveNoneSpec)

/-- ITS FALSE NEIGHBOUR: 'it returns false'. Refute it at one input. -/
def conserveNoneWrong : ChangeSpec := { name := "conserveNone", fn := fun _ => fun
  | [d1, d2] => { results := [.lit (.bool false)], args := [d1, d2] }
  | _ => none }
def ConserveNoneWrongFalsely : Prop := conserveNoneRow.holds Try.pinned (OpenSpec.ofChange conserveNoneWrong)

/-- 'gaugerlaw09.ConserveJoins': WHATEVER THE INPUT: true; the input reads as it did. -/
def conserveJoinsSpec : ChangeSpec := { name := "conserveJoins", fn := fun _ => fun
  | [d1, d2, d3] => { results := [.lit (.bool true)], args := [d1, d2, d3] }
  | _ => none }
def conserveJoinsRow : OpenClaim := { program := "ytcinlcbmjboaaaa", sum := "b5c35dd2c91b8e32e7ac42eb53c3bf77822dd4368ff1dccbd2616625b22f345d", func := "gauger/gaugerlaw09.ConserveJoins", spec := "conserveJoins", inPlace := ["math/bits.Add64"], unfollowed := true, recurses := true, apart := false }
def ConserveJoinsSaid : Prop := conserveJoinsRow.holds Try.pinned (OpenSpec.ofChange conserveJoinsSpec)

/-- ITS FALSE NEIGHBOUR: 'it returns false'. Refute it at one input. -/
def conserveJoinsWrong : ChangeSpec := { name := "conserveJoins", fn := fun _ => fun
  | [d1, d2, d3] => { results := [.lit (.bool false)], args := [d1, d2, d3] }
  | _ => none }
def ConserveJoinsWrongFalsely : Prop := conserveJoinsRow.holds Try.pinned (OpenSpec.ofChange conserveJoinsWrong)

/- THE SECOND FORM. 'bulk': how many values and letters a reading holds, each counted each time it is reached (what is shared counts as often as it is met; a slice's spare places count too). A statement '..UptoSaid' is the law's where the arguments, and the package variables that the reading takes, are together of bulk at most 1048576: NARROWER than '..Said'. Prove '..Said' where nothing that the law and all that it calls make is longer than what came in: it says more and counts as full. Else prove '..UptoSaid'. A law counts once. -/
mutual
def uptoBulk {H : Type} : DataW H → Nat
  | .lit (.string bytes) => bytes.length + 1
  | .lit _ => 1
  | .nil => 1
  | .ptr d => uptoBulk d + 1
  | .slice elems spare => uptoBulkAll elems + uptoBulkAll spare + 1
  | .agg parts => uptoBulkAll parts + 1
  | .iface _ d => uptoBulk d + 1
  | .map entries => uptoBulkEntries entries + 1
  | .held _ => 1
def uptoBulkAll {H : Type} : List (DataW H) → Nat
  | [] => 0
  | d :: r => uptoBulk d + uptoBulkAll r
def uptoBulkEntries {H : Type} : List (Lit × DataW H) → Nat
  | [] => 0
  | x :: r => uptoBulkEntry x + uptoBulkEntries r
def uptoBulkEntry {H : Type} : Lit × DataW H → Nat
  | (.string bytes, d) => bytes.length + uptoBulk d + 1
  | (_, d) => uptoBulk d + 1
 end
def uptoSmall : (H : Type) → List (DataW H) → Bool := fun _ ds => decide (uptoBulkAll ds ≤ 1048576)
def OpenSpec.upto (s : _root_.Go.ChangeSpec) : _root_.Go.OpenSpec := { _root_.Go.OpenSpec.ofChange s with cond := some uptoSmall }

/-- 'gaugerlaw08.LinearSums', WHERE WHAT IT READS IS OF BULK AT MOST 1048576: true; the input reads as it did. -/
def linearSumsUptoRow : OpenClaim := { program := "ytcinlcbmjboaaaa", sum := "b5c35dd2c91b8e32e7ac42eb53c3bf77822dd4368ff1dccbd2616625b22f345d", func := "gauger/gaugerlaw08.LinearSums", spec := "linearSums", inPlace := ["math/bits.Add64"], unfollowed := true, recurses := true, apart := false, narrowed := true }
def LinearSumsUptoSaid : Prop := linearSumsUptoRow.holds Try.pinned (OpenSpec.upto linearSumsSpec)

/-- 'gaugerlaw08.LinearLeast', WHERE WHAT IT READS IS OF BULK AT MOST 1048576: true; the input reads as it did. -/
def linearLeastUptoRow : OpenClaim := { program := "ytcinlcbmjboaaaa", sum := "b5c35dd2c91b8e32e7ac42eb53c3bf77822dd4368ff1dccbd2616625b22f345d", func := "gauger/gaugerlaw08.LinearLeast", spec := "linearLeast", inPlace := ["math/bits.Add64"], unfollowed := true, recurses := true, apart := false, narrowed := true }
def LinearLeastUptoSaid : Prop := linearLeastUptoRow.holds Try.pinned (OpenSpec.upto linearLeastSpec)

/-- 'gaugerlaw08.LinearMiddle', WHERE WHAT IT READS IS OF BULK AT MOST 1048576: true; the input reads as it did. -/
def linearMiddleUptoRow : OpenClaim := { program := "ytcinlcbmjboaaaa", sum := "b5c35dd2c91b8e32e7ac42eb53c3bf77822dd4368ff1dccbd2616625b22f345d", func := "gauger/gaugerlaw08.LinearMiddle", spec := "linearMiddle", inPlace := ["math/bits.Add64"], unfollowed := true, recurses := true, apart := false, narrowed := true }
def LinearMiddleUptoSaid : Prop := linearMiddleUptoRow.holds Try.pinned (OpenSpec.upto linearMiddleSpec)

/-- 'gaugerlaw08.LinearPlays', WHERE WHAT IT READS IS OF BULK AT MOST 1048576: true; the input reads as it did. -/
def linearPlaysUptoRow : OpenClaim := { program := "ytcinlcbmjboaaaa", sum := "b5c35dd2c91b8e32e7ac42eb53c3bf77822dd4368ff1dccbd2616625b22f345d", func := "gauger/gaugerlaw08.LinearPlays", spec := "linearPlays", inPlace := ["math/bits.Add64"], unfollowed := true, recurses := true, apart := false, narrowed := true }
def LinearPlaysUptoSaid : Prop := linearPlaysUptoRow.holds Try.pinned (OpenSpec.upto linearPlaysSpec)

/-- 'gaugerlaw08.LinearOrder', WHERE WHAT IT READS IS OF BULK AT MOST 1048576: true; the input reads as it did. -/
def linearOrderUptoRow : OpenClaim := { program := "ytcinlcbmjboaaaa", sum := "b5c35dd2c91b8e32e7ac42eb53c3bf77822dd4368ff1dccbd2616625b22f345d", func := "gauger/gaugerlaw08.LinearOrder", spec := "linearOrder", inPlace := ["math/bits.Add64"], unfollowed := true, recurses := true, apart := false, narrowed := true }
def LinearOrderUptoSaid : Prop := linearOrderUptoRow.holds Try.pinned (OpenSpec.upto linearOrderSpec)

/-- 'gaugerlaw08.LinearBack', WHERE WHAT IT READS IS OF BULK AT MOST 1048576: true; the input reads as it did. -/
def linearBackUptoRow : OpenClaim := { program := "ytcinlcbmjboaaaa", sum := "b5c35dd2c91b8e32e7ac42eb53c3bf77822dd4368ff1dccbd2616625b22f345d", func := "gauger/gaugerlaw08.LinearBack", spec := "linearBack", inPlace := ["math/bits.Add64"], unfollowed := true, recurses := true, apart := false, narrowed := true }
def LinearBackUptoSaid : Prop := linearBackUptoRow.holds Try.pinned (OpenSpec.upto linearBackSpec)

/-- 'gaugerlaw09.ConservePlays', WHERE WHAT IT READS IS OF BULK AT MOST 1048576: true; the input reads as it did. -/
def conservePlaysUptoRow : OpenClaim := { program := "ytcinlcbmjboaaaa", sum := "b5c35dd2c91b8e32e7ac42eb53c3bf77822dd4368ff1dccbd2616625b22f345d", func := "gauger/gaugerlaw09.ConservePlays", spec := "conservePlays", inPlace := ["math/bits.Add64"], unfollowed := true, recurses := true, apart := false, narrowed := true }
def ConservePlaysUptoSaid : Prop := conservePlaysUptoRow.holds Try.pinned (OpenSpec.upto conservePlaysSpec)

/-- 'gaugerlaw09.ConserveRises', WHERE WHAT IT READS IS OF BULK AT MOST 1048576: true; the input reads as it did. -/
def conserveRisesUptoRow : OpenClaim := { program := "ytcinlcbmjboaaaa", sum := "b5c35dd2c91b8e32e7ac42eb53c3bf77822dd4368ff1dccbd2616625b22f345d", func := "gauger/gaugerlaw09.ConserveRises", spec := "conserveRises", inPlace := ["math/bits.Add64"], unfollowed := true, recurses := true, apart := false, narrowed := true }
def ConserveRisesUptoSaid : Prop := conserveRisesUptoRow.holds Try.pinned (OpenSpec.upto conserveRisesSpec)

/-- 'gaugerlaw09.ConserveBounds', WHERE WHAT IT READS IS OF BULK AT MOST 1048576: true; the input reads as it did. -/
def conserveBoundsUptoRow : OpenClaim := { program := "ytcinlcbmjboaaaa", sum := "b5c35dd2c91b8e32e7ac42eb53c3bf77822dd4368ff1dccbd2616625b22f345d", func := "gauger/gaugerlaw09.ConserveBounds", spec := "conserveBounds", inPlace := ["math/bits.Add64"], unfollowed := true, recurses := true, apart := false, narrowed := true }
def ConserveBoundsUptoSaid : Prop := conserveBoundsUptoRow.holds Try.pinned (OpenSpec.upto conserveBoundsSpec)

/-- 'gaugerlaw09.ConserveNone', WHERE WHAT IT READS IS OF BULK AT MOST 1048576: true; the input reads as it did. -/
def conserveNoneUptoRow : OpenClaim := { program := "ytcinlcbmjboaaaa", sum := "b5c35dd2c91b8e32e7ac42eb53c3bf77822dd4368ff1dccbd2616625b22f345d", func := "gauger/gaugerlaw09.ConserveNone", spec := "conserveNone", inPlace := ["math/bits.Add64"], unfollowed := true, recurses := true, apart := false, narrowed := true }
def ConserveNoneUptoSaid : Prop := conserveNoneUptoRow.holds Try.pinned (OpenSpec.upto conserveNoneSpec)

/-- 'gaugerlaw09.ConserveJoins', WHERE WHAT IT READS IS OF BULK AT MOST 1048576: true; the input reads as it did. -/
def conserveJoinsUptoRow : OpenClaim := { program := "ytcinlcbmjboaaaa", sum := "b5c35dd2c91b8e32e7ac42eb53c3bf77822dd4368ff1dccbd2616625b22f345d", func := "gauger/gaugerlaw09.ConserveJoins", spec := "conserveJoins", inPlace := ["math/bits.Add64"], unfollowed := true, recurses := true, apart := false, narrowed := true }
def ConserveJoinsUptoSaid : Prop := conserveJoinsUptoRow.holds Try.pinned (OpenSpec.upto conserveJoinsSpec)

end Rows
end Go.Proofs.Ytcinlcbmjboaaaa
