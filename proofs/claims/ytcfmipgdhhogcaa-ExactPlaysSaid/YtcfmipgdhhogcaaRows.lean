/-
  No cell of these rows narrows 'for every input' (looked for: loops, veiled, ifaces, maps, wideKeys, modest, calm, conditions, laid).
  DERIVED. THE GIVEN ROWS OF THIS SEAT. 5 by the template 'for every input the law returns true; each argument reads behind the call as it read before'; 0 by the template 'total and deterministic' (their statements: YtcfmipgdhhogcaaTotals.lean).
  GIVEN WITH THE SEED: the statements are not yours to turn. If you find one false, say at which input.
  Laid BY PROGRAM, IN A SANDBOX (cutbox-rows.mjs): the forced cells as the released guide's own fill.sh prints them over the translation 64206a81f3b73239… (all of the seat's roots in one cut). By AI agents, Wed Nov 11 2026. No macro, syntax, notation, axiom, sorry.
-/
import Derived.Test.YtcfmipgdhhogcaaChecked
import GoSem.Claim
import GoSem.ClaimJoined
import GoSem.ClaimMapViews
import Derived.JoinedTies
import Derived.KernelRfl
namespace Go.Proofs.Ytcfmipgdhhogcaa
/- THE CELL 'sum', in the pinned program and in every row, IS THE sha256 OF THE DUMP (.gsa) THAT YtcfmipgdhhogcaaProg.lean LOADS. Nothing in Lean hashes anything: it is a label: what it is worth is what the hold of that sum in a sandbox is worth. -/
noncomputable def Try.pinned : Pinned := { name := "ytcfmipgdhhogcaa", sum := "64206a81f3b73239cface8758a3dd81f54d6185bcaa5566084d4a22b726bc7aa", checked := Try.checked }
namespace Rows
def none {H : Type} : Left H := { results := [], args := [] }

/-- 'gaugerlaw12.ExactMakes': WHATEVER THE INPUT: true; the input reads as it did. -/
def exactMakesSpec : ChangeSpec := { name := "exactMakes", fn := fun _ => fun
  | [d1, d2] => { results := [.lit (.bool true)], args := [d1, d2] }
  | _ => none }
def exactMakesRow : OpenClaim := { program := "ytcfmipgdhhogcaa", sum := "64206a81f3b73239cface8758a3dd81f54d6185bcaa5566084d4a22b726bc7aa", func := "gauger/gaugerlaw12.ExactMakes", spec := "exactMakes", inPlace := ["math/bits.Add64"], apart := false }
def ExactMakesSaid : Prop := exactMakesRow.holds Try.pinned (OpenSpec.ofChange exactMakesSpec)

/-- ITS FALSE NEIGHBOUR: 'it returns false'. Refute it at one input. -/
def exactMakesWrong : ChangeSpec := { name := "exactMakes", fn := fun _ => fun
  | [d1, d2] => { results := [.lit (.bool false)], args := [d1, d2] }
  | _ => none }
def ExactMakesWrongFalsely : Prop := exactMakesRow.holds Try.pinned (OpenSpec.ofChange exactMakesWrong)

/-- 'gaugerlaw12.ExactSums': WHATEVER THE INPUT: true; the input reads as it did. -/
def exactSumsSpec : ChangeSpec := { name := "exactSums", fn := fun _ => fun
  | [d] => { results := [.lit (.bool true)], args := [d] }
  | _ => none }
def exactSumsRow : OpenClaim := { program := "ytcfmipgdhhogcaa", sum := "64206a81f3b73239cface8758a3dd81f54d6185bcaa5566084d4a22b726bc7aa", func := "gauger/gaugerlaw12.ExactSums", spec := "exactSums", inPlace := ["math/bits.Add64"], apart := false }
def ExactSumsSaid : Prop := exactSumsRow.holds Try.pinned (OpenSpec.ofChange exactSumsSpec)

/-- ITS FALSE NEIGHBOUR: 'it returns false'. Refute it at one input. -/
def exactSumsWrong : ChangeSpec := { name := "exactSums", fn := fun _ => fun
  | [d] => { results := [.lit (.bool false)], args := [d] }
  | _ => none }
def ExactSumsWrongFalsely : Prop := exactSumsRow.holds Try.pinned (OpenSpec.ofChange exactSumsWrong)

/-- 'gaugerlaw12.ExactLoads': WHATEVER THE INPUT: true; the input reads as it did. -/
def exactLoadsSpec : ChangeSpec := { name := "exactLoads", fn := fun _ => fun
  | [d1, d2, d3] => { results := [.lit (.bool true)], args := [d1, d2, d3] }
  | _ => none }
def exactLoadsRow : OpenClaim := { program := "ytcfmipgdhhogcaa", sum := "64206a81f3b73239cface8758a3dd81f54d6185bcaa5566084d4a22b726bc7aa", func := "gauger/gaugerlaw12.ExactLoads", spec := "exactLoads", inPlace := ["math/bits.Add64"], apart := false }
def ExactLoadsSaid : Prop := exactLoadsRow.holds Try.pinned (OpenSpec.ofChange exactLoadsSpec)

/-- ITS FALSE NEIGHBOUR: 'it returns false'. Refute it at one input. -/
def exactLoadsWrong : ChangeSpec := { name := "exactLoads", fn := fun _ => fun
  | [d1, d2, d3] => { results := [.lit (.bool false)], args := [d1, d2, d3] }
  | _ => none }
def ExactLoadsWrongFalsely : Prop := exactLoadsRow.holds Try.pinned (OpenSpec.ofChange exactLoadsWrong)

/-- 'gaugerlaw12.ExactUnlike': WHATEVER THE INPUT: true; the input reads as it did. -/
def exactUnlikeSpec : ChangeSpec := { name := "exactUnlike", fn := fun _ => fun
  | [d1, d2, d3] => { results := [.lit (.bool true)], args := [d1, d2, d3] }
  | _ => none }
def exactUnlikeRow : OpenClaim := { program := "ytcfmipgdhhogcaa", sum := "64206a81f3b73239cface8758a3dd81f54d6185bcaa5566084d4a22b726bc7aa", func := "gauger/gaugerlaw12.ExactUnlike", spec := "exactUnlike", inPlace := ["math/bits.Add64", "math/bits.Sub64"], unfollowed := true, recurses := true, apart := false }
def ExactUnlikeSaid : Prop := exactUnlikeRow.holds Try.pinned (OpenSpec.ofChange exactUnlikeSpec)

/-- ITS FALSE NEIGHBOUR: 'it returns false'. Refute it at one input. -/
def exactUnlikeWrong : ChangeSpec := { name := "exactUnlike", fn := fun _ => fun
  | [d1, d2, d3] => { results := [.lit (.bool false)], args := [d1, d2, d3] }
  | _ => none }
def ExactUnlikeWrongFalsely : Prop := exactUnlikeRow.holds Try.pinned (OpenSpec.ofChange exactUnlikeWrong)

/-- 'gaugerlaw12.ExactPlays': WHATEVER THE INPUT: true; the input reads as it did. -/
def exactPlaysSpec : ChangeSpec := { name := "exactPlays", fn := fun _ => fun
  | [d1, d2, d3] => { results := [.lit (.bool true)], args := [d1, d2, d3] }
  | _ => none }
def exactPlaysRow : OpenClaim := { program := "ytcfmipgdhhogcaa", sum := "64206a81f3b73239cface8758a3dd81f54d6185bcaa5566084d4a22b726bc7aa", func := "gauger/gaugerlaw12.ExactPlays", spec := "exactPlays", inPlace := ["math/bits.Add64", "math/bits.Sub64"], unfollowed := true, recurses := true, apart := false }
def ExactPlaysSaid : Prop := exactPlaysRow.holds Try.pinned (OpenSpec.ofChange exactPlaysSpec)

/-- ITS FALSE NEIGHBOUR: 'it returns false'. Refute it at one input. -/
def exactPlaysWrong : ChangeSpec := { name := "exactPlays", fn := fun _ => fun
  | [d1, d2, d3] => { results := [.lit (.bool false)], args := [d1, d2, d3] }
  | _ => none }
def ExactPlaysWrongFalsely : Prop := exactPlaysRow.holds Try.pinned (OpenSpec.ofChange exactPlaysWrong)

/- THE SECOND FORM. 'bulk': how many values and letters a reading holds, each counted each time it is reached (what is shared counts as often as it is met; a slice's spare places count too). A statement '..UptoSaid' is the law's where the arguments, and the package variables that the reading takes, are together of bulk at most 1048576: NARROWER than '..Said'. Prove '..Said' where nothing that the law and all that it calls make is longer than what came in: it says more and counts as full. Else prove '..UptoSaid'. A law counts once. -/
mutual
def uptoBulk {H : Type} : DataW H → Nat
  | .lit (.string bytes) => bytes.length + 1
  | .lit _ => 1
  | .nil => 1
  | .ptr d => uptoBulk d + 1
  | .slice elems spare => uptoBulkAll elems + uptoBulkAll spare + 1
  | .agg parts => uptoBulkAll parts + 1
  | .iface _ d => uptoBulk d + 1
  | .map entries => uptoBulkEntries entries + 1
  | .held _ => 1
def uptoBulkAll {H : Type} : List (DataW H) → Nat
  | [] => 0
  | d :: r => uptoBulk d + uptoBulkAll r
def uptoBulkEntries {H : Type} : List (Lit × DataW H) → Nat
  | [] => 0
  | x :: r => uptoBulkEntry x + uptoBulkEntries r
def uptoBulkEntry {H : Type} : Lit × DataW H → Nat
  | (.string bytes, d) => bytes.length + uptoBulk d + 1
  | (_, d) => uptoBulk d + 1
 end
def uptoSmall : (H : Type) → List (DataW H) → Bool := fun _ ds => decide (uptoBulkAll ds ≤ 1048576)
def OpenSpec.upto (s : _root_.Go.ChangeSpec) : _root_.Go.OpenSpec := { _root_.Go.OpenSpec.ofChange s with cond := some uptoSmall }

/-- 'gaugerlaw12.ExactMakes', WHERE WHAT IT READS IS OF BULK AT MOST 1048576: true; the input reads as it did. -/
def exactMakesUptoRow : OpenClaim := { program := "ytcfmipgdhhogcaa", sum := "64206a81f3b73239cface8758a3dd81f54d6185bcaa5566084d4a22b726bc7aa", func := "gauger/gaugerlaw12.ExactMakes", spec := "exactMakes", inPlace := ["math/bits.Add64"], apart := false, narrowed := true }
def ExactMakesUptoSaid : Prop := exactMakesUptoRow.holds Try.pinned (OpenSpec.upto exactMakesSpec)

/-- 'gaugerlaw12.ExactSums', WHERE WHAT IT READS IS OF BULK AT MOST 1048576: true; the input reads as it did. -/
def exactSumsUptoRow : OpenClaim := { program := "ytcfmipgdhhogcaa", sum := "64206a81f3b73239cface8758a3dd81f54d6185bcaa5566084d4a22b726bc7aa", func := "gauger/gaugerlaw12.ExactSums", spec := "exactSums", inPlace := ["math/bits.Add64"], apart := false, narrowed := true }
def ExactSumsUptoSaid : Prop := exactSumsUptoRow.holds Try.pinned (OpenSpec.upto exactSumsSpec)

/-- 'gaugerlaw12.ExactLoads', WHERE WHAT IT READS IS OF BULK AT MOST 1048576: true; the input reads as it did. -/
def exactLoadsUptoRow : OpenClaim := { program := "ytcfmipgdhhogcaa", sum := "64206a81f3b73239cface8758a3dd81f54d6185bcaa5566084d4a22b726bc7aa", func := "gauger/gaugerlaw12.ExactLoads", spec := "exactLoads", inPlace := ["math/bits.Add64"], apart := false, narrowed := true }
def ExactLoadsUptoSaid : Prop := exactLoadsUptoRow.holds Try.pinned (OpenSpec.upto exactLoadsSpec)

/-- 'gaugerlaw12.ExactUnlike', WHERE WHAT IT READS IS OF BULK AT MOST 1048576: true; the input reads as it did. -/
def exactUnlikeUptoRow : OpenClaim := { program := "ytcfmipgdhhogcaa", sum := "64206a81f3b73239cface8758a3dd81f54d6185bcaa5566084d4a22b726bc7aa", func := "gauger/gaugerlaw12.ExactUnlike", spec := "exactUnlike", inPlace := ["math/bits.Add64", "math/bits.Sub64"], unfollowed := true, recurses := true, apart := false, narrowed := true }
def ExactUnlikeUptoSaid : Prop := exactUnlikeUptoRow.holds Try.pinned (OpenSpec.upto exactUnlikeSpec)

/-- 'gaugerlaw12.ExactPlays', WHERE WHAT IT READS IS OF BULK AT MOST 1048576: true; the input reads as it did. -/
def exactPlaysUptoRow : OpenClaim := { program := "ytcfmipgdhhogcaa", sum := "64206a81f3b73239cface8758a3dd81f54d6185bcaa5566084d4a22b726bc7aa", func := "gauger/gaugerlaw12.ExactPlays", spec := "exactPlays", inPlace := ["math/bits.Add64", "math/bits.Sub64"], unfollowed := true, recurses := true, apart := false, narrowed := true }
def ExactPlaysUptoSaid : Prop := exactPlaysUptoRow.holds Try.pinned (OpenSpec.upto exactPlaysSpec)

end Rows
end Go.Proofs.Ytcfmipgdhhogcaa
