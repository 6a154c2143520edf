/-
  No cell of these rows narrows 'for every input' (looked for: loops, veiled, ifaces, maps, wideKeys, modest, calm, conditions, laid).
  DERIVED. THE GIVEN ROWS OF THIS SEAT. 3 by the template 'for every input the law returns true; each argument reads behind the call as it read before'; 0 by the template 'total and deterministic' (their statements: YtbghchgmoiniiaaGreatTotals.lean).
  GIVEN WITH THE SEED: the statements are not yours to turn. If you find one false, say at which input.
  Laid BY PROGRAM, IN A SANDBOX (cutbox-rows.mjs): the forced cells as the released guide's own fill.sh prints them over the translation b3aa9dd882da09ec… (all of the seat's roots in one cut). By AI agents, Wed Nov 11 2026. No macro, syntax, notation, axiom, sorry.
-/
import Derived.Test.YtbghchgmoiniiaaGreatChecked
import GoSem.Claim
import GoSem.ClaimJoined
import GoSem.ClaimMapViews
import Derived.JoinedTies
import Derived.KernelRfl
namespace Go.Proofs.YtbghchgmoiniiaaGreat
/- THE CELL 'sum', in the pinned program and in every row, IS THE sha256 OF THE DUMP (.gsa) THAT YtbghchgmoiniiaaGreatProg.lean LOADS. Nothing in Lean hashes anything: it is a label: what it is worth is what the hold of that sum in a sandbox is worth. -/
noncomputable def Tryz.pinned : Pinned := { name := "ytbghchgmoiniiaagreat", sum := "b3aa9dd882da09ec3fb7fa90996be4a73484204f159d2c66bb8d0e45443b9a35", checked := Tryz.checked }
namespace Rows
def none {H : Type} : Left H := { results := [], args := [] }

/-- 'gaugerlaw23.WireTells': WHATEVER THE INPUT: true; the input reads as it did. -/
def wireTellsSpec : ChangeSpec := { name := "wireTells", fn := fun _ => fun
  | [d] => { results := [.lit (.bool true)], args := [d] }
  | _ => none }
def wireTellsRow : OpenClaim := { program := "ytbghchgmoiniiaagreat", sum := "b3aa9dd882da09ec3fb7fa90996be4a73484204f159d2c66bb8d0e45443b9a35", func := "gauger/gaugerlaw23.WireTells", spec := "wireTells", unfollowed := true, recurses := true, apart := false }
def WireTellsSaid : Prop := wireTellsRow.holds Tryz.pinned (OpenSpec.ofChange wireTellsSpec)

/-- ITS FALSE NEIGHBOUR: 'it returns false'. Refute it at one input. -/
def wireTellsWrong : ChangeSpec := { name := "wireTells", fn := fun _ => fun
  | [d] => { results := [.lit (.bool false)], args := [d] }
  | _ => none }
def WireTellsWrongFalsely : Prop := wireTellsRow.holds Tryz.pinned (OpenSpec.ofChange wireTellsWrong)

/-- 'gaugerlaw23.WireBack': WHATEVER THE INPUT: true; the input reads as it did. -/
def wireBackSpec : ChangeSpec := { name := "wireBack", fn := fun _ => fun
  | [d1, d2] => { results := [.lit (.bool true)], args := [d1, d2] }
  | _ => none }
def wireBackRow : OpenClaim := { program := "ytbghchgmoiniiaagreat", sum := "b3aa9dd882da09ec3fb7fa90996be4a73484204f159d2c66bb8d0e45443b9a35", func := "gauger/gaugerlaw23.WireBack", spec := "wireBack", unfollowed := true, recurses := true, apart := false }
def WireBackSaid : Prop := wireBackRow.holds Tryz.pinned (OpenSpec.ofChange wireBackSpec)

/-- ITS FALSE NEIGHBOUR: 'it returns false'. Refute it at one input. -/
def wireBackWrong : ChangeSpec := { name := "wireBack", fn := fun _ => fun
  | [d1, d2] => { results := [.lit (.bool false)], args := [d1, d2] }
  | _ => none }
def WireBackWrongFalsely : Prop := wireBackRow.holds Tryz.pinned (OpenSpec.ofChange wireBackWrong)

/-- 'gaugerlaw23.WireSpoilt': WHATEVER THE INPUT: true; the input reads as it did. -/
def wireSpoiltSpec : ChangeSpec := { name := "wireSpoilt", fn := fun _ => fun
  | [d1, d2, d3] => { results := [.lit (.bool true)], args := [d1, d2, d3] }
  | _ => none }
def wireSpoiltRow : OpenClaim := { program := "ytbghchgmoiniiaagreat", sum := "b3aa9dd882da09ec3fb7fa90996be4a73484204f159d2c66bb8d0e45443b9a35", func := "gauger/gaugerlaw23.WireSpoilt", spec := "wireSpoilt", unfollowed := true, recurses := true, apart := false }
def WireSpoiltSaid : Prop := wireSpoiltRow.holds Tryz.pinned (OpenSpec.ofChange wireSpoiltSpec)

/-- ITS FALSE NEIGHBOUR: 'it returns false'. Refute it at one input. -/
def wireSpoiltWrong : ChangeSpec := { name := "wireSpoilt", fn := fun _ => fun
  | [d1, d2, d3] => { results := [.lit (.bool false)], args := [d1, d2, d3] }
  | _ => none }
def WireSpoiltWrongFalsely : Prop := wireSpoiltRow.holds Tryz.pinned (OpenSpec.ofChange wireSpoiltWrong)

/- THE SECOND FORM. 'bulk': how many values and letters a reading holds, each counted each time it is reached (what is shared counts as often as it is met; a slice's spare places count too). A statement '..UptoSaid' is the law's where the arguments, and the package variables that the reading takes, are together of bulk at most 1048576: NARROWER than '..Said'. Prove '..Said' where nothing that the law and all that it calls make is longer than what came in: it says more and counts as full. Else prove '..UptoSaid'. A law counts once. -/
mutual
def uptoBulk {H : Type} : DataW H → Nat
  | .lit (.string bytes) => bytes.length + 1
  | .lit _ => 1
  | .nil => 1
  | .ptr d => uptoBulk d + 1
  | .slice elems spare => uptoBulkAll elems + uptoBulkAll spare + 1
  | .agg parts => uptoBulkAll parts + 1
  | .iface _ d => uptoBulk d + 1
  | .map entries => uptoBulkEntries entries + 1
  | .held _ => 1
def uptoBulkAll {H : Type} : List (DataW H) → Nat
  | [] => 0
  | d :: r => uptoBulk d + uptoBulkAll r
def uptoBulkEntries {H : Type} : List (Lit × DataW H) → Nat
  | [] => 0
  | x :: r => uptoBulkEntry x + uptoBulkEntries r
def uptoBulkEntry {H : Type} : Lit × DataW H → Nat
  | (.string bytes, d) => bytes.length + uptoBulk d + 1
  | (_, d) => uptoBulk d + 1
 end
def uptoSmall : (H : Type) → List (DataW H) → Bool := fun _ ds => decide (uptoBulkAll ds ≤ 1048576)
def OpenSpec.upto (s : _root_.Go.ChangeSpec) : _root_.Go.OpenSpec := { _root_.Go.OpenSpec.ofChange s with cond := some uptoSmall }

/-- 'gaugerlaw23.WireTells', WHERE WHAT IT READS IS OF BULK AT MOST 1048576: true; the input reads as it did. -/
def wireTellsUptoRow : OpenClaim := { program := "ytbghchgmoiniiaagreat", sum := "b3aa9dd882da09ec3fb7fa90996be4a73484204f159d2c66bb8d0e45443b9a35", func := "gauger/gaugerlaw23.WireTells", spec := "wireTells", unfollowed := true, recurses := true, apart := false, narrowed := true }
def WireTellsUptoSaid : Prop := wireTellsUptoRow.holds Tryz.pinned (OpenSpec.upto wireTellsSpec)

/-- 'gaugerlaw23.WireBack', WHERE WHAT IT READS IS OF BULK AT MOST 1048576: true; the input reads as it did. -/
def wireBackUptoRow : OpenClaim := { program := "ytbghchgmoiniiaagreat", sum := "b3aa9dd882da09ec3fb7fa90996be4a73484204f159d2c66bb8d0e45443b9a35", func := "gauger/gaugerlaw23.WireBack", spec := "wireBack", unfollowed := true, recurses := true, apart := false, narrowed := true }
def WireBackUptoSaid : Prop := wireBackUptoRow.holds Tryz.pinned (OpenSpec.upto wireBackSpec)

/-- 'gaugerlaw23.WireSpoilt', WHERE WHAT IT READS IS OF BULK AT MOST 1048576: true; the input reads as it did. -/
def wireSpoiltUptoRow : OpenClaim := { program := "ytbghchgmoiniiaagreat", sum := "b3aa9dd882da09ec3fb7fa90996be4a73484204f159d2c66bb8d0e45443b9a35", func := "gauger/gaugerlaw23.WireSpoilt", spec := "wireSpoilt", unfollowed := true, recurses := true, apart := false, narrowed := true }
def WireSpoiltUptoSaid : Prop := wireSpoiltUptoRow.holds Tryz.pinned (OpenSpec.upto wireSpoiltSpec)

end Rows
end Go.Proofs.YtbghchgmoiniiaaGreat
