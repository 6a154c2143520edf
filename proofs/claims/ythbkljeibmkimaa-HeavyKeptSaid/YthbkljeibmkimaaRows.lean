/-
  No cell of these rows narrows 'for every input' (looked for: loops, veiled, ifaces, maps, wideKeys, modest, calm, conditions, laid).
  DERIVED. THE GIVEN ROWS OF THIS SEAT. 4 by the template 'for every input the law returns true; each argument reads behind the call as it read before'; 0 by the template 'total and deterministic' (their statements: YthbkljeibmkimaaTotals.lean).
  GIVEN WITH THE SEED: the statements are not yours to turn. If you find one false, say at which input.
  Laid BY PROGRAM, IN A SANDBOX (cutbox-rows.mjs): the forced cells as the released guide's own fill.sh prints them over the translation 9a0a79d58df0471b… (all of the seat's roots in one cut). By AI agents, Wed Nov 11 2026. No macro, syntax, notation, axiom, sorry.
-/
import Derived.Test.YthbkljeibmkimaaChecked
import GoSem.Claim
import GoSem.ClaimJoined
import GoSem.ClaimMapViews
import Derived.JoinedTies
import Derived.KernelRfl
namespace Go.Proofs.Ythbkljeibmkimaa
/- THE CELL 'sum', in the pinned program and in every row, IS THE sha256 OF THE DUMP (.gsa) THAT YthbkljeibmkimaaProg.lean LOADS. Nothing in Lean hashes anything: it is a label: what it is worth is what the hold of that sum in a sandbox is worth. -/
noncomputable def Try.pinned : Pinned := { name := "ythbkljeibmkimaa", sum := "9a0a79d58df0471b631eb2a18b605af407567157dc5f8452d9f7b42b203a9916", checked := Try.checked }
namespace Rows
def none {H : Type} : Left H := { results := [], args := [] }

/-- 'gaugerlaw18.HeavyAll': WHATEVER THE INPUT: true; the input reads as it did. -/
def heavyAllSpec : ChangeSpec := { name := "heavyAll", fn := fun _ => fun
  | [d1, d2, d3] => { results := [.lit (.bool true)], args := [d1, d2, d3] }
  | _ => none }
def heavyAllRow : OpenClaim := { program := "ythbkljeibmkimaa", sum := "9a0a79d58df0471b631eb2a18b605af407567157dc5f8452d9f7b42b203a9916", func := "gauger/gaugerlaw18.HeavyAll", spec := "heavyAll", inPlace := ["math/bits.Add64", "math/bits.Sub64"], unfollowed := true, recurses := true, plainKeys := false, apart := false }
def HeavyAllSaid : Prop := heavyAllRow.holds Try.pinned (OpenSpec.ofChange heavyAllSpec)

/-- ITS FALSE NEIGHBOUR: 'it returns false'. Refute it at one input. -/
def heavyAllWrong : ChangeSpec := { name := "heavyAll", fn := fun _ => fun
  | [d1, d2, d3] => { results := [.lit (.bool false)], args := [d1, d2, d3] }
  | _ => none }
def HeavyAllWrongFalsely : Prop := heavyAllRow.holds Try.pinned (OpenSpec.ofChange heavyAllWrong)

/-- 'gaugerlaw18.HeavyOnly': WHATEVER THE INPUT: true; the input reads as it did. -/
def heavyOnlySpec : ChangeSpec := { name := "heavyOnly", fn := fun _ => fun
  | [d1, d2, d3] => { results := [.lit (.bool true)], args := [d1, d2, d3] }
  | _ => none }
def heavyOnlyRow : OpenClaim := { program := "ythbkljeibmkimaa", sum := "9a0a79d58df0471b631eb2a18b605af407567157dc5f8452d9f7b42b203a9916", func := "gauger/gaugerlaw18.HeavyOnly", spec := "heavyOnly", inPlace := ["math/bits.Add64", "math/bits.Sub64"], unfollowed := true, recurses := true, plainKeys := false, apart := false }
def HeavyOnlySaid : Prop := heavyOnlyRow.holds Try.pinned (OpenSpec.ofChange heavyOnlySpec)

/-- ITS FALSE NEIGHBOUR: 'it returns false'. Refute it at one input. -/
def heavyOnlyWrong : ChangeSpec := { name := "heavyOnly", fn := fun _ => fun
  | [d1, d2, d3] => { results := [.lit (.bool false)], args := [d1, d2, d3] }
  | _ => none }
def HeavyOnlyWrongFalsely : Prop := heavyOnlyRow.holds Try.pinned (OpenSpec.ofChange heavyOnlyWrong)

/-- 'gaugerlaw18.HeavyBudget': WHATEVER THE INPUT: true; the input reads as it did. -/
def heavyBudgetSpec : ChangeSpec := { name := "heavyBudget", fn := fun _ => fun
  | [d1, d2, d3] => { results := [.lit (.bool true)], args := [d1, d2, d3] }
  | _ => none }
def heavyBudgetRow : OpenClaim := { program := "ythbkljeibmkimaa", sum := "9a0a79d58df0471b631eb2a18b605af407567157dc5f8452d9f7b42b203a9916", func := "gauger/gaugerlaw18.HeavyBudget", spec := "heavyBudget", inPlace := ["math/bits.Add64", "math/bits.Sub64"], unfollowed := true, recurses := true, plainKeys := false, apart := false }
def HeavyBudgetSaid : Prop := heavyBudgetRow.holds Try.pinned (OpenSpec.ofChange heavyBudgetSpec)

/-- ITS FALSE NEIGHBOUR: 'it returns false'. Refute it at one input. -/
def heavyBudgetWrong : ChangeSpec := { name := "heavyBudget", fn := fun _ => fun
  | [d1, d2, d3] => { results := [.lit (.bool false)], args := [d1, d2, d3] }
  | _ => none }
def HeavyBudgetWrongFalsely : Prop := heavyBudgetRow.holds Try.pinned (OpenSpec.ofChange heavyBudgetWrong)

/-- 'gaugerlaw18.HeavyKept': WHATEVER THE INPUT: true; the input reads as it did. -/
def heavyKeptSpec : ChangeSpec := { name := "heavyKept", fn := fun _ => fun
  | [d1, d2] => { results := [.lit (.bool true)], args := [d1, d2] }
  | _ => none }
def heavyKeptRow : OpenClaim := { program := "ythbkljeibmkimaa", sum := "9a0a79d58df0471b631eb2a18b605af407567157dc5f8452d9f7b42b203a9916", func := "gauger/gaugerlaw18.HeavyKept", spec := "heavyKept", inPlace := ["math/bits.Add64", "math/bits.Sub64"], unfollowed := true, recurses := true, plainKeys := false, apart := false }
def HeavyKeptSaid : Prop := heavyKeptRow.holds Try.pinned (OpenSpec.ofChange heavyKeptSpec)

/-- ITS FALSE NEIGHBOUR: 'it returns false'. Refute it at one input. -/
def heavyKeptWrong : ChangeSpec := { name := "heavyKept", fn := fun _ => fun
  | [d1, d2] => { results := [.lit (.bool false)], args := [d1, d2] }
  | _ => none }
def HeavyKeptWrongFalsely : Prop := heavyKeptRow.holds Try.pinned (OpenSpec.ofChange heavyKeptWrong)

/- THE SECOND FORM. 'bulk': how many values and letters a reading holds, each counted each time it is reached (what is shared counts as often as it is met; a slice's spare places count too). A statement '..UptoSaid' is the law's where the arguments, and the package variables that the reading takes, are together of bulk at most 1048576: NARROWER than '..Said'. Prove '..Said' where nothing that the law and all that it calls make is longer than what came in: it says more and counts as full. Else prove '..UptoSaid'. A law counts once. -/
mutual
def uptoBulk {H : Type} : DataW H → Nat
  | .lit (.string bytes) => bytes.length + 1
  | .lit _ => 1
  | .nil => 1
  | .ptr d => uptoBulk d + 1
  | .slice elems spare => uptoBulkAll elems + uptoBulkAll spare + 1
  | .agg parts => uptoBulkAll parts + 1
  | .iface _ d => uptoBulk d + 1
  | .map entries => uptoBulkEntries entries + 1
  | .held _ => 1
def uptoBulkAll {H : Type} : List (DataW H) → Nat
  | [] => 0
  | d :: r => uptoBulk d + uptoBulkAll r
def uptoBulkEntries {H : Type} : List (Lit × DataW H) → Nat
  | [] => 0
  | x :: r => uptoBulkEntry x + uptoBulkEntries r
def uptoBulkEntry {H : Type} : Lit × DataW H → Nat
  | (.string bytes, d) => bytes.length + uptoBulk d + 1
  | (_, d) => uptoBulk d + 1
 end
def uptoSmall : (H : Type) → List (DataW H) → Bool := fun _ ds => decide (uptoBulkAll ds ≤ 1048576)
def OpenSpec.upto (s : _root_.Go.ChangeSpec) : _root_.Go.OpenSpec := { _root_.Go.OpenSpec.ofChange s with cond := some uptoSmall }

/-- 'gaugerlaw18.HeavyAll', WHERE WHAT IT READS IS OF BULK AT MOST 1048576: true; the input reads as it did. -/
def heavyAllUptoRow : OpenClaim := { program := "ythbkljeibmkimaa", sum := "9a0a79d58df0471b631eb2a18b605af407567157dc5f8452d9f7b42b203a9916", func := "gauger/gaugerlaw18.HeavyAll", spec := "heavyAll", inPlace := ["math/bits.Add64", "math/bits.Sub64"], unfollowed := true, recurses := true, plainKeys := false, apart := false, narrowed := true }
def HeavyAllUptoSaid : Prop := heavyAllUptoRow.holds Try.pinned (OpenSpec.upto heavyAllSpec)

/-- 'gaugerlaw18.HeavyOnly', WHERE WHAT IT READS IS OF BULK AT MOST 1048576: true; the input reads as it did. -/
def heavyOnlyUptoRow : OpenClaim := { program := "ythbkljeibmkimaa", sum := "9a0a79d58df0471b631eb2a18b605af407567157dc5f8452d9f7b42b203a9916", func := "gauger/gaugerlaw18.HeavyOnly", spec := "heavyOnly", inPlace := ["math/bits.Add64", "math/bits.Sub64"], unfollowed := true, recurses := true, plainKeys := false, apart := false, narrowed := true }
def HeavyOnlyUptoSaid : Prop := heavyOnlyUptoRow.holds Try.pinned (OpenSpec.upto heavyOnlySpec)

/-- 'gaugerlaw18.HeavyBudget', WHERE WHAT IT READS IS OF BULK AT MOST 1048576: true; the input reads as it did. -/
def heavyBudgetUptoRow : OpenClaim := { program := "ythbkljeibmkimaa", sum := "9a0a79d58df0471b631eb2a18b605af407567157dc5f8452d9f7b42b203a9916", func := "gauger/gaugerlaw18.HeavyBudget", spec := "heavyBudget", inPlace := ["math/bits.Add64", "math/bits.Sub64"], unfollowed := true, recurses := true, plainKeys := false, apart := false, narrowed := true }
def HeavyBudgetUptoSaid : Prop := heavyBudgetUptoRow.holds Try.pinned (OpenSpec.upto heavyBudgetSpec)

/-- 'gaugerlaw18.HeavyKept', WHERE WHAT IT READS IS OF BULK AT MOST 1048576: true; the input reads as it did. -/
def heavyKeptUptoRow : OpenClaim := { program := "ythbkljeibmkimaa", sum := "9a0a79d58df0471b631eb2a18b605af407567157dc5f8452d9f7b42b203a9916", func := "gauger/gaugerlaw18.HeavyKept", spec := "heavyKept", inPlace := ["math/bits.Add64", "math/bits.Sub64"], unfollowed := true, recurses := true, plainKeys := false, apart := false, narrowed := true }
def HeavyKeptUptoSaid : Prop := heavyKeptUptoRow.holds Try.pinned (OpenSpec.upto heavyKeptSpec)

end Rows
end Go.Proofs.Ythbkljeibmkimaa
