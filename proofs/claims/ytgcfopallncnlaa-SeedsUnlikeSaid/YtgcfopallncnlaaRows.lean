/-
  No cell of these rows narrows 'for every input' (looked for: loops, veiled, ifaces, maps, wideKeys, modest, calm, conditions, laid).
  DERIVED. THE GIVEN ROWS OF THIS SEAT. 12 by the template 'for every input the law returns true; each argument reads behind the call as it read before'; 0 by the template 'total and deterministic' (their statements: YtgcfopallncnlaaTotals.lean).
  GIVEN WITH THE SEED: the statements are not yours to turn. If you find one false, say at which input.
  Laid BY PROGRAM, IN A SANDBOX (cutbox-rows.mjs): the forced cells as the released guide's own fill.sh prints them over the translation 15ee5ba757b8a6ea… (all of the seat's roots in one cut). By AI agents, Wed Nov 11 2026. No macro, syntax, notation, axiom, sorry.
-/
import Derived.Test.YtgcfopallncnlaaChecked
import GoSem.Claim
import GoSem.ClaimJoined
import GoSem.ClaimMapViews
import Derived.JoinedTies
import Derived.KernelRfl
namespace Go.Proofs.Ytgcfopallncnlaa
/- THE CELL 'sum', in the pinned program and in every row, IS THE sha256 OF THE DUMP (.gsa) THAT YtgcfopallncnlaaProg.lean LOADS. Nothing in Lean hashes anything: it is a label: what it is worth is what the hold of that sum in a sandbox is worth. -/
noncomputable def Try.pinned : Pinned := { name := "ytgcfopallncnlaa", sum := "15ee5ba757b8a6ea6b5ec72e586d866e601ad55ce0d2046e7348b5a1ad2045c7", checked := Try.checked }
namespace Rows
def none {H : Type} : Left H := { results := [], args := [] }

/-- 'gaugerlaw01.FieldSums': WHATEVER THE INPUT: true; the input reads as it did. -/
def fieldSumsSpec : ChangeSpec := { name := "fieldSums", fn := fun _ => fun
  | [d1, d2] => { results := [.lit (.bool true)], args := [d1, d2] }
  | _ => none }
def fieldSumsRow : OpenClaim := { program := "ytgcfopallncnlaa", sum := "15ee5ba757b8a6ea6b5ec72e586d866e601ad55ce0d2046e7348b5a1ad2045c7", func := "gauger/gaugerlaw01.FieldSums", spec := "fieldSums", apart := false }
def FieldSumsSaid : Prop := fieldSumsRow.holds Try.pinned (OpenSpec.ofChange fieldSumsSpec)

/-- ITS FALSE NEIGHBOUR: 'it returns false'. Refute it at one input. -/
def fieldSumsWrong : ChangeSpec := { name := "fieldSums", fn := fun _ => fun
  | [d1, d2] => { results := [.lit (.bool false)], args := [d1, d2] }
  | _ => none }
def FieldSumsWrongFalsely : Prop := fieldSumsRow.holds Try.pinned (OpenSpec.ofChange fieldSumsWrong)

/-- 'gaugerlaw01.FieldProducts': WHATEVER THE INPUT: true; the input reads as it did. -/
def fieldProductsSpec : ChangeSpec := { name := "fieldProducts", fn := fun _ => fun
  | [d1, d2] => { results := [.lit (.bool true)], args := [d1, d2] }
  | _ => none }
def fieldProductsRow : OpenClaim := { program := "ytgcfopallncnlaa", sum := "15ee5ba757b8a6ea6b5ec72e586d866e601ad55ce0d2046e7348b5a1ad2045c7", func := "gauger/gaugerlaw01.FieldProducts", spec := "fieldProducts", apart := false }
def FieldProductsSaid : Prop := fieldProductsRow.holds Try.pinned (OpenSpec.ofChange fieldProductsSpec)

/-- ITS FALSE NEIGHBOUR: 'it returns false'. Refute it at one input. -/
def fieldProductsWrong : ChangeSpec := { name := "fieldProducts", fn := fun _ => fun
  | [d1, d2] => { results := [.lit (.bool false)], args := [d1, d2] }
  | _ => none }
def FieldProductsWrongFalsely : Prop := fieldProductsRow.holds Try.pinned (OpenSpec.ofChange fieldProductsWrong)

/-- 'gaugerlaw01.FieldPowers': WHATEVER THE INPUT: true; the input reads as it did. -/
def fieldPowersSpec : ChangeSpec := { name := "fieldPowers", fn := fun _ => fun
  | [d1, d2] => { results := [.lit (.bool true)], args := [d1, d2] }
  | _ => none }
def fieldPowersRow : OpenClaim := { program := "ytgcfopallncnlaa", sum := "15ee5ba757b8a6ea6b5ec72e586d866e601ad55ce0d2046e7348b5a1ad2045c7", func := "gauger/gaugerlaw01.FieldPowers", spec := "fieldPowers", apart := false }
def FieldPowersSaid : Prop := fieldPowersRow.holds Try.pinned (OpenSpec.ofChange fieldPowersSpec)

/-- ITS FALSE NEIGHBOUR: 'it returns false'. Refute it at one input. -/
def fieldPowersWrong : ChangeSpec := { name := "fieldPowers", fn := fun _ => fun
  | [d1, d2] => { results := [.lit (.bool false)], args := [d1, d2] }
  | _ => none }
def FieldPowersWrongFalsely : Prop := fieldPowersRow.holds Try.pinned (OpenSpec.ofChange fieldPowersWrong)

/-- 'gaugerlaw01.FieldRing': WHATEVER THE INPUT: true; the input reads as it did. -/
def fieldRingSpec : ChangeSpec := { name := "fieldRing", fn := fun _ => fun
  | [d1, d2, d3] => { results := [.lit (.bool true)], args := [d1, d2, d3] }
  | _ => none }
def fieldRingRow : OpenClaim := { program := "ytgcfopallncnlaa", sum := "15ee5ba757b8a6ea6b5ec72e586d866e601ad55ce0d2046e7348b5a1ad2045c7", func := "gauger/gaugerlaw01.FieldRing", spec := "fieldRing", apart := false }
def FieldRingSaid : Prop := fieldRingRow.holds Try.pinned (OpenSpec.ofChange fieldRingSpec)

/-- ITS FALSE NEIGHBOUR: 'it returns false'. Refute it at one input. -/
def fieldRingWrong : ChangeSpec := { name := "fieldRing", fn := fun _ => fun
  | [d1, d2, d3] => { results := [.lit (.bool false)], args := [d1, d2, d3] }
  | _ => none }
def FieldRingWrongFalsely : Prop := fieldRingRow.holds Try.pinned (OpenSpec.ofChange fieldRingWrong)

/-- 'gaugerlaw01.FieldBack': WHATEVER THE INPUT: true; the input reads as it did. -/
def fieldBackSpec : ChangeSpec := { name := "fieldBack", fn := fun _ => fun
  | [d1, d2] => { results := [.lit (.bool true)], args := [d1, d2] }
  | _ => none }
def fieldBackRow : OpenClaim := { program := "ytgcfopallncnlaa", sum := "15ee5ba757b8a6ea6b5ec72e586d866e601ad55ce0d2046e7348b5a1ad2045c7", func := "gauger/gaugerlaw01.FieldBack", spec := "fieldBack", apart := false }
def FieldBackSaid : Prop := fieldBackRow.holds Try.pinned (OpenSpec.ofChange fieldBackSpec)

/-- ITS FALSE NEIGHBOUR: 'it returns false'. Refute it at one input. -/
def fieldBackWrong : ChangeSpec := { name := "fieldBack", fn := fun _ => fun
  | [d1, d2] => { results := [.lit (.bool false)], args := [d1, d2] }
  | _ => none }
def FieldBackWrongFalsely : Prop := fieldBackRow.holds Try.pinned (OpenSpec.ofChange fieldBackWrong)

/-- 'gaugerlaw01.FieldLess': WHATEVER THE INPUT: true; the input reads as it did. -/
def fieldLessSpec : ChangeSpec := { name := "fieldLess", fn := fun _ => fun
  | [d1, d2] => { results := [.lit (.bool true)], args := [d1, d2] }
  | _ => none }
def fieldLessRow : OpenClaim := { program := "ytgcfopallncnlaa", sum := "15ee5ba757b8a6ea6b5ec72e586d866e601ad55ce0d2046e7348b5a1ad2045c7", func := "gauger/gaugerlaw01.FieldLess", spec := "fieldLess", apart := false }
def FieldLessSaid : Prop := fieldLessRow.holds Try.pinned (OpenSpec.ofChange fieldLessSpec)

/-- ITS FALSE NEIGHBOUR: 'it returns false'. Refute it at one input. -/
def fieldLessWrong : ChangeSpec := { name := "fieldLess", fn := fun _ => fun
  | [d1, d2] => { results := [.lit (.bool false)], args := [d1, d2] }
  | _ => none }
def FieldLessWrongFalsely : Prop := fieldLessRow.holds Try.pinned (OpenSpec.ofChange fieldLessWrong)

/-- 'gaugerlaw01.FieldExponents': WHATEVER THE INPUT: true; the input reads as it did. -/
def fieldExponentsSpec : ChangeSpec := { name := "fieldExponents", fn := fun _ => fun
  | [d1, d2, d3] => { results := [.lit (.bool true)], args := [d1, d2, d3] }
  | _ => none }
def fieldExponentsRow : OpenClaim := { program := "ytgcfopallncnlaa", sum := "15ee5ba757b8a6ea6b5ec72e586d866e601ad55ce0d2046e7348b5a1ad2045c7", func := "gauger/gaugerlaw01.FieldExponents", spec := "fieldExponents", apart := false }
def FieldExponentsSaid : Prop := fieldExponentsRow.holds Try.pinned (OpenSpec.ofChange fieldExponentsSpec)

/-- ITS FALSE NEIGHBOUR: 'it returns false'. Refute it at one input. -/
def fieldExponentsWrong : ChangeSpec := { name := "fieldExponents", fn := fun _ => fun
  | [d1, d2, d3] => { results := [.lit (.bool false)], args := [d1, d2, d3] }
  | _ => none }
def FieldExponentsWrongFalsely : Prop := fieldExponentsRow.holds Try.pinned (OpenSpec.ofChange fieldExponentsWrong)

/-- 'gaugerlaw03.SeedsMix': WHATEVER THE INPUT: true; the input reads as it did. -/
def seedsMixSpec : ChangeSpec := { name := "seedsMix", fn := fun _ => fun
  | [d] => { results := [.lit (.bool true)], args := [d] }
  | _ => none }
def seedsMixRow : OpenClaim := { program := "ytgcfopallncnlaa", sum := "15ee5ba757b8a6ea6b5ec72e586d866e601ad55ce0d2046e7348b5a1ad2045c7", func := "gauger/gaugerlaw03.SeedsMix", spec := "seedsMix", unfollowed := true, recurses := true, apart := false }
def SeedsMixSaid : Prop := seedsMixRow.holds Try.pinned (OpenSpec.ofChange seedsMixSpec)

/-- ITS FALSE NEIGHBOUR: 'it returns false'. Refute it at one input. -/
def seedsMixWrong : ChangeSpec := { name := "seedsMix", fn := fun _ => fun
  | [d] => { results := [.lit (.bool false)], args := [d] }
  | _ => none }
def SeedsMixWrongFalsely : Prop := seedsMixRow.holds Try.pinned (OpenSpec.ofChange seedsMixWrong)

/-- 'gaugerlaw03.SeedsDraw': WHATEVER THE INPUT: true; the input reads as it did. -/
def seedsDrawSpec : ChangeSpec := { name := "seedsDraw", fn := fun _ => fun
  | [d1, d2] => { results := [.lit (.bool true)], args := [d1, d2] }
  | _ => none }
def seedsDrawRow : OpenClaim := { program := "ytgcfopallncnlaa", sum := "15ee5ba757b8a6ea6b5ec72e586d866e601ad55ce0d2046e7348b5a1ad2045c7", func := "gauger/gaugerlaw03.SeedsDraw", spec := "seedsDraw", unfollowed := true, recurses := true, apart := false }
def SeedsDrawSaid : Prop := seedsDrawRow.holds Try.pinned (OpenSpec.ofChange seedsDrawSpec)

/-- ITS FALSE NEIGHBOUR: 'it returns false'. Refute it at one input. -/
def seedsDrawWrong : ChangeSpec := { name := "seedsDraw", fn := fun _ => fun
  | [d1, d2] => { results := [.lit (.bool false)], args := [d1, d2] }
  | _ => none }
def SeedsDrawWrongFalsely : Prop := seedsDrawRow.holds Try.pinned (OpenSpec.ofChange seedsDrawWrong)

/-- 'gaugerlaw03.SeedsPair': WHATEVER THE INPUT: true; the input reads as it did. -/
def seedsPairSpec : ChangeSpec := { name := "seedsPair", fn := fun _ => fun
  | [d1, d2, d3] => { results := [.lit (.bool true)], args := [d1, d2, d3] }
  | _ => none }
def seedsPairRow : OpenClaim := { program := "ytgcfopallncnlaa", sum := "15ee5ba757b8a6ea6b5ec72e586d866e601ad55ce0d2046e7348b5a1ad2045c7", func := "gauger/gaugerlaw03.SeedsPair", spec := "seedsPair", unfollowed := true, recurses := true, apart := false }
def SeedsPairSaid : Prop := seedsPairRow.holds Try.pinned (OpenSpec.ofChange seedsPairSpec)

/-- ITS FALSE NEIGHBOUR: 'it returns false'. Refute it at one input. -/
def seedsPairWrong : ChangeSpec := { name := "seedsPair", fn := fun _ => fun
  | [d1, d2, d3] => { results := [.lit (.bool false)], args := [d1, d2, d3] }
  | _ => none }
def SeedsPairWrongFalsely : Prop := seedsPairRow.holds Try.pinned (OpenSpec.ofChange seedsPairWrong)

/-- 'gaugerlaw03.SeedsBack': WHATEVER THE INPUT: true; the input reads as it did. -/
def seedsBackSpec : ChangeSpec := { name := "seedsBack", fn := fun _ => fun
  | [d] => { results := [.lit (.bool true)], args := [d] }
  | _ => none }
def seedsBackRow : OpenClaim := { program := "ytgcfopallncnlaa", sum := "15ee5ba757b8a6ea6b5ec72e586d866e601ad55ce0d2046e7348b5a1ad2045c7", func := "gauger/gaugerlaw03.SeedsBack", spec := "seedsBack", unfollowed := true, recurses := true, apart := false }
def SeedsBackSaid : Prop := seedsBackRow.holds Try.pinned (OpenSpec.ofChange seedsBackSpec)

/-- ITS FALSE NEIGHBOUR: 'it returns false'. Refute it at one input. -/
def seedsBackWrong : ChangeSpec := { name := "seedsBack", fn := fun _ => fun
  | [d] => { results := [.lit (.bool false)], args := [d] }
  | _ => none }
def SeedsBackWrongFalsely : Prop := seedsBackRow.holds Try.pinned (OpenSpec.ofChange seedsBackWrong)

/-- 'gaugerlaw03.SeedsUnlike': WHATEVER THE INPUT: true; the input reads as it did. -/
def seedsUnlikeSpec : ChangeSpec := { name := "seedsUnlike", fn := fun _ => fun
  | [d1, d2, d3] => { results := [.lit (.bool true)], args := [d1, d2, d3] }
  | _ => none }
def seedsUnlikeRow : OpenClaim := { program := "ytgcfopallncnlaa", sum := "15ee5ba757b8a6ea6b5ec72e586d866e601ad55ce0d2046e7348b5a1ad2045c7", func := "gauger/gaugerlaw03.SeedsUnlike", spec := "seedsUnlike", unfollowed := true, recurses := true, apart := false }
def SeedsUnlikeSaid : Prop := seedsUnlikeRow.holds Try.pinned (OpenSpec.ofChange seedsUnlikeSpec)

/-- ITS FALSE NEIGHBOUR: 'it returns false'. Refute it at one input. -/
def seedsUnlikeWrong : ChangeSpec := { name := "seedsUnlike", fn := fun _ => fun
  | [d1, d2, d3] => { results := [.lit (.bool false)], args := [d1, d2, d3] }
  | _ => none }
def SeedsUnlikeWrongFalsely : Prop := seedsUnlikeRow.holds Try.pinned (OpenSpec.ofChange seedsUnlikeWrong)

/- THE SECOND FORM. 'bulk': how many values and letters a reading holds, each counted each time it is reached (what is shared counts as often as it is met; a slice's spare places count too). A statement '..UptoSaid' is the law's where the arguments, and the package variables that the reading takes, are together of bulk at most 1048576: NARROWER than '..Said'. Prove '..Said' where nothing that the law and all that it calls make is longer than what came in: it says more and counts as full. Else prove '..UptoSaid'. A law counts once. -/
mutual
def uptoBulk {H : Type} : DataW H → Nat
  | .lit (.string bytes) => bytes.length + 1
  | .lit _ => 1
  | .nil => 1
  | .ptr d => uptoBulk d + 1
  | .slice elems spare => uptoBulkAll elems + uptoBulkAll spare + 1
  | .agg parts => uptoBulkAll parts + 1
  | .iface _ d => uptoBulk d + 1
  | .map entries => uptoBulkEntries entries + 1
  | .held _ => 1
def uptoBulkAll {H : Type} : List (DataW H) → Nat
  | [] => 0
  | d :: r => uptoBulk d + uptoBulkAll r
def uptoBulkEntries {H : Type} : List (Lit × DataW H) → Nat
  | [] => 0
  | x :: r => uptoBulkEntry x + uptoBulkEntries r
def uptoBulkEntry {H : Type} : Lit × DataW H → Nat
  | (.string bytes, d) => bytes.length + uptoBulk d + 1
  | (_, d) => uptoBulk d + 1
 end
def uptoSmall : (H : Type) → List (DataW H) → Bool := fun _ ds => decide (uptoBulkAll ds ≤ 1048576)
def OpenSpec.upto (s : _root_.Go.ChangeSpec) : _root_.Go.OpenSpec := { _root_.Go.OpenSpec.ofChange s with cond := some uptoSmall }

/-- 'gaugerlaw01.FieldSums', WHERE WHAT IT READS IS OF BULK AT MOST 1048576: true; the input reads as it did. -/
def fieldSumsUptoRow : OpenClaim := { program := "ytgcfopallncnlaa", sum := "15ee5ba757b8a6ea6b5ec72e586d866e601ad55ce0d2046e7348b5a1ad2045c7", func := "gauger/gaugerlaw01.FieldSums", spec := "fieldSums", apart := false, narrowed := true }
def FieldSumsUptoSaid : Prop := fieldSumsUptoRow.holds Try.pinned (OpenSpec.upto fieldSumsSpec)

/-- 'gaugerlaw01.FieldProducts', WHERE WHAT IT READS IS OF BULK AT MOST 1048576: true; the input reads as it did. -/
def fieldProductsUptoRow : OpenClaim := { program := "ytgcfopallncnlaa", sum := "15ee5ba757b8a6ea6b5ec72e586d866e601ad55ce0d2046e7348b5a1ad2045c7", func := "gauger/gaugerlaw01.FieldProducts", spec := "fieldProducts", apart := false, narrowed := true }
def FieldProductsUptoSaid : Prop := fieldProductsUptoRow.holds Try.pinned (OpenSpec.upto fieldProductsSpec)

/-- 'gaugerlaw01.FieldPowers', WHERE WHAT IT READS IS OF BULK AT MOST 1048576: true; the input reads as it did. -/
def fieldPowersUptoRow : OpenClaim := { program := "ytgcfopallncnlaa", sum := "15ee5ba757b8a6ea6b5ec72e586d866e601ad55ce0d2046e7348b5a1ad2045c7", func := "gauger/gaugerlaw01.FieldPowers", spec := "fieldPowers", apart := false, narrowed := true }
def FieldPowersUptoSaid : Prop := fieldPowersUptoRow.holds Try.pinned (OpenSpec.upto fieldPowersSpec)

/-- 'gaugerlaw01.FieldRing', WHERE WHAT IT READS IS OF BULK AT MOST 1048576: true; the input reads as it did. -/
def fieldRingUptoRow : OpenClaim := { program := "ytgcfopallncnlaa", sum := "15ee5ba757b8a6ea6b5ec72e586d866e601ad55ce0d2046e7348b5a1ad2045c7", func := "gauger/gaugerlaw01.FieldRing", spec := "fieldRing", apart := false, narrowed := true }
def FieldRingUptoSaid : Prop := fieldRingUptoRow.holds Try.pinned (OpenSpec.upto fieldRingSpec)

/-- 'gaugerlaw01.FieldBack', WHERE WHAT IT READS IS OF BULK AT MOST 1048576: true; the input reads as it did. -/
def fieldBackUptoRow : OpenClaim := { program := "ytgcfopallncnlaa", sum := "15ee5ba757b8a6ea6b5ec72e586d866e601ad55ce0d2046e7348b5a1ad2045c7", func := "gauger/gaugerlaw01.FieldBack", spec := "fieldBack", apart := false, narrowed := true }
def FieldBackUptoSaid : Prop := fieldBackUptoRow.holds Try.pinned (OpenSpec.upto fieldBackSpec)

/-- 'gaugerlaw01.FieldLess', WHERE WHAT IT READS IS OF BULK AT MOST 1048576: true; the input reads as it did. -/
def fieldLessUptoRow : OpenClaim := { program := "ytgcfopallncnlaa", sum := "15ee5ba757b8a6ea6b5ec72e586d866e601ad55ce0d2046e7348b5a1ad2045c7", func := "gauger/gaugerlaw01.FieldLess", spec := "fieldLess", apart := false, narrowed := true }
def FieldLessUptoSaid : Prop := fieldLessUptoRow.holds Try.pinned (OpenSpec.upto fieldLessSpec)

/-- 'gaugerlaw01.FieldExponents', WHERE WHAT IT READS IS OF BULK AT MOST 1048576: true; the input reads as it did. -/
def fieldExponentsUptoRow : OpenClaim := { program := "ytgcfopallncnlaa", sum := "15ee5ba757b8a6ea6b5ec72e586d866e601ad55ce0d2046e7348b5a1ad2045c7", func := "gauger/gaugerlaw01.FieldExponents", spec := "fieldExponents", apart := false, narrowed := true }
def FieldExponentsUptoSaid : Prop := fieldExponentsUptoRow.holds Try.pinned (OpenSpec.upto fieldExponentsSpec)

/-- 'gaugerlaw03.SeedsMix', WHERE WHAT IT READS IS OF BULK AT MOST 1048576: true; the input reads as it did. -/
def seedsMixUptoRow : OpenClaim := { program := "ytgcfopallncnlaa", sum := "15ee5ba757b8a6ea6b5ec72e586d866e601ad55ce0d2046e7348b5a1ad2045c7", func := "gauger/gaugerlaw03.SeedsMix", spec := "seedsMix", unfollowed := true, recurses := true, apart := false, narrowed := true }
def SeedsMixUptoSaid : Prop := seedsMixUptoRow.holds Try.pinned (OpenSpec.upto seedsMixSpec)

/-- 'gaugerlaw03.SeedsDraw', WHERE WHAT IT READS IS OF BULK AT MOST 1048576: true; the input reads as it did. -/
def seedsDrawUptoRow : OpenClaim := { program := "ytgcfopallncnlaa", sum := "15ee5ba757b8a6ea6b5ec72e586d866e601ad55ce0d2046e7348b5a1ad2045c7", func := "gauger/gaugerlaw03.SeedsDraw", spec := "seedsDraw", unfollowed := true, recurses := true, apart := false, narrowed := true }
def SeedsDrawUptoSaid : Prop := seedsDrawUptoRow.holds Try.pinned (OpenSpec.upto seedsDrawSpec)

/-- 'gaugerlaw03.SeedsPair', WHERE WHAT IT READS IS OF BULK AT MOST 1048576: true; the input reads as it did. -/
def seedsPairUptoRow : OpenClaim := { program := "ytgcfopallncnlaa", sum := "15ee5ba757b8a6ea6b5ec72e586d866e601ad55ce0d2046e7348b5a1ad2045c7", func := "gauger/gaugerlaw03.SeedsPair", spec := "seedsPair", unfollowed := true, recurses := true, apart := false, narrowed := true }
def SeedsPairUptoSaid : Prop := seedsPairUptoRow.holds Try.pinned (OpenSpec.upto seedsPairSpec)

/-- 'gaugerlaw03.SeedsBack', WHERE WHAT IT READS IS OF BULK AT MOST 1048576: true; the input reads as it did. -/
def seedsBackUptoRow : OpenClaim := { program := "ytgcfopallncnlaa", sum := "15ee5ba757b8a6ea6b5ec72e586d866e601ad55ce0d2046e7348b5a1ad2045c7", func := "gauger/gaugerlaw03.SeedsBack", spec := "seedsBack", unfollowed := true, recurses := true, apart := false, narrowed := true }
def SeedsBackUptoSaid : Prop := seedsBackUptoRow.holds Try.pinned (OpenSpec.upto seedsBackSpec)

/-- 'gaugerlaw03.SeedsUnlike', WHERE WHAT IT READS IS OF BULK AT MOST 1048576: true; the input reads as it did. -/
def seedsUnlikeUptoRow : OpenClaim := { program := "ytgcfopallncnlaa", sum := "15ee5ba757b8a6ea6b5ec72e586d866e601ad55ce0d2046e7348b5a1ad2045c7", func := "gauger/gaugerlaw03.SeedsUnlike", spec := "seedsUnlike", unfollowed := true, recurses := true, apart := false, narrowed := true }
def SeedsUnlikeUptoSaid : Prop := seedsUnlikeUptoRow.holds Try.pinned (OpenSpec.upto seedsUnlikeSpec)

end Rows
end Go.Proofs.Ytgcfopallncnlaa
