/-
  DERIVED. GIVEN WITH THE SEED: THE CARDS: each row of YtfeficdndjiijaaGreatDoorRows.lean that lists a variable, with what it lists TIED to the program's text (the seventh form; the later family's looks); each row that meets fmt, with fmt's text TOLD by the authors' own Lean function (tested against real Go, not proved from fmt's source: count such statements apart). THE CARD IS WHAT COUNTS. Prove the row's statement (the work); the ties are given (YtfeficdndjiijaaGreatDoorTie.lean); close each card by the builder's one call (the guide's Derived/Test/ToyasCard.lean, 'card_holds'). Laid BY PROGRAM, IN A SANDBOX (cutbox-door.mjs). By AI agents, Wed Nov 11 2026. No macro, syntax, notation, axiom, sorry.
-/
import Derived.Test.YtfeficdndjiijaaGreatDoorRows
import GoSem.ClaimSeven
namespace Go.Proofs.YtfeficdndjiijaaGreatDoor
namespace Rows

/-- THE TIED CARD OF 'gaugertop.TopWindow'. -/
def topWindowCard : Claim7 := { stood := { row := topWindowRow, standIns := [], harness := (true, "08fabb80fec73dfdf208660e8ac89a1aa04ae08f9073d12d8d44bf58dc923ba5"), looks := true }, kinds := [], alts := [], laidByText := true, laidKinds := [.data, .data, .data, .data, .sentinel, .sentinel, .pinned], laidTests := true, laidLooks := .later }
def TopWindowCardSaid : Prop := Claim7.holds Tryz.pinned (.plain (OpenSpec.ofChange topWindowSpec)) topWindowCard

/-- THE TIED CARD OF 'gaugertop.TopWire'. -/
def topWireCard : Claim7 := { stood := { row := topWireRow, standIns := [], harness := (true, "08fabb80fec73dfdf208660e8ac89a1aa04ae08f9073d12d8d44bf58dc923ba5"), looks := true }, kinds := [], alts := [], laidByText := true, laidKinds := [.data, .data, .data, .data, .sentinel, .sentinel, .pinned], laidTests := true, laidLooks := .later }
def TopWireCardSaid : Prop := Claim7.holds Tryz.pinned (.plain (OpenSpec.ofChange topWireSpec)) topWireCard

/-- THE TIED CARD OF 'gaugertop.TopFits'. -/
def topFitsCard : Claim7 := { stood := { row := topFitsRow, standIns := [], harness := (true, "08fabb80fec73dfdf208660e8ac89a1aa04ae08f9073d12d8d44bf58dc923ba5"), looks := true }, kinds := [], alts := [], laidByText := true, laidKinds := [.data, .data, .data, .data, .sentinel, .sentinel, .pinned], laidTests := true, laidLooks := .later }
def TopFitsCardSaid : Prop := Claim7.holds Tryz.pinned (.plain (OpenSpec.ofChange topFitsSpec)) topFitsCard

/-- THE SECOND FORM's CARD OF 'gaugertop.TopWindow'. -/
def topWindowUptoCard : Claim7 := { stood := { row := topWindowUptoRow, standIns := [], harness := (true, "08fabb80fec73dfdf208660e8ac89a1aa04ae08f9073d12d8d44bf58dc923ba5"), looks := true }, kinds := [], alts := [], laidByText := true, laidKinds := [.data, .data, .data, .data, .sentinel, .sentinel, .pinned], laidTests := true, laidLooks := .later }
def TopWindowUptoCardSaid : Prop := Claim7.holds Tryz.pinned (.plain (OpenSpec.upto topWindowSpec)) topWindowUptoCard

/-- THE SECOND FORM's CARD OF 'gaugertop.TopWire'. -/
def topWireUptoCard : Claim7 := { stood := { row := topWireUptoRow, standIns := [], harness := (true, "08fabb80fec73dfdf208660e8ac89a1aa04ae08f9073d12d8d44bf58dc923ba5"), looks := true }, kinds := [], alts := [], laidByText := true, laidKinds := [.data, .data, .data, .data, .sentinel, .sentinel, .pinned], laidTests := true, laidLooks := .later }
def TopWireUptoCardSaid : Prop := Claim7.holds Tryz.pinned (.plain (OpenSpec.upto topWireSpec)) topWireUptoCard

/-- THE SECOND FORM's CARD OF 'gaugertop.TopFits'. -/
def topFitsUptoCard : Claim7 := { stood := { row := topFitsUptoRow, standIns := [], harness := (true, "08fabb80fec73dfdf208660e8ac89a1aa04ae08f9073d12d8d44bf58dc923ba5"), looks := true }, kinds := [], alts := [], laidByText := true, laidKinds := [.data, .data, .data, .data, .sentinel, .sentinel, .pinned], laidTests := true, laidLooks := .later }
def TopFitsUptoCardSaid : Prop := Claim7.holds Tryz.pinned (.plain (OpenSpec.upto topFitsSpec)) topFitsUptoCard
end Rows
end Go.Proofs.YtfeficdndjiijaaGreatDoor
