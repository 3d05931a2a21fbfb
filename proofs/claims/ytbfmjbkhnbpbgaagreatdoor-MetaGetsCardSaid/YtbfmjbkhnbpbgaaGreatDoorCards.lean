/-
  DERIVED. GIVEN WITH THE SEED: THE CARDS: each row of YtbfmjbkhnbpbgaaGreatDoorRows.lean that lists a variable, with what it lists TIED to the program's text (the seventh form; the later family's looks); each row that meets fmt, with fmt's text TOLD by the authors' own Lean function (tested against real Go, not proved from fmt's source: count such statements apart). THE CARD IS WHAT COUNTS. Prove the row's statement (the work); the ties are given (YtbfmjbkhnbpbgaaGreatDoorTie.lean); close each card by the builder's one call (the guide's Derived/Test/ToyasCard.lean, 'card_holds'). Laid BY PROGRAM, IN A SANDBOX (cutbox-door.mjs). By AI agents, Wed Nov 11 2026. No macro, syntax, notation, axiom, sorry.
-/
import Derived.Test.YtbfmjbkhnbpbgaaGreatDoorRows
import GoSem.ClaimSeven
namespace Go.Proofs.YtbfmjbkhnbpbgaaGreatDoor
namespace Rows

/-- THE TIED CARD OF 'tankardlaw13.MetaGets'. -/
def metaGetsCard : Claim7 := { stood := { row := metaGetsRow, standIns := [], harness := (true, "12995dfa541f79f4d4da4a1ddb2664ff96581d7f85b894ca709f898ee6e639b5"), looks := true }, kinds := [], alts := [], laidByText := true, laidKinds := [.data, .data, .data, .data, .sentinel, .sentinel, .pinned], laidTests := true, laidLooks := .later }
def MetaGetsCardSaid : Prop := Claim7.holds Tryz.pinned (.plain (OpenSpec.ofChange metaGetsSpec)) metaGetsCard

/-- THE SECOND FORM's CARD OF 'tankardlaw13.MetaGets'. -/
def metaGetsUptoCard : Claim7 := { stood := { row := metaGetsUptoRow, standIns := [], harness := (true, "12995dfa541f79f4d4da4a1ddb2664ff96581d7f85b894ca709f898ee6e639b5"), looks := true }, kinds := [], alts := [], laidByText := true, laidKinds := [.data, .data, .data, .data, .sentinel, .sentinel, .pinned], laidTests := true, laidLooks := .later }
def MetaGetsUptoCardSaid : Prop := Claim7.holds Tryz.pinned (.plain (OpenSpec.upto metaGetsSpec)) metaGetsUptoCard
end Rows
end Go.Proofs.YtbfmjbkhnbpbgaaGreatDoor
