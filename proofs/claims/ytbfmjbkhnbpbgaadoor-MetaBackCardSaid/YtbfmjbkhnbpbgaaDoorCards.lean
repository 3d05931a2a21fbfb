/-
  DERIVED. GIVEN WITH THE SEED: THE CARDS: each row of YtbfmjbkhnbpbgaaDoorRows.lean that lists a variable, with what it lists TIED to the program's text (the seventh form; the later family's looks); each row that meets fmt, with fmt's text TOLD by the authors' own Lean function (tested against real Go, not proved from fmt's source: count such statements apart). THE CARD IS WHAT COUNTS. Prove the row's statement (the work); the ties are given (YtbfmjbkhnbpbgaaDoorTie.lean); close each card by the builder's one call (the guide's Derived/Test/ToyasCard.lean, 'card_holds'). Laid BY PROGRAM, IN A SANDBOX (cutbox-door.mjs). By AI agents, Wed Nov 11 2026. No macro, syntax, notation, axiom, sorry.
-/
import Derived.Test.YtbfmjbkhnbpbgaaDoorRows
import GoSem.ClaimSeven
namespace Go.Proofs.YtbfmjbkhnbpbgaaDoor
namespace Rows

/-- THE TIED CARD OF 'tankardlaw13.MetaPuts'. -/
def metaPutsCard : Claim7 := { stood := { row := metaPutsRow, standIns := [], harness := (true, "9b79509081e3e4410d7710ec77441cac261b83158db38b4a97fbdc61af3d87fb"), looks := true }, kinds := [], alts := [], laidByText := true, laidKinds := [.data, .data, .data, .data, .sentinel, .sentinel, .pinned], laidTests := true, laidLooks := .later }
def MetaPutsCardSaid : Prop := Claim7.holds Tryd.pinned (.plain (OpenSpec.ofChange metaPutsSpec)) metaPutsCard

/-- THE TIED CARD OF 'tankardlaw13.MetaBack'. -/
def metaBackCard : Claim7 := { stood := { row := metaBackRow, standIns := [], harness := (true, "9b79509081e3e4410d7710ec77441cac261b83158db38b4a97fbdc61af3d87fb"), looks := true }, kinds := [], alts := [], laidByText := true, laidKinds := [.data, .data, .data, .data, .sentinel, .sentinel, .pinned], laidTests := true, laidLooks := .later }
def MetaBackCardSaid : Prop := Claim7.holds Tryd.pinned (.plain (OpenSpec.ofChange metaBackSpec)) metaBackCard

/-- THE SECOND FORM's CARD OF 'tankardlaw13.MetaPuts'. -/
def metaPutsUptoCard : Claim7 := { stood := { row := metaPutsUptoRow, standIns := [], harness := (true, "9b79509081e3e4410d7710ec77441cac261b83158db38b4a97fbdc61af3d87fb"), looks := true }, kinds := [], alts := [], laidByText := true, laidKinds := [.data, .data, .data, .data, .sentinel, .sentinel, .pinned], laidTests := true, laidLooks := .later }
def MetaPutsUptoCardSaid : Prop := Claim7.holds Tryd.pinned (.plain (OpenSpec.upto metaPutsSpec)) metaPutsUptoCard

/-- THE SECOND FORM's CARD OF 'tankardlaw13.MetaBack'. -/
def metaBackUptoCard : Claim7 := { stood := { row := metaBackUptoRow, standIns := [], harness := (true, "9b79509081e3e4410d7710ec77441cac261b83158db38b4a97fbdc61af3d87fb"), looks := true }, kinds := [], alts := [], laidByText := true, laidKinds := [.data, .data, .data, .data, .sentinel, .sentinel, .pinned], laidTests := true, laidLooks := .later }
def MetaBackUptoCardSaid : Prop := Claim7.holds Tryd.pinned (.plain (OpenSpec.upto metaBackSpec)) metaBackUptoCard
end Rows
end Go.Proofs.YtbfmjbkhnbpbgaaDoor
