/-
  DERIVED. GIVEN WITH THE SEED: THE CARDS: each row of YtkedgombccdamaaGreatDoorRows.lean that lists a variable, with what it lists TIED to the program's text (the seventh form; the later family's looks); each row that meets fmt, with fmt's text TOLD by the authors' own Lean function (tested against real Go, not proved from fmt's source: count such statements apart). THE CARD IS WHAT COUNTS. Prove the row's statement (the work); the ties are given (YtkedgombccdamaaGreatDoorTie.lean); close each card by the builder's one call (the guide's Derived/Test/ToyasCard.lean, 'card_holds'). Laid BY PROGRAM, IN A SANDBOX (cutbox-door.mjs). By AI agents, Wed Nov 11 2026. No macro, syntax, notation, axiom, sorry.
-/
import Derived.Test.YtkedgombccdamaaGreatDoorRows
import GoSem.ClaimSeven
namespace Go.Proofs.YtkedgombccdamaaGreatDoor
namespace Rows

/-- THE TIED CARD OF 'heronlaw10.SubsetMeets'. -/
def subsetMeetsCard : Claim7 := { stood := { row := subsetMeetsRow, standIns := [], harness := (true, "f58be9071b385afe336da178d1bcd75e821db3135ade9e4b27bdcf8947ccd81d"), looks := true }, kinds := [], alts := [], laidByText := true, laidKinds := [.data, .data, .data], laidTests := true, laidLooks := .later }
def SubsetMeetsCardSaid : Prop := Claim7.holds Tryz.pinned (.plain (OpenSpec.ofChange subsetMeetsSpec)) subsetMeetsCard

/-- THE SECOND FORM's CARD OF 'heronlaw10.SubsetMeets'. -/
def subsetMeetsUptoCard : Claim7 := { stood := { row := subsetMeetsUptoRow, standIns := [], harness := (true, "f58be9071b385afe336da178d1bcd75e821db3135ade9e4b27bdcf8947ccd81d"), looks := true }, kinds := [], alts := [], laidByText := true, laidKinds := [.data, .data, .data], laidTests := true, laidLooks := .later }
def SubsetMeetsUptoCardSaid : Prop := Claim7.holds Tryz.pinned (.plain (OpenSpec.upto subsetMeetsSpec)) subsetMeetsUptoCard
end Rows
end Go.Proofs.YtkedgombccdamaaGreatDoor
