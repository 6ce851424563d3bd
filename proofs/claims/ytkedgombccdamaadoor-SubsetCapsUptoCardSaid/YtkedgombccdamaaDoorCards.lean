/-
  DERIVED. GIVEN WITH THE SEED: THE CARDS: each row of YtkedgombccdamaaDoorRows.lean that lists a variable, with what it lists TIED to the program's text (the seventh form; the later family's looks); each row that meets fmt, with fmt's text TOLD by the authors' own Lean function (tested against real Go, not proved from fmt's source: count such statements apart). THE CARD IS WHAT COUNTS. Prove the row's statement (the work); the ties are given (YtkedgombccdamaaDoorTie.lean); close each card by the builder's one call (the guide's Derived/Test/ToyasCard.lean, 'card_holds'). Laid BY PROGRAM, IN A SANDBOX (cutbox-door.mjs). By AI agents, Wed Nov 11 2026. No macro, syntax, notation, axiom, sorry.
-/
import Derived.Test.YtkedgombccdamaaDoorRows
import GoSem.ClaimSeven
namespace Go.Proofs.YtkedgombccdamaaDoor
namespace Rows

/-- THE TIED CARD OF 'heronlaw10.SubsetExact'. -/
def subsetExactCard : Claim7 := { stood := { row := subsetExactRow, standIns := [], harness := (true, "2f3e2afd4aa5cd89314d5ffcf7586afa9f32f0172d0eb91d1489f8d5b4189853"), looks := true }, kinds := [], alts := [], laidByText := true, laidKinds := [.data, .data, .data], laidTests := true, laidLooks := .later }
def SubsetExactCardSaid : Prop := Claim7.holds Tryd.pinned (.plain (OpenSpec.ofChange subsetExactSpec)) subsetExactCard

/-- THE TIED CARD OF 'heronlaw08.SimPieces'. -/
def simPiecesCard : Claim7 := { stood := { row := simPiecesRow, standIns := [], harness := (true, "2f3e2afd4aa5cd89314d5ffcf7586afa9f32f0172d0eb91d1489f8d5b4189853"), looks := true }, kinds := [], alts := [], laidByText := true, laidKinds := [.data], laidTests := true, laidLooks := .later }
def SimPiecesCardSaid : Prop := Claim7.holds Tryd.pinned (.plain (OpenSpec.ofChange simPiecesSpec)) simPiecesCard

/-- THE TIED CARD OF 'heronlaw10.SubsetCaps'. -/
def subsetCapsCard : Claim7 := { stood := { row := subsetCapsRow, standIns := [], harness := (true, "2f3e2afd4aa5cd89314d5ffcf7586afa9f32f0172d0eb91d1489f8d5b4189853"), looks := true }, kinds := [], alts := [], laidByText := true, laidKinds := [.data, .data, .data], laidTests := true, laidLooks := .later }
def SubsetCapsCardSaid : Prop := Claim7.holds Tryd.pinned (.plain (OpenSpec.ofChange subsetCapsSpec)) subsetCapsCard

/-- THE TIED CARD OF 'heronlaw10.SubsetOwn'. -/
def subsetOwnCard : Claim7 := { stood := { row := subsetOwnRow, standIns := [], harness := (true, "2f3e2afd4aa5cd89314d5ffcf7586afa9f32f0172d0eb91d1489f8d5b4189853"), looks := true }, kinds := [], alts := [], laidByText := true, laidKinds := [.data, .data, .data], laidTests := true, laidLooks := .later }
def SubsetOwnCardSaid : Prop := Claim7.holds Tryd.pinned (.plain (OpenSpec.ofChange subsetOwnSpec)) subsetOwnCard

/-- THE SECOND FORM's CARD OF 'heronlaw10.SubsetExact'. -/
def subsetExactUptoCard : Claim7 := { stood := { row := subsetExactUptoRow, standIns := [], harness := (true, "2f3e2afd4aa5cd89314d5ffcf7586afa9f32f0172d0eb91d1489f8d5b4189853"), looks := true }, kinds := [], alts := [], laidByText := true, laidKinds := [.data, .data, .data], laidTests := true, laidLooks := .later }
def SubsetExactUptoCardSaid : Prop := Claim7.holds Tryd.pinned (.plain (OpenSpec.upto subsetExactSpec)) subsetExactUptoCard

/-- THE SECOND FORM's CARD OF 'heronlaw08.SimPieces'. -/
def simPiecesUptoCard : Claim7 := { stood := { row := simPiecesUptoRow, standIns := [], harness := (true, "2f3e2afd4aa5cd89314d5ffcf7586afa9f32f0172d0eb91d1489f8d5b4189853"), looks := true }, kinds := [], alts := [], laidByText := true, laidKinds := [.data], laidTests := true, laidLooks := .later }
def SimPiecesUptoCardSaid : Prop := Claim7.holds Tryd.pinned (.plain (OpenSpec.upto simPiecesSpec)) simPiecesUptoCard

/-- THE SECOND FORM's CARD OF 'heronlaw10.SubsetCaps'. -/
def subsetCapsUptoCard : Claim7 := { stood := { row := subsetCapsUptoRow, standIns := [], harness := (true, "2f3e2afd4aa5cd89314d5ffcf7586afa9f32f0172d0eb91d1489f8d5b4189853"), looks := true }, kinds := [], alts := [], laidByText := true, laidKinds := [.data, .data, .data], laidTests := true, laidLooks := .later }
def SubsetCapsUptoCardSaid : Prop := Claim7.holds Tryd.pinned (.plain (OpenSpec.upto subsetCapsSpec)) subsetCapsUptoCard

/-- THE SECOND FORM's CARD OF 'heronlaw10.SubsetOwn'. -/
def subsetOwnUptoCard : Claim7 := { stood := { row := subsetOwnUptoRow, standIns := [], harness := (true, "2f3e2afd4aa5cd89314d5ffcf7586afa9f32f0172d0eb91d1489f8d5b4189853"), looks := true }, kinds := [], alts := [], laidByText := true, laidKinds := [.data, .data, .data], laidTests := true, laidLooks := .later }
def SubsetOwnUptoCardSaid : Prop := Claim7.holds Tryd.pinned (.plain (OpenSpec.upto subsetOwnSpec)) subsetOwnUptoCard
end Rows
end Go.Proofs.YtkedgombccdamaaDoor
