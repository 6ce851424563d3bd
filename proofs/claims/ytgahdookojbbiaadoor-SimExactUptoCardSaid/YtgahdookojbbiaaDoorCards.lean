/-
  DERIVED. GIVEN WITH THE SEED: THE CARDS: each row of YtgahdookojbbiaaDoorRows.lean that lists a variable, with what it lists TIED to the program's text (the seventh form; the later family's looks); each row that meets fmt, with fmt's text TOLD by the authors' own Lean function (tested against real Go, not proved from fmt's source: count such statements apart). THE CARD IS WHAT COUNTS. Prove the row's statement (the work); the ties are given (YtgahdookojbbiaaDoorTie.lean); close each card by the builder's one call (the guide's Derived/Test/ToyasCard.lean, 'card_holds'). Laid BY PROGRAM, IN A SANDBOX (cutbox-door.mjs). By AI agents, Wed Nov 11 2026. No macro, syntax, notation, axiom, sorry.
-/
import Derived.Test.YtgahdookojbbiaaDoorRows
import GoSem.ClaimSeven
namespace Go.Proofs.YtgahdookojbbiaaDoor
namespace Rows

/-- THE TIED CARD OF 'heronlaw08.SimExact'. -/
def simExactCard : Claim7 := { stood := { row := simExactRow, standIns := [], harness := (true, "b677bcd8082e88b10ccd99c2085d8a2a3b16202054cd37e5e7387e1ff08fddfe"), looks := false }, kinds := [], alts := [], laidByText := true, laidKinds := [.data], laidTests := true, laidLooks := .later }
def SimExactCardSaid : Prop := Claim7.holds Tryd.pinned (.plain (OpenSpec.ofChange simExactSpec)) simExactCard

/-- THE TIED CARD OF 'heronlaw08.SimStates'. -/
def simStatesCard : Claim7 := { stood := { row := simStatesRow, standIns := [], harness := (true, "b677bcd8082e88b10ccd99c2085d8a2a3b16202054cd37e5e7387e1ff08fddfe"), looks := false }, kinds := [], alts := [], laidByText := true, laidKinds := [.data], laidTests := true, laidLooks := .later }
def SimStatesCardSaid : Prop := Claim7.holds Tryd.pinned (.plain (OpenSpec.ofChange simStatesSpec)) simStatesCard

/-- THE SECOND FORM's CARD OF 'heronlaw08.SimExact'. -/
def simExactUptoCard : Claim7 := { stood := { row := simExactUptoRow, standIns := [], harness := (true, "b677bcd8082e88b10ccd99c2085d8a2a3b16202054cd37e5e7387e1ff08fddfe"), looks := false }, kinds := [], alts := [], laidByText := true, laidKinds := [.data], laidTests := true, laidLooks := .later }
def SimExactUptoCardSaid : Prop := Claim7.holds Tryd.pinned (.plain (OpenSpec.upto simExactSpec)) simExactUptoCard

/-- THE SECOND FORM's CARD OF 'heronlaw08.SimStates'. -/
def simStatesUptoCard : Claim7 := { stood := { row := simStatesUptoRow, standIns := [], harness := (true, "b677bcd8082e88b10ccd99c2085d8a2a3b16202054cd37e5e7387e1ff08fddfe"), looks := false }, kinds := [], alts := [], laidByText := true, laidKinds := [.data], laidTests := true, laidLooks := .later }
def SimStatesUptoCardSaid : Prop := Claim7.holds Tryd.pinned (.plain (OpenSpec.upto simStatesSpec)) simStatesUptoCard
end Rows
end Go.Proofs.YtgahdookojbbiaaDoor
