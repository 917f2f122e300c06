/-
  DERIVED. GIVEN WITH THE SEED: THE CARDS: each row of YtpapbigghiiolaaGreatDoorRows.lean that lists a variable, with what it lists TIED to the program's text (the seventh form; the later family's looks); each row that meets fmt, with fmt's text TOLD by the authors' own Lean function (tested against real Go, not proved from fmt's source: count such statements apart). THE CARD IS WHAT COUNTS. Prove the row's statement (the work); the ties are given (YtpapbigghiiolaaGreatDoorTie.lean); close each card by the builder's one call (the guide's Derived/Test/ToyasCard.lean, 'card_holds'). Laid BY PROGRAM, IN A SANDBOX (cutbox-door.mjs). By AI agents, Wed Nov 11 2026. No macro, syntax, notation, axiom, sorry.
-/
import Derived.Test.YtpapbigghiiolaaGreatDoorRows
import GoSem.ClaimSeven
namespace Go.Proofs.YtpapbigghiiolaaGreatDoor
namespace Rows

/-- THE TIED CARD OF 'reevelaw17.CodeTurned'. -/
def codeTurnedCard : Claim7 := { stood := { row := codeTurnedRow, standIns := [], harness := (true, "359f7e63425faa2d864f1404afd64beaf32a1fc105c79a8b6f5850e2f584b599"), looks := true }, kinds := [], alts := [], laidByText := true, laidKinds := [.data, .data, .data, .sentinel, .sentinel], laidTests := true, laidLooks := .later }
def CodeTurnedCardSaid : Prop := Claim7.holds Tryz.pinned (.plain (OpenSpec.ofChange codeTurnedSpec)) codeTurnedCard

/-- THE SECOND FORM's CARD OF 'reevelaw17.CodeTurned'. -/
def codeTurnedUptoCard : Claim7 := { stood := { row := codeTurnedUptoRow, standIns := [], harness := (true, "359f7e63425faa2d864f1404afd64beaf32a1fc105c79a8b6f5850e2f584b599"), looks := true }, kinds := [], alts := [], laidByText := true, laidKinds := [.data, .data, .data, .sentinel, .sentinel], laidTests := true, laidLooks := .later }
def CodeTurnedUptoCardSaid : Prop := Claim7.holds Tryz.pinned (.plain (OpenSpec.upto codeTurnedSpec)) codeTurnedUptoCard
end Rows
end Go.Proofs.YtpapbigghiiolaaGreatDoor
