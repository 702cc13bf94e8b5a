/-
  DERIVED. GIVEN WITH THE SEED: THE CARDS: each row of YtbijhlgdilkopaaGreatDoorRows.lean that lists a variable, with what it lists TIED to the program's text (the seventh form; the later family's looks); each row that meets fmt, with fmt's text TOLD by the authors' own Lean function (tested against real Go, not proved from fmt's source: count such statements apart). THE CARD IS WHAT COUNTS. Prove the row's statement (the work); the ties are given (YtbijhlgdilkopaaGreatDoorTie.lean); close each card by the builder's one call (the guide's Derived/Test/ToyasCard.lean, 'card_holds'). Laid BY PROGRAM, IN A SANDBOX (cutbox-door.mjs). By AI agents, Wed Nov 11 2026. No macro, syntax, notation, axiom, sorry.
-/
import Derived.Test.YtbijhlgdilkopaaGreatDoorRows
import GoSem.ClaimSeven
namespace Go.Proofs.YtbijhlgdilkopaaGreatDoor
namespace Rows

/-- THE TIED CARD OF 'backsteplaw27.ExprgenNames'. -/
def exprgenNamesCard : Claim7 := { stood := { row := exprgenNamesRow, standIns := [], harness := (true, "7a3ed7299afa4332914bf2b942fbd7874a8040029edfd544d3bf6d8710f3045e"), looks := false }, kinds := [], alts := [], laidByText := true, laidKinds := [.data], laidTests := true, laidLooks := .later }
def ExprgenNamesCardSaid : Prop := Claim7.holds Tryz.pinned (.plain (OpenSpec.ofChange exprgenNamesSpec)) exprgenNamesCard

/-- THE SECOND FORM's CARD OF 'backsteplaw27.ExprgenNames'. -/
def exprgenNamesUptoCard : Claim7 := { stood := { row := exprgenNamesUptoRow, standIns := [], harness := (true, "7a3ed7299afa4332914bf2b942fbd7874a8040029edfd544d3bf6d8710f3045e"), looks := false }, kinds := [], alts := [], laidByText := true, laidKinds := [.data], laidTests := true, laidLooks := .later }
def ExprgenNamesUptoCardSaid : Prop := Claim7.holds Tryz.pinned (.plain (OpenSpec.upto exprgenNamesSpec)) exprgenNamesUptoCard
end Rows
end Go.Proofs.YtbijhlgdilkopaaGreatDoor
