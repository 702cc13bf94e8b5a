/-
  DERIVED. GIVEN WITH THE SEED: THE CARDS: each row of YtbijhlgdilkopaaDoorRows.lean that lists a variable, with what it lists TIED to the program's text (the seventh form; the later family's looks); each row that meets fmt, with fmt's text TOLD by the authors' own Lean function (tested against real Go, not proved from fmt's source: count such statements apart). THE CARD IS WHAT COUNTS. Prove the row's statement (the work); the ties are given (YtbijhlgdilkopaaDoorTie.lean); close each card by the builder's one call (the guide's Derived/Test/ToyasCard.lean, 'card_holds'). Laid BY PROGRAM, IN A SANDBOX (cutbox-door.mjs). By AI agents, Wed Nov 11 2026. No macro, syntax, notation, axiom, sorry.
-/
import Derived.Test.YtbijhlgdilkopaaDoorRows
import GoSem.ClaimSeven
namespace Go.Proofs.YtbijhlgdilkopaaDoor
namespace Rows

/-- THE TIED CARD OF 'backsteplaw27.ExprgenPlain'. -/
def exprgenPlainCard : Claim7 := { stood := { row := exprgenPlainRow, standIns := [], harness := (true, "0b6eaa8919a5e948172084d8a2b193a8d85530250abdb782758e62cbcab4d214"), looks := false }, kinds := [], alts := [], laidByText := true, laidKinds := [.data], laidTests := true, laidLooks := .later }
def ExprgenPlainCardSaid : Prop := Claim7.holds Tryd.pinned (.plain (OpenSpec.ofChange exprgenPlainSpec)) exprgenPlainCard

/-- THE TIED CARD OF 'backsteplaw27.ExprgenCompute'. -/
def exprgenComputeCard : Claim7 := { stood := { row := exprgenComputeRow, standIns := [], harness := (true, "0b6eaa8919a5e948172084d8a2b193a8d85530250abdb782758e62cbcab4d214"), looks := false }, kinds := [], alts := [], laidByText := true, laidKinds := [.data], laidTests := true, laidLooks := .later }
def ExprgenComputeCardSaid : Prop := Claim7.holds Tryd.pinned (.plain (OpenSpec.ofChange exprgenComputeSpec)) exprgenComputeCard

/-- THE TIED CARD OF 'backsteplaw27.ExprgenBack'. -/
def exprgenBackCard : Claim7 := { stood := { row := exprgenBackRow, standIns := [], harness := (true, "0b6eaa8919a5e948172084d8a2b193a8d85530250abdb782758e62cbcab4d214"), looks := false }, kinds := [], alts := [], laidByText := true, laidKinds := [.data], laidTests := true, laidLooks := .later }
def ExprgenBackCardSaid : Prop := Claim7.holds Tryd.pinned (.plain (OpenSpec.ofChange exprgenBackSpec)) exprgenBackCard

/-- THE TIED CARD OF 'backsteplaw27.ExprgenWith'. -/
def exprgenWithCard : Claim7 := { stood := { row := exprgenWithRow, standIns := [], harness := (true, "0b6eaa8919a5e948172084d8a2b193a8d85530250abdb782758e62cbcab4d214"), looks := false }, kinds := [], alts := [], laidByText := true, laidKinds := [.data], laidTests := true, laidLooks := .later }
def ExprgenWithCardSaid : Prop := Claim7.holds Tryd.pinned (.plain (OpenSpec.ofChange exprgenWithSpec)) exprgenWithCard

/-- THE TIED CARD OF 'backsteplaw27.ExprgenNested'. -/
def exprgenNestedCard : Claim7 := { stood := { row := exprgenNestedRow, standIns := [], harness := (true, "0b6eaa8919a5e948172084d8a2b193a8d85530250abdb782758e62cbcab4d214"), looks := false }, kinds := [], alts := [], laidByText := true, laidKinds := [.data], laidTests := true, laidLooks := .later }
def ExprgenNestedCardSaid : Prop := Claim7.holds Tryd.pinned (.plain (OpenSpec.ofChange exprgenNestedSpec)) exprgenNestedCard

/-- THE SECOND FORM's CARD OF 'backsteplaw27.ExprgenPlain'. -/
def exprgenPlainUptoCard : Claim7 := { stood := { row := exprgenPlainUptoRow, standIns := [], harness := (true, "0b6eaa8919a5e948172084d8a2b193a8d85530250abdb782758e62cbcab4d214"), looks := false }, kinds := [], alts := [], laidByText := true, laidKinds := [.data], laidTests := true, laidLooks := .later }
def ExprgenPlainUptoCardSaid : Prop := Claim7.holds Tryd.pinned (.plain (OpenSpec.upto exprgenPlainSpec)) exprgenPlainUptoCard

/-- THE SECOND FORM's CARD OF 'backsteplaw27.ExprgenCompute'. -/
def exprgenComputeUptoCard : Claim7 := { stood := { row := exprgenComputeUptoRow, standIns := [], harness := (true, "0b6eaa8919a5e948172084d8a2b193a8d85530250abdb782758e62cbcab4d214"), looks := false }, kinds := [], alts := [], laidByText := true, laidKinds := [.data], laidTests := true, laidLooks := .later }
def ExprgenComputeUptoCardSaid : Prop := Claim7.holds Tryd.pinned (.plain (OpenSpec.upto exprgenComputeSpec)) exprgenComputeUptoCard

/-- THE SECOND FORM's CARD OF 'backsteplaw27.ExprgenBack'. -/
def exprgenBackUptoCard : Claim7 := { stood := { row := exprgenBackUptoRow, standIns := [], harness := (true, "0b6eaa8919a5e948172084d8a2b193a8d85530250abdb782758e62cbcab4d214"), looks := false }, kinds := [], alts := [], laidByText := true, laidKinds := [.data], laidTests := true, laidLooks := .later }
def ExprgenBackUptoCardSaid : Prop := Claim7.holds Tryd.pinned (.plain (OpenSpec.upto exprgenBackSpec)) exprgenBackUptoCard

/-- THE SECOND FORM's CARD OF 'backsteplaw27.ExprgenWith'. -/
def exprgenWithUptoCard : Claim7 := { stood := { row := exprgenWithUptoRow, standIns := [], harness := (true, "0b6eaa8919a5e948172084d8a2b193a8d85530250abdb782758e62cbcab4d214"), looks := false }, kinds := [], alts := [], laidByText := true, laidKinds := [.data], laidTests := true, laidLooks := .later }
def ExprgenWithUptoCardSaid : Prop := Claim7.holds Tryd.pinned (.plain (OpenSpec.upto exprgenWithSpec)) exprgenWithUptoCard

/-- THE SECOND FORM's CARD OF 'backsteplaw27.ExprgenNested'. -/
def exprgenNestedUptoCard : Claim7 := { stood := { row := exprgenNestedUptoRow, standIns := [], harness := (true, "0b6eaa8919a5e948172084d8a2b193a8d85530250abdb782758e62cbcab4d214"), looks := false }, kinds := [], alts := [], laidByText := true, laidKinds := [.data], laidTests := true, laidLooks := .later }
def ExprgenNestedUptoCardSaid : Prop := Claim7.holds Tryd.pinned (.plain (OpenSpec.upto exprgenNestedSpec)) exprgenNestedUptoCard
end Rows
end Go.Proofs.YtbijhlgdilkopaaDoor
