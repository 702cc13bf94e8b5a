/-
  DERIVED. GIVEN WITH THE SEED: THE CARDS: each row of YtmccbgnonmgbeaaDoorRows.lean that lists a variable, with what it lists TIED to the program's text (the seventh form; the later family's looks); each row that meets fmt, with fmt's text TOLD by the authors' own Lean function (tested against real Go, not proved from fmt's source: count such statements apart). THE CARD IS WHAT COUNTS. Prove the row's statement (the work); the ties are given (YtmccbgnonmgbeaaDoorTie.lean); close each card by the builder's one call (the guide's Derived/Test/ToyasCard.lean, 'card_holds'). Laid BY PROGRAM, IN A SANDBOX (cutbox-door.mjs). By AI agents, Wed Nov 11 2026. No macro, syntax, notation, axiom, sorry.
-/
import Derived.Test.YtmccbgnonmgbeaaDoorRows
import GoSem.ClaimSeven
namespace Go.Proofs.YtmccbgnonmgbeaaDoor
namespace Rows

/-- THE TIED CARD OF 'backsteplaw24.CpuStep'. -/
def cpuStepCard : Claim7 := { stood := { row := cpuStepRow, standIns := [], harness := (true, "236b3cc1f293300bc9f09ab2df422096593d3a7414536a58767f1d1ea8d466f9"), looks := false }, kinds := [], alts := [], laidByText := true, laidKinds := [.data], laidTests := true, laidLooks := .later }
def CpuStepCardSaid : Prop := Claim7.holds Tryd.pinned (.plain (OpenSpec.ofChange cpuStepSpec)) cpuStepCard

/-- THE TIED CARD OF 'backsteplaw24.CpuBack'. -/
def cpuBackCard : Claim7 := { stood := { row := cpuBackRow, standIns := [], harness := (true, "236b3cc1f293300bc9f09ab2df422096593d3a7414536a58767f1d1ea8d466f9"), looks := false }, kinds := [], alts := [], laidByText := true, laidKinds := [.data], laidTests := true, laidLooks := .later }
def CpuBackCardSaid : Prop := Claim7.holds Tryd.pinned (.plain (OpenSpec.ofChange cpuBackSpec)) cpuBackCard

/-- THE TIED CARD OF 'backsteplaw24.CpuRun'. -/
def cpuRunCard : Claim7 := { stood := { row := cpuRunRow, standIns := [], harness := (true, "236b3cc1f293300bc9f09ab2df422096593d3a7414536a58767f1d1ea8d466f9"), looks := false }, kinds := [], alts := [], laidByText := true, laidKinds := [.data], laidTests := true, laidLooks := .later }
def CpuRunCardSaid : Prop := Claim7.holds Tryd.pinned (.plain (OpenSpec.ofChange cpuRunSpec)) cpuRunCard

/-- THE TIED CARD OF 'backsteplaw24.CpuTurn'. -/
def cpuTurnCard : Claim7 := { stood := { row := cpuTurnRow, standIns := [], harness := (true, "236b3cc1f293300bc9f09ab2df422096593d3a7414536a58767f1d1ea8d466f9"), looks := false }, kinds := [], alts := [], laidByText := true, laidKinds := [.data], laidTests := true, laidLooks := .later }
def CpuTurnCardSaid : Prop := Claim7.holds Tryd.pinned (.plain (OpenSpec.ofChange cpuTurnSpec)) cpuTurnCard

/-- THE TIED CARD OF 'backsteplaw24.CpuInverse'. -/
def cpuInverseCard : Claim7 := { stood := { row := cpuInverseRow, standIns := [], harness := (true, "236b3cc1f293300bc9f09ab2df422096593d3a7414536a58767f1d1ea8d466f9"), looks := false }, kinds := [], alts := [], laidByText := true, laidKinds := [.data], laidTests := true, laidLooks := .later }
def CpuInverseCardSaid : Prop := Claim7.holds Tryd.pinned (.plain (OpenSpec.ofChange cpuInverseSpec)) cpuInverseCard

/-- THE TIED CARD OF 'backsteplaw24.CpuClone'. -/
def cpuCloneCard : Claim7 := { stood := { row := cpuCloneRow, standIns := [], harness := (true, "236b3cc1f293300bc9f09ab2df422096593d3a7414536a58767f1d1ea8d466f9"), looks := false }, kinds := [], alts := [], laidByText := true, laidKinds := [.data], laidTests := true, laidLooks := .later }
def CpuCloneCardSaid : Prop := Claim7.holds Tryd.pinned (.plain (OpenSpec.ofChange cpuCloneSpec)) cpuCloneCard

/-- THE TIED CARD OF 'backsteplaw24.CpuUndo'. -/
def cpuUndoCard : Claim7 := { stood := { row := cpuUndoRow, standIns := [], harness := (true, "236b3cc1f293300bc9f09ab2df422096593d3a7414536a58767f1d1ea8d466f9"), looks := false }, kinds := [], alts := [], laidByText := true, laidKinds := [.data], laidTests := true, laidLooks := .later }
def CpuUndoCardSaid : Prop := Claim7.holds Tryd.pinned (.plain (OpenSpec.ofChange cpuUndoSpec)) cpuUndoCard

/-- THE TIED CARD OF 'backsteplaw24.CpuNew'. -/
def cpuNewCard : Claim7 := { stood := { row := cpuNewRow, standIns := [], harness := (true, "236b3cc1f293300bc9f09ab2df422096593d3a7414536a58767f1d1ea8d466f9"), looks := false }, kinds := [], alts := [], laidByText := true, laidKinds := [.data], laidTests := true, laidLooks := .later }
def CpuNewCardSaid : Prop := Claim7.holds Tryd.pinned (.plain (OpenSpec.ofChange cpuNewSpec)) cpuNewCard

/-- THE TIED CARD OF 'backsteplaw24.CpuFits'. -/
def cpuFitsCard : Claim7 := { stood := { row := cpuFitsRow, standIns := [], harness := (true, "236b3cc1f293300bc9f09ab2df422096593d3a7414536a58767f1d1ea8d466f9"), looks := false }, kinds := [], alts := [], laidByText := true, laidKinds := [.data], laidTests := true, laidLooks := .later }
def CpuFitsCardSaid : Prop := Claim7.holds Tryd.pinned (.plain (OpenSpec.ofChange cpuFitsSpec)) cpuFitsCard

/-- THE SECOND FORM's CARD OF 'backsteplaw24.CpuStep'. -/
def cpuStepUptoCard : Claim7 := { stood := { row := cpuStepUptoRow, standIns := [], harness := (true, "236b3cc1f293300bc9f09ab2df422096593d3a7414536a58767f1d1ea8d466f9"), looks := false }, kinds := [], alts := [], laidByText := true, laidKinds := [.data], laidTests := true, laidLooks := .later }
def CpuStepUptoCardSaid : Prop := Claim7.holds Tryd.pinned (.plain (OpenSpec.upto cpuStepSpec)) cpuStepUptoCard

/-- THE SECOND FORM's CARD OF 'backsteplaw24.CpuBack'. -/
def cpuBackUptoCard : Claim7 := { stood := { row := cpuBackUptoRow, standIns := [], harness := (true, "236b3cc1f293300bc9f09ab2df422096593d3a7414536a58767f1d1ea8d466f9"), looks := false }, kinds := [], alts := [], laidByText := true, laidKinds := [.data], laidTests := true, laidLooks := .later }
def CpuBackUptoCardSaid : Prop := Claim7.holds Tryd.pinned (.plain (OpenSpec.upto cpuBackSpec)) cpuBackUptoCard

/-- THE SECOND FORM's CARD OF 'backsteplaw24.CpuRun'. -/
def cpuRunUptoCard : Claim7 := { stood := { row := cpuRunUptoRow, standIns := [], harness := (true, "236b3cc1f293300bc9f09ab2df422096593d3a7414536a58767f1d1ea8d466f9"), looks := false }, kinds := [], alts := [], laidByText := true, laidKinds := [.data], laidTests := true, laidLooks := .later }
def CpuRunUptoCardSaid : Prop := Claim7.holds Tryd.pinned (.plain (OpenSpec.upto cpuRunSpec)) cpuRunUptoCard

/-- THE SECOND FORM's CARD OF 'backsteplaw24.CpuTurn'. -/
def cpuTurnUptoCard : Claim7 := { stood := { row := cpuTurnUptoRow, standIns := [], harness := (true, "236b3cc1f293300bc9f09ab2df422096593d3a7414536a58767f1d1ea8d466f9"), looks := false }, kinds := [], alts := [], laidByText := true, laidKinds := [.data], laidTests := true, laidLooks := .later }
def CpuTurnUptoCardSaid : Prop := Claim7.holds Tryd.pinned (.plain (OpenSpec.upto cpuTurnSpec)) cpuTurnUptoCard

/-- THE SECOND FORM's CARD OF 'backsteplaw24.CpuInverse'. -/
def cpuInverseUptoCard : Claim7 := { stood := { row := cpuInverseUptoRow, standIns := [], harness := (true, "236b3cc1f293300bc9f09ab2df422096593d3a7414536a58767f1d1ea8d466f9"), looks := false }, kinds := [], alts := [], laidByText := true, laidKinds := [.data], laidTests := true, laidLooks := .later }
def CpuInverseUptoCardSaid : Prop := Claim7.holds Tryd.pinned (.plain (OpenSpec.upto cpuInverseSpec)) cpuInverseUptoCard

/-- THE SECOND FORM's CARD OF 'backsteplaw24.CpuClone'. -/
def cpuCloneUptoCard : Claim7 := { stood := { row := cpuCloneUptoRow, standIns := [], harness := (true, "236b3cc1f293300bc9f09ab2df422096593d3a7414536a58767f1d1ea8d466f9"), looks := false }, kinds := [], alts := [], laidByText := true, laidKinds := [.data], laidTests := true, laidLooks := .later }
def CpuCloneUptoCardSaid : Prop := Claim7.holds Tryd.pinned (.plain (OpenSpec.upto cpuCloneSpec)) cpuCloneUptoCard

/-- THE SECOND FORM's CARD OF 'backsteplaw24.CpuUndo'. -/
def cpuUndoUptoCard : Claim7 := { stood := { row := cpuUndoUptoRow, standIns := [], harness := (true, "236b3cc1f293300bc9f09ab2df422096593d3a7414536a58767f1d1ea8d466f9"), looks := false }, kinds := [], alts := [], laidByText := true, laidKinds := [.data], laidTests := true, laidLooks := .later }
def CpuUndoUptoCardSaid : Prop := Claim7.holds Tryd.pinned (.plain (OpenSpec.upto cpuUndoSpec)) cpuUndoUptoCard

/-- THE SECOND FORM's CARD OF 'backsteplaw24.CpuNew'. -/
def cpuNewUptoCard : Claim7 := { stood := { row := cpuNewUptoRow, standIns := [], harness := (true, "236b3cc1f293300bc9f09ab2df422096593d3a7414536a58767f1d1ea8d466f9"), looks := false }, kinds := [], alts := [], laidByText := true, laidKinds := [.data], laidTests := true, laidLooks := .later }
def CpuNewUptoCardSaid : Prop := Claim7.holds Tryd.pinned (.plain (OpenSpec.upto cpuNewSpec)) cpuNewUptoCard

/-- THE SECOND FORM's CARD OF 'backsteplaw24.CpuFits'. -/
def cpuFitsUptoCard : Claim7 := { stood := { row := cpuFitsUptoRow, standIns := [], harness := (true, "236b3cc1f293300bc9f09ab2df422096593d3a7414536a58767f1d1ea8d466f9"), looks := false }, kinds := [], alts := [], laidByText := true, laidKinds := [.data], laidTests := true, laidLooks := .later }
def CpuFitsUptoCardSaid : Prop := Claim7.holds Tryd.pinned (.plain (OpenSpec.upto cpuFitsSpec)) cpuFitsUptoCard
end Rows
end Go.Proofs.YtmccbgnonmgbeaaDoor
