/-
  DERIVED. GIVEN WITH THE SEED: THE CARDS: each row of YteocbllbljeajaaDoorRows.lean that lists a variable, with what it lists TIED to the program's text (the seventh form; the later family's looks); each row that meets fmt, with fmt's text TOLD by the authors' own Lean function (tested against real Go, not proved from fmt's source: count such statements apart). THE CARD IS WHAT COUNTS. Prove the row's statement (the work); the ties are given (YteocbllbljeajaaDoorTie.lean); close each card by the builder's one call (the guide's Derived/Test/ToyasCard.lean, 'card_holds'). Laid BY PROGRAM, IN A SANDBOX (cutbox-door.mjs). By AI agents, Wed Nov 11 2026. No macro, syntax, notation, axiom, sorry.
-/
import Derived.Test.YteocbllbljeajaaDoorRows
import GoSem.ClaimSeven
namespace Go.Proofs.YteocbllbljeajaaDoor
namespace Rows

/-- THE TIED CARD OF 'backsteplaw24.CpuStep'. -/
def cpuStepCard : Claim7 := { stood := { row := cpuStepRow, standIns := [], harness := (true, "de164ac4f2bc47673df896ad35ae31c0a918c19e12192175bdcfdf0fcec1861b"), looks := false }, kinds := [], alts := [], laidByText := true, laidKinds := [.data], laidTests := true, laidLooks := .later }
def CpuStepCardSaid : Prop := Claim7.holds Tryd.pinned (.plain (OpenSpec.ofChange cpuStepSpec)) cpuStepCard

/-- THE TIED CARD OF 'backsteplaw24.CpuBack'. -/
def cpuBackCard : Claim7 := { stood := { row := cpuBackRow, standIns := [], harness := (true, "de164ac4f2bc47673df896ad35ae31c0a918c19e12192175bdcfdf0fcec1861b"), looks := false }, kinds := [], alts := [], laidByText := true, laidKinds := [.data], laidTests := true, laidLooks := .later }
def CpuBackCardSaid : Prop := Claim7.holds Tryd.pinned (.plain (OpenSpec.ofChange cpuBackSpec)) cpuBackCard

/-- THE TIED CARD OF 'backsteplaw24.CpuInverse'. -/
def cpuInverseCard : Claim7 := { stood := { row := cpuInverseRow, standIns := [], harness := (true, "de164ac4f2bc47673df896ad35ae31c0a918c19e12192175bdcfdf0fcec1861b"), looks := false }, kinds := [], alts := [], laidByText := true, laidKinds := [.data], laidTests := true, laidLooks := .later }
def CpuInverseCardSaid : Prop := Claim7.holds Tryd.pinned (.plain (OpenSpec.ofChange cpuInverseSpec)) cpuInverseCard

/-- THE TIED CARD OF 'backsteplaw24.CpuClone'. -/
def cpuCloneCard : Claim7 := { stood := { row := cpuCloneRow, standIns := [], harness := (true, "de164ac4f2bc47673df896ad35ae31c0a918c19e12192175bdcfdf0fcec1861b"), looks := false }, kinds := [], alts := [], laidByText := true, laidKinds := [.data], laidTests := true, laidLooks := .later }
def CpuCloneCardSaid : Prop := Claim7.holds Tryd.pinned (.plain (OpenSpec.ofChange cpuCloneSpec)) cpuCloneCard

/-- THE TIED CARD OF 'backsteplaw32.PeepholeRuns'. -/
def peepholeRunsCard : Claim7 := { stood := { row := peepholeRunsRow, standIns := [], harness := (true, "de164ac4f2bc47673df896ad35ae31c0a918c19e12192175bdcfdf0fcec1861b"), looks := false }, kinds := [], alts := [], laidByText := true, laidKinds := [.data], laidTests := true, laidLooks := .later }
def PeepholeRunsCardSaid : Prop := Claim7.holds Tryd.pinned (.plain (OpenSpec.ofChange peepholeRunsSpec)) peepholeRunsCard

/-- THE SECOND FORM's CARD OF 'backsteplaw24.CpuStep'. -/
def cpuStepUptoCard : Claim7 := { stood := { row := cpuStepUptoRow, standIns := [], harness := (true, "de164ac4f2bc47673df896ad35ae31c0a918c19e12192175bdcfdf0fcec1861b"), looks := false }, kinds := [], alts := [], laidByText := true, laidKinds := [.data], laidTests := true, laidLooks := .later }
def CpuStepUptoCardSaid : Prop := Claim7.holds Tryd.pinned (.plain (OpenSpec.upto cpuStepSpec)) cpuStepUptoCard

/-- THE SECOND FORM's CARD OF 'backsteplaw24.CpuBack'. -/
def cpuBackUptoCard : Claim7 := { stood := { row := cpuBackUptoRow, standIns := [], harness := (true, "de164ac4f2bc47673df896ad35ae31c0a918c19e12192175bdcfdf0fcec1861b"), looks := false }, kinds := [], alts := [], laidByText := true, laidKinds := [.data], laidTests := true, laidLooks := .later }
def CpuBackUptoCardSaid : Prop := Claim7.holds Tryd.pinned (.plain (OpenSpec.upto cpuBackSpec)) cpuBackUptoCard

/-- THE SECOND FORM's CARD OF 'backsteplaw24.CpuInverse'. -/
def cpuInverseUptoCard : Claim7 := { stood := { row := cpuInverseUptoRow, standIns := [], harness := (true, "de164ac4f2bc47673df896ad35ae31c0a918c19e12192175bdcfdf0fcec1861b"), looks := false }, kinds := [], alts := [], laidByText := true, laidKinds := [.data], laidTests := true, laidLooks := .later }
def CpuInverseUptoCardSaid : Prop := Claim7.holds Tryd.pinned (.plain (OpenSpec.upto cpuInverseSpec)) cpuInverseUptoCard

/-- THE SECOND FORM's CARD OF 'backsteplaw24.CpuClone'. -/
def cpuCloneUptoCard : Claim7 := { stood := { row := cpuCloneUptoRow, standIns := [], harness := (true, "de164ac4f2bc47673df896ad35ae31c0a918c19e12192175bdcfdf0fcec1861b"), looks := false }, kinds := [], alts := [], laidByText := true, laidKinds := [.data], laidTests := true, laidLooks := .later }
def CpuCloneUptoCardSaid : Prop := Claim7.holds Tryd.pinned (.plain (OpenSpec.upto cpuCloneSpec)) cpuCloneUptoCard

/-- THE SECOND FORM's CARD OF 'backsteplaw32.PeepholeRuns'. -/
def peepholeRunsUptoCard : Claim7 := { stood := { row := peepholeRunsUptoRow, standIns := [], harness := (true, "de164ac4f2bc47673df896ad35ae31c0a918c19e12192175bdcfdf0fcec1861b"), looks := false }, kinds := [], alts := [], laidByText := true, laidKinds := [.data], laidTests := true, laidLooks := .later }
def PeepholeRunsUptoCardSaid : Prop := Claim7.holds Tryd.pinned (.plain (OpenSpec.upto peepholeRunsSpec)) peepholeRunsUptoCard
end Rows
end Go.Proofs.YteocbllbljeajaaDoor
