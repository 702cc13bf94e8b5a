/-
  DERIVED. GIVEN WITH THE SEED: THE CARDS: each row of YteenmpjjaheggaaDoorRows.lean that lists a variable, with what it lists TIED to the program's text (the seventh form; the later family's looks); each row that meets fmt, with fmt's text TOLD by the authors' own Lean function (tested against real Go, not proved from fmt's source: count such statements apart). THE CARD IS WHAT COUNTS. Prove the row's statement (the work); the ties are given (YteenmpjjaheggaaDoorTie.lean); close each card by the builder's one call (the guide's Derived/Test/ToyasCard.lean, 'card_holds'). Laid BY PROGRAM, IN A SANDBOX (cutbox-door.mjs). By AI agents, Wed Nov 11 2026. No macro, syntax, notation, axiom, sorry.
-/
import Derived.Test.YteenmpjjaheggaaDoorRows
import GoSem.ClaimSeven
namespace Go.Proofs.YteenmpjjaheggaaDoor
namespace Rows

/-- THE TIED CARD OF 'backsteplaw24.CpuClone'. -/
def cpuCloneCard : Claim7 := { stood := { row := cpuCloneRow, standIns := [], harness := (true, "113d84ffe2a227390293cef06de589048d208e9b613d2dcc209966a946cebf33"), looks := false }, kinds := [], alts := [], laidByText := true, laidKinds := [.data], laidTests := true, laidLooks := .later }
def CpuCloneCardSaid : Prop := Claim7.holds Tryd.pinned (.plain (OpenSpec.ofChange cpuCloneSpec)) cpuCloneCard

/-- THE TIED CARD OF 'backsteplaw34.BreakpointBoth'. -/
def breakpointBothCard : Claim7 := { stood := { row := breakpointBothRow, standIns := [], harness := (true, "113d84ffe2a227390293cef06de589048d208e9b613d2dcc209966a946cebf33"), looks := false }, kinds := [], alts := [], laidByText := true, laidKinds := [.data], laidTests := true, laidLooks := .later }
def BreakpointBothCardSaid : Prop := Claim7.holds Tryd.pinned (.plain (OpenSpec.ofChange breakpointBothSpec)) breakpointBothCard

/-- THE TIED CARD OF 'backsteplaw32.PeepholeRuns'. -/
def peepholeRunsCard : Claim7 := { stood := { row := peepholeRunsRow, standIns := [], harness := (true, "113d84ffe2a227390293cef06de589048d208e9b613d2dcc209966a946cebf33"), looks := false }, kinds := [], alts := [], laidByText := true, laidKinds := [.data], laidTests := true, laidLooks := .later }
def PeepholeRunsCardSaid : Prop := Claim7.holds Tryd.pinned (.plain (OpenSpec.ofChange peepholeRunsSpec)) peepholeRunsCard

/-- THE SECOND FORM's CARD OF 'backsteplaw24.CpuClone'. -/
def cpuCloneUptoCard : Claim7 := { stood := { row := cpuCloneUptoRow, standIns := [], harness := (true, "113d84ffe2a227390293cef06de589048d208e9b613d2dcc209966a946cebf33"), looks := false }, kinds := [], alts := [], laidByText := true, laidKinds := [.data], laidTests := true, laidLooks := .later }
def CpuCloneUptoCardSaid : Prop := Claim7.holds Tryd.pinned (.plain (OpenSpec.upto cpuCloneSpec)) cpuCloneUptoCard

/-- THE SECOND FORM's CARD OF 'backsteplaw34.BreakpointBoth'. -/
def breakpointBothUptoCard : Claim7 := { stood := { row := breakpointBothUptoRow, standIns := [], harness := (true, "113d84ffe2a227390293cef06de589048d208e9b613d2dcc209966a946cebf33"), looks := false }, kinds := [], alts := [], laidByText := true, laidKinds := [.data], laidTests := true, laidLooks := .later }
def BreakpointBothUptoCardSaid : Prop := Claim7.holds Tryd.pinned (.plain (OpenSpec.upto breakpointBothSpec)) breakpointBothUptoCard

/-- THE SECOND FORM's CARD OF 'backsteplaw32.PeepholeRuns'. -/
def peepholeRunsUptoCard : Claim7 := { stood := { row := peepholeRunsUptoRow, standIns := [], harness := (true, "113d84ffe2a227390293cef06de589048d208e9b613d2dcc209966a946cebf33"), looks := false }, kinds := [], alts := [], laidByText := true, laidKinds := [.data], laidTests := true, laidLooks := .later }
def PeepholeRunsUptoCardSaid : Prop := Claim7.holds Tryd.pinned (.plain (OpenSpec.upto peepholeRunsSpec)) peepholeRunsUptoCard
end Rows
end Go.Proofs.YteenmpjjaheggaaDoor
