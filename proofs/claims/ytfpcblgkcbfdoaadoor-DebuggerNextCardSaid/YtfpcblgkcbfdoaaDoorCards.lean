/-
  DERIVED. GIVEN WITH THE SEED: THE CARDS: each row of YtfpcblgkcbfdoaaDoorRows.lean that lists a variable, with what it lists TIED to the program's text (the seventh form; the later family's looks); each row that meets fmt, with fmt's text TOLD by the authors' own Lean function (tested against real Go, not proved from fmt's source: count such statements apart). THE CARD IS WHAT COUNTS. Prove the row's statement (the work); the ties are given (YtfpcblgkcbfdoaaDoorTie.lean); close each card by the builder's one call (the guide's Derived/Test/ToyasCard.lean, 'card_holds'). Laid BY PROGRAM, IN A SANDBOX (cutbox-door.mjs). By AI agents, Wed Nov 11 2026. No macro, syntax, notation, axiom, sorry.
-/
import Derived.Test.YtfpcblgkcbfdoaaDoorRows
import GoSem.ClaimSeven
namespace Go.Proofs.YtfpcblgkcbfdoaaDoor
namespace Rows

/-- THE TIED CARD OF 'backsteplaw33.DebuggerNext'. -/
def debuggerNextCard : Claim7 := { stood := { row := debuggerNextRow, standIns := [], harness := (true, "1d17adebb06bba732b705af37875b0b028bccbdf92d1d88a28ecfdde2547d5fb"), looks := false }, kinds := [], alts := [], laidByText := true, laidKinds := [.data], laidTests := true, laidLooks := .later }
def DebuggerNextCardSaid : Prop := Claim7.holds Tryd.pinned (.plain (OpenSpec.ofChange debuggerNextSpec)) debuggerNextCard

/-- THE TIED CARD OF 'backsteplaw33.DebuggerNew'. -/
def debuggerNewCard : Claim7 := { stood := { row := debuggerNewRow, standIns := [], harness := (true, "1d17adebb06bba732b705af37875b0b028bccbdf92d1d88a28ecfdde2547d5fb"), looks := false }, kinds := [], alts := [], laidByText := true, laidKinds := [.data], laidTests := true, laidLooks := .later }
def DebuggerNewCardSaid : Prop := Claim7.holds Tryd.pinned (.plain (OpenSpec.ofChange debuggerNewSpec)) debuggerNewCard

/-- THE TIED CARD OF 'backsteplaw33.DebuggerSteps'. -/
def debuggerStepsCard : Claim7 := { stood := { row := debuggerStepsRow, standIns := [], harness := (true, "1d17adebb06bba732b705af37875b0b028bccbdf92d1d88a28ecfdde2547d5fb"), looks := false }, kinds := [], alts := [], laidByText := true, laidKinds := [.data], laidTests := true, laidLooks := .later }
def DebuggerStepsCardSaid : Prop := Claim7.holds Tryd.pinned (.plain (OpenSpec.ofChange debuggerStepsSpec)) debuggerStepsCard

/-- THE TIED CARD OF 'backsteplaw33.DebuggerSeeks'. -/
def debuggerSeeksCard : Claim7 := { stood := { row := debuggerSeeksRow, standIns := [], harness := (true, "1d17adebb06bba732b705af37875b0b028bccbdf92d1d88a28ecfdde2547d5fb"), looks := false }, kinds := [], alts := [], laidByText := true, laidKinds := [.data], laidTests := true, laidLooks := .later }
def DebuggerSeeksCardSaid : Prop := Claim7.holds Tryd.pinned (.plain (OpenSpec.ofChange debuggerSeeksSpec)) debuggerSeeksCard

/-- THE TIED CARD OF 'backsteplaw33.DebuggerAgain'. -/
def debuggerAgainCard : Claim7 := { stood := { row := debuggerAgainRow, standIns := [], harness := (true, "1d17adebb06bba732b705af37875b0b028bccbdf92d1d88a28ecfdde2547d5fb"), looks := false }, kinds := [], alts := [], laidByText := true, laidKinds := [.data], laidTests := true, laidLooks := .later }
def DebuggerAgainCardSaid : Prop := Claim7.holds Tryd.pinned (.plain (OpenSpec.ofChange debuggerAgainSpec)) debuggerAgainCard

/-- THE TIED CARD OF 'backsteplaw33.DebuggerFinish'. -/
def debuggerFinishCard : Claim7 := { stood := { row := debuggerFinishRow, standIns := [], harness := (true, "1d17adebb06bba732b705af37875b0b028bccbdf92d1d88a28ecfdde2547d5fb"), looks := false }, kinds := [], alts := [], laidByText := true, laidKinds := [.data], laidTests := true, laidLooks := .later }
def DebuggerFinishCardSaid : Prop := Claim7.holds Tryd.pinned (.plain (OpenSpec.ofChange debuggerFinishSpec)) debuggerFinishCard

/-- THE TIED CARD OF 'backsteplaw33.DebuggerNone'. -/
def debuggerNoneCard : Claim7 := { stood := { row := debuggerNoneRow, standIns := [], harness := (true, "1d17adebb06bba732b705af37875b0b028bccbdf92d1d88a28ecfdde2547d5fb"), looks := false }, kinds := [], alts := [], laidByText := true, laidKinds := [.data], laidTests := true, laidLooks := .later }
def DebuggerNoneCardSaid : Prop := Claim7.holds Tryd.pinned (.plain (OpenSpec.ofChange debuggerNoneSpec)) debuggerNoneCard

/-- THE TIED CARD OF 'backsteplaw33.DebuggerRuns'. -/
def debuggerRunsCard : Claim7 := { stood := { row := debuggerRunsRow, standIns := [], harness := (true, "1d17adebb06bba732b705af37875b0b028bccbdf92d1d88a28ecfdde2547d5fb"), looks := false }, kinds := [], alts := [], laidByText := true, laidKinds := [.data], laidTests := true, laidLooks := .later }
def DebuggerRunsCardSaid : Prop := Claim7.holds Tryd.pinned (.plain (OpenSpec.ofChange debuggerRunsSpec)) debuggerRunsCard

/-- THE SECOND FORM's CARD OF 'backsteplaw33.DebuggerNext'. -/
def debuggerNextUptoCard : Claim7 := { stood := { row := debuggerNextUptoRow, standIns := [], harness := (true, "1d17adebb06bba732b705af37875b0b028bccbdf92d1d88a28ecfdde2547d5fb"), looks := false }, kinds := [], alts := [], laidByText := true, laidKinds := [.data], laidTests := true, laidLooks := .later }
def DebuggerNextUptoCardSaid : Prop := Claim7.holds Tryd.pinned (.plain (OpenSpec.upto debuggerNextSpec)) debuggerNextUptoCard

/-- THE SECOND FORM's CARD OF 'backsteplaw33.DebuggerNew'. -/
def debuggerNewUptoCard : Claim7 := { stood := { row := debuggerNewUptoRow, standIns := [], harness := (true, "1d17adebb06bba732b705af37875b0b028bccbdf92d1d88a28ecfdde2547d5fb"), looks := false }, kinds := [], alts := [], laidByText := true, laidKinds := [.data], laidTests := true, laidLooks := .later }
def DebuggerNewUptoCardSaid : Prop := Claim7.holds Tryd.pinned (.plain (OpenSpec.upto debuggerNewSpec)) debuggerNewUptoCard

/-- THE SECOND FORM's CARD OF 'backsteplaw33.DebuggerSteps'. -/
def debuggerStepsUptoCard : Claim7 := { stood := { row := debuggerStepsUptoRow, standIns := [], harness := (true, "1d17adebb06bba732b705af37875b0b028bccbdf92d1d88a28ecfdde2547d5fb"), looks := false }, kinds := [], alts := [], laidByText := true, laidKinds := [.data], laidTests := true, laidLooks := .later }
def DebuggerStepsUptoCardSaid : Prop := Claim7.holds Tryd.pinned (.plain (OpenSpec.upto debuggerStepsSpec)) debuggerStepsUptoCard

/-- THE SECOND FORM's CARD OF 'backsteplaw33.DebuggerSeeks'. -/
def debuggerSeeksUptoCard : Claim7 := { stood := { row := debuggerSeeksUptoRow, standIns := [], harness := (true, "1d17adebb06bba732b705af37875b0b028bccbdf92d1d88a28ecfdde2547d5fb"), looks := false }, kinds := [], alts := [], laidByText := true, laidKinds := [.data], laidTests := true, laidLooks := .later }
def DebuggerSeeksUptoCardSaid : Prop := Claim7.holds Tryd.pinned (.plain (OpenSpec.upto debuggerSeeksSpec)) debuggerSeeksUptoCard

/-- THE SECOND FORM's CARD OF 'backsteplaw33.DebuggerAgain'. -/
def debuggerAgainUptoCard : Claim7 := { stood := { row := debuggerAgainUptoRow, standIns := [], harness := (true, "1d17adebb06bba732b705af37875b0b028bccbdf92d1d88a28ecfdde2547d5fb"), looks := false }, kinds := [], alts := [], laidByText := true, laidKinds := [.data], laidTests := true, laidLooks := .later }
def DebuggerAgainUptoCardSaid : Prop := Claim7.holds Tryd.pinned (.plain (OpenSpec.upto debuggerAgainSpec)) debuggerAgainUptoCard

/-- THE SECOND FORM's CARD OF 'backsteplaw33.DebuggerFinish'. -/
def debuggerFinishUptoCard : Claim7 := { stood := { row := debuggerFinishUptoRow, standIns := [], harness := (true, "1d17adebb06bba732b705af37875b0b028bccbdf92d1d88a28ecfdde2547d5fb"), looks := false }, kinds := [], alts := [], laidByText := true, laidKinds := [.data], laidTests := true, laidLooks := .later }
def DebuggerFinishUptoCardSaid : Prop := Claim7.holds Tryd.pinned (.plain (OpenSpec.upto debuggerFinishSpec)) debuggerFinishUptoCard

/-- THE SECOND FORM's CARD OF 'backsteplaw33.DebuggerNone'. -/
def debuggerNoneUptoCard : Claim7 := { stood := { row := debuggerNoneUptoRow, standIns := [], harness := (true, "1d17adebb06bba732b705af37875b0b028bccbdf92d1d88a28ecfdde2547d5fb"), looks := false }, kinds := [], alts := [], laidByText := true, laidKinds := [.data], laidTests := true, laidLooks := .later }
def DebuggerNoneUptoCardSaid : Prop := Claim7.holds Tryd.pinned (.plain (OpenSpec.upto debuggerNoneSpec)) debuggerNoneUptoCard

/-- THE SECOND FORM's CARD OF 'backsteplaw33.DebuggerRuns'. -/
def debuggerRunsUptoCard : Claim7 := { stood := { row := debuggerRunsUptoRow, standIns := [], harness := (true, "1d17adebb06bba732b705af37875b0b028bccbdf92d1d88a28ecfdde2547d5fb"), looks := false }, kinds := [], alts := [], laidByText := true, laidKinds := [.data], laidTests := true, laidLooks := .later }
def DebuggerRunsUptoCardSaid : Prop := Claim7.holds Tryd.pinned (.plain (OpenSpec.upto debuggerRunsSpec)) debuggerRunsUptoCard
end Rows
end Go.Proofs.YtfpcblgkcbfdoaaDoor
