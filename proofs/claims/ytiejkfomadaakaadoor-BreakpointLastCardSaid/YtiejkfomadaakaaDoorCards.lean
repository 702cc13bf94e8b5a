/-
  DERIVED. GIVEN WITH THE SEED: THE CARDS: each row of YtiejkfomadaakaaDoorRows.lean that lists a variable, with what it lists TIED to the program's text (the seventh form; the later family's looks); each row that meets fmt, with fmt's text TOLD by the authors' own Lean function (tested against real Go, not proved from fmt's source: count such statements apart). THE CARD IS WHAT COUNTS. Prove the row's statement (the work); the ties are given (YtiejkfomadaakaaDoorTie.lean); close each card by the builder's one call (the guide's Derived/Test/ToyasCard.lean, 'card_holds'). Laid BY PROGRAM, IN A SANDBOX (cutbox-door.mjs). By AI agents, Wed Nov 11 2026. No macro, syntax, notation, axiom, sorry.
-/
import Derived.Test.YtiejkfomadaakaaDoorRows
import GoSem.ClaimSeven
namespace Go.Proofs.YtiejkfomadaakaaDoor
namespace Rows

/-- THE TIED CARD OF 'backsteplaw34.BreakpointNext'. -/
def breakpointNextCard : Claim7 := { stood := { row := breakpointNextRow, standIns := [], harness := (true, "ce2be1b9d3523017a610ffeebda8bd5f3d5e2f2b0c6998c2892560467c4f25a5"), looks := false }, kinds := [], alts := [], laidByText := true, laidKinds := [.data], laidTests := true, laidLooks := .later }
def BreakpointNextCardSaid : Prop := Claim7.holds Tryd.pinned (.plain (OpenSpec.ofChange breakpointNextSpec)) breakpointNextCard

/-- THE TIED CARD OF 'backsteplaw34.BreakpointPrev'. -/
def breakpointPrevCard : Claim7 := { stood := { row := breakpointPrevRow, standIns := [], harness := (true, "ce2be1b9d3523017a610ffeebda8bd5f3d5e2f2b0c6998c2892560467c4f25a5"), looks := false }, kinds := [], alts := [], laidByText := true, laidKinds := [.data], laidTests := true, laidLooks := .later }
def BreakpointPrevCardSaid : Prop := Claim7.holds Tryd.pinned (.plain (OpenSpec.ofChange breakpointPrevSpec)) breakpointPrevCard

/-- THE TIED CARD OF 'backsteplaw34.BreakpointBoth'. -/
def breakpointBothCard : Claim7 := { stood := { row := breakpointBothRow, standIns := [], harness := (true, "ce2be1b9d3523017a610ffeebda8bd5f3d5e2f2b0c6998c2892560467c4f25a5"), looks := false }, kinds := [], alts := [], laidByText := true, laidKinds := [.data], laidTests := true, laidLooks := .later }
def BreakpointBothCardSaid : Prop := Claim7.holds Tryd.pinned (.plain (OpenSpec.ofChange breakpointBothSpec)) breakpointBothCard

/-- THE TIED CARD OF 'backsteplaw34.BreakpointTests'. -/
def breakpointTestsCard : Claim7 := { stood := { row := breakpointTestsRow, standIns := [], harness := (true, "ce2be1b9d3523017a610ffeebda8bd5f3d5e2f2b0c6998c2892560467c4f25a5"), looks := false }, kinds := [], alts := [], laidByText := true, laidKinds := [.data], laidTests := true, laidLooks := .later }
def BreakpointTestsCardSaid : Prop := Claim7.holds Tryd.pinned (.plain (OpenSpec.ofChange breakpointTestsSpec)) breakpointTestsCard

/-- THE TIED CARD OF 'backsteplaw34.BreakpointBisect'. -/
def breakpointBisectCard : Claim7 := { stood := { row := breakpointBisectRow, standIns := [], harness := (true, "ce2be1b9d3523017a610ffeebda8bd5f3d5e2f2b0c6998c2892560467c4f25a5"), looks := false }, kinds := [], alts := [], laidByText := true, laidKinds := [.data], laidTests := true, laidLooks := .later }
def BreakpointBisectCardSaid : Prop := Claim7.holds Tryd.pinned (.plain (OpenSpec.ofChange breakpointBisectSpec)) breakpointBisectCard

/-- THE TIED CARD OF 'backsteplaw34.BreakpointNone'. -/
def breakpointNoneCard : Claim7 := { stood := { row := breakpointNoneRow, standIns := [], harness := (true, "ce2be1b9d3523017a610ffeebda8bd5f3d5e2f2b0c6998c2892560467c4f25a5"), looks := false }, kinds := [], alts := [], laidByText := true, laidKinds := [.data], laidTests := true, laidLooks := .later }
def BreakpointNoneCardSaid : Prop := Claim7.holds Tryd.pinned (.plain (OpenSpec.ofChange breakpointNoneSpec)) breakpointNoneCard

/-- THE TIED CARD OF 'backsteplaw34.BreakpointLast'. -/
def breakpointLastCard : Claim7 := { stood := { row := breakpointLastRow, standIns := [], harness := (true, "ce2be1b9d3523017a610ffeebda8bd5f3d5e2f2b0c6998c2892560467c4f25a5"), looks := false }, kinds := [], alts := [], laidByText := true, laidKinds := [.data], laidTests := true, laidLooks := .later }
def BreakpointLastCardSaid : Prop := Claim7.holds Tryd.pinned (.plain (OpenSpec.ofChange breakpointLastSpec)) breakpointLastCard

/-- THE TIED CARD OF 'backsteplaw34.BreakpointStays'. -/
def breakpointStaysCard : Claim7 := { stood := { row := breakpointStaysRow, standIns := [], harness := (true, "ce2be1b9d3523017a610ffeebda8bd5f3d5e2f2b0c6998c2892560467c4f25a5"), looks := false }, kinds := [], alts := [], laidByText := true, laidKinds := [.data], laidTests := true, laidLooks := .later }
def BreakpointStaysCardSaid : Prop := Claim7.holds Tryd.pinned (.plain (OpenSpec.ofChange breakpointStaysSpec)) breakpointStaysCard

/-- THE SECOND FORM's CARD OF 'backsteplaw34.BreakpointNext'. -/
def breakpointNextUptoCard : Claim7 := { stood := { row := breakpointNextUptoRow, standIns := [], harness := (true, "ce2be1b9d3523017a610ffeebda8bd5f3d5e2f2b0c6998c2892560467c4f25a5"), looks := false }, kinds := [], alts := [], laidByText := true, laidKinds := [.data], laidTests := true, laidLooks := .later }
def BreakpointNextUptoCardSaid : Prop := Claim7.holds Tryd.pinned (.plain (OpenSpec.upto breakpointNextSpec)) breakpointNextUptoCard

/-- THE SECOND FORM's CARD OF 'backsteplaw34.BreakpointPrev'. -/
def breakpointPrevUptoCard : Claim7 := { stood := { row := breakpointPrevUptoRow, standIns := [], harness := (true, "ce2be1b9d3523017a610ffeebda8bd5f3d5e2f2b0c6998c2892560467c4f25a5"), looks := false }, kinds := [], alts := [], laidByText := true, laidKinds := [.data], laidTests := true, laidLooks := .later }
def BreakpointPrevUptoCardSaid : Prop := Claim7.holds Tryd.pinned (.plain (OpenSpec.upto breakpointPrevSpec)) breakpointPrevUptoCard

/-- THE SECOND FORM's CARD OF 'backsteplaw34.BreakpointBoth'. -/
def breakpointBothUptoCard : Claim7 := { stood := { row := breakpointBothUptoRow, standIns := [], harness := (true, "ce2be1b9d3523017a610ffeebda8bd5f3d5e2f2b0c6998c2892560467c4f25a5"), looks := false }, kinds := [], alts := [], laidByText := true, laidKinds := [.data], laidTests := true, laidLooks := .later }
def BreakpointBothUptoCardSaid : Prop := Claim7.holds Tryd.pinned (.plain (OpenSpec.upto breakpointBothSpec)) breakpointBothUptoCard

/-- THE SECOND FORM's CARD OF 'backsteplaw34.BreakpointTests'. -/
def breakpointTestsUptoCard : Claim7 := { stood := { row := breakpointTestsUptoRow, standIns := [], harness := (true, "ce2be1b9d3523017a610ffeebda8bd5f3d5e2f2b0c6998c2892560467c4f25a5"), looks := false }, kinds := [], alts := [], laidByText := true, laidKinds := [.data], laidTests := true, laidLooks := .later }
def BreakpointTestsUptoCardSaid : Prop := Claim7.holds Tryd.pinned (.plain (OpenSpec.upto breakpointTestsSpec)) breakpointTestsUptoCard

/-- THE SECOND FORM's CARD OF 'backsteplaw34.BreakpointBisect'. -/
def breakpointBisectUptoCard : Claim7 := { stood := { row := breakpointBisectUptoRow, standIns := [], harness := (true, "ce2be1b9d3523017a610ffeebda8bd5f3d5e2f2b0c6998c2892560467c4f25a5"), looks := false }, kinds := [], alts := [], laidByText := true, laidKinds := [.data], laidTests := true, laidLooks := .later }
def BreakpointBisectUptoCardSaid : Prop := Claim7.holds Tryd.pinned (.plain (OpenSpec.upto breakpointBisectSpec)) breakpointBisectUptoCard

/-- THE SECOND FORM's CARD OF 'backsteplaw34.BreakpointNone'. -/
def breakpointNoneUptoCard : Claim7 := { stood := { row := breakpointNoneUptoRow, standIns := [], harness := (true, "ce2be1b9d3523017a610ffeebda8bd5f3d5e2f2b0c6998c2892560467c4f25a5"), looks := false }, kinds := [], alts := [], laidByText := true, laidKinds := [.data], laidTests := true, laidLooks := .later }
def BreakpointNoneUptoCardSaid : Prop := Claim7.holds Tryd.pinned (.plain (OpenSpec.upto breakpointNoneSpec)) breakpointNoneUptoCard

/-- THE SECOND FORM's CARD OF 'backsteplaw34.BreakpointLast'. -/
def breakpointLastUptoCard : Claim7 := { stood := { row := breakpointLastUptoRow, standIns := [], harness := (true, "ce2be1b9d3523017a610ffeebda8bd5f3d5e2f2b0c6998c2892560467c4f25a5"), looks := false }, kinds := [], alts := [], laidByText := true, laidKinds := [.data], laidTests := true, laidLooks := .later }
def BreakpointLastUptoCardSaid : Prop := Claim7.holds Tryd.pinned (.plain (OpenSpec.upto breakpointLastSpec)) breakpointLastUptoCard

/-- THE SECOND FORM's CARD OF 'backsteplaw34.BreakpointStays'. -/
def breakpointStaysUptoCard : Claim7 := { stood := { row := breakpointStaysUptoRow, standIns := [], harness := (true, "ce2be1b9d3523017a610ffeebda8bd5f3d5e2f2b0c6998c2892560467c4f25a5"), looks := false }, kinds := [], alts := [], laidByText := true, laidKinds := [.data], laidTests := true, laidLooks := .later }
def BreakpointStaysUptoCardSaid : Prop := Claim7.holds Tryd.pinned (.plain (OpenSpec.upto breakpointStaysSpec)) breakpointStaysUptoCard
end Rows
end Go.Proofs.YtiejkfomadaakaaDoor
