/-
  DERIVED. GIVEN WITH THE SEED: THE CARDS: each row of YtmdjpmfkghjlhaaDoorRows.lean that lists a variable, with what it lists TIED to the program's text (the seventh form; the later family's looks); each row that meets fmt, with fmt's text TOLD by the authors' own Lean function (tested against real Go, not proved from fmt's source: count such statements apart). THE CARD IS WHAT COUNTS. Prove the row's statement (the work); the ties are given (YtmdjpmfkghjlhaaDoorTie.lean); close each card by the builder's one call (the guide's Derived/Test/ToyasCard.lean, 'card_holds'). Laid BY PROGRAM, IN A SANDBOX (cutbox-door.mjs). By AI agents, Wed Nov 11 2026. No macro, syntax, notation, axiom, sorry.
-/
import Derived.Test.YtmdjpmfkghjlhaaDoorRows
import GoSem.ClaimSeven
namespace Go.Proofs.YtmdjpmfkghjlhaaDoor
namespace Rows

/-- THE TIED CARD OF 'backsteplaw25.VmHalts'. -/
def vmHaltsCard : Claim7 := { stood := { row := vmHaltsRow, standIns := [], harness := (true, "b4f89d7cfe253b50ba17b0da1259579168c6353c0b92f2fe43cfdb7ea3938915"), looks := false }, kinds := [], alts := [], laidByText := true, laidKinds := [.data], laidTests := true, laidLooks := .later }
def VmHaltsCardSaid : Prop := Claim7.holds Tryd.pinned (.plain (OpenSpec.ofChange vmHaltsSpec)) vmHaltsCard

/-- THE TIED CARD OF 'backsteplaw25.VmRefunds'. -/
def vmRefundsCard : Claim7 := { stood := { row := vmRefundsRow, standIns := [], harness := (true, "b4f89d7cfe253b50ba17b0da1259579168c6353c0b92f2fe43cfdb7ea3938915"), looks := false }, kinds := [], alts := [], laidByText := true, laidKinds := [.data], laidTests := true, laidLooks := .later }
def VmRefundsCardSaid : Prop := Claim7.holds Tryd.pinned (.plain (OpenSpec.ofChange vmRefundsSpec)) vmRefundsCard

/-- THE TIED CARD OF 'backsteplaw25.VmAdds'. -/
def vmAddsCard : Claim7 := { stood := { row := vmAddsRow, standIns := [], harness := (true, "b4f89d7cfe253b50ba17b0da1259579168c6353c0b92f2fe43cfdb7ea3938915"), looks := false }, kinds := [], alts := [], laidByText := true, laidKinds := [.data], laidTests := true, laidLooks := .later }
def VmAddsCardSaid : Prop := Claim7.holds Tryd.pinned (.plain (OpenSpec.ofChange vmAddsSpec)) vmAddsCard

/-- THE TIED CARD OF 'backsteplaw25.VmNew'. -/
def vmNewCard : Claim7 := { stood := { row := vmNewRow, standIns := [], harness := (true, "b4f89d7cfe253b50ba17b0da1259579168c6353c0b92f2fe43cfdb7ea3938915"), looks := false }, kinds := [], alts := [], laidByText := true, laidKinds := [.data], laidTests := true, laidLooks := .later }
def VmNewCardSaid : Prop := Claim7.holds Tryd.pinned (.plain (OpenSpec.ofChange vmNewSpec)) vmNewCard

/-- THE TIED CARD OF 'backsteplaw25.VmSteps'. -/
def vmStepsCard : Claim7 := { stood := { row := vmStepsRow, standIns := [], harness := (true, "b4f89d7cfe253b50ba17b0da1259579168c6353c0b92f2fe43cfdb7ea3938915"), looks := false }, kinds := [], alts := [], laidByText := true, laidKinds := [.data], laidTests := true, laidLooks := .later }
def VmStepsCardSaid : Prop := Claim7.holds Tryd.pinned (.plain (OpenSpec.ofChange vmStepsSpec)) vmStepsCard

/-- THE TIED CARD OF 'backsteplaw25.VmRuns'. -/
def vmRunsCard : Claim7 := { stood := { row := vmRunsRow, standIns := [], harness := (true, "b4f89d7cfe253b50ba17b0da1259579168c6353c0b92f2fe43cfdb7ea3938915"), looks := false }, kinds := [], alts := [], laidByText := true, laidKinds := [.data], laidTests := true, laidLooks := .later }
def VmRunsCardSaid : Prop := Claim7.holds Tryd.pinned (.plain (OpenSpec.ofChange vmRunsSpec)) vmRunsCard

/-- THE TIED CARD OF 'backsteplaw25.VmReturns'. -/
def vmReturnsCard : Claim7 := { stood := { row := vmReturnsRow, standIns := [], harness := (true, "b4f89d7cfe253b50ba17b0da1259579168c6353c0b92f2fe43cfdb7ea3938915"), looks := false }, kinds := [], alts := [], laidByText := true, laidKinds := [.data], laidTests := true, laidLooks := .later }
def VmReturnsCardSaid : Prop := Claim7.holds Tryd.pinned (.plain (OpenSpec.ofChange vmReturnsSpec)) vmReturnsCard

/-- THE TIED CARD OF 'backsteplaw33.DebuggerNext'. -/
def debuggerNextCard : Claim7 := { stood := { row := debuggerNextRow, standIns := [], harness := (true, "b4f89d7cfe253b50ba17b0da1259579168c6353c0b92f2fe43cfdb7ea3938915"), looks := false }, kinds := [], alts := [], laidByText := true, laidKinds := [.data], laidTests := true, laidLooks := .later }
def DebuggerNextCardSaid : Prop := Claim7.holds Tryd.pinned (.plain (OpenSpec.ofChange debuggerNextSpec)) debuggerNextCard

/-- THE TIED CARD OF 'backsteplaw33.DebuggerNew'. -/
def debuggerNewCard : Claim7 := { stood := { row := debuggerNewRow, standIns := [], harness := (true, "b4f89d7cfe253b50ba17b0da1259579168c6353c0b92f2fe43cfdb7ea3938915"), looks := false }, kinds := [], alts := [], laidByText := true, laidKinds := [.data], laidTests := true, laidLooks := .later }
def DebuggerNewCardSaid : Prop := Claim7.holds Tryd.pinned (.plain (OpenSpec.ofChange debuggerNewSpec)) debuggerNewCard

/-- THE TIED CARD OF 'backsteplaw33.DebuggerSteps'. -/
def debuggerStepsCard : Claim7 := { stood := { row := debuggerStepsRow, standIns := [], harness := (true, "b4f89d7cfe253b50ba17b0da1259579168c6353c0b92f2fe43cfdb7ea3938915"), looks := false }, kinds := [], alts := [], laidByText := true, laidKinds := [.data], laidTests := true, laidLooks := .later }
def DebuggerStepsCardSaid : Prop := Claim7.holds Tryd.pinned (.plain (OpenSpec.ofChange debuggerStepsSpec)) debuggerStepsCard

/-- THE TIED CARD OF 'backsteplaw33.DebuggerAgain'. -/
def debuggerAgainCard : Claim7 := { stood := { row := debuggerAgainRow, standIns := [], harness := (true, "b4f89d7cfe253b50ba17b0da1259579168c6353c0b92f2fe43cfdb7ea3938915"), looks := false }, kinds := [], alts := [], laidByText := true, laidKinds := [.data], laidTests := true, laidLooks := .later }
def DebuggerAgainCardSaid : Prop := Claim7.holds Tryd.pinned (.plain (OpenSpec.ofChange debuggerAgainSpec)) debuggerAgainCard

/-- THE TIED CARD OF 'backsteplaw33.DebuggerNone'. -/
def debuggerNoneCard : Claim7 := { stood := { row := debuggerNoneRow, standIns := [], harness := (true, "b4f89d7cfe253b50ba17b0da1259579168c6353c0b92f2fe43cfdb7ea3938915"), looks := false }, kinds := [], alts := [], laidByText := true, laidKinds := [.data], laidTests := true, laidLooks := .later }
def DebuggerNoneCardSaid : Prop := Claim7.holds Tryd.pinned (.plain (OpenSpec.ofChange debuggerNoneSpec)) debuggerNoneCard

/-- THE SECOND FORM's CARD OF 'backsteplaw25.VmHalts'. -/
def vmHaltsUptoCard : Claim7 := { stood := { row := vmHaltsUptoRow, standIns := [], harness := (true, "b4f89d7cfe253b50ba17b0da1259579168c6353c0b92f2fe43cfdb7ea3938915"), looks := false }, kinds := [], alts := [], laidByText := true, laidKinds := [.data], laidTests := true, laidLooks := .later }
def VmHaltsUptoCardSaid : Prop := Claim7.holds Tryd.pinned (.plain (OpenSpec.upto vmHaltsSpec)) vmHaltsUptoCard

/-- THE SECOND FORM's CARD OF 'backsteplaw25.VmRefunds'. -/
def vmRefundsUptoCard : Claim7 := { stood := { row := vmRefundsUptoRow, standIns := [], harness := (true, "b4f89d7cfe253b50ba17b0da1259579168c6353c0b92f2fe43cfdb7ea3938915"), looks := false }, kinds := [], alts := [], laidByText := true, laidKinds := [.data], laidTests := true, laidLooks := .later }
def VmRefundsUptoCardSaid : Prop := Claim7.holds Tryd.pinned (.plain (OpenSpec.upto vmRefundsSpec)) vmRefundsUptoCard

/-- THE SECOND FORM's CARD OF 'backsteplaw25.VmAdds'. -/
def vmAddsUptoCard : Claim7 := { stood := { row := vmAddsUptoRow, standIns := [], harness := (true, "b4f89d7cfe253b50ba17b0da1259579168c6353c0b92f2fe43cfdb7ea3938915"), looks := false }, kinds := [], alts := [], laidByText := true, laidKinds := [.data], laidTests := true, laidLooks := .later }
def VmAddsUptoCardSaid : Prop := Claim7.holds Tryd.pinned (.plain (OpenSpec.upto vmAddsSpec)) vmAddsUptoCard

/-- THE SECOND FORM's CARD OF 'backsteplaw25.VmNew'. -/
def vmNewUptoCard : Claim7 := { stood := { row := vmNewUptoRow, standIns := [], harness := (true, "b4f89d7cfe253b50ba17b0da1259579168c6353c0b92f2fe43cfdb7ea3938915"), looks := false }, kinds := [], alts := [], laidByText := true, laidKinds := [.data], laidTests := true, laidLooks := .later }
def VmNewUptoCardSaid : Prop := Claim7.holds Tryd.pinned (.plain (OpenSpec.upto vmNewSpec)) vmNewUptoCard

/-- THE SECOND FORM's CARD OF 'backsteplaw25.VmSteps'. -/
def vmStepsUptoCard : Claim7 := { stood := { row := vmStepsUptoRow, standIns := [], harness := (true, "b4f89d7cfe253b50ba17b0da1259579168c6353c0b92f2fe43cfdb7ea3938915"), looks := false }, kinds := [], alts := [], laidByText := true, laidKinds := [.data], laidTests := true, laidLooks := .later }
def VmStepsUptoCardSaid : Prop := Claim7.holds Tryd.pinned (.plain (OpenSpec.upto vmStepsSpec)) vmStepsUptoCard

/-- THE SECOND FORM's CARD OF 'backsteplaw25.VmRuns'. -/
def vmRunsUptoCard : Claim7 := { stood := { row := vmRunsUptoRow, standIns := [], harness := (true, "b4f89d7cfe253b50ba17b0da1259579168c6353c0b92f2fe43cfdb7ea3938915"), looks := false }, kinds := [], alts := [], laidByText := true, laidKinds := [.data], laidTests := true, laidLooks := .later }
def VmRunsUptoCardSaid : Prop := Claim7.holds Tryd.pinned (.plain (OpenSpec.upto vmRunsSpec)) vmRunsUptoCard

/-- THE SECOND FORM's CARD OF 'backsteplaw25.VmReturns'. -/
def vmReturnsUptoCard : Claim7 := { stood := { row := vmReturnsUptoRow, standIns := [], harness := (true, "b4f89d7cfe253b50ba17b0da1259579168c6353c0b92f2fe43cfdb7ea3938915"), looks := false }, kinds := [], alts := [], laidByText := true, laidKinds := [.data], laidTests := true, laidLooks := .later }
def VmReturnsUptoCardSaid : Prop := Claim7.holds Tryd.pinned (.plain (OpenSpec.upto vmReturnsSpec)) vmReturnsUptoCard

/-- THE SECOND FORM's CARD OF 'backsteplaw33.DebuggerNext'. -/
def debuggerNextUptoCard : Claim7 := { stood := { row := debuggerNextUptoRow, standIns := [], harness := (true, "b4f89d7cfe253b50ba17b0da1259579168c6353c0b92f2fe43cfdb7ea3938915"), looks := false }, kinds := [], alts := [], laidByText := true, laidKinds := [.data], laidTests := true, laidLooks := .later }
def DebuggerNextUptoCardSaid : Prop := Claim7.holds Tryd.pinned (.plain (OpenSpec.upto debuggerNextSpec)) debuggerNextUptoCard

/-- THE SECOND FORM's CARD OF 'backsteplaw33.DebuggerNew'. -/
def debuggerNewUptoCard : Claim7 := { stood := { row := debuggerNewUptoRow, standIns := [], harness := (true, "b4f89d7cfe253b50ba17b0da1259579168c6353c0b92f2fe43cfdb7ea3938915"), looks := false }, kinds := [], alts := [], laidByText := true, laidKinds := [.data], laidTests := true, laidLooks := .later }
def DebuggerNewUptoCardSaid : Prop := Claim7.holds Tryd.pinned (.plain (OpenSpec.upto debuggerNewSpec)) debuggerNewUptoCard

/-- THE SECOND FORM's CARD OF 'backsteplaw33.DebuggerSteps'. -/
def debuggerStepsUptoCard : Claim7 := { stood := { row := debuggerStepsUptoRow, standIns := [], harness := (true, "b4f89d7cfe253b50ba17b0da1259579168c6353c0b92f2fe43cfdb7ea3938915"), looks := false }, kinds := [], alts := [], laidByText := true, laidKinds := [.data], laidTests := true, laidLooks := .later }
def DebuggerStepsUptoCardSaid : Prop := Claim7.holds Tryd.pinned (.plain (OpenSpec.upto debuggerStepsSpec)) debuggerStepsUptoCard

/-- THE SECOND FORM's CARD OF 'backsteplaw33.DebuggerAgain'. -/
def debuggerAgainUptoCard : Claim7 := { stood := { row := debuggerAgainUptoRow, standIns := [], harness := (true, "b4f89d7cfe253b50ba17b0da1259579168c6353c0b92f2fe43cfdb7ea3938915"), looks := false }, kinds := [], alts := [], laidByText := true, laidKinds := [.data], laidTests := true, laidLooks := .later }
def DebuggerAgainUptoCardSaid : Prop := Claim7.holds Tryd.pinned (.plain (OpenSpec.upto debuggerAgainSpec)) debuggerAgainUptoCard

/-- THE SECOND FORM's CARD OF 'backsteplaw33.DebuggerNone'. -/
def debuggerNoneUptoCard : Claim7 := { stood := { row := debuggerNoneUptoRow, standIns := [], harness := (true, "b4f89d7cfe253b50ba17b0da1259579168c6353c0b92f2fe43cfdb7ea3938915"), looks := false }, kinds := [], alts := [], laidByText := true, laidKinds := [.data], laidTests := true, laidLooks := .later }
def DebuggerNoneUptoCardSaid : Prop := Claim7.holds Tryd.pinned (.plain (OpenSpec.upto debuggerNoneSpec)) debuggerNoneUptoCard
end Rows
end Go.Proofs.YtmdjpmfkghjlhaaDoor
