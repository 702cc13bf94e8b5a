/-
  DERIVED. GIVEN WITH THE SEED: THE CARDS: each row of YtakfdnnlhjhcfaaGreatDoorRows.lean that lists a variable, with what it lists TIED to the program's text (the seventh form; the later family's looks); each row that meets fmt, with fmt's text TOLD by the authors' own Lean function (tested against real Go, not proved from fmt's source: count such statements apart). THE CARD IS WHAT COUNTS. Prove the row's statement (the work); the ties are given (YtakfdnnlhjhcfaaGreatDoorTie.lean); close each card by the builder's one call (the guide's Derived/Test/ToyasCard.lean, 'card_holds'). Laid BY PROGRAM, IN A SANDBOX (cutbox-door.mjs). By AI agents, Wed Nov 11 2026. No macro, syntax, notation, axiom, sorry.
-/
import Derived.Test.YtakfdnnlhjhcfaaGreatDoorRows
import GoSem.ClaimSeven
namespace Go.Proofs.YtakfdnnlhjhcfaaGreatDoor
namespace Rows

/-- THE TIED CARD OF 'backsteptop.WholeAtomic'. -/
def wholeAtomicCard : Claim7 := { stood := { row := wholeAtomicRow, standIns := [], harness := (true, "181b16e34fa0a814baaac6548750fcc963fbbe111bb97fdf02788d92291428fb"), looks := true }, kinds := [], alts := [], laidByText := true, laidKinds := [.data, .data, .data, .data, .sentinel, .sentinel], laidTests := true, laidLooks := .later }
def WholeAtomicCardSaid : Prop := Claim7.holds Tryz.pinned (.plain (OpenSpec.ofChange wholeAtomicSpec)) wholeAtomicCard

/-- THE TIED CARD OF 'backsteptop.WholeInjective'. -/
def wholeInjectiveCard : Claim7 := { stood := { row := wholeInjectiveRow, standIns := [], harness := (true, "181b16e34fa0a814baaac6548750fcc963fbbe111bb97fdf02788d92291428fb"), looks := true }, kinds := [], alts := [], laidByText := true, laidKinds := [.data, .data, .data, .data, .sentinel, .sentinel], laidTests := true, laidLooks := .later }
def WholeInjectiveCardSaid : Prop := Claim7.holds Tryz.pinned (.plain (OpenSpec.ofChange wholeInjectiveSpec)) wholeInjectiveCard

/-- THE TIED CARD OF 'backsteptop.WholeThereAndBack'. -/
def wholeThereAndBackCard : Claim7 := { stood := { row := wholeThereAndBackRow, standIns := [], harness := (true, "181b16e34fa0a814baaac6548750fcc963fbbe111bb97fdf02788d92291428fb"), looks := true }, kinds := [], alts := [], laidByText := true, laidKinds := [.data, .data, .data, .data, .sentinel, .sentinel], laidTests := true, laidLooks := .later }
def WholeThereAndBackCardSaid : Prop := Claim7.holds Tryz.pinned (.plain (OpenSpec.ofChange wholeThereAndBackSpec)) wholeThereAndBackCard

/-- THE SECOND FORM's CARD OF 'backsteptop.WholeAtomic'. -/
def wholeAtomicUptoCard : Claim7 := { stood := { row := wholeAtomicUptoRow, standIns := [], harness := (true, "181b16e34fa0a814baaac6548750fcc963fbbe111bb97fdf02788d92291428fb"), looks := true }, kinds := [], alts := [], laidByText := true, laidKinds := [.data, .data, .data, .data, .sentinel, .sentinel], laidTests := true, laidLooks := .later }
def WholeAtomicUptoCardSaid : Prop := Claim7.holds Tryz.pinned (.plain (OpenSpec.upto wholeAtomicSpec)) wholeAtomicUptoCard

/-- THE SECOND FORM's CARD OF 'backsteptop.WholeInjective'. -/
def wholeInjectiveUptoCard : Claim7 := { stood := { row := wholeInjectiveUptoRow, standIns := [], harness := (true, "181b16e34fa0a814baaac6548750fcc963fbbe111bb97fdf02788d92291428fb"), looks := true }, kinds := [], alts := [], laidByText := true, laidKinds := [.data, .data, .data, .data, .sentinel, .sentinel], laidTests := true, laidLooks := .later }
def WholeInjectiveUptoCardSaid : Prop := Claim7.holds Tryz.pinned (.plain (OpenSpec.upto wholeInjectiveSpec)) wholeInjectiveUptoCard

/-- THE SECOND FORM's CARD OF 'backsteptop.WholeThereAndBack'. -/
def wholeThereAndBackUptoCard : Claim7 := { stood := { row := wholeThereAndBackUptoRow, standIns := [], harness := (true, "181b16e34fa0a814baaac6548750fcc963fbbe111bb97fdf02788d92291428fb"), looks := true }, kinds := [], alts := [], laidByText := true, laidKinds := [.data, .data, .data, .data, .sentinel, .sentinel], laidTests := true, laidLooks := .later }
def WholeThereAndBackUptoCardSaid : Prop := Claim7.holds Tryz.pinned (.plain (OpenSpec.upto wholeThereAndBackSpec)) wholeThereAndBackUptoCard
end Rows
end Go.Proofs.YtakfdnnlhjhcfaaGreatDoor
