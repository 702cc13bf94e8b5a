/-
  DERIVED. GIVEN WITH THE SEED: THE CARDS: each row of YtfobnkgfbdmakaaDoorRows.lean that lists a variable, with what it lists TIED to the program's text (the seventh form; the later family's looks); each row that meets fmt, with fmt's text TOLD by the authors' own Lean function (tested against real Go, not proved from fmt's source: count such statements apart). THE CARD IS WHAT COUNTS. Prove the row's statement (the work); the ties are given (YtfobnkgfbdmakaaDoorTie.lean); close each card by the builder's one call (the guide's Derived/Test/ToyasCard.lean, 'card_holds'). Laid BY PROGRAM, IN A SANDBOX (cutbox-door.mjs). By AI agents, Wed Nov 11 2026. No macro, syntax, notation, axiom, sorry.
-/
import Derived.Test.YtfobnkgfbdmakaaDoorRows
import GoSem.ClaimSeven
namespace Go.Proofs.YtfobnkgfbdmakaaDoor
namespace Rows

/-- THE TIED CARD OF 'backsteplaw32.PeepholeCancels'. -/
def peepholeCancelsCard : Claim7 := { stood := { row := peepholeCancelsRow, standIns := [], harness := (true, "b9184f00b8d3f0d141429231fd9113bd8c79358be072b2c01c305c6054eb5f34"), looks := false }, kinds := [], alts := [], laidByText := true, laidKinds := [.data], laidTests := true, laidLooks := .later }
def PeepholeCancelsCardSaid : Prop := Claim7.holds Tryd.pinned (.plain (OpenSpec.ofChange peepholeCancelsSpec)) peepholeCancelsCard

/-- THE TIED CARD OF 'backsteplaw32.PeepholeVanishes'. -/
def peepholeVanishesCard : Claim7 := { stood := { row := peepholeVanishesRow, standIns := [], harness := (true, "b9184f00b8d3f0d141429231fd9113bd8c79358be072b2c01c305c6054eb5f34"), looks := false }, kinds := [], alts := [], laidByText := true, laidKinds := [.data], laidTests := true, laidLooks := .later }
def PeepholeVanishesCardSaid : Prop := Claim7.holds Tryd.pinned (.plain (OpenSpec.ofChange peepholeVanishesSpec)) peepholeVanishesCard

/-- THE TIED CARD OF 'backsteplaw32.PeepholeOptimize'. -/
def peepholeOptimizeCard : Claim7 := { stood := { row := peepholeOptimizeRow, standIns := [], harness := (true, "b9184f00b8d3f0d141429231fd9113bd8c79358be072b2c01c305c6054eb5f34"), looks := false }, kinds := [], alts := [], laidByText := true, laidKinds := [.data], laidTests := true, laidLooks := .later }
def PeepholeOptimizeCardSaid : Prop := Claim7.holds Tryd.pinned (.plain (OpenSpec.ofChange peepholeOptimizeSpec)) peepholeOptimizeCard

/-- THE TIED CARD OF 'backsteplaw32.PeepholeNormal'. -/
def peepholeNormalCard : Claim7 := { stood := { row := peepholeNormalRow, standIns := [], harness := (true, "b9184f00b8d3f0d141429231fd9113bd8c79358be072b2c01c305c6054eb5f34"), looks := false }, kinds := [], alts := [], laidByText := true, laidKinds := [.data], laidTests := true, laidLooks := .later }
def PeepholeNormalCardSaid : Prop := Claim7.holds Tryd.pinned (.plain (OpenSpec.ofChange peepholeNormalSpec)) peepholeNormalCard

/-- THE TIED CARD OF 'backsteplaw32.PeepholeKeeps'. -/
def peepholeKeepsCard : Claim7 := { stood := { row := peepholeKeepsRow, standIns := [], harness := (true, "b9184f00b8d3f0d141429231fd9113bd8c79358be072b2c01c305c6054eb5f34"), looks := false }, kinds := [], alts := [], laidByText := true, laidKinds := [.data], laidTests := true, laidLooks := .later }
def PeepholeKeepsCardSaid : Prop := Claim7.holds Tryd.pinned (.plain (OpenSpec.ofChange peepholeKeepsSpec)) peepholeKeepsCard

/-- THE TIED CARD OF 'backsteplaw32.PeepholeInverse'. -/
def peepholeInverseCard : Claim7 := { stood := { row := peepholeInverseRow, standIns := [], harness := (true, "b9184f00b8d3f0d141429231fd9113bd8c79358be072b2c01c305c6054eb5f34"), looks := false }, kinds := [], alts := [], laidByText := true, laidKinds := [.data], laidTests := true, laidLooks := .later }
def PeepholeInverseCardSaid : Prop := Claim7.holds Tryd.pinned (.plain (OpenSpec.ofChange peepholeInverseSpec)) peepholeInverseCard

/-- THE SECOND FORM's CARD OF 'backsteplaw32.PeepholeCancels'. -/
def peepholeCancelsUptoCard : Claim7 := { stood := { row := peepholeCancelsUptoRow, standIns := [], harness := (true, "b9184f00b8d3f0d141429231fd9113bd8c79358be072b2c01c305c6054eb5f34"), looks := false }, kinds := [], alts := [], laidByText := true, laidKinds := [.data], laidTests := true, laidLooks := .later }
def PeepholeCancelsUptoCardSaid : Prop := Claim7.holds Tryd.pinned (.plain (OpenSpec.upto peepholeCancelsSpec)) peepholeCancelsUptoCard

/-- THE SECOND FORM's CARD OF 'backsteplaw32.PeepholeVanishes'. -/
def peepholeVanishesUptoCard : Claim7 := { stood := { row := peepholeVanishesUptoRow, standIns := [], harness := (true, "b9184f00b8d3f0d141429231fd9113bd8c79358be072b2c01c305c6054eb5f34"), looks := false }, kinds := [], alts := [], laidByText := true, laidKinds := [.data], laidTests := true, laidLooks := .later }
def PeepholeVanishesUptoCardSaid : Prop := Claim7.holds Tryd.pinned (.plain (OpenSpec.upto peepholeVanishesSpec)) peepholeVanishesUptoCard

/-- THE SECOND FORM's CARD OF 'backsteplaw32.PeepholeOptimize'. -/
def peepholeOptimizeUptoCard : Claim7 := { stood := { row := peepholeOptimizeUptoRow, standIns := [], harness := (true, "b9184f00b8d3f0d141429231fd9113bd8c79358be072b2c01c305c6054eb5f34"), looks := false }, kinds := [], alts := [], laidByText := true, laidKinds := [.data], laidTests := true, laidLooks := .later }
def PeepholeOptimizeUptoCardSaid : Prop := Claim7.holds Tryd.pinned (.plain (OpenSpec.upto peepholeOptimizeSpec)) peepholeOptimizeUptoCard

/-- THE SECOND FORM's CARD OF 'backsteplaw32.PeepholeNormal'. -/
def peepholeNormalUptoCard : Claim7 := { stood := { row := peepholeNormalUptoRow, standIns := [], harness := (true, "b9184f00b8d3f0d141429231fd9113bd8c79358be072b2c01c305c6054eb5f34"), looks := false }, kinds := [], alts := [], laidByText := true, laidKinds := [.data], laidTests := true, laidLooks := .later }
def PeepholeNormalUptoCardSaid : Prop := Claim7.holds Tryd.pinned (.plain (OpenSpec.upto peepholeNormalSpec)) peepholeNormalUptoCard

/-- THE SECOND FORM's CARD OF 'backsteplaw32.PeepholeKeeps'. -/
def peepholeKeepsUptoCard : Claim7 := { stood := { row := peepholeKeepsUptoRow, standIns := [], harness := (true, "b9184f00b8d3f0d141429231fd9113bd8c79358be072b2c01c305c6054eb5f34"), looks := false }, kinds := [], alts := [], laidByText := true, laidKinds := [.data], laidTests := true, laidLooks := .later }
def PeepholeKeepsUptoCardSaid : Prop := Claim7.holds Tryd.pinned (.plain (OpenSpec.upto peepholeKeepsSpec)) peepholeKeepsUptoCard

/-- THE SECOND FORM's CARD OF 'backsteplaw32.PeepholeInverse'. -/
def peepholeInverseUptoCard : Claim7 := { stood := { row := peepholeInverseUptoRow, standIns := [], harness := (true, "b9184f00b8d3f0d141429231fd9113bd8c79358be072b2c01c305c6054eb5f34"), looks := false }, kinds := [], alts := [], laidByText := true, laidKinds := [.data], laidTests := true, laidLooks := .later }
def PeepholeInverseUptoCardSaid : Prop := Claim7.holds Tryd.pinned (.plain (OpenSpec.upto peepholeInverseSpec)) peepholeInverseUptoCard
end Rows
end Go.Proofs.YtfobnkgfbdmakaaDoor
