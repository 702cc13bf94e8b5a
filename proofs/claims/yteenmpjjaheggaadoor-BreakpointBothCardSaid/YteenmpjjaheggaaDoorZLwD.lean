/- The walk of fits of the laws of layer 24. -/
import Derived.Test.YteenmpjjaheggaaDoorZLwB
import Derived.Test.YteenmpjjaheggaaDoorZLwC
import Derived.Test.YteenmpjjaheggaaDoorCpV
set_option linter.unusedVariables false
set_option linter.unusedSimpArgs false
set_option maxRecDepth 100000
namespace Go.Proofs.YteenmpjjaheggaaDoor
open Go.RowKit Bk
theorem fitsB_eq {n : Nat} {im : Img} {M : Mach} (hn : n = im.code.length) : fitsB im M = (rtestB n im M && ((M.s.drop 1).all (fun l => decide (l.length ≤ 1000)) && M.calls.all (fun a => decide (0 ≤ a.1 ∧ a.1 < (n : Int))))) := by
  subst hn
  unfold fitsB rtestB
  rw [Bool.eq_iff_iff]
  simp only [Bool.and_eq_true, decide_eq_true_eq]
  constructor
  · rintro ⟨⟨⟨⟨⟨⟨⟨h1, h2⟩, h3⟩, h4⟩, h5⟩, h6⟩, h7⟩, h8⟩
    exact ⟨⟨h1, by omega⟩, h5, h6⟩
  · rintro ⟨⟨h1, h2⟩, h5, h6⟩
    exact ⟨⟨⟨⟨⟨⟨⟨h1, by omega⟩, by omega⟩, by omega⟩, h5⟩, h6⟩, by omega⟩, by omega⟩
/-- What the laws of layer 24 speak of. -/
def okB (im : Img) (M : Mach) : Bool := !greatB im M && (im.valid && fitsB im M)
end Go.Proofs.YteenmpjjaheggaaDoor
