/- The walks of the reference's Fits where the first test fails. -/
import Derived.Test.YteenmpjjaheggaaDoorCpX
set_option linter.unusedVariables false
set_option linter.unusedSimpArgs false
namespace Go.Proofs.YteenmpjjaheggaaDoor
open Go.RowKit Bk
/-- The first test, as a whole. -/
def rtestB (n : Nat) (im : Img) (M : Mach) : Bool := decide (M.dir = 1 ∨ M.dir = -1) && decide (0 ≤ M.pc ∧ M.pc ≤ n ∧ (M.m.length : Int) = im.mem ∧ (M.s.length : Int) = im.stacks ∧ 1 ≤ im.stacks ∧ M.calls.length ≤ 100 ∧ M.inp.length ≤ 4096 ∧ M.out.length ≤ 4096 ∧ 0 ≤ M.fp ∧ M.fp ≤ im.mem ∧ 0 ≤ M.sb ∧ M.sb ≤ im.stacks)
end Go.Proofs.YteenmpjjaheggaaDoor
