/- The walks of the reference's Fits where the first test passes. -/
import Derived.Test.YteenmpjjaheggaaDoorZLwA
set_option linter.unusedVariables false
set_option linter.unusedSimpArgs false
namespace Go.Proofs.YteenmpjjaheggaaDoor
open Go.RowKit Bk
end Go.Proofs.YteenmpjjaheggaaDoor
