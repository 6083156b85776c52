/- few: how many words fractions of a list have. -/
import Derived.Test.YtajckdheecgceaaFloor
set_option linter.unusedVariables false
set_option linter.unusedSimpArgs false
namespace Go.Proofs.Ytajckdheecgceaa
open Go.RowKit

end Go.Proofs.Ytajckdheecgceaa
