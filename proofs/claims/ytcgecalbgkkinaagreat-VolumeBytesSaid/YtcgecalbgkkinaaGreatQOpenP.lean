/- One text of: OpenP. -/
import Derived.Test.YtcgecalbgkkinaaGreatQPol2
import Derived.Test.YtcgecalbgkkinaaGreatQOpen
namespace Go.Proofs.YtcgecalbgkkinaaGreat
open Go.ChangeShapes Go.WideShapes Go.ChangeAt Go.RowKit Go.Joins
set_option linter.unusedVariables false
set_option maxRecDepth 100000

end Go.Proofs.YtcgecalbgkkinaaGreat
