/- One text of: Fair. -/
import Derived.Test.YtcgecalbgkkinaaGreatQFix
namespace Go.Proofs.YtcgecalbgkkinaaGreat
open Go.RowKit

end Go.Proofs.YtcgecalbgkkinaaGreat
