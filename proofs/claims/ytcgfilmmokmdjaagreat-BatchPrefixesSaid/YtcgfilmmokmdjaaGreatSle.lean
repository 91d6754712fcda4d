/- A part of the walk. -/
import Derived.Test.YtcgfilmmokmdjaaGreatQAL
set_option linter.all false
namespace Go.Proofs.YtcgfilmmokmdjaaGreat
open Go.RowKit
end Go.Proofs.YtcgfilmmokmdjaaGreat
