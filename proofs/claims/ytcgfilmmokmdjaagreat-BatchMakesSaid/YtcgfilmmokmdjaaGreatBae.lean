import Derived.Test.YtcgfilmmokmdjaaGreatQAX
import Derived.Test.YtcgfilmmokmdjaaGreatHg
import Derived.Laws.EntriesVeiled
import Derived.Lib.SmallJoins
set_option linter.all false
namespace Go.Proofs.YtcgfilmmokmdjaaGreat
open Go.RowKit
end Go.Proofs.YtcgfilmmokmdjaaGreat
