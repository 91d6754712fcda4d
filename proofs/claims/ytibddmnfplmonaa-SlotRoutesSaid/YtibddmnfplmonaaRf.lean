/- The reference's Find, Drop and Put: the walks. -/
import Derived.Test.YtibddmnfplmonaaPr
import Derived.Test.YtibddmnfplmonaaBx
import Derived.Test.YtibddmnfplmonaaSo
import Derived.Test.YtibddmnfplmonaaSm
import Derived.Deep.DeepCutAuto
namespace Go.Proofs.Ytibddmnfplmonaa
open Go.RowKit

/-- A one-item slice just laid, behind another new block. -/
theorem rd_lit (W : World) (x : It) : Rd (W.alloc (boxC x)) 4 (.slice (some ⟨W.heap.size, 0, none⟩) 1 1) 1 (itC x) := Rd.new W 4 (itC x) 35 1 rfl (by decide)
end Go.Proofs.Ytibddmnfplmonaa
