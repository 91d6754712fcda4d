/- The walk over the reference's Sorted. -/
import Derived.Test.YtibddmnfplmonaaIv
import Derived.Test.YtibddmnfplmonaaPs
import Derived.Deep.RegionLaw
import Derived.Deep.RegionWith
namespace Go.Proofs.Ytibddmnfplmonaa
open Go.RowKit

theorem ne_row {wo : World} {base : Nat} {a oa : Option Addr} {oc m : Nat} {xs : List Value} (h : ∀ z, a = some z → wo.heap.size ≤ z.block) (ho : wo.ownsRow base 35 4 (.slice oa m oc) m xs) (k : Nat) :
    ∀ z, a = some z → some z.block ≠ (Value.slice oa k oc).ownBlock := by
  intro z hz e
  have h1 := h z hz
  have h2 := ho.lt z.block (by rw [e]; cases oa <;> rfl)
  omega
end Go.Proofs.Ytibddmnfplmonaa
