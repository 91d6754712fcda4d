/- Slices of uint64. -/
import Derived.Test.YtbfflgkijiggfaaDf
namespace Go.Proofs.Ytbfflgkijiggfaa
open Go.RowKit

theorem elemU : ElemT Try.prog 31 32 1 8 := by
  obtain ⟨i, hi, hz, hs, hb⟩ := info_parts (P := Try.prog) (e := 32) (z := .int .u64 0) (size := 1) (bytes := 8) (by kernel_rfl)
  exact ⟨Try.underlying31, by decide, i, _, hi, hz, hs, hb, rfl⟩
theorem ulist_one (l : List Int) : ∀ u ∈ l.map u64V, u.oneCell' = true := one_map _ (fun _ => rfl) l
end Go.Proofs.Ytbfflgkijiggfaa
