/- What is known of an item that came in by value. -/
import Derived.Test.YtbfflgkijiggfaaOp
namespace Go.Proofs.Ytbfflgkijiggfaa
open Go.RowKit Go.ChangeShapes Go.WideShapes Go.Deep

theorem open_itemv {H : Type} {enc : TypeId × Value → H} {w : World} {cs : Array Value} {d : DataW H} {p : List MemPlace} (h : DataW.Trod enc Try.prog w 0 (fun _ => true) true 36 (.agg cs) d p) : ∃ y : It, cs = #[.int .u64 y.key, .int .u32 y.ck, .int .i64 y.off, .int .i64 y.size] ∧ y.Wf := by
  obtain ⟨fuel, hf⟩ := h
  obtain ⟨y, hy, hw⟩ := open_item hf
  have hy : cs.toList = itC y := hy
  exact ⟨y, by rw [← Array.toArray_toList (xs := cs), hy]; rfl, hw⟩
end Go.Proofs.Ytbfflgkijiggfaa
