/-
  No cell of these rows narrows 'for every input' (looked for: loops, veiled, ifaces, maps, wideKeys, modest, calm, conditions, laid).
  DERIVED. THE GIVEN ROWS OF THIS SEAT. 6 by the template 'for every input the law returns true; each argument reads behind the call as it read before'; 0 by the template 'total and deterministic' (their statements: YtcgfilmmokmdjaaGreatTotals.lean).
  GIVEN WITH THE SEED: the statements are not yours to turn. If you find one false, say at which input.
  Laid BY PROGRAM, IN A SANDBOX (cutbox-rows.mjs): the forced cells as the released guide's own fill.sh prints them over the translation d7da0dd4a4a45f7a… (all of the seat's roots in one cut). By AI agents, Wed Nov 11 2026. No macro, syntax, notation, axiom, sorry.
-/
import Derived.Test.YtcgfilmmokmdjaaGreatChecked
import GoSem.Claim
import GoSem.ClaimJoined
import GoSem.ClaimMapViews
import Derived.JoinedTies
import Derived.KernelRfl
namespace Go.Proofs.YtcgfilmmokmdjaaGreat
/- THE CELL 'sum', in the pinned program and in every row, IS THE sha256 OF THE DUMP (.gsa) THAT YtcgfilmmokmdjaaGreatProg.lean LOADS. Nothing in Lean hashes anything: it is a label: what it is worth is what the hold of that sum in a sandbox is worth. -/
noncomputable def Tryz.pinned : Pinned := { name := "ytcgfilmmokmdjaagreat", sum := "d7da0dd4a4a45f7a735aeb16ad70b87dde5a00d2c99aea7a7ed9a77307e4de62", checked := Tryz.checked }
namespace Rows
def none {H : Type} : Left H := { results := [], args := [] }

/-- 'needlestorelaw13.SlotCurrent': WHATEVER THE INPUT: true; the input reads as it did. -/
def slotCurrentSpec : ChangeSpec := { name := "slotCurrent", fn := fun _ => fun
  | [d1, d2, d3] => { results := [.lit (.bool true)], args := [d1, d2, d3] }
  | _ => none }
def slotCurrentRow : OpenClaim := { program := "ytcgfilmmokmdjaagreat", sum := "d7da0dd4a4a45f7a735aeb16ad70b87dde5a00d2c99aea7a7ed9a77307e4de62", func := "needlestore/needlestorelaw13.SlotCurrent", spec := "slotCurrent", inPlace := ["slices.overlaps[needlestore/api.Item]"], unfollowed := true, recurses := true, apart := false }
def SlotCurrentSaid : Prop := slotCurrentRow.holds Tryz.pinned (OpenSpec.ofChange slotCurrentSpec)

/-- ITS FALSE NEIGHBOUR: 'it returns false'. Refute it at one input. -/
def slotCurrentWrong : ChangeSpec := { name := "slotCurrent", fn := fun _ => fun
  | [d1, d2, d3] => { results := [.lit (.bool false)], args := [d1, d2, d3] }
  | _ => none }
def SlotCurrentWrongFalsely : Prop := slotCurrentRow.holds Tryz.pinned (OpenSpec.ofChange slotCurrentWrong)

/-- 'needlestorelaw15.BatchMakes': WHATEVER THE INPUT: true; the input reads as it did. -/
def batchMakesSpec : ChangeSpec := { name := "batchMakes", fn := fun _ => fun
  | [d1, d2, d3, d4] => { results := [.lit (.bool true)], args := [d1, d2, d3, d4] }
  | _ => none }
def batchMakesRow : OpenClaim := { program := "ytcgfilmmokmdjaagreat", sum := "d7da0dd4a4a45f7a735aeb16ad70b87dde5a00d2c99aea7a7ed9a77307e4de62", func := "needlestore/needlestorelaw15.BatchMakes", spec := "batchMakes", inPlace := ["slices.overlaps[needlestore/api.Item]", "slices.overlaps[needlestore/batch.Kill]"], unfollowed := true, recurses := true, apart := false }
def BatchMakesSaid : Prop := batchMakesRow.holds Tryz.pinned (OpenSpec.ofChange batchMakesSpec)

/-- ITS FALSE NEIGHBOUR: 'it returns false'. Refute it at one input. -/
def batchMakesWrong : ChangeSpec := { name := "batchMakes", fn := fun _ => fun
  | [d1, d2, d3, d4] => { results := [.lit (.bool false)], args := [d1, d2, d3, d4] }
  | _ => none }
def BatchMakesWrongFalsely : Prop := batchMakesRow.holds Tryz.pinned (OpenSpec.ofChange batchMakesWrong)

/-- 'needlestorelaw15.BatchPrefixes': WHATEVER THE INPUT: true; the input reads as it did. -/
def batchPrefixesSpec : ChangeSpec := { name := "batchPrefixes", fn := fun _ => fun
  | [d1, d2, d3] => { results := [.lit (.bool true)], args := [d1, d2, d3] }
  | _ => none }
def batchPrefixesRow : OpenClaim := { program := "ytcgfilmmokmdjaagreat", sum := "d7da0dd4a4a45f7a735aeb16ad70b87dde5a00d2c99aea7a7ed9a77307e4de62", func := "needlestore/needlestorelaw15.BatchPrefixes", spec := "batchPrefixes", inPlace := ["slices.overlaps[needlestore/api.Item]", "slices.overlaps[needlestore/batch.Kill]"], unfollowed := true, recurses := true, apart := false }
def BatchPrefixesSaid : Prop := batchPrefixesRow.holds Tryz.pinned (OpenSpec.ofChange batchPrefixesSpec)

/-- ITS FALSE NEIGHBOUR: 'it returns false'. Refute it at one input. -/
def batchPrefixesWrong : ChangeSpec := { name := "batchPrefixes", fn := fun _ => fun
  | [d1, d2, d3] => { results := [.lit (.bool false)], args := [d1, d2, d3] }
  | _ => none }
def BatchPrefixesWrongFalsely : Prop := batchPrefixesRow.holds Tryz.pinned (OpenSpec.ofChange batchPrefixesWrong)

/-- 'needlestorelaw15.BatchResults': WHATEVER THE INPUT: true; the input reads as it did. -/
def batchResultsSpec : ChangeSpec := { name := "batchResults", fn := fun _ => fun
  | [d1, d2] => { results := [.lit (.bool true)], args := [d1, d2] }
  | _ => none }
def batchResultsRow : OpenClaim := { program := "ytcgfilmmokmdjaagreat", sum := "d7da0dd4a4a45f7a735aeb16ad70b87dde5a00d2c99aea7a7ed9a77307e4de62", func := "needlestore/needlestorelaw15.BatchResults", spec := "batchResults", inPlace := ["slices.overlaps[needlestore/api.Item]", "slices.overlaps[needlestore/batch.Kill]"], unfollowed := true, recurses := true, apart := false }
def BatchResultsSaid : Prop := batchResultsRow.holds Tryz.pinned (OpenSpec.ofChange batchResultsSpec)

/-- ITS FALSE NEIGHBOUR: 'it returns false'. Refute it at one input. -/
def batchResultsWrong : ChangeSpec := { name := "batchResults", fn := fun _ => fun
  | [d1, d2] => { results := [.lit (.bool false)], args := [d1, d2] }
  | _ => none }
def BatchResultsWrongFalsely : Prop := batchResultsRow.holds Tryz.pinned (OpenSpec.ofChange batchResultsWrong)

/-- 'needlestorelaw15.BatchLimits': WHATEVER THE INPUT: true; the input reads as it did. -/
def batchLimitsSpec : ChangeSpec := { name := "batchLimits", fn := fun _ => fun
  | [d1, d2] => { results := [.lit (.bool true)], args := [d1, d2] }
  | _ => none }
def batchLimitsRow : OpenClaim := { program := "ytcgfilmmokmdjaagreat", sum := "d7da0dd4a4a45f7a735aeb16ad70b87dde5a00d2c99aea7a7ed9a77307e4de62", func := "needlestore/needlestorelaw15.BatchLimits", spec := "batchLimits", inPlace := ["slices.overlaps[needlestore/api.Item]", "slices.overlaps[needlestore/batch.Kill]"], unfollowed := true, recurses := true, apart := false }
def BatchLimitsSaid : Prop := batchLimitsRow.holds Tryz.pinned (OpenSpec.ofChange batchLimitsSpec)

/-- ITS FALSE NEIGHBOUR: 'it returns false'. Refute it at one input. -/
def batchLimitsWrong : ChangeSpec := { name := "batchLimits", fn := fun _ => fun
  | [d1, d2] => { results := [.lit (.bool false)], args := [d1, d2] }
  | _ => none }
def BatchLimitsWrongFalsely : Prop := batchLimitsRow.holds Tryz.pinned (OpenSpec.ofChange batchLimitsWrong)

/-- 'needlestorelaw15.BatchApplies': WHATEVER THE INPUT: true; the input reads as it did. -/
def batchAppliesSpec : ChangeSpec := { name := "batchApplies", fn := fun _ => fun
  | [d1, d2, d3, d4] => { results := [.lit (.bool true)], args := [d1, d2, d3, d4] }
  | _ => none }
def batchAppliesRow : OpenClaim := { program := "ytcgfilmmokmdjaagreat", sum := "d7da0dd4a4a45f7a735aeb16ad70b87dde5a00d2c99aea7a7ed9a77307e4de62", func := "needlestore/needlestorelaw15.BatchApplies", spec := "batchApplies", inPlace := ["slices.overlaps[needlestore/api.Item]", "slices.overlaps[needlestore/batch.Kill]"], unfollowed := true, recurses := true, apart := false }
def BatchAppliesSaid : Prop := batchAppliesRow.holds Tryz.pinned (OpenSpec.ofChange batchAppliesSpec)

/-- ITS FALSE NEIGHBOUR: 'it returns false'. Refute it at one input. -/
def batchAppliesWrong : ChangeSpec := { name := "batchApplies", fn := fun _ => fun
  | [d1, d2, d3, d4] => { results := [.lit (.bool false)], args := [d1, d2, d3, d4] }
  | _ => none }
def BatchAppliesWrongFalsely : Prop := batchAppliesRow.holds Tryz.pinned (OpenSpec.ofChange batchAppliesWrong)

/- THE SECOND FORM. 'bulk': how many values and letters a reading holds, each counted each time it is reached (what is shared counts as often as it is met; a slice's spare places count too). A statement '..UptoSaid' is the law's where the arguments, and the package variables that the reading takes, are together of bulk at most 1048576: NARROWER than '..Said'. Prove '..Said' where nothing that the law and all that it calls make is longer than what came in: it says more and counts as full. Else prove '..UptoSaid'. A law counts once. -/
mutual
def uptoBulk {H : Type} : DataW H → Nat
  | .lit (.string bytes) => bytes.length + 1
  | .lit _ => 1
  | .nil => 1
  | .ptr d => uptoBulk d + 1
  | .slice elems spare => uptoBulkAll elems + uptoBulkAll spare + 1
  | .agg parts => uptoBulkAll parts + 1
  | .iface _ d => uptoBulk d + 1
  | .map entries => uptoBulkEntries entries + 1
  | .held _ => 1
def uptoBulkAll {H : Type} : List (DataW H) → Nat
  | [] => 0
  | d :: r => uptoBulk d + uptoBulkAll r
def uptoBulkEntries {H : Type} : List (Lit × DataW H) → Nat
  | [] => 0
  | x :: r => uptoBulkEntry x + uptoBulkEntries r
def uptoBulkEntry {H : Type} : Lit × DataW H → Nat
  | (.string bytes, d) => bytes.length + uptoBulk d + 1
  | (_, d) => uptoBulk d + 1
 end
def uptoSmall : (H : Type) → List (DataW H) → Bool := fun _ ds => decide (uptoBulkAll ds ≤ 1048576)
def OpenSpec.upto (s : _root_.Go.ChangeSpec) : _root_.Go.OpenSpec := { _root_.Go.OpenSpec.ofChange s with cond := some uptoSmall }

/-- 'needlestorelaw13.SlotCurrent', WHERE WHAT IT READS IS OF BULK AT MOST 1048576: true; the input reads as it did. -/
def slotCurrentUptoRow : OpenClaim := { program := "ytcgfilmmokmdjaagreat", sum := "d7da0dd4a4a45f7a735aeb16ad70b87dde5a00d2c99aea7a7ed9a77307e4de62", func := "needlestore/needlestorelaw13.SlotCurrent", spec := "slotCurrent", inPlace := ["slices.overlaps[needlestore/api.Item]"], unfollowed := true, recurses := true, apart := false, narrowed := true }
def SlotCurrentUptoSaid : Prop := slotCurrentUptoRow.holds Tryz.pinned (OpenSpec.upto slotCurrentSpec)

/-- 'needlestorelaw15.BatchMakes', WHERE WHAT IT READS IS OF BULK AT MOST 1048576: true; the input reads as it did. -/
def batchMakesUptoRow : OpenClaim := { program := "ytcgfilmmokmdjaagreat", sum := "d7da0dd4a4a45f7a735aeb16ad70b87dde5a00d2c99aea7a7ed9a77307e4de62", func := "needlestore/needlestorelaw15.BatchMakes", spec := "batchMakes", inPlace := ["slices.overlaps[needlestore/api.Item]", "slices.overlaps[needlestore/batch.Kill]"], unfollowed := true, recurses := true, apart := false, narrowed := true }
def BatchMakesUptoSaid : Prop := batchMakesUptoRow.holds Tryz.pinned (OpenSpec.upto batchMakesSpec)

/-- 'needlestorelaw15.BatchPrefixes', WHERE WHAT IT READS IS OF BULK AT MOST 1048576: true; the input reads as it did. -/
def batchPrefixesUptoRow : OpenClaim := { program := "ytcgfilmmokmdjaagreat", sum := "d7da0dd4a4a45f7a735aeb16ad70b87dde5a00d2c99aea7a7ed9a77307e4de62", func := "needlestore/needlestorelaw15.BatchPrefixes", spec := "batchPrefixes", inPlace := ["slices.overlaps[needlestore/api.Item]", "slices.overlaps[needlestore/batch.Kill]"], unfollowed := true, recurses := true, apart := false, narrowed := true }
def BatchPrefixesUptoSaid : Prop := batchPrefixesUptoRow.holds Tryz.pinned (OpenSpec.upto batchPrefixesSpec)

/-- 'needlestorelaw15.BatchResults', WHERE WHAT IT READS IS OF BULK AT MOST 1048576: true; the input reads as it did. -/
def batchResultsUptoRow : OpenClaim := { program := "ytcgfilmmokmdjaagreat", sum := "d7da0dd4a4a45f7a735aeb16ad70b87dde5a00d2c99aea7a7ed9a77307e4de62", func := "needlestore/needlestorelaw15.BatchResults", spec := "batchResults", inPlace := ["slices.overlaps[needlestore/api.Item]", "slices.overlaps[needlestore/batch.Kill]"], unfollowed := true, recurses := true, apart := false, narrowed := true }
def BatchResultsUptoSaid : Prop := batchResultsUptoRow.holds Tryz.pinned (OpenSpec.upto batchResultsSpec)

/-- 'needlestorelaw15.BatchLimits', WHERE WHAT IT READS IS OF BULK AT MOST 1048576: true; the input reads as it did. -/
def batchLimitsUptoRow : OpenClaim := { program := "ytcgfilmmokmdjaagreat", sum := "d7da0dd4a4a45f7a735aeb16ad70b87dde5a00d2c99aea7a7ed9a77307e4de62", func := "needlestore/needlestorelaw15.BatchLimits", spec := "batchLimits", inPlace := ["slices.overlaps[needlestore/api.Item]", "slices.overlaps[needlestore/batch.Kill]"], unfollowed := true, recurses := true, apart := false, narrowed := true }
def BatchLimitsUptoSaid : Prop := batchLimitsUptoRow.holds Tryz.pinned (OpenSpec.upto batchLimitsSpec)

/-- 'needlestorelaw15.BatchApplies', WHERE WHAT IT READS IS OF BULK AT MOST 1048576: true; the input reads as it did. -/
def batchAppliesUptoRow : OpenClaim := { program := "ytcgfilmmokmdjaagreat", sum := "d7da0dd4a4a45f7a735aeb16ad70b87dde5a00d2c99aea7a7ed9a77307e4de62", func := "needlestore/needlestorelaw15.BatchApplies", spec := "batchApplies", inPlace := ["slices.overlaps[needlestore/api.Item]", "slices.overlaps[needlestore/batch.Kill]"], unfollowed := true, recurses := true, apart := false, narrowed := true }
def BatchAppliesUptoSaid : Prop := batchAppliesUptoRow.holds Tryz.pinned (OpenSpec.upto batchAppliesSpec)

end Rows
end Go.Proofs.YtcgfilmmokmdjaaGreat
