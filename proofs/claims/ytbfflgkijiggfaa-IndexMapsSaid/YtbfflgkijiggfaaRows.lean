/-
  No cell of these rows narrows 'for every input' (looked for: loops, veiled, ifaces, maps, wideKeys, modest, calm, conditions, laid).
  DERIVED. THE GIVEN ROWS OF THIS SEAT. 8 by the template 'for every input the law returns true; each argument reads behind the call as it read before'; 0 by the template 'total and deterministic' (their statements: YtbfflgkijiggfaaTotals.lean).
  GIVEN WITH THE SEED: the statements are not yours to turn. If you find one false, say at which input.
  Laid BY PROGRAM, IN A SANDBOX (cutbox-rows.mjs): the forced cells as the released guide's own fill.sh prints them over the translation d62cdd651eb4a394… (all of the seat's roots in one cut). By AI agents, Wed Nov 11 2026. No macro, syntax, notation, axiom, sorry.
-/
import Derived.Test.YtbfflgkijiggfaaChecked
import GoSem.Claim
import GoSem.ClaimJoined
import GoSem.ClaimMapViews
import Derived.JoinedTies
import Derived.KernelRfl
namespace Go.Proofs.Ytbfflgkijiggfaa
/- THE CELL 'sum', in the pinned program and in every row, IS THE sha256 OF THE DUMP (.gsa) THAT YtbfflgkijiggfaaProg.lean LOADS. Nothing in Lean hashes anything: it is a label: what it is worth is what the hold of that sum in a sandbox is worth. -/
noncomputable def Try.pinned : Pinned := { name := "ytbfflgkijiggfaa", sum := "d62cdd651eb4a39400afd2312a724d0ebe688dde5f40da7fc7e3b7bb6e9a42a7", checked := Try.checked }
namespace Rows
def none {H : Type} : Left H := { results := [], args := [] }

/-- 'needlestorelaw08.IndexValid': WHATEVER THE INPUT: true; the input reads as it did. -/
def indexValidSpec : ChangeSpec := { name := "indexValid", fn := fun _ => fun
  | [d] => { results := [.lit (.bool true)], args := [d] }
  | _ => none }
def indexValidRow : OpenClaim := { program := "ytbfflgkijiggfaa", sum := "d62cdd651eb4a39400afd2312a724d0ebe688dde5f40da7fc7e3b7bb6e9a42a7", func := "needlestore/needlestorelaw08.IndexValid", spec := "indexValid", unfollowed := true, recurses := true, apart := false }
def IndexValidSaid : Prop := indexValidRow.holds Try.pinned (OpenSpec.ofChange indexValidSpec)

/-- ITS FALSE NEIGHBOUR: 'it returns false'. Refute it at one input. -/
def indexValidWrong : ChangeSpec := { name := "indexValid", fn := fun _ => fun
  | [d] => { results := [.lit (.bool false)], args := [d] }
  | _ => none }
def IndexValidWrongFalsely : Prop := indexValidRow.holds Try.pinned (OpenSpec.ofChange indexValidWrong)

/-- 'needlestorelaw08.IndexEncodes': WHATEVER THE INPUT: true; the input reads as it did. -/
def indexEncodesSpec : ChangeSpec := { name := "indexEncodes", fn := fun _ => fun
  | [d] => { results := [.lit (.bool true)], args := [d] }
  | _ => none }
def indexEncodesRow : OpenClaim := { program := "ytbfflgkijiggfaa", sum := "d62cdd651eb4a39400afd2312a724d0ebe688dde5f40da7fc7e3b7bb6e9a42a7", func := "needlestore/needlestorelaw08.IndexEncodes", spec := "indexEncodes", unfollowed := true, recurses := true, apart := false }
def IndexEncodesSaid : Prop := indexEncodesRow.holds Try.pinned (OpenSpec.ofChange indexEncodesSpec)

/-- ITS FALSE NEIGHBOUR: 'it returns false'. Refute it at one input. -/
def indexEncodesWrong : ChangeSpec := { name := "indexEncodes", fn := fun _ => fun
  | [d] => { results := [.lit (.bool false)], args := [d] }
  | _ => none }
def IndexEncodesWrongFalsely : Prop := indexEncodesRow.holds Try.pinned (OpenSpec.ofChange indexEncodesWrong)

/-- 'needlestorelaw08.IndexMerges': WHATEVER THE INPUT: true; the input reads as it did. -/
def indexMergesSpec : ChangeSpec := { name := "indexMerges", fn := fun _ => fun
  | [d1, d2, d3, d4] => { results := [.lit (.bool true)], args := [d1, d2, d3, d4] }
  | _ => none }
def indexMergesRow : OpenClaim := { program := "ytbfflgkijiggfaa", sum := "d62cdd651eb4a39400afd2312a724d0ebe688dde5f40da7fc7e3b7bb6e9a42a7", func := "needlestore/needlestorelaw08.IndexMerges", spec := "indexMerges", unfollowed := true, recurses := true, apart := false }
def IndexMergesSaid : Prop := indexMergesRow.holds Try.pinned (OpenSpec.ofChange indexMergesSpec)

/-- ITS FALSE NEIGHBOUR: 'it returns false'. Refute it at one input. -/
def indexMergesWrong : ChangeSpec := { name := "indexMerges", fn := fun _ => fun
  | [d1, d2, d3, d4] => { results := [.lit (.bool false)], args := [d1, d2, d3, d4] }
  | _ => none }
def IndexMergesWrongFalsely : Prop := indexMergesRow.holds Try.pinned (OpenSpec.ofChange indexMergesWrong)

/-- 'needlestorelaw08.IndexDecodes': WHATEVER THE INPUT: true; the input reads as it did. -/
def indexDecodesSpec : ChangeSpec := { name := "indexDecodes", fn := fun _ => fun
  | [d1, d2, d3, d4, d5] => { results := [.lit (.bool true)], args := [d1, d2, d3, d4, d5] }
  | _ => none }
def indexDecodesRow : OpenClaim := { program := "ytbfflgkijiggfaa", sum := "d62cdd651eb4a39400afd2312a724d0ebe688dde5f40da7fc7e3b7bb6e9a42a7", func := "needlestore/needlestorelaw08.IndexDecodes", spec := "indexDecodes", unfollowed := true, recurses := true, apart := false }
def IndexDecodesSaid : Prop := indexDecodesRow.holds Try.pinned (OpenSpec.ofChange indexDecodesSpec)

/-- ITS FALSE NEIGHBOUR: 'it returns false'. Refute it at one input. -/
def indexDecodesWrong : ChangeSpec := { name := "indexDecodes", fn := fun _ => fun
  | [d1, d2, d3, d4, d5] => { results := [.lit (.bool false)], args := [d1, d2, d3, d4, d5] }
  | _ => none }
def IndexDecodesWrongFalsely : Prop := indexDecodesRow.holds Try.pinned (OpenSpec.ofChange indexDecodesWrong)

/-- 'needlestorelaw08.IndexBack': WHATEVER THE INPUT: true; the input reads as it did. -/
def indexBackSpec : ChangeSpec := { name := "indexBack", fn := fun _ => fun
  | [d1, d2] => { results := [.lit (.bool true)], args := [d1, d2] }
  | _ => none }
def indexBackRow : OpenClaim := { program := "ytbfflgkijiggfaa", sum := "d62cdd651eb4a39400afd2312a724d0ebe688dde5f40da7fc7e3b7bb6e9a42a7", func := "needlestore/needlestorelaw08.IndexBack", spec := "indexBack", unfollowed := true, recurses := true, apart := false }
def IndexBackSaid : Prop := indexBackRow.holds Try.pinned (OpenSpec.ofChange indexBackSpec)

/-- ITS FALSE NEIGHBOUR: 'it returns false'. Refute it at one input. -/
def indexBackWrong : ChangeSpec := { name := "indexBack", fn := fun _ => fun
  | [d1, d2] => { results := [.lit (.bool false)], args := [d1, d2] }
  | _ => none }
def IndexBackWrongFalsely : Prop := indexBackRow.holds Try.pinned (OpenSpec.ofChange indexBackWrong)

/-- 'needlestorelaw08.IndexBursts': WHATEVER THE INPUT: true; the input reads as it did. -/
def indexBurstsSpec : ChangeSpec := { name := "indexBursts", fn := fun _ => fun
  | [d1, d2, d3, d4] => { results := [.lit (.bool true)], args := [d1, d2, d3, d4] }
  | _ => none }
def indexBurstsRow : OpenClaim := { program := "ytbfflgkijiggfaa", sum := "d62cdd651eb4a39400afd2312a724d0ebe688dde5f40da7fc7e3b7bb6e9a42a7", func := "needlestore/needlestorelaw08.IndexBursts", spec := "indexBursts", unfollowed := true, recurses := true, apart := false }
def IndexBurstsSaid : Prop := indexBurstsRow.holds Try.pinned (OpenSpec.ofChange indexBurstsSpec)

/-- ITS FALSE NEIGHBOUR: 'it returns false'. Refute it at one input. -/
def indexBurstsWrong : ChangeSpec := { name := "indexBursts", fn := fun _ => fun
  | [d1, d2, d3, d4] => { results := [.lit (.bool false)], args := [d1, d2, d3, d4] }
  | _ => none }
def IndexBurstsWrongFalsely : Prop := indexBurstsRow.holds Try.pinned (OpenSpec.ofChange indexBurstsWrong)

/-- 'needlestorelaw08.IndexMaps': WHATEVER THE INPUT: true; the input reads as it did. -/
def indexMapsSpec : ChangeSpec := { name := "indexMaps", fn := fun _ => fun
  | [d1, d2, d3, d4, d5] => { results := [.lit (.bool true)], args := [d1, d2, d3, d4, d5] }
  | _ => none }
def indexMapsRow : OpenClaim := { program := "ytbfflgkijiggfaa", sum := "d62cdd651eb4a39400afd2312a724d0ebe688dde5f40da7fc7e3b7bb6e9a42a7", func := "needlestore/needlestorelaw08.IndexMaps", spec := "indexMaps", inPlace := ["slices.overlaps[needlestore/api.Item]"], unfollowed := true, recurses := true, apart := false }
def IndexMapsSaid : Prop := indexMapsRow.holds Try.pinned (OpenSpec.ofChange indexMapsSpec)

/-- ITS FALSE NEIGHBOUR: 'it returns false'. Refute it at one input. -/
def indexMapsWrong : ChangeSpec := { name := "indexMaps", fn := fun _ => fun
  | [d1, d2, d3, d4, d5] => { results := [.lit (.bool false)], args := [d1, d2, d3, d4, d5] }
  | _ => none }
def IndexMapsWrongFalsely : Prop := indexMapsRow.holds Try.pinned (OpenSpec.ofChange indexMapsWrong)

/-- 'needlestorelaw08.IndexFinds': WHATEVER THE INPUT: true; the input reads as it did. -/
def indexFindsSpec : ChangeSpec := { name := "indexFinds", fn := fun _ => fun
  | [d1, d2, d3] => { results := [.lit (.bool true)], args := [d1, d2, d3] }
  | _ => none }
def indexFindsRow : OpenClaim := { program := "ytbfflgkijiggfaa", sum := "d62cdd651eb4a39400afd2312a724d0ebe688dde5f40da7fc7e3b7bb6e9a42a7", func := "needlestore/needlestorelaw08.IndexFinds", spec := "indexFinds", inPlace := ["slices.overlaps[needlestore/api.Item]"], unfollowed := true, recurses := true, apart := false }
def IndexFindsSaid : Prop := indexFindsRow.holds Try.pinned (OpenSpec.ofChange indexFindsSpec)

/-- ITS FALSE NEIGHBOUR: 'it returns false'. Refute it at one input. -/
def indexFindsWrong : ChangeSpec := { name := "indexFinds", fn := fun _ => fun
  | [d1, d2, d3] => { results := [.lit (.bool false)], args := [d1, d2, d3] }
  | _ => none }
def IndexFindsWrongFalsely : Prop := indexFindsRow.holds Try.pinned (OpenSpec.ofChange indexFindsWrong)

/- THE SECOND FORM. 'bulk': how many values and letters a reading holds, each counted each time it is reached (what is shared counts as often as it is met; a slice's spare places count too). A statement '..UptoSaid' is the law's where the arguments, and the package variables that the reading takes, are together of bulk at most 1048576: NARROWER than '..Said'. Prove '..Said' where nothing that the law and all that it calls make is longer than what came in: it says more and counts as full. Else prove '..UptoSaid'. A law counts once. -/
mutual
def uptoBulk {H : Type} : DataW H → Nat
  | .lit (.string bytes) => bytes.length + 1
  | .lit _ => 1
  | .nil => 1
  | .ptr d => uptoBulk d + 1
  | .slice elems spare => uptoBulkAll elems + uptoBulkAll spare + 1
  | .agg parts => uptoBulkAll parts + 1
  | .iface _ d => uptoBulk d + 1
  | .map entries => uptoBulkEntries entries + 1
  | .held _ => 1
def uptoBulkAll {H : Type} : List (DataW H) → Nat
  | [] => 0
  | d :: r => uptoBulk d + uptoBulkAll r
def uptoBulkEntries {H : Type} : List (Lit × DataW H) → Nat
  | [] => 0
  | x :: r => uptoBulkEntry x + uptoBulkEntries r
def uptoBulkEntry {H : Type} : Lit × DataW H → Nat
  | (.string bytes, d) => bytes.length + uptoBulk d + 1
  | (_, d) => uptoBulk d + 1
 end
def uptoSmall : (H : Type) → List (DataW H) → Bool := fun _ ds => decide (uptoBulkAll ds ≤ 1048576)
def OpenSpec.upto (s : _root_.Go.ChangeSpec) : _root_.Go.OpenSpec := { _root_.Go.OpenSpec.ofChange s with cond := some uptoSmall }

/-- 'needlestorelaw08.IndexValid', WHERE WHAT IT READS IS OF BULK AT MOST 1048576: true; the input reads as it did. -/
def indexValidUptoRow : OpenClaim := { program := "ytbfflgkijiggfaa", sum := "d62cdd651eb4a39400afd2312a724d0ebe688dde5f40da7fc7e3b7bb6e9a42a7", func := "needlestore/needlestorelaw08.IndexValid", spec := "indexValid", unfollowed := true, recurses := true, apart := false, narrowed := true }
def IndexValidUptoSaid : Prop := indexValidUptoRow.holds Try.pinned (OpenSpec.upto indexValidSpec)

/-- 'needlestorelaw08.IndexEncodes', WHERE WHAT IT READS IS OF BULK AT MOST 1048576: true; the input reads as it did. -/
def indexEncodesUptoRow : OpenClaim := { program := "ytbfflgkijiggfaa", sum := "d62cdd651eb4a39400afd2312a724d0ebe688dde5f40da7fc7e3b7bb6e9a42a7", func := "needlestore/needlestorelaw08.IndexEncodes", spec := "indexEncodes", unfollowed := true, recurses := true, apart := false, narrowed := true }
def IndexEncodesUptoSaid : Prop := indexEncodesUptoRow.holds Try.pinned (OpenSpec.upto indexEncodesSpec)

/-- 'needlestorelaw08.IndexMerges', WHERE WHAT IT READS IS OF BULK AT MOST 1048576: true; the input reads as it did. -/
def indexMergesUptoRow : OpenClaim := { program := "ytbfflgkijiggfaa", sum := "d62cdd651eb4a39400afd2312a724d0ebe688dde5f40da7fc7e3b7bb6e9a42a7", func := "needlestore/needlestorelaw08.IndexMerges", spec := "indexMerges", unfollowed := true, recurses := true, apart := false, narrowed := true }
def IndexMergesUptoSaid : Prop := indexMergesUptoRow.holds Try.pinned (OpenSpec.upto indexMergesSpec)

/-- 'needlestorelaw08.IndexDecodes', WHERE WHAT IT READS IS OF BULK AT MOST 1048576: true; the input reads as it did. -/
def indexDecodesUptoRow : OpenClaim := { program := "ytbfflgkijiggfaa", sum := "d62cdd651eb4a39400afd2312a724d0ebe688dde5f40da7fc7e3b7bb6e9a42a7", func := "needlestore/needlestorelaw08.IndexDecodes", spec := "indexDecodes", unfollowed := true, recurses := true, apart := false, narrowed := true }
def IndexDecodesUptoSaid : Prop := indexDecodesUptoRow.holds Try.pinned (OpenSpec.upto indexDecodesSpec)

/-- 'needlestorelaw08.IndexBack', WHERE WHAT IT READS IS OF BULK AT MOST 1048576: true; the input reads as it did. -/
def indexBackUptoRow : OpenClaim := { program := "ytbfflgkijiggfaa", sum := "d62cdd651eb4a39400afd2312a724d0ebe688dde5f40da7fc7e3b7bb6e9a42a7", func := "needlestore/needlestorelaw08.IndexBack", spec := "indexBack", unfollowed := true, recurses := true, apart := false, narrowed := true }
def IndexBackUptoSaid : Prop := indexBackUptoRow.holds Try.pinned (OpenSpec.upto indexBackSpec)

/-- 'needlestorelaw08.IndexBursts', WHERE WHAT IT READS IS OF BULK AT MOST 1048576: true; the input reads as it did. -/
def indexBurstsUptoRow : OpenClaim := { program := "ytbfflgkijiggfaa", sum := "d62cdd651eb4a39400afd2312a724d0ebe688dde5f40da7fc7e3b7bb6e9a42a7", func := "needlestore/needlestorelaw08.IndexBursts", spec := "indexBursts", unfollowed := true, recurses := true, apart := false, narrowed := true }
def IndexBurstsUptoSaid : Prop := indexBurstsUptoRow.holds Try.pinned (OpenSpec.upto indexBurstsSpec)

/-- 'needlestorelaw08.IndexMaps', WHERE WHAT IT READS IS OF BULK AT MOST 1048576: true; the input reads as it did. -/
def indexMapsUptoRow : OpenClaim := { program := "ytbfflgkijiggfaa", sum := "d62cdd651eb4a39400afd2312a724d0ebe688dde5f40da7fc7e3b7bb6e9a42a7", func := "needlestore/needlestorelaw08.IndexMaps", spec := "indexMaps", inPlace := ["slices.overlaps[needlestore/api.Item]"], unfollowed := true, recurses := true, apart := false, narrowed := true }
def IndexMapsUptoSaid : Prop := indexMapsUptoRow.holds Try.pinned (OpenSpec.upto indexMapsSpec)

/-- 'needlestorelaw08.IndexFinds', WHERE WHAT IT READS IS OF BULK AT MOST 1048576: true; the input reads as it did. -/
def indexFindsUptoRow : OpenClaim := { program := "ytbfflgkijiggfaa", sum := "d62cdd651eb4a39400afd2312a724d0ebe688dde5f40da7fc7e3b7bb6e9a42a7", func := "needlestore/needlestorelaw08.IndexFinds", spec := "indexFinds", inPlace := ["slices.overlaps[needlestore/api.Item]"], unfollowed := true, recurses := true, apart := false, narrowed := true }
def IndexFindsUptoSaid : Prop := indexFindsUptoRow.holds Try.pinned (OpenSpec.upto indexFindsSpec)

end Rows
end Go.Proofs.Ytbfflgkijiggfaa
