/-
  NARROWER THAN 'FOR EVERY INPUT', by the rows' own cells (each row's printed sentence says how): DiskValid: laid · DiskPower: laid · DiskPrefix: laid · DiskReads: laid · DiskDurable: laid · DiskWrites: laid · DiskMoves: laid · DiskOps: laid · DiskHistories: laid · DiskCapacity: laid.
  DERIVED. THE GIVEN ROWS OF THIS SEAT. 10 by the template 'for every input the law returns true; each argument reads behind the call as it read before'; 0 by the template 'total and deterministic' (their statements: YtkabcpmnbjllcaaDoorTotals.lean).
  GIVEN WITH THE SEED: the statements are not yours to turn. If you find one false, say at which input.
  Laid BY PROGRAM, IN A SANDBOX (cutbox-rows.mjs): the forced cells as the released guide's own fill.sh prints them over the translation a52c8701cfce9105… (all of the seat's roots in one cut). By AI agents, Wed Nov 11 2026. No macro, syntax, notation, axiom, sorry.
-/
import Derived.Test.YtkabcpmnbjllcaaDoorChecked
import GoSem.PinnedTables
import GoSem.Claim
import GoSem.ClaimJoined
import GoSem.ClaimMapViews
import Derived.JoinedTies
import Derived.KernelRfl
namespace Go.Proofs.YtkabcpmnbjllcaaDoor
/- THE CELL 'sum', in the pinned program and in every row, IS THE sha256 OF THE DUMP (.gsa) THAT YtkabcpmnbjllcaaDoorProg.lean LOADS. Nothing in Lean hashes anything: it is a label: what it is worth is what the hold of that sum in a sandbox is worth. -/
noncomputable def Tryd.pinned : Pinned := { name := "ytkabcpmnbjllcaadoor", sum := "a52c8701cfce9105094a1d5688efd03c4accc70b10703073740068d9a5692639", checked := Tryd.checked }
namespace Rows
def none {H : Type} : Left H := { results := [], args := [] }

/- WHAT THE LISTED PACKAGE-LEVEL VARIABLES READ AS WHEN THE CALL BEGINS. Each datum BY PROGRAM (the guide's laid-datum.mjs) off the statement by which the dump's own 'gosem.cut.vars' lays the variable. In a bare row this is a premise. The card (YtkabcpmnbjllcaaDoorCards.lean) ties it to the program's text. -/
def laid_unicode_utf8_acceptRanges {H : Type} : DataW H := .agg [.agg [.lit (.int .u8 128), .lit (.int .u8 191)], .agg [.lit (.int .u8 160), .lit (.int .u8 191)], .agg [.lit (.int .u8 128), .lit (.int .u8 159)], .agg [.lit (.int .u8 144), .lit (.int .u8 191)], .agg [.lit (.int .u8 128), .lit (.int .u8 143)], .agg [.lit (.int .u8 0), .lit (.int .u8 0)], .agg [.lit (.int .u8 0), .lit (.int .u8 0)], .agg [.lit (.int .u8 0), .lit (.int .u8 0)], .agg [.lit (.int .u8 0), .lit (.int .u8 0)], .agg [.lit (.int .u8 0), .lit (.int .u8 0)], .agg [.lit (.int .u8 0), .lit (.int .u8 0)], .agg [.lit (.int .u8 0), .lit (.int .u8 0)], .agg [.lit (.int .u8 0), .lit (.int .u8 0)], .agg [.lit (.int .u8 0), .lit (.int .u8 0)], .agg [.lit (.int .u8 0), .lit (.int .u8 0)], .agg [.lit (.int .u8 0), .lit (.int .u8 0)]]
/-- One of Go's own tables, pinned by name: the form's constant. -/
def laid_unicode_utf8_first : DataW Unit := Go.Pinned.utf8First

/-- 'needlestorelaw10.DiskValid': WHATEVER THE INPUT: true; the input reads as it did. -/
def diskValidSpec : ChangeSpec := { name := "diskValid", fn := fun _ => fun
  | [d1, d2, d3, d4, d5] => { results := [.lit (.bool true)], args := [d1, d2, d3, d4, d5] }
  | _ => none }
def diskValidRow : OpenClaim := { program := "ytkabcpmnbjllcaadoor", sum := "a52c8701cfce9105094a1d5688efd03c4accc70b10703073740068d9a5692639", func := "needlestore/needlestorelaw10.DiskValid", spec := "diskValid", inPlace := ["internal/bytealg.IndexByteString", "internal/bytealg.IndexString", "slices.overlaps[needlestore/disk.File]"], unfollowed := true, recurses := true, named := ["unicode/utf8.first", "unicode/utf8.acceptRanges", "internal/bytealg.MaxLen"], apart := false, laid := [("unicode/utf8.acceptRanges", laid_unicode_utf8_acceptRanges), ("unicode/utf8.first", laid_unicode_utf8_first)] }
def DiskValidSaid : Prop := diskValidRow.holds Tryd.pinned (OpenSpec.ofChange diskValidSpec)

/-- ITS FALSE NEIGHBOUR: 'it returns false'. Refute it at one input. -/
def diskValidWrong : ChangeSpec := { name := "diskValid", fn := fun _ => fun
  | [d1, d2, d3, d4, d5] => { results := [.lit (.bool false)], args := [d1, d2, d3, d4, d5] }
  | _ => none }
def DiskValidWrongFalsely : Prop := diskValidRow.holds Tryd.pinned (OpenSpec.ofChange diskValidWrong)

/-- 'needlestorelaw10.DiskPower': WHATEVER THE INPUT: true; the input reads as it did. -/
def diskPowerSpec : ChangeSpec := { name := "diskPower", fn := fun _ => fun
  | [d1, d2] => { results := [.lit (.bool true)], args := [d1, d2] }
  | _ => none }
def diskPowerRow : OpenClaim := { program := "ytkabcpmnbjllcaadoor", sum := "a52c8701cfce9105094a1d5688efd03c4accc70b10703073740068d9a5692639", func := "needlestore/needlestorelaw10.DiskPower", spec := "diskPower", inPlace := ["internal/bytealg.IndexByteString", "internal/bytealg.IndexString", "slices.overlaps[needlestore/disk.File]"], unfollowed := true, recurses := true, named := ["unicode/utf8.first", "unicode/utf8.acceptRanges", "internal/bytealg.MaxLen"], apart := false, laid := [("unicode/utf8.acceptRanges", laid_unicode_utf8_acceptRanges), ("unicode/utf8.first", laid_unicode_utf8_first)] }
def DiskPowerSaid : Prop := diskPowerRow.holds Tryd.pinned (OpenSpec.ofChange diskPowerSpec)

/-- ITS FALSE NEIGHBOUR: 'it returns false'. Refute it at one input. -/
def diskPowerWrong : ChangeSpec := { name := "diskPower", fn := fun _ => fun
  | [d1, d2] => { results := [.lit (.bool false)], args := [d1, d2] }
  | _ => none }
def DiskPowerWrongFalsely : Prop := diskPowerRow.holds Tryd.pinned (OpenSpec.ofChange diskPowerWrong)

/-- 'needlestorelaw10.DiskPrefix': WHATEVER THE INPUT: true; the input reads as it did. -/
def diskPrefixSpec : ChangeSpec := { name := "diskPrefix", fn := fun _ => fun
  | [d1, d2, d3, d4] => { results := [.lit (.bool true)], args := [d1, d2, d3, d4] }
  | _ => none }
def diskPrefixRow : OpenClaim := { program := "ytkabcpmnbjllcaadoor", sum := "a52c8701cfce9105094a1d5688efd03c4accc70b10703073740068d9a5692639", func := "needlestore/needlestorelaw10.DiskPrefix", spec := "diskPrefix", inPlace := ["internal/bytealg.IndexByteString", "internal/bytealg.IndexString", "slices.overlaps[needlestore/disk.File]"], unfollowed := true, recurses := true, named := ["unicode/utf8.first", "unicode/utf8.acceptRanges", "internal/bytealg.MaxLen"], apart := false, laid := [("unicode/utf8.acceptRanges", laid_unicode_utf8_acceptRanges), ("unicode/utf8.first", laid_unicode_utf8_first)] }
def DiskPrefixSaid : Prop := diskPrefixRow.holds Tryd.pinned (OpenSpec.ofChange diskPrefixSpec)

/-- ITS FALSE NEIGHBOUR: 'it returns false'. Refute it at one input. -/
def diskPrefixWrong : ChangeSpec := { name := "diskPrefix", fn := fun _ => fun
  | [d1, d2, d3, d4] => { results := [.lit (.bool false)], args := [d1, d2, d3, d4] }
  | _ => none }
def DiskPrefixWrongFalsely : Prop := diskPrefixRow.holds Tryd.pinned (OpenSpec.ofChange diskPrefixWrong)

/-- 'needlestorelaw10.DiskReads': WHATEVER THE INPUT: true; the input reads as it did. -/
def diskReadsSpec : ChangeSpec := { name := "diskReads", fn := fun _ => fun
  | [d1, d2, d3, d4, d5, d6] => { results := [.lit (.bool true)], args := [d1, d2, d3, d4, d5, d6] }
  | _ => none }
def diskReadsRow : OpenClaim := { program := "ytkabcpmnbjllcaadoor", sum := "a52c8701cfce9105094a1d5688efd03c4accc70b10703073740068d9a5692639", func := "needlestore/needlestorelaw10.DiskReads", spec := "diskReads", inPlace := ["internal/bytealg.IndexByteString", "internal/bytealg.IndexString", "slices.overlaps[needlestore/disk.File]"], unfollowed := true, recurses := true, named := ["unicode/utf8.first", "unicode/utf8.acceptRanges", "internal/bytealg.MaxLen"], apart := false, laid := [("unicode/utf8.acceptRanges", laid_unicode_utf8_acceptRanges), ("unicode/utf8.first", laid_unicode_utf8_first)] }
def DiskReadsSaid : Prop := diskReadsRow.holds Tryd.pinned (OpenSpec.ofChange diskReadsSpec)

/-- ITS FALSE NEIGHBOUR: 'it returns false'. Refute it at one input. -/
def diskReadsWrong : ChangeSpec := { name := "diskReads", fn := fun _ => fun
  | [d1, d2, d3, d4, d5, d6] => { results := [.lit (.bool false)], args := [d1, d2, d3, d4, d5, d6] }
  | _ => none }
def DiskReadsWrongFalsely : Prop := diskReadsRow.holds Tryd.pinned (OpenSpec.ofChange diskReadsWrong)

/-- 'needlestorelaw10.DiskDurable': WHATEVER THE INPUT: true; the input reads as it did. -/
def diskDurableSpec : ChangeSpec := { name := "diskDurable", fn := fun _ => fun
  | [d1, d2, d3] => { results := [.lit (.bool true)], args := [d1, d2, d3] }
  | _ => none }
def diskDurableRow : OpenClaim := { program := "ytkabcpmnbjllcaadoor", sum := "a52c8701cfce9105094a1d5688efd03c4accc70b10703073740068d9a5692639", func := "needlestore/needlestorelaw10.DiskDurable", spec := "diskDurable", inPlace := ["internal/bytealg.IndexByteString", "internal/bytealg.IndexString", "slices.overlaps[needlestore/disk.File]"], unfollowed := true, recurses := true, named := ["unicode/utf8.first", "unicode/utf8.acceptRanges", "internal/bytealg.MaxLen"], apart := false, laid := [("unicode/utf8.acceptRanges", laid_unicode_utf8_acceptRanges), ("unicode/utf8.first", laid_unicode_utf8_first)] }
def DiskDurableSaid : Prop := diskDurableRow.holds Tryd.pinned (OpenSpec.ofChange diskDurableSpec)

/-- ITS FALSE NEIGHBOUR: 'it returns false'. Refute it at one input. -/
def diskDurableWrong : ChangeSpec := { name := "diskDurable", fn := fun _ => fun
  | [d1, d2, d3] => { results := [.lit (.bool false)], args := [d1, d2, d3] }
  | _ => none }
def DiskDurableWrongFalsely : Prop := diskDurableRow.holds Tryd.pinned (OpenSpec.ofChange diskDurableWrong)

/-- 'needlestorelaw10.DiskWrites': WHATEVER THE INPUT: true; the input reads as it did. -/
def diskWritesSpec : ChangeSpec := { name := "diskWrites", fn := fun _ => fun
  | [d1, d2, d3, d4] => { results := [.lit (.bool true)], args := [d1, d2, d3, d4] }
  | _ => none }
def diskWritesRow : OpenClaim := { program := "ytkabcpmnbjllcaadoor", sum := "a52c8701cfce9105094a1d5688efd03c4accc70b10703073740068d9a5692639", func := "needlestore/needlestorelaw10.DiskWrites", spec := "diskWrites", inPlace := ["internal/bytealg.IndexByteString", "internal/bytealg.IndexString", "slices.overlaps[needlestore/disk.File]"], unfollowed := true, recurses := true, named := ["unicode/utf8.first", "unicode/utf8.acceptRanges", "internal/bytealg.MaxLen"], apart := false, laid := [("unicode/utf8.acceptRanges", laid_unicode_utf8_acceptRanges), ("unicode/utf8.first", laid_unicode_utf8_first)] }
def DiskWritesSaid : Prop := diskWritesRow.holds Tryd.pinned (OpenSpec.ofChange diskWritesSpec)

/-- ITS FALSE NEIGHBOUR: 'it returns false'. Refute it at one input. -/
def diskWritesWrong : ChangeSpec := { name := "diskWrites", fn := fun _ => fun
  | [d1, d2, d3, d4] => { results := [.lit (.bool false)], args := [d1, d2, d3, d4] }
  | _ => none }
def DiskWritesWrongFalsely : Prop := diskWritesRow.holds Tryd.pinned (OpenSpec.ofChange diskWritesWrong)

/-- 'needlestorelaw10.DiskMoves': WHATEVER THE INPUT: true; the input reads as it did. -/
def diskMovesSpec : ChangeSpec := { name := "diskMoves", fn := fun _ => fun
  | [d1, d2, d3] => { results := [.lit (.bool true)], args := [d1, d2, d3] }
  | _ => none }
def diskMovesRow : OpenClaim := { program := "ytkabcpmnbjllcaadoor", sum := "a52c8701cfce9105094a1d5688efd03c4accc70b10703073740068d9a5692639", func := "needlestore/needlestorelaw10.DiskMoves", spec := "diskMoves", inPlace := ["internal/bytealg.IndexByteString", "internal/bytealg.IndexString", "slices.overlaps[needlestore/disk.File]"], unfollowed := true, recurses := true, named := ["unicode/utf8.first", "unicode/utf8.acceptRanges", "internal/bytealg.MaxLen"], apart := false, laid := [("unicode/utf8.acceptRanges", laid_unicode_utf8_acceptRanges), ("unicode/utf8.first", laid_unicode_utf8_first)] }
def DiskMovesSaid : Prop := diskMovesRow.holds Tryd.pinned (OpenSpec.ofChange diskMovesSpec)

/-- ITS FALSE NEIGHBOUR: 'it returns false'. Refute it at one input. -/
def diskMovesWrong : ChangeSpec := { name := "diskMoves", fn := fun _ => fun
  | [d1, d2, d3] => { results := [.lit (.bool false)], args := [d1, d2, d3] }
  | _ => none }
def DiskMovesWrongFalsely : Prop := diskMovesRow.holds Tryd.pinned (OpenSpec.ofChange diskMovesWrong)

/-- 'needlestorelaw10.DiskOps': WHATEVER THE INPUT: true; the input reads as it did. -/
def diskOpsSpec : ChangeSpec := { name := "diskOps", fn := fun _ => fun
  | [d1, d2, d3, d4, d5] => { results := [.lit (.bool true)], args := [d1, d2, d3, d4, d5] }
  | _ => none }
def diskOpsRow : OpenClaim := { program := "ytkabcpmnbjllcaadoor", sum := "a52c8701cfce9105094a1d5688efd03c4accc70b10703073740068d9a5692639", func := "needlestore/needlestorelaw10.DiskOps", spec := "diskOps", inPlace := ["internal/bytealg.IndexByteString", "internal/bytealg.IndexString", "slices.overlaps[needlestore/disk.File]"], unfollowed := true, recurses := true, named := ["unicode/utf8.first", "unicode/utf8.acceptRanges", "internal/bytealg.MaxLen"], apart := false, laid := [("unicode/utf8.acceptRanges", laid_unicode_utf8_acceptRanges), ("unicode/utf8.first", laid_unicode_utf8_first)] }
def DiskOpsSaid : Prop := diskOpsRow.holds Tryd.pinned (OpenSpec.ofChange diskOpsSpec)

/-- ITS FALSE NEIGHBOUR: 'it returns false'. Refute it at one input. -/
def diskOpsWrong : ChangeSpec := { name := "diskOps", fn := fun _ => fun
  | [d1, d2, d3, d4, d5] => { results := [.lit (.bool false)], args := [d1, d2, d3, d4, d5] }
  | _ => none }
def DiskOpsWrongFalsely : Prop := diskOpsRow.holds Tryd.pinned (OpenSpec.ofChange diskOpsWrong)

/-- 'needlestorelaw10.DiskHistories': WHATEVER THE INPUT: true; the input reads as it did. -/
def diskHistoriesSpec : ChangeSpec := { name := "diskHistories", fn := fun _ => fun
  | [d1, d2, d3] => { results := [.lit (.bool true)], args := [d1, d2, d3] }
  | _ => none }
def diskHistoriesRow : OpenClaim := { program := "ytkabcpmnbjllcaadoor", sum := "a52c8701cfce9105094a1d5688efd03c4accc70b10703073740068d9a5692639", func := "needlestore/needlestorelaw10.DiskHistories", spec := "diskHistories", inPlace := ["internal/bytealg.IndexByteString", "internal/bytealg.IndexString", "slices.overlaps[needlestore/disk.File]"], unfollowed := true, recurses := true, named := ["unicode/utf8.first", "unicode/utf8.acceptRanges", "internal/bytealg.MaxLen"], apart := false, laid := [("unicode/utf8.acceptRanges", laid_unicode_utf8_acceptRanges), ("unicode/utf8.first", laid_unicode_utf8_first)] }
def DiskHistoriesSaid : Prop := diskHistoriesRow.holds Tryd.pinned (OpenSpec.ofChange diskHistoriesSpec)

/-- ITS FALSE NEIGHBOUR: 'it returns false'. Refute it at one input. -/
def diskHistoriesWrong : ChangeSpec := { name := "diskHistories", fn := fun _ => fun
  | [d1, d2, d3] => { results := [.lit (.bool false)], args := [d1, d2, d3] }
  | _ => none }
def DiskHistoriesWrongFalsely : Prop := diskHistoriesRow.holds Tryd.pinned (OpenSpec.ofChange diskHistoriesWrong)

/-- 'needlestorelaw10.DiskCapacity': WHATEVER THE INPUT: true; the input reads as it did. -/
def diskCapacitySpec : ChangeSpec := { name := "diskCapacity", fn := fun _ => fun
  | [d1, d2] => { results := [.lit (.bool true)], args := [d1, d2] }
  | _ => none }
def diskCapacityRow : OpenClaim := { program := "ytkabcpmnbjllcaadoor", sum := "a52c8701cfce9105094a1d5688efd03c4accc70b10703073740068d9a5692639", func := "needlestore/needlestorelaw10.DiskCapacity", spec := "diskCapacity", inPlace := ["internal/bytealg.IndexByteString", "internal/bytealg.IndexString", "slices.overlaps[needlestore/disk.File]"], unfollowed := true, recurses := true, named := ["unicode/utf8.first", "unicode/utf8.acceptRanges", "internal/bytealg.MaxLen"], apart := false, laid := [("unicode/utf8.acceptRanges", laid_unicode_utf8_acceptRanges), ("unicode/utf8.first", laid_unicode_utf8_first)] }
def DiskCapacitySaid : Prop := diskCapacityRow.holds Tryd.pinned (OpenSpec.ofChange diskCapacitySpec)

/-- ITS FALSE NEIGHBOUR: 'it returns false'. Refute it at one input. -/
def diskCapacityWrong : ChangeSpec := { name := "diskCapacity", fn := fun _ => fun
  | [d1, d2] => { results := [.lit (.bool false)], args := [d1, d2] }
  | _ => none }
def DiskCapacityWrongFalsely : Prop := diskCapacityRow.holds Tryd.pinned (OpenSpec.ofChange diskCapacityWrong)

/- THE SECOND FORM. 'bulk': how many values and letters a reading holds, each counted each time it is reached (what is shared counts as often as it is met; a slice's spare places count too). A statement '..UptoSaid' is the law's where the arguments, and the package variables that the reading takes, are together of bulk at most 1048576: NARROWER than '..Said'. Prove '..Said' where nothing that the law and all that it calls make is longer than what came in: it says more and counts as full. Else prove '..UptoSaid'. A law counts once. -/
mutual
def uptoBulk {H : Type} : DataW H → Nat
  | .lit (.string bytes) => bytes.length + 1
  | .lit _ => 1
  | .nil => 1
  | .ptr d => uptoBulk d + 1
  | .slice elems spare => uptoBulkAll elems + uptoBulkAll spare + 1
  | .agg parts => uptoBulkAll parts + 1
  | .iface _ d => uptoBulk d + 1
  | .map entries => uptoBulkEntries entries + 1
  | .held _ => 1
def uptoBulkAll {H : Type} : List (DataW H) → Nat
  | [] => 0
  | d :: r => uptoBulk d + uptoBulkAll r
def uptoBulkEntries {H : Type} : List (Lit × DataW H) → Nat
  | [] => 0
  | x :: r => uptoBulkEntry x + uptoBulkEntries r
def uptoBulkEntry {H : Type} : Lit × DataW H → Nat
  | (.string bytes, d) => bytes.length + uptoBulk d + 1
  | (_, d) => uptoBulk d + 1
 end
def uptoSmall : (H : Type) → List (DataW H) → Bool := fun _ ds => decide (uptoBulkAll ds ≤ 1048576)
def OpenSpec.upto (s : _root_.Go.ChangeSpec) : _root_.Go.OpenSpec := { _root_.Go.OpenSpec.ofChange s with cond := some uptoSmall }

/-- 'needlestorelaw10.DiskValid', WHERE WHAT IT READS IS OF BULK AT MOST 1048576: true; the input reads as it did. -/
def diskValidUptoRow : OpenClaim := { program := "ytkabcpmnbjllcaadoor", sum := "a52c8701cfce9105094a1d5688efd03c4accc70b10703073740068d9a5692639", func := "needlestore/needlestorelaw10.DiskValid", spec := "diskValid", inPlace := ["internal/bytealg.IndexByteString", "internal/bytealg.IndexString", "slices.overlaps[needlestore/disk.File]"], unfollowed := true, recurses := true, named := ["unicode/utf8.first", "unicode/utf8.acceptRanges", "internal/bytealg.MaxLen"], apart := false, laid := [("unicode/utf8.acceptRanges", laid_unicode_utf8_acceptRanges), ("unicode/utf8.first", laid_unicode_utf8_first)], narrowed := true }
def DiskValidUptoSaid : Prop := diskValidUptoRow.holds Tryd.pinned (OpenSpec.upto diskValidSpec)

/-- 'needlestorelaw10.DiskPower', WHERE WHAT IT READS IS OF BULK AT MOST 1048576: true; the input reads as it did. -/
def diskPowerUptoRow : OpenClaim := { program := "ytkabcpmnbjllcaadoor", sum := "a52c8701cfce9105094a1d5688efd03c4accc70b10703073740068d9a5692639", func := "needlestore/needlestorelaw10.DiskPower", spec := "diskPower", inPlace := ["internal/bytealg.IndexByteString", "internal/bytealg.IndexString", "slices.overlaps[needlestore/disk.File]"], unfollowed := true, recurses := true, named := ["unicode/utf8.first", "unicode/utf8.acceptRanges", "internal/bytealg.MaxLen"], apart := false, laid := [("unicode/utf8.acceptRanges", laid_unicode_utf8_acceptRanges), ("unicode/utf8.first", laid_unicode_utf8_first)], narrowed := true }
def DiskPowerUptoSaid : Prop := diskPowerUptoRow.holds Tryd.pinned (OpenSpec.upto diskPowerSpec)

/-- 'needlestorelaw10.DiskPrefix', WHERE WHAT IT READS IS OF BULK AT MOST 1048576: true; the input reads as it did. -/
def diskPrefixUptoRow : OpenClaim := { program := "ytkabcpmnbjllcaadoor", sum := "a52c8701cfce9105094a1d5688efd03c4accc70b10703073740068d9a5692639", func := "needlestore/needlestorelaw10.DiskPrefix", spec := "diskPrefix", inPlace := ["internal/bytealg.IndexByteString", "internal/bytealg.IndexString", "slices.overlaps[needlestore/disk.File]"], unfollowed := true, recurses := true, named := ["unicode/utf8.first", "unicode/utf8.acceptRanges", "internal/bytealg.MaxLen"], apart := false, laid := [("unicode/utf8.acceptRanges", laid_unicode_utf8_acceptRanges), ("unicode/utf8.first", laid_unicode_utf8_first)], narrowed := true }
def DiskPrefixUptoSaid : Prop := diskPrefixUptoRow.holds Tryd.pinned (OpenSpec.upto diskPrefixSpec)

/-- 'needlestorelaw10.DiskReads', WHERE WHAT IT READS IS OF BULK AT MOST 1048576: true; the input reads as it did. -/
def diskReadsUptoRow : OpenClaim := { program := "ytkabcpmnbjllcaadoor", sum := "a52c8701cfce9105094a1d5688efd03c4accc70b10703073740068d9a5692639", func := "needlestore/needlestorelaw10.DiskReads", spec := "diskReads", inPlace := ["internal/bytealg.IndexByteString", "internal/bytealg.IndexString", "slices.overlaps[needlestore/disk.File]"], unfollowed := true, recurses := true, named := ["unicode/utf8.first", "unicode/utf8.acceptRanges", "internal/bytealg.MaxLen"], apart := false, laid := [("unicode/utf8.acceptRanges", laid_unicode_utf8_acceptRanges), ("unicode/utf8.first", laid_unicode_utf8_first)], narrowed := true }
def DiskReadsUptoSaid : Prop := diskReadsUptoRow.holds Tryd.pinned (OpenSpec.upto diskReadsSpec)

/-- 'needlestorelaw10.DiskDurable', WHERE WHAT IT READS IS OF BULK AT MOST 1048576: true; the input reads as it did. -/
def diskDurableUptoRow : OpenClaim := { program := "ytkabcpmnbjllcaadoor", sum := "a52c8701cfce9105094a1d5688efd03c4accc70b10703073740068d9a5692639", func := "needlestore/needlestorelaw10.DiskDurable", spec := "diskDurable", inPlace := ["internal/bytealg.IndexByteString", "internal/bytealg.IndexString", "slices.overlaps[needlestore/disk.File]"], unfollowed := true, recurses := true, named := ["unicode/utf8.first", "unicode/utf8.acceptRanges", "internal/bytealg.MaxLen"], apart := false, laid := [("unicode/utf8.acceptRanges", laid_unicode_utf8_acceptRanges), ("unicode/utf8.first", laid_unicode_utf8_first)], narrowed := true }
def DiskDurableUptoSaid : Prop := diskDurableUptoRow.holds Tryd.pinned (OpenSpec.upto diskDurableSpec)

/-- 'needlestorelaw10.DiskWrites', WHERE WHAT IT READS IS OF BULK AT MOST 1048576: true; the input reads as it did. -/
def diskWritesUptoRow : OpenClaim := { program := "ytkabcpmnbjllcaadoor", sum := "a52c8701cfce9105094a1d5688efd03c4accc70b10703073740068d9a5692639", func := "needlestore/needlestorelaw10.DiskWrites", spec := "diskWrites", inPlace := ["internal/bytealg.IndexByteString", "internal/bytealg.IndexString", "slices.overlaps[needlestore/disk.File]"], unfollowed := true, recurses := true, named := ["unicode/utf8.first", "unicode/utf8.acceptRanges", "internal/bytealg.MaxLen"], apart := false, laid := [("unicode/utf8.acceptRanges", laid_unicode_utf8_acceptRanges), ("unicode/utf8.first", laid_unicode_utf8_first)], narrowed := true }
def DiskWritesUptoSaid : Prop := diskWritesUptoRow.holds Tryd.pinned (OpenSpec.upto diskWritesSpec)

/-- 'needlestorelaw10.DiskMoves', WHERE WHAT IT READS IS OF BULK AT MOST 1048576: true; the input reads as it did. -/
def diskMovesUptoRow : OpenClaim := { program := "ytkabcpmnbjllcaadoor", sum := "a52c8701cfce9105094a1d5688efd03c4accc70b10703073740068d9a5692639", func := "needlestore/needlestorelaw10.DiskMoves", spec := "diskMoves", inPlace := ["internal/bytealg.IndexByteString", "internal/bytealg.IndexString", "slices.overlaps[needlestore/disk.File]"], unfollowed := true, recurses := true, named := ["unicode/utf8.first", "unicode/utf8.acceptRanges", "internal/bytealg.MaxLen"], apart := false, laid := [("unicode/utf8.acceptRanges", laid_unicode_utf8_acceptRanges), ("unicode/utf8.first", laid_unicode_utf8_first)], narrowed := true }
def DiskMovesUptoSaid : Prop := diskMovesUptoRow.holds Tryd.pinned (OpenSpec.upto diskMovesSpec)

/-- 'needlestorelaw10.DiskOps', WHERE WHAT IT READS IS OF BULK AT MOST 1048576: true; the input reads as it did. -/
def diskOpsUptoRow : OpenClaim := { program := "ytkabcpmnbjllcaadoor", sum := "a52c8701cfce9105094a1d5688efd03c4accc70b10703073740068d9a5692639", func := "needlestore/needlestorelaw10.DiskOps", spec := "diskOps", inPlace := ["internal/bytealg.IndexByteString", "internal/bytealg.IndexString", "slices.overlaps[needlestore/disk.File]"], unfollowed := true, recurses := true, named := ["unicode/utf8.first", "unicode/utf8.acceptRanges", "internal/bytealg.MaxLen"], apart := false, laid := [("unicode/utf8.acceptRanges", laid_unicode_utf8_acceptRanges), ("unicode/utf8.first", laid_unicode_utf8_first)], narrowed := true }
def DiskOpsUptoSaid : Prop := diskOpsUptoRow.holds Tryd.pinned (OpenSpec.upto diskOpsSpec)

/-- 'needlestorelaw10.DiskHistories', WHERE WHAT IT READS IS OF BULK AT MOST 1048576: true; the input reads as it did. -/
def diskHistoriesUptoRow : OpenClaim := { program := "ytkabcpmnbjllcaadoor", sum := "a52c8701cfce9105094a1d5688efd03c4accc70b10703073740068d9a5692639", func := "needlestore/needlestorelaw10.DiskHistories", spec := "diskHistories", inPlace := ["internal/bytealg.IndexByteString", "internal/bytealg.IndexString", "slices.overlaps[needlestore/disk.File]"], unfollowed := true, recurses := true, named := ["unicode/utf8.first", "unicode/utf8.acceptRanges", "internal/bytealg.MaxLen"], apart := false, laid := [("unicode/utf8.acceptRanges", laid_unicode_utf8_acceptRanges), ("unicode/utf8.first", laid_unicode_utf8_first)], narrowed := true }
def DiskHistoriesUptoSaid : Prop := diskHistoriesUptoRow.holds Tryd.pinned (OpenSpec.upto diskHistoriesSpec)

/-- 'needlestorelaw10.DiskCapacity', WHERE WHAT IT READS IS OF BULK AT MOST 1048576: true; the input reads as it did. -/
def diskCapacityUptoRow : OpenClaim := { program := "ytkabcpmnbjllcaadoor", sum := "a52c8701cfce9105094a1d5688efd03c4accc70b10703073740068d9a5692639", func := "needlestore/needlestorelaw10.DiskCapacity", spec := "diskCapacity", inPlace := ["internal/bytealg.IndexByteString", "internal/bytealg.IndexString", "slices.overlaps[needlestore/disk.File]"], unfollowed := true, recurses := true, named := ["unicode/utf8.first", "unicode/utf8.acceptRanges", "internal/bytealg.MaxLen"], apart := false, laid := [("unicode/utf8.acceptRanges", laid_unicode_utf8_acceptRanges), ("unicode/utf8.first", laid_unicode_utf8_first)], narrowed := true }
def DiskCapacityUptoSaid : Prop := diskCapacityUptoRow.holds Tryd.pinned (OpenSpec.upto diskCapacitySpec)

end Rows
end Go.Proofs.YtkabcpmnbjllcaaDoor
