/-
  No cell of these rows narrows 'for every input' (looked for: loops, veiled, ifaces, maps, wideKeys, modest, calm, conditions, laid).
  DERIVED. THE GIVEN ROWS OF THIS SEAT. 5 by the template 'for every input the law returns true; each argument reads behind the call as it read before'; 0 by the template 'total and deterministic' (their statements: YtibddmnfplmonaaGreatTotals.lean).
  GIVEN WITH THE SEED: the statements are not yours to turn. If you find one false, say at which input.
  Laid BY PROGRAM, IN A SANDBOX (cutbox-rows.mjs): the forced cells as the released guide's own fill.sh prints them over the translation 49c424f23da31b2a… (all of the seat's roots in one cut). By AI agents, Wed Nov 11 2026. No macro, syntax, notation, axiom, sorry.
-/
import Derived.Test.YtibddmnfplmonaaGreatChecked
import GoSem.Claim
import GoSem.ClaimJoined
import GoSem.ClaimMapViews
import Derived.JoinedTies
import Derived.KernelRfl
namespace Go.Proofs.YtibddmnfplmonaaGreat
/- THE CELL 'sum', in the pinned program and in every row, IS THE sha256 OF THE DUMP (.gsa) THAT YtibddmnfplmonaaGreatProg.lean LOADS. Nothing in Lean hashes anything: it is a label: what it is worth is what the hold of that sum in a sandbox is worth. -/
noncomputable def Tryz.pinned : Pinned := { name := "ytibddmnfplmonaagreat", sum := "49c424f23da31b2a05b56ab379f44efa722a743ee7d28b515af9e4611e7bb649", checked := Tryz.checked }
namespace Rows
def none {H : Type} : Left H := { results := [], args := [] }

/-- 'needlestorelaw13.SlotFinds': WHATEVER THE INPUT: true; the input reads as it did. -/
def slotFindsSpec : ChangeSpec := { name := "slotFinds", fn := fun _ => fun
  | [d1, d2, d3] => { results := [.lit (.bool true)], args := [d1, d2, d3] }
  | _ => none }
def slotFindsRow : OpenClaim := { program := "ytibddmnfplmonaagreat", sum := "49c424f23da31b2a05b56ab379f44efa722a743ee7d28b515af9e4611e7bb649", func := "needlestore/needlestorelaw13.SlotFinds", spec := "slotFinds", unfollowed := true, recurses := true, apart := false }
def SlotFindsSaid : Prop := slotFindsRow.holds Tryz.pinned (OpenSpec.ofChange slotFindsSpec)

/-- ITS FALSE NEIGHBOUR: 'it returns false'. Refute it at one input. -/
def slotFindsWrong : ChangeSpec := { name := "slotFinds", fn := fun _ => fun
  | [d1, d2, d3] => { results := [.lit (.bool false)], args := [d1, d2, d3] }
  | _ => none }
def SlotFindsWrongFalsely : Prop := slotFindsRow.holds Tryz.pinned (OpenSpec.ofChange slotFindsWrong)

/-- 'needlestorelaw13.SlotValid': WHATEVER THE INPUT: true; the input reads as it did. -/
def slotValidSpec : ChangeSpec := { name := "slotValid", fn := fun _ => fun
  | [d1, d2, d3, d4, d5, d6] => { results := [.lit (.bool true)], args := [d1, d2, d3, d4, d5, d6] }
  | _ => none }
def slotValidRow : OpenClaim := { program := "ytibddmnfplmonaagreat", sum := "49c424f23da31b2a05b56ab379f44efa722a743ee7d28b515af9e4611e7bb649", func := "needlestore/needlestorelaw13.SlotValid", spec := "slotValid", unfollowed := true, recurses := true, apart := false }
def SlotValidSaid : Prop := slotValidRow.holds Tryz.pinned (OpenSpec.ofChange slotValidSpec)

/-- ITS FALSE NEIGHBOUR: 'it returns false'. Refute it at one input. -/
def slotValidWrong : ChangeSpec := { name := "slotValid", fn := fun _ => fun
  | [d1, d2, d3, d4, d5, d6] => { results := [.lit (.bool false)], args := [d1, d2, d3, d4, d5, d6] }
  | _ => none }
def SlotValidWrongFalsely : Prop := slotValidRow.holds Tryz.pinned (OpenSpec.ofChange slotValidWrong)

/-- 'needlestorelaw13.SlotChanges': WHATEVER THE INPUT: true; the input reads as it did. -/
def slotChangesSpec : ChangeSpec := { name := "slotChanges", fn := fun _ => fun
  | [d1, d2, d3, d4, d5] => { results := [.lit (.bool true)], args := [d1, d2, d3, d4, d5] }
  | _ => none }
def slotChangesRow : OpenClaim := { program := "ytibddmnfplmonaagreat", sum := "49c424f23da31b2a05b56ab379f44efa722a743ee7d28b515af9e4611e7bb649", func := "needlestore/needlestorelaw13.SlotChanges", spec := "slotChanges", unfollowed := true, recurses := true, apart := false }
def SlotChangesSaid : Prop := slotChangesRow.holds Tryz.pinned (OpenSpec.ofChange slotChangesSpec)

/-- ITS FALSE NEIGHBOUR: 'it returns false'. Refute it at one input. -/
def slotChangesWrong : ChangeSpec := { name := "slotChanges", fn := fun _ => fun
  | [d1, d2, d3, d4, d5] => { results := [.lit (.bool false)], args := [d1, d2, d3, d4, d5] }
  | _ => none }
def SlotChangesWrongFalsely : Prop := slotChangesRow.holds Tryz.pinned (OpenSpec.ofChange slotChangesWrong)

/-- 'needlestorelaw13.SlotOldest': WHATEVER THE INPUT: true; the input reads as it did. -/
def slotOldestSpec : ChangeSpec := { name := "slotOldest", fn := fun _ => fun
  | [d1, d2] => { results := [.lit (.bool true)], args := [d1, d2] }
  | _ => none }
def slotOldestRow : OpenClaim := { program := "ytibddmnfplmonaagreat", sum := "49c424f23da31b2a05b56ab379f44efa722a743ee7d28b515af9e4611e7bb649", func := "needlestore/needlestorelaw13.SlotOldest", spec := "slotOldest", unfollowed := true, recurses := true, apart := false }
def SlotOldestSaid : Prop := slotOldestRow.holds Tryz.pinned (OpenSpec.ofChange slotOldestSpec)

/-- ITS FALSE NEIGHBOUR: 'it returns false'. Refute it at one input. -/
def slotOldestWrong : ChangeSpec := { name := "slotOldest", fn := fun _ => fun
  | [d1, d2] => { results := [.lit (.bool false)], args := [d1, d2] }
  | _ => none }
def SlotOldestWrongFalsely : Prop := slotOldestRow.holds Tryz.pinned (OpenSpec.ofChange slotOldestWrong)

/-- 'needlestorelaw13.SlotCurrent': WHATEVER THE INPUT: true; the input reads as it did. -/
def slotCurrentSpec : ChangeSpec := { name := "slotCurrent", fn := fun _ => fun
  | [d1, d2, d3] => { results := [.lit (.bool true)], args := [d1, d2, d3] }
  | _ => none }
def slotCurrentRow : OpenClaim := { program := "ytibddmnfplmonaagreat", sum := "49c424f23da31b2a05b56ab379f44efa722a743ee7d28b515af9e4611e7bb649", func := "needlestore/needlestorelaw13.SlotCurrent", spec := "slotCurrent", inPlace := ["slices.overlaps[needlestore/api.Item]"], unfollowed := true, recurses := true, apart := false }
def SlotCurrentSaid : Prop := slotCurrentRow.holds Tryz.pinned (OpenSpec.ofChange slotCurrentSpec)

/-- ITS FALSE NEIGHBOUR: 'it returns false'. Refute it at one input. -/
def slotCurrentWrong : ChangeSpec := { name := "slotCurrent", fn := fun _ => fun
  | [d1, d2, d3] => { results := [.lit (.bool false)], args := [d1, d2, d3] }
  | _ => none }
def SlotCurrentWrongFalsely : Prop := slotCurrentRow.holds Tryz.pinned (OpenSpec.ofChange slotCurrentWrong)

/- THE SECOND FORM. 'bulk': how many values and letters a reading holds, each counted each time it is reached (what is shared counts as often as it is met; a slice's spare places count too). A statement '..UptoSaid' is the law's where the arguments, and the package variables that the reading takes, are together of bulk at most 1048576: NARROWER than '..Said'. Prove '..Said' where nothing that the law and all that it calls make is longer than what came in: it says more and counts as full. Else prove '..UptoSaid'. A law counts once. -/
mutual
def uptoBulk {H : Type} : DataW H → Nat
  | .lit (.string bytes) => bytes.length + 1
  | .lit _ => 1
  | .nil => 1
  | .ptr d => uptoBulk d + 1
  | .slice elems spare => uptoBulkAll elems + uptoBulkAll spare + 1
  | .agg parts => uptoBulkAll parts + 1
  | .iface _ d => uptoBulk d + 1
  | .map entries => uptoBulkEntries entries + 1
  | .held _ => 1
def uptoBulkAll {H : Type} : List (DataW H) → Nat
  | [] => 0
  | d :: r => uptoBulk d + uptoBulkAll r
def uptoBulkEntries {H : Type} : List (Lit × DataW H) → Nat
  | [] => 0
  | x :: r => uptoBulkEntry x + uptoBulkEntries r
def uptoBulkEntry {H : Type} : Lit × DataW H → Nat
  | (.string bytes, d) => bytes.length + uptoBulk d + 1
  | (_, d) => uptoBulk d + 1
 end
def uptoSmall : (H : Type) → List (DataW H) → Bool := fun _ ds => decide (uptoBulkAll ds ≤ 1048576)
def OpenSpec.upto (s : _root_.Go.ChangeSpec) : _root_.Go.OpenSpec := { _root_.Go.OpenSpec.ofChange s with cond := some uptoSmall }

/-- 'needlestorelaw13.SlotFinds', WHERE WHAT IT READS IS OF BULK AT MOST 1048576: true; the input reads as it did. -/
def slotFindsUptoRow : OpenClaim := { program := "ytibddmnfplmonaagreat", sum := "49c424f23da31b2a05b56ab379f44efa722a743ee7d28b515af9e4611e7bb649", func := "needlestore/needlestorelaw13.SlotFinds", spec := "slotFinds", unfollowed := true, recurses := true, apart := false, narrowed := true }
def SlotFindsUptoSaid : Prop := slotFindsUptoRow.holds Tryz.pinned (OpenSpec.upto slotFindsSpec)

/-- 'needlestorelaw13.SlotValid', WHERE WHAT IT READS IS OF BULK AT MOST 1048576: true; the input reads as it did. -/
def slotValidUptoRow : OpenClaim := { program := "ytibddmnfplmonaagreat", sum := "49c424f23da31b2a05b56ab379f44efa722a743ee7d28b515af9e4611e7bb649", func := "needlestore/needlestorelaw13.SlotValid", spec := "slotValid", unfollowed := true, recurses := true, apart := false, narrowed := true }
def SlotValidUptoSaid : Prop := slotValidUptoRow.holds Tryz.pinned (OpenSpec.upto slotValidSpec)

/-- 'needlestorelaw13.SlotChanges', WHERE WHAT IT READS IS OF BULK AT MOST 1048576: true; the input reads as it did. -/
def slotChangesUptoRow : OpenClaim := { program := "ytibddmnfplmonaagreat", sum := "49c424f23da31b2a05b56ab379f44efa722a743ee7d28b515af9e4611e7bb649", func := "needlestore/needlestorelaw13.SlotChanges", spec := "slotChanges", unfollowed := true, recurses := true, apart := false, narrowed := true }
def SlotChangesUptoSaid : Prop := slotChangesUptoRow.holds Tryz.pinned (OpenSpec.upto slotChangesSpec)

/-- 'needlestorelaw13.SlotOldest', WHERE WHAT IT READS IS OF BULK AT MOST 1048576: true; the input reads as it did. -/
def slotOldestUptoRow : OpenClaim := { program := "ytibddmnfplmonaagreat", sum := "49c424f23da31b2a05b56ab379f44efa722a743ee7d28b515af9e4611e7bb649", func := "needlestore/needlestorelaw13.SlotOldest", spec := "slotOldest", unfollowed := true, recurses := true, apart := false, narrowed := true }
def SlotOldestUptoSaid : Prop := slotOldestUptoRow.holds Tryz.pinned (OpenSpec.upto slotOldestSpec)

/-- 'needlestorelaw13.SlotCurrent', WHERE WHAT IT READS IS OF BULK AT MOST 1048576: true; the input reads as it did. -/
def slotCurrentUptoRow : OpenClaim := { program := "ytibddmnfplmonaagreat", sum := "49c424f23da31b2a05b56ab379f44efa722a743ee7d28b515af9e4611e7bb649", func := "needlestore/needlestorelaw13.SlotCurrent", spec := "slotCurrent", inPlace := ["slices.overlaps[needlestore/api.Item]"], unfollowed := true, recurses := true, apart := false, narrowed := true }
def SlotCurrentUptoSaid : Prop := slotCurrentUptoRow.holds Tryz.pinned (OpenSpec.upto slotCurrentSpec)

end Rows
end Go.Proofs.YtibddmnfplmonaaGreat
