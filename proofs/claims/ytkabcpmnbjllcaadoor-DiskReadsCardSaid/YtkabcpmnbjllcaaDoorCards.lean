/-
  DERIVED. GIVEN WITH THE SEED: THE CARDS: each row of YtkabcpmnbjllcaaDoorRows.lean that lists a variable, with what it lists TIED to the program's text (the seventh form; the later family's looks); each row that meets fmt, with fmt's text TOLD by the authors' own Lean function (tested against real Go, not proved from fmt's source: count such statements apart). THE CARD IS WHAT COUNTS. Prove the row's statement (the work); the ties are given (YtkabcpmnbjllcaaDoorTie.lean); close each card by the builder's one call (the guide's Derived/Test/ToyasCard.lean, 'card_holds'). Laid BY PROGRAM, IN A SANDBOX (cutbox-door.mjs). By AI agents, Wed Nov 11 2026. No macro, syntax, notation, axiom, sorry.
-/
import Derived.Test.YtkabcpmnbjllcaaDoorRows
import GoSem.ClaimSeven
namespace Go.Proofs.YtkabcpmnbjllcaaDoor
namespace Rows

/-- THE TIED CARD OF 'needlestorelaw10.DiskValid'. -/
def diskValidCard : Claim7 := { stood := { row := diskValidRow, standIns := [], harness := (true, "d237f5ffb3c5d765aeee65ba39cc4c1d2f8128616738b70bd98950e2d15a419b"), looks := false }, kinds := [], alts := [], laidByText := true, laidKinds := [.data, .pinned], laidTests := true, laidLooks := .later }
def DiskValidCardSaid : Prop := Claim7.holds Tryd.pinned (.plain (OpenSpec.ofChange diskValidSpec)) diskValidCard

/-- THE TIED CARD OF 'needlestorelaw10.DiskPower'. -/
def diskPowerCard : Claim7 := { stood := { row := diskPowerRow, standIns := [], harness := (true, "d237f5ffb3c5d765aeee65ba39cc4c1d2f8128616738b70bd98950e2d15a419b"), looks := false }, kinds := [], alts := [], laidByText := true, laidKinds := [.data, .pinned], laidTests := true, laidLooks := .later }
def DiskPowerCardSaid : Prop := Claim7.holds Tryd.pinned (.plain (OpenSpec.ofChange diskPowerSpec)) diskPowerCard

/-- THE TIED CARD OF 'needlestorelaw10.DiskPrefix'. -/
def diskPrefixCard : Claim7 := { stood := { row := diskPrefixRow, standIns := [], harness := (true, "d237f5ffb3c5d765aeee65ba39cc4c1d2f8128616738b70bd98950e2d15a419b"), looks := false }, kinds := [], alts := [], laidByText := true, laidKinds := [.data, .pinned], laidTests := true, laidLooks := .later }
def DiskPrefixCardSaid : Prop := Claim7.holds Tryd.pinned (.plain (OpenSpec.ofChange diskPrefixSpec)) diskPrefixCard

/-- THE TIED CARD OF 'needlestorelaw10.DiskReads'. -/
def diskReadsCard : Claim7 := { stood := { row := diskReadsRow, standIns := [], harness := (true, "d237f5ffb3c5d765aeee65ba39cc4c1d2f8128616738b70bd98950e2d15a419b"), looks := false }, kinds := [], alts := [], laidByText := true, laidKinds := [.data, .pinned], laidTests := true, laidLooks := .later }
def DiskReadsCardSaid : Prop := Claim7.holds Tryd.pinned (.plain (OpenSpec.ofChange diskReadsSpec)) diskReadsCard

/-- THE TIED CARD OF 'needlestorelaw10.DiskDurable'. -/
def diskDurableCard : Claim7 := { stood := { row := diskDurableRow, standIns := [], harness := (true, "d237f5ffb3c5d765aeee65ba39cc4c1d2f8128616738b70bd98950e2d15a419b"), looks := false }, kinds := [], alts := [], laidByText := true, laidKinds := [.data, .pinned], laidTests := true, laidLooks := .later }
def DiskDurableCardSaid : Prop := Claim7.holds Tryd.pinned (.plain (OpenSpec.ofChange diskDurableSpec)) diskDurableCard

/-- THE TIED CARD OF 'needlestorelaw10.DiskWrites'. -/
def diskWritesCard : Claim7 := { stood := { row := diskWritesRow, standIns := [], harness := (true, "d237f5ffb3c5d765aeee65ba39cc4c1d2f8128616738b70bd98950e2d15a419b"), looks := false }, kinds := [], alts := [], laidByText := true, laidKinds := [.data, .pinned], laidTests := true, laidLooks := .later }
def DiskWritesCardSaid : Prop := Claim7.holds Tryd.pinned (.plain (OpenSpec.ofChange diskWritesSpec)) diskWritesCard

/-- THE TIED CARD OF 'needlestorelaw10.DiskMoves'. -/
def diskMovesCard : Claim7 := { stood := { row := diskMovesRow, standIns := [], harness := (true, "d237f5ffb3c5d765aeee65ba39cc4c1d2f8128616738b70bd98950e2d15a419b"), looks := false }, kinds := [], alts := [], laidByText := true, laidKinds := [.data, .pinned], laidTests := true, laidLooks := .later }
def DiskMovesCardSaid : Prop := Claim7.holds Tryd.pinned (.plain (OpenSpec.ofChange diskMovesSpec)) diskMovesCard

/-- THE TIED CARD OF 'needlestorelaw10.DiskOps'. -/
def diskOpsCard : Claim7 := { stood := { row := diskOpsRow, standIns := [], harness := (true, "d237f5ffb3c5d765aeee65ba39cc4c1d2f8128616738b70bd98950e2d15a419b"), looks := false }, kinds := [], alts := [], laidByText := true, laidKinds := [.data, .pinned], laidTests := true, laidLooks := .later }
def DiskOpsCardSaid : Prop := Claim7.holds Tryd.pinned (.plain (OpenSpec.ofChange diskOpsSpec)) diskOpsCard

/-- THE TIED CARD OF 'needlestorelaw10.DiskHistories'. -/
def diskHistoriesCard : Claim7 := { stood := { row := diskHistoriesRow, standIns := [], harness := (true, "d237f5ffb3c5d765aeee65ba39cc4c1d2f8128616738b70bd98950e2d15a419b"), looks := false }, kinds := [], alts := [], laidByText := true, laidKinds := [.data, .pinned], laidTests := true, laidLooks := .later }
def DiskHistoriesCardSaid : Prop := Claim7.holds Tryd.pinned (.plain (OpenSpec.ofChange diskHistoriesSpec)) diskHistoriesCard

/-- THE TIED CARD OF 'needlestorelaw10.DiskCapacity'. -/
def diskCapacityCard : Claim7 := { stood := { row := diskCapacityRow, standIns := [], harness := (true, "d237f5ffb3c5d765aeee65ba39cc4c1d2f8128616738b70bd98950e2d15a419b"), looks := false }, kinds := [], alts := [], laidByText := true, laidKinds := [.data, .pinned], laidTests := true, laidLooks := .later }
def DiskCapacityCardSaid : Prop := Claim7.holds Tryd.pinned (.plain (OpenSpec.ofChange diskCapacitySpec)) diskCapacityCard

/-- THE SECOND FORM's CARD OF 'needlestorelaw10.DiskValid'. -/
def diskValidUptoCard : Claim7 := { stood := { row := diskValidUptoRow, standIns := [], harness := (true, "d237f5ffb3c5d765aeee65ba39cc4c1d2f8128616738b70bd98950e2d15a419b"), looks := false }, kinds := [], alts := [], laidByText := true, laidKinds := [.data, .pinned], laidTests := true, laidLooks := .later }
def DiskValidUptoCardSaid : Prop := Claim7.holds Tryd.pinned (.plain (OpenSpec.upto diskValidSpec)) diskValidUptoCard

/-- THE SECOND FORM's CARD OF 'needlestorelaw10.DiskPower'. -/
def diskPowerUptoCard : Claim7 := { stood := { row := diskPowerUptoRow, standIns := [], harness := (true, "d237f5ffb3c5d765aeee65ba39cc4c1d2f8128616738b70bd98950e2d15a419b"), looks := false }, kinds := [], alts := [], laidByText := true, laidKinds := [.data, .pinned], laidTests := true, laidLooks := .later }
def DiskPowerUptoCardSaid : Prop := Claim7.holds Tryd.pinned (.plain (OpenSpec.upto diskPowerSpec)) diskPowerUptoCard

/-- THE SECOND FORM's CARD OF 'needlestorelaw10.DiskPrefix'. -/
def diskPrefixUptoCard : Claim7 := { stood := { row := diskPrefixUptoRow, standIns := [], harness := (true, "d237f5ffb3c5d765aeee65ba39cc4c1d2f8128616738b70bd98950e2d15a419b"), looks := false }, kinds := [], alts := [], laidByText := true, laidKinds := [.data, .pinned], laidTests := true, laidLooks := .later }
def DiskPrefixUptoCardSaid : Prop := Claim7.holds Tryd.pinned (.plain (OpenSpec.upto diskPrefixSpec)) diskPrefixUptoCard

/-- THE SECOND FORM's CARD OF 'needlestorelaw10.DiskReads'. -/
def diskReadsUptoCard : Claim7 := { stood := { row := diskReadsUptoRow, standIns := [], harness := (true, "d237f5ffb3c5d765aeee65ba39cc4c1d2f8128616738b70bd98950e2d15a419b"), looks := false }, kinds := [], alts := [], laidByText := true, laidKinds := [.data, .pinned], laidTests := true, laidLooks := .later }
def DiskReadsUptoCardSaid : Prop := Claim7.holds Tryd.pinned (.plain (OpenSpec.upto diskReadsSpec)) diskReadsUptoCard

/-- THE SECOND FORM's CARD OF 'needlestorelaw10.DiskDurable'. -/
def diskDurableUptoCard : Claim7 := { stood := { row := diskDurableUptoRow, standIns := [], harness := (true, "d237f5ffb3c5d765aeee65ba39cc4c1d2f8128616738b70bd98950e2d15a419b"), looks := false }, kinds := [], alts := [], laidByText := true, laidKinds := [.data, .pinned], laidTests := true, laidLooks := .later }
def DiskDurableUptoCardSaid : Prop := Claim7.holds Tryd.pinned (.plain (OpenSpec.upto diskDurableSpec)) diskDurableUptoCard

/-- THE SECOND FORM's CARD OF 'needlestorelaw10.DiskWrites'. -/
def diskWritesUptoCard : Claim7 := { stood := { row := diskWritesUptoRow, standIns := [], harness := (true, "d237f5ffb3c5d765aeee65ba39cc4c1d2f8128616738b70bd98950e2d15a419b"), looks := false }, kinds := [], alts := [], laidByText := true, laidKinds := [.data, .pinned], laidTests := true, laidLooks := .later }
def DiskWritesUptoCardSaid : Prop := Claim7.holds Tryd.pinned (.plain (OpenSpec.upto diskWritesSpec)) diskWritesUptoCard

/-- THE SECOND FORM's CARD OF 'needlestorelaw10.DiskMoves'. -/
def diskMovesUptoCard : Claim7 := { stood := { row := diskMovesUptoRow, standIns := [], harness := (true, "d237f5ffb3c5d765aeee65ba39cc4c1d2f8128616738b70bd98950e2d15a419b"), looks := false }, kinds := [], alts := [], laidByText := true, laidKinds := [.data, .pinned], laidTests := true, laidLooks := .later }
def DiskMovesUptoCardSaid : Prop := Claim7.holds Tryd.pinned (.plain (OpenSpec.upto diskMovesSpec)) diskMovesUptoCard

/-- THE SECOND FORM's CARD OF 'needlestorelaw10.DiskOps'. -/
def diskOpsUptoCard : Claim7 := { stood := { row := diskOpsUptoRow, standIns := [], harness := (true, "d237f5ffb3c5d765aeee65ba39cc4c1d2f8128616738b70bd98950e2d15a419b"), looks := false }, kinds := [], alts := [], laidByText := true, laidKinds := [.data, .pinned], laidTests := true, laidLooks := .later }
def DiskOpsUptoCardSaid : Prop := Claim7.holds Tryd.pinned (.plain (OpenSpec.upto diskOpsSpec)) diskOpsUptoCard

/-- THE SECOND FORM's CARD OF 'needlestorelaw10.DiskHistories'. -/
def diskHistoriesUptoCard : Claim7 := { stood := { row := diskHistoriesUptoRow, standIns := [], harness := (true, "d237f5ffb3c5d765aeee65ba39cc4c1d2f8128616738b70bd98950e2d15a419b"), looks := false }, kinds := [], alts := [], laidByText := true, laidKinds := [.data, .pinned], laidTests := true, laidLooks := .later }
def DiskHistoriesUptoCardSaid : Prop := Claim7.holds Tryd.pinned (.plain (OpenSpec.upto diskHistoriesSpec)) diskHistoriesUptoCard

/-- THE SECOND FORM's CARD OF 'needlestorelaw10.DiskCapacity'. -/
def diskCapacityUptoCard : Claim7 := { stood := { row := diskCapacityUptoRow, standIns := [], harness := (true, "d237f5ffb3c5d765aeee65ba39cc4c1d2f8128616738b70bd98950e2d15a419b"), looks := false }, kinds := [], alts := [], laidByText := true, laidKinds := [.data, .pinned], laidTests := true, laidLooks := .later }
def DiskCapacityUptoCardSaid : Prop := Claim7.holds Tryd.pinned (.plain (OpenSpec.upto diskCapacitySpec)) diskCapacityUptoCard
end Rows
end Go.Proofs.YtkabcpmnbjllcaaDoor
