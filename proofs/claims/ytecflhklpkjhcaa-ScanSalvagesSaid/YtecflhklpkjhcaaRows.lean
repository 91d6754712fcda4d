/-
  No cell of these rows narrows 'for every input' (looked for: loops, veiled, ifaces, maps, wideKeys, modest, calm, conditions, laid).
  DERIVED. THE GIVEN ROWS OF THIS SEAT. 7 by the template 'for every input the law returns true; each argument reads behind the call as it read before'; 0 by the template 'total and deterministic' (their statements: YtecflhklpkjhcaaTotals.lean).
  GIVEN WITH THE SEED: the statements are not yours to turn. If you find one false, say at which input.
  Laid BY PROGRAM, IN A SANDBOX (cutbox-rows.mjs): the forced cells as the released guide's own fill.sh prints them over the translation ed784e28d41a1b29… (all of the seat's roots in one cut). By AI agents, Wed Nov 11 2026. No macro, syntax, notation, axiom, sorry.
-/
import Derived.Test.YtecflhklpkjhcaaChecked
import GoSem.Claim
import GoSem.ClaimJoined
import GoSem.ClaimMapViews
import Derived.JoinedTies
import Derived.KernelRfl
namespace Go.Proofs.Ytecflhklpkjhcaa
/- THE CELL 'sum', in the pinned program and in every row, IS THE sha256 OF THE DUMP (.gsa) THAT YtecflhklpkjhcaaProg.lean LOADS. Nothing in Lean hashes anything: it is a label: what it is worth is what the hold of that sum in a sandbox is worth. -/
noncomputable def Try.pinned : Pinned := { name := "ytecflhklpkjhcaa", sum := "ed784e28d41a1b294df1805bb63fdf03740a5c7b0e043a91c706feef2d714ce9", checked := Try.checked }
namespace Rows
def none {H : Type} : Left H := { results := [], args := [] }

/-- 'needlestorelaw09.ScanReads': WHATEVER THE INPUT: true; the input reads as it did. -/
def scanReadsSpec : ChangeSpec := { name := "scanReads", fn := fun _ => fun
  | [d1, d2] => { results := [.lit (.bool true)], args := [d1, d2] }
  | _ => none }
def scanReadsRow : OpenClaim := { program := "ytecflhklpkjhcaa", sum := "ed784e28d41a1b294df1805bb63fdf03740a5c7b0e043a91c706feef2d714ce9", func := "needlestore/needlestorelaw09.ScanReads", spec := "scanReads", unfollowed := true, recurses := true, apart := false }
def ScanReadsSaid : Prop := scanReadsRow.holds Try.pinned (OpenSpec.ofChange scanReadsSpec)

/-- ITS FALSE NEIGHBOUR: 'it returns false'. Refute it at one input. -/
def scanReadsWrong : ChangeSpec := { name := "scanReads", fn := fun _ => fun
  | [d1, d2] => { results := [.lit (.bool false)], args := [d1, d2] }
  | _ => none }
def ScanReadsWrongFalsely : Prop := scanReadsRow.holds Try.pinned (OpenSpec.ofChange scanReadsWrong)

/-- 'needlestorelaw09.ScanTorn': WHATEVER THE INPUT: true; the input reads as it did. -/
def scanTornSpec : ChangeSpec := { name := "scanTorn", fn := fun _ => fun
  | [d1, d2] => { results := [.lit (.bool true)], args := [d1, d2] }
  | _ => none }
def scanTornRow : OpenClaim := { program := "ytecflhklpkjhcaa", sum := "ed784e28d41a1b294df1805bb63fdf03740a5c7b0e043a91c706feef2d714ce9", func := "needlestore/needlestorelaw09.ScanTorn", spec := "scanTorn", unfollowed := true, recurses := true, apart := false }
def ScanTornSaid : Prop := scanTornRow.holds Try.pinned (OpenSpec.ofChange scanTornSpec)

/-- ITS FALSE NEIGHBOUR: 'it returns false'. Refute it at one input. -/
def scanTornWrong : ChangeSpec := { name := "scanTorn", fn := fun _ => fun
  | [d1, d2] => { results := [.lit (.bool false)], args := [d1, d2] }
  | _ => none }
def ScanTornWrongFalsely : Prop := scanTornRow.holds Try.pinned (OpenSpec.ofChange scanTornWrong)

/-- 'needlestorelaw09.ScanLast': WHATEVER THE INPUT: true; the input reads as it did. -/
def scanLastSpec : ChangeSpec := { name := "scanLast", fn := fun _ => fun
  | [d1, d2] => { results := [.lit (.bool true)], args := [d1, d2] }
  | _ => none }
def scanLastRow : OpenClaim := { program := "ytecflhklpkjhcaa", sum := "ed784e28d41a1b294df1805bb63fdf03740a5c7b0e043a91c706feef2d714ce9", func := "needlestore/needlestorelaw09.ScanLast", spec := "scanLast", unfollowed := true, recurses := true, apart := false }
def ScanLastSaid : Prop := scanLastRow.holds Try.pinned (OpenSpec.ofChange scanLastSpec)

/-- ITS FALSE NEIGHBOUR: 'it returns false'. Refute it at one input. -/
def scanLastWrong : ChangeSpec := { name := "scanLast", fn := fun _ => fun
  | [d1, d2] => { results := [.lit (.bool false)], args := [d1, d2] }
  | _ => none }
def ScanLastWrongFalsely : Prop := scanLastRow.holds Try.pinned (OpenSpec.ofChange scanLastWrong)

/-- 'needlestorelaw09.ScanItems': WHATEVER THE INPUT: true; the input reads as it did. -/
def scanItemsSpec : ChangeSpec := { name := "scanItems", fn := fun _ => fun
  | [d1, d2] => { results := [.lit (.bool true)], args := [d1, d2] }
  | _ => none }
def scanItemsRow : OpenClaim := { program := "ytecflhklpkjhcaa", sum := "ed784e28d41a1b294df1805bb63fdf03740a5c7b0e043a91c706feef2d714ce9", func := "needlestore/needlestorelaw09.ScanItems", spec := "scanItems", unfollowed := true, recurses := true, apart := false }
def ScanItemsSaid : Prop := scanItemsRow.holds Try.pinned (OpenSpec.ofChange scanItemsSpec)

/-- ITS FALSE NEIGHBOUR: 'it returns false'. Refute it at one input. -/
def scanItemsWrong : ChangeSpec := { name := "scanItems", fn := fun _ => fun
  | [d1, d2] => { results := [.lit (.bool false)], args := [d1, d2] }
  | _ => none }
def ScanItemsWrongFalsely : Prop := scanItemsRow.holds Try.pinned (OpenSpec.ofChange scanItemsWrong)

/-- 'needlestorelaw09.ScanSums': WHATEVER THE INPUT: true; the input reads as it did. -/
def scanSumsSpec : ChangeSpec := { name := "scanSums", fn := fun _ => fun
  | [d] => { results := [.lit (.bool true)], args := [d] }
  | _ => none }
def scanSumsRow : OpenClaim := { program := "ytecflhklpkjhcaa", sum := "ed784e28d41a1b294df1805bb63fdf03740a5c7b0e043a91c706feef2d714ce9", func := "needlestore/needlestorelaw09.ScanSums", spec := "scanSums", unfollowed := true, recurses := true, apart := false }
def ScanSumsSaid : Prop := scanSumsRow.holds Try.pinned (OpenSpec.ofChange scanSumsSpec)

/-- ITS FALSE NEIGHBOUR: 'it returns false'. Refute it at one input. -/
def scanSumsWrong : ChangeSpec := { name := "scanSums", fn := fun _ => fun
  | [d] => { results := [.lit (.bool false)], args := [d] }
  | _ => none }
def ScanSumsWrongFalsely : Prop := scanSumsRow.holds Try.pinned (OpenSpec.ofChange scanSumsWrong)

/-- 'needlestorelaw09.ScanOpens': WHATEVER THE INPUT: true; the input reads as it did. -/
def scanOpensSpec : ChangeSpec := { name := "scanOpens", fn := fun _ => fun
  | [d1, d2, d3, d4] => { results := [.lit (.bool true)], args := [d1, d2, d3, d4] }
  | _ => none }
def scanOpensRow : OpenClaim := { program := "ytecflhklpkjhcaa", sum := "ed784e28d41a1b294df1805bb63fdf03740a5c7b0e043a91c706feef2d714ce9", func := "needlestore/needlestorelaw09.ScanOpens", spec := "scanOpens", unfollowed := true, recurses := true, apart := false }
def ScanOpensSaid : Prop := scanOpensRow.holds Try.pinned (OpenSpec.ofChange scanOpensSpec)

/-- ITS FALSE NEIGHBOUR: 'it returns false'. Refute it at one input. -/
def scanOpensWrong : ChangeSpec := { name := "scanOpens", fn := fun _ => fun
  | [d1, d2, d3, d4] => { results := [.lit (.bool false)], args := [d1, d2, d3, d4] }
  | _ => none }
def ScanOpensWrongFalsely : Prop := scanOpensRow.holds Try.pinned (OpenSpec.ofChange scanOpensWrong)

/-- 'needlestorelaw09.ScanSalvages': WHATEVER THE INPUT: true; the input reads as it did. -/
def scanSalvagesSpec : ChangeSpec := { name := "scanSalvages", fn := fun _ => fun
  | [d1, d2, d3, d4] => { results := [.lit (.bool true)], args := [d1, d2, d3, d4] }
  | _ => none }
def scanSalvagesRow : OpenClaim := { program := "ytecflhklpkjhcaa", sum := "ed784e28d41a1b294df1805bb63fdf03740a5c7b0e043a91c706feef2d714ce9", func := "needlestore/needlestorelaw09.ScanSalvages", spec := "scanSalvages", unfollowed := true, recurses := true, apart := false }
def ScanSalvagesSaid : Prop := scanSalvagesRow.holds Try.pinned (OpenSpec.ofChange scanSalvagesSpec)

/-- ITS FALSE NEIGHBOUR: 'it returns false'. Refute it at one input. -/
def scanSalvagesWrong : ChangeSpec := { name := "scanSalvages", fn := fun _ => fun
  | [d1, d2, d3, d4] => { results := [.lit (.bool false)], args := [d1, d2, d3, d4] }
  | _ => none }
def ScanSalvagesWrongFalsely : Prop := scanSalvagesRow.holds Try.pinned (OpenSpec.ofChange scanSalvagesWrong)

/- THE SECOND FORM. 'bulk': how many values and letters a reading holds, each counted each time it is reached (what is shared counts as often as it is met; a slice's spare places count too). A statement '..UptoSaid' is the law's where the arguments, and the package variables that the reading takes, are together of bulk at most 1048576: NARROWER than '..Said'. Prove '..Said' where nothing that the law and all that it calls make is longer than what came in: it says more and counts as full. Else prove '..UptoSaid'. A law counts once. -/
mutual
def uptoBulk {H : Type} : DataW H → Nat
  | .lit (.string bytes) => bytes.length + 1
  | .lit _ => 1
  | .nil => 1
  | .ptr d => uptoBulk d + 1
  | .slice elems spare => uptoBulkAll elems + uptoBulkAll spare + 1
  | .agg parts => uptoBulkAll parts + 1
  | .iface _ d => uptoBulk d + 1
  | .map entries => uptoBulkEntries entries + 1
  | .held _ => 1
def uptoBulkAll {H : Type} : List (DataW H) → Nat
  | [] => 0
  | d :: r => uptoBulk d + uptoBulkAll r
def uptoBulkEntries {H : Type} : List (Lit × DataW H) → Nat
  | [] => 0
  | x :: r => uptoBulkEntry x + uptoBulkEntries r
def uptoBulkEntry {H : Type} : Lit × DataW H → Nat
  | (.string bytes, d) => bytes.length + uptoBulk d + 1
  | (_, d) => uptoBulk d + 1
 end
def uptoSmall : (H : Type) → List (DataW H) → Bool := fun _ ds => decide (uptoBulkAll ds ≤ 1048576)
def OpenSpec.upto (s : _root_.Go.ChangeSpec) : _root_.Go.OpenSpec := { _root_.Go.OpenSpec.ofChange s with cond := some uptoSmall }

/-- 'needlestorelaw09.ScanReads', WHERE WHAT IT READS IS OF BULK AT MOST 1048576: true; the input reads as it did. -/
def scanReadsUptoRow : OpenClaim := { program := "ytecflhklpkjhcaa", sum := "ed784e28d41a1b294df1805bb63fdf03740a5c7b0e043a91c706feef2d714ce9", func := "needlestore/needlestorelaw09.ScanReads", spec := "scanReads", unfollowed := true, recurses := true, apart := false, narrowed := true }
def ScanReadsUptoSaid : Prop := scanReadsUptoRow.holds Try.pinned (OpenSpec.upto scanReadsSpec)

/-- 'needlestorelaw09.ScanTorn', WHERE WHAT IT READS IS OF BULK AT MOST 1048576: true; the input reads as it did. -/
def scanTornUptoRow : OpenClaim := { program := "ytecflhklpkjhcaa", sum := "ed784e28d41a1b294df1805bb63fdf03740a5c7b0e043a91c706feef2d714ce9", func := "needlestore/needlestorelaw09.ScanTorn", spec := "scanTorn", unfollowed := true, recurses := true, apart := false, narrowed := true }
def ScanTornUptoSaid : Prop := scanTornUptoRow.holds Try.pinned (OpenSpec.upto scanTornSpec)

/-- 'needlestorelaw09.ScanLast', WHERE WHAT IT READS IS OF BULK AT MOST 1048576: true; the input reads as it did. -/
def scanLastUptoRow : OpenClaim := { program := "ytecflhklpkjhcaa", sum := "ed784e28d41a1b294df1805bb63fdf03740a5c7b0e043a91c706feef2d714ce9", func := "needlestore/needlestorelaw09.ScanLast", spec := "scanLast", unfollowed := true, recurses := true, apart := false, narrowed := true }
def ScanLastUptoSaid : Prop := scanLastUptoRow.holds Try.pinned (OpenSpec.upto scanLastSpec)

/-- 'needlestorelaw09.ScanItems', WHERE WHAT IT READS IS OF BULK AT MOST 1048576: true; the input reads as it did. -/
def scanItemsUptoRow : OpenClaim := { program := "ytecflhklpkjhcaa", sum := "ed784e28d41a1b294df1805bb63fdf03740a5c7b0e043a91c706feef2d714ce9", func := "needlestore/needlestorelaw09.ScanItems", spec := "scanItems", unfollowed := true, recurses := true, apart := false, narrowed := true }
def ScanItemsUptoSaid : Prop := scanItemsUptoRow.holds Try.pinned (OpenSpec.upto scanItemsSpec)

/-- 'needlestorelaw09.ScanSums', WHERE WHAT IT READS IS OF BULK AT MOST 1048576: true; the input reads as it did. -/
def scanSumsUptoRow : OpenClaim := { program := "ytecflhklpkjhcaa", sum := "ed784e28d41a1b294df1805bb63fdf03740a5c7b0e043a91c706feef2d714ce9", func := "needlestore/needlestorelaw09.ScanSums", spec := "scanSums", unfollowed := true, recurses := true, apart := false, narrowed := true }
def ScanSumsUptoSaid : Prop := scanSumsUptoRow.holds Try.pinned (OpenSpec.upto scanSumsSpec)

/-- 'needlestorelaw09.ScanOpens', WHERE WHAT IT READS IS OF BULK AT MOST 1048576: true; the input reads as it did. -/
def scanOpensUptoRow : OpenClaim := { program := "ytecflhklpkjhcaa", sum := "ed784e28d41a1b294df1805bb63fdf03740a5c7b0e043a91c706feef2d714ce9", func := "needlestore/needlestorelaw09.ScanOpens", spec := "scanOpens", unfollowed := true, recurses := true, apart := false, narrowed := true }
def ScanOpensUptoSaid : Prop := scanOpensUptoRow.holds Try.pinned (OpenSpec.upto scanOpensSpec)

/-- 'needlestorelaw09.ScanSalvages', WHERE WHAT IT READS IS OF BULK AT MOST 1048576: true; the input reads as it did. -/
def scanSalvagesUptoRow : OpenClaim := { program := "ytecflhklpkjhcaa", sum := "ed784e28d41a1b294df1805bb63fdf03740a5c7b0e043a91c706feef2d714ce9", func := "needlestore/needlestorelaw09.ScanSalvages", spec := "scanSalvages", unfollowed := true, recurses := true, apart := false, narrowed := true }
def ScanSalvagesUptoSaid : Prop := scanSalvagesUptoRow.holds Try.pinned (OpenSpec.upto scanSalvagesSpec)

end Rows
end Go.Proofs.Ytecflhklpkjhcaa
