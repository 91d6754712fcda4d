/-
  No cell of these rows narrows 'for every input' (looked for: loops, veiled, ifaces, maps, wideKeys, modest, calm, conditions, laid).
  DERIVED. THE GIVEN ROWS OF THIS SEAT. 5 by the template 'for every input the law returns true; each argument reads behind the call as it read before'; 0 by the template 'total and deterministic' (their statements: YtffmdhloplindaaTotals.lean).
  GIVEN WITH THE SEED: the statements are not yours to turn. If you find one false, say at which input.
  Laid BY PROGRAM, IN A SANDBOX (cutbox-rows.mjs): the forced cells as the released guide's own fill.sh prints them over the translation 7cafdee4a7916c20… (all of the seat's roots in one cut). By AI agents, Wed Nov 11 2026. No macro, syntax, notation, axiom, sorry.
-/
import Derived.Test.YtffmdhloplindaaChecked
import GoSem.Claim
import GoSem.ClaimJoined
import GoSem.ClaimMapViews
import Derived.JoinedTies
import Derived.KernelRfl
namespace Go.Proofs.Ytffmdhloplindaa
/- THE CELL 'sum', in the pinned program and in every row, IS THE sha256 OF THE DUMP (.gsa) THAT YtffmdhloplindaaProg.lean LOADS. Nothing in Lean hashes anything: it is a label: what it is worth is what the hold of that sum in a sandbox is worth. -/
noncomputable def Try.pinned : Pinned := { name := "ytffmdhloplindaa", sum := "7cafdee4a7916c20eebd9bdb5a7cda47d9abbddd1fe71d10db0084b56ac231b6", checked := Try.checked }
namespace Rows
def none {H : Type} : Left H := { results := [], args := [] }

/-- 'needlestorelaw23.SchedPicks': WHATEVER THE INPUT: true; the input reads as it did. -/
def schedPicksSpec : ChangeSpec := { name := "schedPicks", fn := fun _ => fun
  | [d1, d2, d3] => { results := [.lit (.bool true)], args := [d1, d2, d3] }
  | _ => none }
def schedPicksRow : OpenClaim := { program := "ytffmdhloplindaa", sum := "7cafdee4a7916c20eebd9bdb5a7cda47d9abbddd1fe71d10db0084b56ac231b6", func := "needlestore/needlestorelaw23.SchedPicks", spec := "schedPicks", apart := false }
def SchedPicksSaid : Prop := schedPicksRow.holds Try.pinned (OpenSpec.ofChange schedPicksSpec)

/-- ITS FALSE NEIGHBOUR: 'it returns false'. Refute it at one input. -/
def schedPicksWrong : ChangeSpec := { name := "schedPicks", fn := fun _ => fun
  | [d1, d2, d3] => { results := [.lit (.bool false)], args := [d1, d2, d3] }
  | _ => none }
def SchedPicksWrongFalsely : Prop := schedPicksRow.holds Try.pinned (OpenSpec.ofChange schedPicksWrong)

/-- 'needlestorelaw23.SchedPromise': WHATEVER THE INPUT: true; the input reads as it did. -/
def schedPromiseSpec : ChangeSpec := { name := "schedPromise", fn := fun _ => fun
  | [d1, d2, d3] => { results := [.lit (.bool true)], args := [d1, d2, d3] }
  | _ => none }
def schedPromiseRow : OpenClaim := { program := "ytffmdhloplindaa", sum := "7cafdee4a7916c20eebd9bdb5a7cda47d9abbddd1fe71d10db0084b56ac231b6", func := "needlestore/needlestorelaw23.SchedPromise", spec := "schedPromise", apart := false }
def SchedPromiseSaid : Prop := schedPromiseRow.holds Try.pinned (OpenSpec.ofChange schedPromiseSpec)

/-- ITS FALSE NEIGHBOUR: 'it returns false'. Refute it at one input. -/
def schedPromiseWrong : ChangeSpec := { name := "schedPromise", fn := fun _ => fun
  | [d1, d2, d3] => { results := [.lit (.bool false)], args := [d1, d2, d3] }
  | _ => none }
def SchedPromiseWrongFalsely : Prop := schedPromiseRow.holds Try.pinned (OpenSpec.ofChange schedPromiseWrong)

/-- 'needlestorelaw23.SchedWorst': WHATEVER THE INPUT: true; the input reads as it did. -/
def schedWorstSpec : ChangeSpec := { name := "schedWorst", fn := fun _ => fun
  | [d1, d2, d3, d4, d5] => { results := [.lit (.bool true)], args := [d1, d2, d3, d4, d5] }
  | _ => none }
def schedWorstRow : OpenClaim := { program := "ytffmdhloplindaa", sum := "7cafdee4a7916c20eebd9bdb5a7cda47d9abbddd1fe71d10db0084b56ac231b6", func := "needlestore/needlestorelaw23.SchedWorst", spec := "schedWorst", apart := false }
def SchedWorstSaid : Prop := schedWorstRow.holds Try.pinned (OpenSpec.ofChange schedWorstSpec)

/-- ITS FALSE NEIGHBOUR: 'it returns false'. Refute it at one input. -/
def schedWorstWrong : ChangeSpec := { name := "schedWorst", fn := fun _ => fun
  | [d1, d2, d3, d4, d5] => { results := [.lit (.bool false)], args := [d1, d2, d3, d4, d5] }
  | _ => none }
def SchedWorstWrongFalsely : Prop := schedWorstRow.holds Try.pinned (OpenSpec.ofChange schedWorstWrong)

/-- 'needlestorelaw23.SchedRobin': WHATEVER THE INPUT: true; the input reads as it did. -/
def schedRobinSpec : ChangeSpec := { name := "schedRobin", fn := fun _ => fun
  | [d1, d2] => { results := [.lit (.bool true)], args := [d1, d2] }
  | _ => none }
def schedRobinRow : OpenClaim := { program := "ytffmdhloplindaa", sum := "7cafdee4a7916c20eebd9bdb5a7cda47d9abbddd1fe71d10db0084b56ac231b6", func := "needlestore/needlestorelaw23.SchedRobin", spec := "schedRobin", apart := false }
def SchedRobinSaid : Prop := schedRobinRow.holds Try.pinned (OpenSpec.ofChange schedRobinSpec)

/-- ITS FALSE NEIGHBOUR: 'it returns false'. Refute it at one input. -/
def schedRobinWrong : ChangeSpec := { name := "schedRobin", fn := fun _ => fun
  | [d1, d2] => { results := [.lit (.bool false)], args := [d1, d2] }
  | _ => none }
def SchedRobinWrongFalsely : Prop := schedRobinRow.holds Try.pinned (OpenSpec.ofChange schedRobinWrong)

/-- 'needlestorelaw23.SchedFair': WHATEVER THE INPUT: true; the input reads as it did. -/
def schedFairSpec : ChangeSpec := { name := "schedFair", fn := fun _ => fun
  | [d1, d2, d3, d4, d5] => { results := [.lit (.bool true)], args := [d1, d2, d3, d4, d5] }
  | _ => none }
def schedFairRow : OpenClaim := { program := "ytffmdhloplindaa", sum := "7cafdee4a7916c20eebd9bdb5a7cda47d9abbddd1fe71d10db0084b56ac231b6", func := "needlestore/needlestorelaw23.SchedFair", spec := "schedFair", apart := false }
def SchedFairSaid : Prop := schedFairRow.holds Try.pinned (OpenSpec.ofChange schedFairSpec)

/-- ITS FALSE NEIGHBOUR: 'it returns false'. Refute it at one input. -/
def schedFairWrong : ChangeSpec := { name := "schedFair", fn := fun _ => fun
  | [d1, d2, d3, d4, d5] => { results := [.lit (.bool false)], args := [d1, d2, d3, d4, d5] }
  | _ => none }
def SchedFairWrongFalsely : Prop := schedFairRow.holds Try.pinned (OpenSpec.ofChange schedFairWrong)

/- THE SECOND FORM. 'bulk': how many values and letters a reading holds, each counted each time it is reached (what is shared counts as often as it is met; a slice's spare places count too). A statement '..UptoSaid' is the law's where the arguments, and the package variables that the reading takes, are together of bulk at most 1048576: NARROWER than '..Said'. Prove '..Said' where nothing that the law and all that it calls make is longer than what came in: it says more and counts as full. Else prove '..UptoSaid'. A law counts once. -/
mutual
def uptoBulk {H : Type} : DataW H → Nat
  | .lit (.string bytes) => bytes.length + 1
  | .lit _ => 1
  | .nil => 1
  | .ptr d => uptoBulk d + 1
  | .slice elems spare => uptoBulkAll elems + uptoBulkAll spare + 1
  | .agg parts => uptoBulkAll parts + 1
  | .iface _ d => uptoBulk d + 1
  | .map entries => uptoBulkEntries entries + 1
  | .held _ => 1
def uptoBulkAll {H : Type} : List (DataW H) → Nat
  | [] => 0
  | d :: r => uptoBulk d + uptoBulkAll r
def uptoBulkEntries {H : Type} : List (Lit × DataW H) → Nat
  | [] => 0
  | x :: r => uptoBulkEntry x + uptoBulkEntries r
def uptoBulkEntry {H : Type} : Lit × DataW H → Nat
  | (.string bytes, d) => bytes.length + uptoBulk d + 1
  | (_, d) => uptoBulk d + 1
 end
def uptoSmall : (H : Type) → List (DataW H) → Bool := fun _ ds => decide (uptoBulkAll ds ≤ 1048576)
def OpenSpec.upto (s : _root_.Go.ChangeSpec) : _root_.Go.OpenSpec := { _root_.Go.OpenSpec.ofChange s with cond := some uptoSmall }

/-- 'needlestorelaw23.SchedPicks', WHERE WHAT IT READS IS OF BULK AT MOST 1048576: true; the input reads as it did. -/
def schedPicksUptoRow : OpenClaim := { program := "ytffmdhloplindaa", sum := "7cafdee4a7916c20eebd9bdb5a7cda47d9abbddd1fe71d10db0084b56ac231b6", func := "needlestore/needlestorelaw23.SchedPicks", spec := "schedPicks", apart := false, narrowed := true }
def SchedPicksUptoSaid : Prop := schedPicksUptoRow.holds Try.pinned (OpenSpec.upto schedPicksSpec)

/-- 'needlestorelaw23.SchedPromise', WHERE WHAT IT READS IS OF BULK AT MOST 1048576: true; the input reads as it did. -/
def schedPromiseUptoRow : OpenClaim := { program := "ytffmdhloplindaa", sum := "7cafdee4a7916c20eebd9bdb5a7cda47d9abbddd1fe71d10db0084b56ac231b6", func := "needlestore/needlestorelaw23.SchedPromise", spec := "schedPromise", apart := false, narrowed := true }
def SchedPromiseUptoSaid : Prop := schedPromiseUptoRow.holds Try.pinned (OpenSpec.upto schedPromiseSpec)

/-- 'needlestorelaw23.SchedWorst', WHERE WHAT IT READS IS OF BULK AT MOST 1048576: true; the input reads as it did. -/
def schedWorstUptoRow : OpenClaim := { program := "ytffmdhloplindaa", sum := "7cafdee4a7916c20eebd9bdb5a7cda47d9abbddd1fe71d10db0084b56ac231b6", func := "needlestore/needlestorelaw23.SchedWorst", spec := "schedWorst", apart := false, narrowed := true }
def SchedWorstUptoSaid : Prop := schedWorstUptoRow.holds Try.pinned (OpenSpec.upto schedWorstSpec)

/-- 'needlestorelaw23.SchedRobin', WHERE WHAT IT READS IS OF BULK AT MOST 1048576: true; the input reads as it did. -/
def schedRobinUptoRow : OpenClaim := { program := "ytffmdhloplindaa", sum := "7cafdee4a7916c20eebd9bdb5a7cda47d9abbddd1fe71d10db0084b56ac231b6", func := "needlestore/needlestorelaw23.SchedRobin", spec := "schedRobin", apart := false, narrowed := true }
def SchedRobinUptoSaid : Prop := schedRobinUptoRow.holds Try.pinned (OpenSpec.upto schedRobinSpec)

/-- 'needlestorelaw23.SchedFair', WHERE WHAT IT READS IS OF BULK AT MOST 1048576: true; the input reads as it did. -/
def schedFairUptoRow : OpenClaim := { program := "ytffmdhloplindaa", sum := "7cafdee4a7916c20eebd9bdb5a7cda47d9abbddd1fe71d10db0084b56ac231b6", func := "needlestore/needlestorelaw23.SchedFair", spec := "schedFair", apart := false, narrowed := true }
def SchedFairUptoSaid : Prop := schedFairUptoRow.holds Try.pinned (OpenSpec.upto schedFairSpec)

end Rows
end Go.Proofs.Ytffmdhloplindaa
