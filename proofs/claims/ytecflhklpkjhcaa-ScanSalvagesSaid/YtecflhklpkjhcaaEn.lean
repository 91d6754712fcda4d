/- The walks over Encode, the program's and the reference's. -/
import Derived.Test.YtecflhklpkjhcaaNu
import Derived.Test.YtecflhklpkjhcaaPe
import Derived.Test.YtecflhklpkjhcaaIv
namespace Go.Proofs.Ytecflhklpkjhcaa
open Go.RowKit

theorem OwnB.nil (w : World) (B : Nat) : OwnB w B (.slice none 0 0) [] := World.ownsRow_nil _ _ _ _
theorem OwnB.len {w : World} {B : Nat} {v : Value} {l : List UInt8} (h : OwnB w B v l) : ∃ a cap, v = .slice a l.length cap := by
  obtain ⟨a, cap, e, _⟩ := own_form h
  exact ⟨a, cap, e⟩
theorem rnum8 (v : Nat) (h : v < 18446744073709551616) (W : World) : Calls Try.prog 44 #[.int .u64 (v : Int), .int .i64 8] W fun e w' => ∃ v', e = .returned v' ∧ OwnB w' W.heap.size v' (be v 8) ∧ Below W.heap.size W w' := rnum_any v 8 W (by omega) h
theorem rnum4 (v : Nat) (h : v < 18446744073709551616) (W : World) : Calls Try.prog 44 #[.int .u64 (v : Int), .int .i64 4] W fun e w' => ∃ v', e = .returned v' ∧ OwnB w' W.heap.size v' (be v 4) ∧ Below W.heap.size W w' := rnum_any v 4 W (by omega) h
end Go.Proofs.Ytecflhklpkjhcaa
