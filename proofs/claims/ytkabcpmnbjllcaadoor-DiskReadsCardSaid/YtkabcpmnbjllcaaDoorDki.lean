/- change of the law: the walk. Printed by mkDki.py. -/
import Derived.Test.YtkabcpmnbjllcaaDoorDkh
import Derived.Test.YtkabcpmnbjllcaaDoorDkf
namespace Go.Proofs.YtkabcpmnbjllcaaDoor
open Go.RowKit

structure LiteO (o : Opr) : Prop where
  kind : I64 o.kind
  name : o.name.length ≤ 9223372036854775807
  nt : o.to.length ≤ 9223372036854775807
  data : o.data.length ≤ 2000000
  keep : o.keep.length ≤ 1000
theorem kind_mod {k : Int} (h : I64 k) : ∃ r q : Int, k.tmod 10 = r ∧ -9 ≤ r ∧ r ≤ 9 ∧ (r + 10).tmod 10 = q ∧ (r + 10) % 10 = q ∧ q = k % 10 ∧ 0 ≤ q ∧ q ≤ 9 := by
  refine ⟨k.tmod 10, k % 10, rfl, ?_, ?_, ?_, ?_, rfl, by omega, by omega⟩
  · have := Int.tmod_eq_emod (a := k) (b := 10); split at this <;> omega
  · have := Int.tmod_eq_emod (a := k) (b := 10); split at this <;> omega
  · have h1 := Int.tmod_eq_emod (a := k) (b := 10)
    rw [Int.tmod_eq_emod_of_nonneg (by split at h1 <;> omega)]
    split at h1 <;> omega
  · have h1 := Int.tmod_eq_emod (a := k) (b := 10)
    split at h1 <;> omega
theorem BoxD.newK {w : World} {k : Nat} (hk : w.heap.size = k) (c l : Int) (fv : Value) (t : TypeId) : BoxD (w.alloc (.cells #[.int .i64 c, .int .i64 l, fv] t)) k c l fv := by subst hk; exact BoxD.new w c l fv t
theorem BoxO.newK {w : World} {k : Nat} (hk : w.heap.size = k) (kd : Int) (nm nt : ByteArray) (off : Int) (dv kv : Value) (t : TypeId) : BoxO (w.alloc (.cells #[.int .i64 kd, .string nm, .string nt, .int .i64 off, dv, kv] t)) k kd nm nt off dv kv := by
  subst hk; exact ⟨by simp, by simp, by simp, by simp, by simp, by simp, fun i => by simp⟩
theorem size_alloc (w : World) (o : Obj) : (w.alloc o).heap.size = w.heap.size + 1 := by simp
end Go.Proofs.YtkabcpmnbjllcaaDoor
