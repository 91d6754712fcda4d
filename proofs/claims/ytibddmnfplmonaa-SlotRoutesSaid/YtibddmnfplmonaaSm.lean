/- Items compared; the walk over the reference's Same. -/
import Derived.Test.YtibddmnfplmonaaIt
import Derived.Laws.StructEq
namespace Go.Proofs.Ytibddmnfplmonaa
open Go.RowKit

theorem itE {α : Sort _} (x y : It) (a b : α) : (if x.key = y.key then if x.ck = y.ck then if x.off = y.off then if x.size = y.size then a else b else b else b else b) = if x = y then a else b := by
  obtain ⟨x1, x2, x3, x4⟩ := x
  obtain ⟨y1, y2, y3, y4⟩ := y
  simp only [It.mk.injEq]
  by_cases h1 : x1 = y1 <;> by_cases h2 : x2 = y2 <;> by_cases h3 : x3 = y3 <;> by_cases h4 : x4 = y4 <;> simp [h1, h2, h3, h4]
theorem eqT (x y : It) (w : World) : (binOp .eql 35 (itV x) (itV y)).run Try.prog w = .ok (.bool (decide (x = y))) w := by
  have u1 := Try.underlying24
  have u2 := Try.underlying22
  have u3 := Try.underlying2
  have u4 := Try.underlying3
  have hS : Try.prog.underlying 35 = some (.struct (Try.prog.fieldsOf 35)) := by kernel_rfl
  have hp : Try.prog.stoodInHeld 35 = false := by kernel_rfl
  rw [run_eql_struct, show (10000 : Nat) = 9999 + 1 from rfl, run_equalIn_agg w 9999 35 _ _ hS hp]
  simp only [Program.fieldsOf, Try.underlying35]
  go_simp
  exact itE x y _ _ |>.trans (by by_cases e : x = y <;> simp [e])
theorem neqT (x y : It) (w : World) : (binOp .neq 35 (itV x) (itV y)).run Try.prog w = .ok (.bool (!decide (x = y))) w := by
  have u1 := Try.underlying24
  have u2 := Try.underlying22
  have u3 := Try.underlying2
  have u4 := Try.underlying3
  have hS : Try.prog.underlying 35 = some (.struct (Try.prog.fieldsOf 35)) := by kernel_rfl
  have hp : Try.prog.stoodInHeld 35 = false := by kernel_rfl
  rw [run_neq_struct, show (10000 : Nat) = 9999 + 1 from rfl, run_equalIn_agg w 9999 35 _ _ hS hp]
  simp only [Program.fieldsOf, Try.underlying35]
  go_simp
  exact itE x y _ _ |>.trans (by by_cases e : x = y <;> simp [e])
theorem iat_ext {l m : List It} (h : l.length = m.length) (h' : ∀ j, j < l.length → iat l j = iat m j) : l = m := by
  refine List.ext_getElem h fun j h1 h2 => ?_
  have := h' j h1
  unfold iat at this
  rwa [List.getD_eq_getElem?_getD, List.getD_eq_getElem?_getD, List.getElem?_eq_getElem h1, List.getElem?_eq_getElem h2] at this
end Go.Proofs.Ytibddmnfplmonaa
