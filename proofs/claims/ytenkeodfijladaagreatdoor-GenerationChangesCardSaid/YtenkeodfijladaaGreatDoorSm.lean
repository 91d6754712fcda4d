/- Items compared; the walk over the reference's Same. -/
import Derived.Test.YtenkeodfijladaaGreatDoorIt
import Derived.Laws.StructEq
namespace Go.Proofs.YtenkeodfijladaaGreatDoor
open Go.RowKit

theorem itE {α : Sort _} (x y : It) (a b : α) : (if x.key = y.key then if x.ck = y.ck then if x.off = y.off then if x.size = y.size then a else b else b else b else b) = if x = y then a else b := by
  obtain ⟨x1, x2, x3, x4⟩ := x
  obtain ⟨y1, y2, y3, y4⟩ := y
  simp only [It.mk.injEq]
  by_cases h1 : x1 = y1 <;> by_cases h2 : x2 = y2 <;> by_cases h3 : x3 = y3 <;> by_cases h4 : x4 = y4 <;> simp [h1, h2, h3, h4]
theorem eqT (x y : It) (w : World) : (binOp .eql 77 (itV x) (itV y)).run Tryz.prog w = .ok (.bool (decide (x = y))) w := by
  have u1 := Tryz.underlying32
  have u2 := Tryz.underlying33
  have u3 := Tryz.underlying2
  have u4 := Tryz.underlying3
  have hS : Tryz.prog.underlying 77 = some (.struct (Tryz.prog.fieldsOf 77)) := by kernel_rfl
  have hp : Tryz.prog.stoodInHeld 77 = false := by kernel_rfl
  rw [run_eql_struct, show (10000 : Nat) = 9999 + 1 from rfl, run_equalIn_agg w 9999 77 _ _ hS hp]
  simp only [Program.fieldsOf, Tryz.underlying77]
  go_simp
  exact itE x y _ _ |>.trans (by by_cases e : x = y <;> simp [e])
theorem neqT (x y : It) (w : World) : (binOp .neq 77 (itV x) (itV y)).run Tryz.prog w = .ok (.bool (!decide (x = y))) w := by
  have u1 := Tryz.underlying32
  have u2 := Tryz.underlying33
  have u3 := Tryz.underlying2
  have u4 := Tryz.underlying3
  have hS : Tryz.prog.underlying 77 = some (.struct (Tryz.prog.fieldsOf 77)) := by kernel_rfl
  have hp : Tryz.prog.stoodInHeld 77 = false := by kernel_rfl
  rw [run_neq_struct, show (10000 : Nat) = 9999 + 1 from rfl, run_equalIn_agg w 9999 77 _ _ hS hp]
  simp only [Program.fieldsOf, Tryz.underlying77]
  go_simp
  exact itE x y _ _ |>.trans (by by_cases e : x = y <;> simp [e])
theorem iat_ext {l m : List It} (h : l.length = m.length) (h' : ∀ j, j < l.length → iat l j = iat m j) : l = m := by
  refine List.ext_getElem h fun j h1 h2 => ?_
  have := h' j h1
  unfold iat at this
  rwa [List.getD_eq_getElem?_getD, List.getD_eq_getElem?_getD, List.getElem?_eq_getElem h1, List.getElem?_eq_getElem h2] at this
set_option maxHeartbeats 400000 in
theorem same_any (va vb : Value) (l m : List It) (w : World) (ha : RdT w va l) (hb : RdT w vb m) :
    Calls Tryz.prog 74 #[va, vb] w fun e w' => e = .returned (.bool (decide (l = m))) ∧ Below w.heap.size w w' := by
  obtain ⟨a1, c1, rfl, p1, p2⟩ := ha.shape
  obtain ⟨a2, c2, rfl, _, _⟩ := hb.shape
  have hm := lt63 p1 p2
  by_cases hl : l.length = m.length
  · have HT := Lib.hid (show (∀ j, j < l.length → iat l j = iat m j) → l = m from iat_ext hl)
    rw [← hl] at hb ⊢
    generalize hn : l.length = n at *
    have Ha := Lib.hid ha
    have Hb := Lib.hid hb
    have hnn : ((n : Int) != (n : Int)) = false := by simp
    clear ha hb hl hn p1 p2
    go_enter Tryz.func74, Tryz.ntmps74
    go_wp2_with fail
    clear hnn
    go_loopw [5] (fun kv wr => ∃ k : Nat, kv = .int .i64 (k : Int) ∧ k ≤ n ∧ (∀ j, j < k → iat l j = iat m j) ∧ Below w.heap.size w wr) (fun kv _ => n - (intOf kv).toNat)
    case atStart => exact ⟨0, rfl, by omega, fun j hj => absurd hj (by omega), Below.refl _ _⟩
    case round =>
      obtain ⟨k, rfl, hk, heq, hbel⟩ := hrel
      have Heq := Lib.hid heq
      have Hbel := Lib.hid hbel
      clear heq hbel
      by_cases hlt : k < n
      · obtain ⟨b1, o1, rfl, x0, x1, x2, x3⟩ := (Ha.out.below Hbel.out).at hlt
        obtain ⟨b2, o2, rfl, y0, y1, y2, y3⟩ := (Hb.out.below Hbel.out).at hlt
        have hq := neqT (iat l k) (iat m k)
        have HN := Lib.hid (show iat l k ≠ iat m k → decide (l = m) = false from fun h => decide_eq_false fun e => h (by rw [e]))
        generalize hx : iat l k = x at *
        generalize hy : iat m k = y at *
        have HX := Lib.hid hx
        have HY := Lib.hid hy
        have i1 : (k : Int) < (n : Int) := by omega
        obtain ⟨r, hr⟩ : ∃ r, decide (x = y) = r := ⟨_, rfl⟩
        rw [hr] at hq
        have HR := Lib.hid hr
        clear hx hy hr
        cases r
        · go_wp2_with fail
          go_quiet (fail)
          clear i1 hq
          go_wp2_with fail
          go_ret
          exact ⟨ret_bool (HN.out (of_decide_eq_false HR.out)).symm, below_drewN Hbel.out _⟩
        · go_wp2_with fail
          go_quiet (fail)
          clear i1 hq
          go_wp2_with fail
          refine ⟨⟨k + 1, by go_num, by omega, fun j hj => ?_, below_drewN Hbel.out _⟩, by simp [intOf]; omega⟩
          by_cases e : j = k
          · rw [e, HX.out, HY.out]; exact of_decide_eq_true HR.out
          · exact Heq.out j (by omega)
      · obtain rfl : k = n := by omega
        have HN := Lib.hid (show decide (l = m) = true from decide_eq_true (HT.out Heq.out))
        go_wp2_with fail
        go_ret
        exact ⟨ret_bool HN.out.symm, Hbel.out⟩
  · have hne : ((l.length : Int) != (m.length : Int)) = true := by rw [bne_iff_ne]; omega
    have HN := Lib.hid (show decide (l = m) = false from decide_eq_false fun e => hl (by rw [e]))
    clear hl ha hb
    go_enter Tryz.func74, Tryz.ntmps74
    go_wp2_with fail
    go_ret
    exact ⟨ret_bool HN.out.symm, Below.refl _ _⟩
end Go.Proofs.YtenkeodfijladaaGreatDoor
