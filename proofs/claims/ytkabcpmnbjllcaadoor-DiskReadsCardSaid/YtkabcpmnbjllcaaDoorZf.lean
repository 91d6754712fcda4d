/- slices.Clone, Insert and Delete of files and writes: the walks. Printed by mkZe.py out of the texts on items. -/
import Derived.Test.YtkabcpmnbjllcaaDoorZe
namespace Go.Proofs.YtkabcpmnbjllcaaDoor
open Go.RowKit

set_option maxHeartbeats 400000 in
theorem fclone_any (v : Value) (xs : List Value) (n : Nat) (w : World) (h : Rd w 3 v n xs) (hs : n ≤ 1000000) (hone : ∀ u ∈ xs, u.oneCell' = true) :
    Calls Tryd.prog 77 #[v] w fun e w' => ∃ v', e = .returned v' ∧ w'.ownsRow w.heap.size 69 3 v' n xs ∧ Below w.heap.size w w' := by
  have h' := h
  obtain ⟨hl, a, cap, rfl, h1, h2, h3, _⟩ := h'
  have q22 : ∀ (w : World) (a : Option Addr) (n c n' c' : Nat), (binOp .eql 31 (.slice a n c) (.slice none n' c')).run Tryd.prog w = .ok (.bool a.isNone) w := fun w a n c n' c' => Lib.run_eql_slice_nil w _ _ a n c n' c' Tryd.underlying31
  cases a with
  | none =>
    have h0 : n = 0 := by have := h3 rfl; omega
    subst h0
    obtain rfl : xs = [] := List.length_eq_zero_iff.1 (by omega)
    clear h hl h3 h1 h2 hone
    go_enter Tryd.func77, Tryd.ntmps77
    go_wp2_with fail
    go_ret
    exact ⟨_, rfl, World.ownsRow_nil _ _ _ _, Below.refl _ _⟩
  | some p =>
    have Hr := Lib.hid h
    have Hone := Lib.hid hone
    clear h hl h3 hone
    go_enter Tryd.func77, Tryd.ntmps77
    go_wp2_with (at_builtin; go_must (refine wpList_app rfl (.tmp 5) (.tmp 6) 31 rfl elemFi w.heap.size rfl (World.ownsRow_made (size := 3) _ #[] 0 (Nat.le_refl _) (by decide) rfl) rfl (Hr.out.alloc _) Hone.out (by unfold maxLen; omega) (by omega) (by simp) ?_); intro v3 w3 hown3 hgr3 hv3; clear hv3)
    have HB := Lib.hid (own_below ((Below.refl w.heap.size w).alloc (Nat.le_refl _) _) (World.ownsRow_made (e := 69) (size := 3) w #[] 0 (Nat.le_refl _) (by decide) rfl) (by simp) hgr3)
    rw [Nat.zero_add, List.nil_append] at hown3
    have HO := Lib.hid hown3
    clear hown3 hgr3
    go_wp2_with fail
    go_ret
    exact ⟨_, rfl, HO.out, HB.out⟩
set_option maxHeartbeats 400000 in
theorem wclone_any (v : Value) (xs : List Value) (n : Nat) (w : World) (h : Rd w 3 v n xs) (hs : n ≤ 1000000) (hone : ∀ u ∈ xs, u.oneCell' = true) :
    Calls Tryd.prog 97 #[v] w fun e w' => ∃ v', e = .returned v' ∧ w'.ownsRow w.heap.size 95 3 v' n xs ∧ Below w.heap.size w w' := by
  have h' := h
  obtain ⟨hl, a, cap, rfl, h1, h2, h3, _⟩ := h'
  have q22 : ∀ (w : World) (a : Option Addr) (n c n' c' : Nat), (binOp .eql 67 (.slice a n c) (.slice none n' c')).run Tryd.prog w = .ok (.bool a.isNone) w := fun w a n c n' c' => Lib.run_eql_slice_nil w _ _ a n c n' c' Tryd.underlying67
  cases a with
  | none =>
    have h0 : n = 0 := by have := h3 rfl; omega
    subst h0
    obtain rfl : xs = [] := List.length_eq_zero_iff.1 (by omega)
    clear h hl h3 h1 h2 hone
    go_enter Tryd.func97, Tryd.ntmps97
    go_wp2_with fail
    go_ret
    exact ⟨_, rfl, World.ownsRow_nil _ _ _ _, Below.refl _ _⟩
  | some p =>
    have Hr := Lib.hid h
    have Hone := Lib.hid hone
    clear h hl h3 hone
    go_enter Tryd.func97, Tryd.ntmps97
    go_wp2_with (at_builtin; go_must (refine wpList_app rfl (.tmp 5) (.tmp 6) 67 rfl elemWi w.heap.size rfl (World.ownsRow_made (size := 3) _ #[] 0 (Nat.le_refl _) (by decide) rfl) rfl (Hr.out.alloc _) Hone.out (by unfold maxLen; omega) (by omega) (by simp) ?_); intro v3 w3 hown3 hgr3 hv3; clear hv3)
    have HB := Lib.hid (own_below ((Below.refl w.heap.size w).alloc (Nat.le_refl _) _) (World.ownsRow_made (e := 95) (size := 3) w #[] 0 (Nat.le_refl _) (by decide) rfl) (by simp) hgr3)
    rw [Nat.zero_add, List.nil_append] at hown3
    have HO := Lib.hid hown3
    clear hown3 hgr3
    go_wp2_with fail
    go_ret
    exact ⟨_, rfl, HO.out, HB.out⟩
set_option maxHeartbeats 1000000 in
theorem fins_any (v : Value) (xs c : List Value) (n i hb B : Nat) (w : World) (hown : w.ownsRow B 69 3 v n xs) (hB : B ≤ w.heap.size) (hi : i ≤ n) (hs : n ≤ 1000000) (hone : ∀ u ∈ xs, u.oneCell' = true) (hon1 : ∀ u ∈ c, u.oneCell' = true) (hl1 : c.length = 3)
    (hh : w.heap[hb]? = some (.cells c.toArray 69 (0, 0))) (hne : ∀ k, v.ownBlock = some k → k ≠ hb) :
    Calls Tryd.prog 51 #[v, .int .i64 (i : Int), .slice (some ⟨hb, 0, none⟩) 1 1] w fun e w' => ∃ v', e = .returned v' ∧ w'.ownsRow B 69 3 v' (n + 1) (xs.take (i * 3) ++ c ++ xs.drop (i * 3)) ∧ w.grownBy w' v.ownBlock := by
  have hv1 : Rd w 3 (.slice (some ⟨hb, 0, none⟩) 1 1) 1 c := by
    refine ⟨hl1, some ⟨hb, 0, none⟩, 1, rfl, Nat.le_refl _, by unfold maxLen; omega, fun h => (by cases h), fun _ => ⟨hb, 0, rfl, fun j u hj => ?_⟩⟩
    have : w.cell? ⟨hb, 0 + j, none⟩ = c.toArray[0 + j]? := by simp [World.cell?, hh]
    rw [this, Nat.zero_add, List.getElem?_toArray]; exact hj
  have hl := hown.1
  obtain ⟨oa, oc, rfl, ho1, ho2, ho3⟩ := own_form hown
  have hm := lt63 ho1 ho2
  have Hown := Lib.hid hown
  have Hv := Lib.hid hv1
  have Hh := Lib.hid hh
  have Hone := Lib.hid hone
  have Hon1 := Lib.hid hon1
  have HL := Lib.hid hl
  have HL1 := Lib.hid hl1
  clear hown hv1 hh hl hl1 ho3 hone hon1
  by_cases hin : i = n
  · subst hin
    obtain ⟨x1, y1, g1, _, _⟩ := slice_from (P := Tryd.prog) elemFi (own_rd Hown.out) i (Nat.le_refl _)
    clear hne
    go_enter Tryd.func51, Tryd.ntmps51
    go_wp2_with (at_builtin; go_must (refine wpList_app rfl (.tmp 23) (.tmp 24) 31 rfl elemFi B rfl Hown.out rfl Hv.out Hon1.out (by unfold maxLen; omega) (by omega) hB ?_); intro v4 w4 hown4 hgr4 hv4; clear hv4)
    go_ret
    refine ⟨_, rfl, ?_, hgr4⟩
    rw [List.take_of_length_le (by rw [HL.out]; omega), List.drop_of_length_le (by rw [HL.out]; omega), List.append_nil]
    exact hown4
  · obtain ⟨g, rfl⟩ : ∃ g, oa = some ⟨g, 0, none⟩ := by
      rcases Hown.out.2 with ⟨e, h0⟩ | ⟨g, _, _, e, _⟩
      · omega
      · injection e with e; exact ⟨g, e⟩
    have hgh : g ≠ hb := hne g rfl
    have hneq : ((i : Int) == (n : Int)) = false := beq_eq_false_iff_ne.2 (by omega)
    have g1 := slice_own (P := Tryd.prog) elemFi g n oc i hi (by omega)
    clear hne
    by_cases hr : oc < n + 1
    · obtain ⟨w2, c2, ha, hown2, hb2, hc2⟩ := app_zeros Hown.out i (n + 1 - i) hi (by omega) (by omega) (by omega)
      have ha : ∀ ty, (Builtin.append_ #[31, 3] ty #[.slice (some ⟨g, 0, none⟩) i oc, .int .i64 ((n : Int) + 1 - (i : Int))]).run Tryd.prog w = .ok (.slice (some ⟨w.heap.size, 0, none⟩) (n + 1) c2) w2 := fun ty => by
        have := ha ty
        rw [show ((n + 1 - i : Nat) : Int) = (n : Int) + 1 - (i : Int) by omega, show i + (n + 1 - i) = n + 1 by omega] at this
        exact this
      rw [show i + (n + 1 - i) = n + 1 by omega] at hown2
      obtain ⟨_, _, _, hnc2⟩ := own_obj hown2
      have gto := slice_to (P := Tryd.prog) elemFi (a := some ⟨g, 0, none⟩) (n := n) (cap := oc) (fun x hx => ⟨g, 0, by injection hx with hx; exact hx.symm⟩) i (by omega)
      have g2 := slice_own (P := Tryd.prog) elemFi w.heap.size (n + 1) c2 i (by omega) (by omega)
      obtain ⟨w3, hcp1, hown3, hgr3⟩ := copy_row (P := Tryd.prog) (sT := 31) elemFi hown2 (Hv.out.below hb2) i (n + 1 - i) (c2 - i) 1 (by simp [Nat.min_def]; omega) (by decide) (by decide) (by omega) (fun u hu => Hon1.out u (List.mem_of_mem_take hu))
      have hb3 : Below w.heap.size w w3 := hb2.grown hgr3 hb2.size (by intro r hr; injection hr with hr; omega)
      have g3 := slice_own1 w.heap.size (n + 1) c2 i (by omega) (by omega)
      obtain ⟨w4, hcp2, hown4, hgr4⟩ := copy_row (P := Tryd.prog) (sT := 31) elemFi hown3.drew ((own_from Hown.out i hi (by omega)).below hb3.drew) (i + 1) (n - i) (c2 - (i + 1)) (n - i) (by simp) (by omega) (by decide) (by omega) (fun u hu => Hone.out u (List.mem_of_mem_drop (List.mem_of_mem_take hu)))
      have hb4 : Below w.heap.size w w4 := hb3.drew.grown hgr4 hb3.drew.size (by intro r hr; injection hr with hr; omega)
      have hgo : ((oc : Int) < (n : Int) + 1) := by omega
      have hw2 := Lib.hid (Hown.out.1)
      have hRes := Lib.hid hown4
      have HB4 := Lib.hid hb4
      clear hb2 hb3 hb4 hown2 hown3 hown4 hgr3 hgr4 hnc2
      go_enter Tryd.func51, Tryd.ntmps51
      go_wp2_with (at_builtin; go_must (refine Lib.wpList_append_run _ rfl (.tmp 34) (.tmp 39) 31 3 rfl _ _ rfl rfl _ _ (ha _) ?_))
      have j1 : IntKind.i64.wrap ((i : Int) + 1) = (i : Int) + 1 := IntWalk.i64_in _ (by omega)
      have j2 : (0 : Int) ≤ (i : Int) + 1 := by omega
      have j3 : (i : Int) + 1 ≤ (n : Int) + 1 := by omega
      have j4 : ((i : Int) + 1).toNat = i + 1 := by omega
      have j5 : (i : Int) ≤ (n : Int) := by omega
      go_region_held3 (fun _ => True) (trivial) (fail)
      go_wp2_with fail
      go_ret
      refine ⟨_, rfl, ?_, grown_some HB4.out _⟩
      have hRm := World.ownsRow.mono hRes.out hB
      refine (congrArg (World.ownsRow _ _ _ _ _ _) ?_).mp hRm
      have hz : (zrow (n + 1 - i)).length = (n + 1 - i) * 3 := zrow_length _
      have hc1 : c.take (1 * 3) = c := List.take_of_length_le (by rw [HL1.out]; omega)
      have hx1 : (xs.drop (i * 3)).take ((n - i) * 3) = xs.drop (i * 3) := List.take_of_length_le (by rw [List.length_drop, HL.out]; omega)
      rw [hc1, hx1]
      exact ins_grow hi HL.out hz HL1.out
    · obtain ⟨ys, hy, hown1⟩ := own_more Hown.out 1 (by omega)
      have gto := slice_to (P := Tryd.prog) elemFi (a := some ⟨g, 0, none⟩) (n := n) (cap := oc) (fun x hx => ⟨g, 0, by injection hx with hx; exact hx.symm⟩) (n + 1) (by omega)
      simp only [Int.natCast_add] at gto
      rw [show ((1 : Nat) : Int) = 1 from rfl] at gto
      have g2 := slice_own (P := Tryd.prog) elemFi g (n + 1) oc i (by omega) (by omega)
      have g3 := slice_own1 g (n + 1) oc i (by omega) (by omega)
      obtain ⟨cur, hg, hcs, _⟩ := own_obj hown1
      have hov := overlaps_run (Ne.symm hgh) Hh.out hg (by omega) ((i + 1) * 3)
      obtain ⟨w3, hcp1, hown3, hgr3⟩ := copy_row (P := Tryd.prog) (sT := 31) elemFi hown1.drew (own_from hown1.drew i (by omega) (by omega)) (i + 1) (n - i) (oc - (i + 1)) (n - i) (by simp [Nat.min_def]; omega) (by omega) (by decide) (by omega) (fun u hu => Hone.out u (by
        rw [List.drop_append_of_le_length (by rw [HL.out]; omega), List.take_left' (by rw [List.length_drop, HL.out]; omega)] at hu
        exact List.mem_of_mem_drop hu))
      have hv3 := Rd.grown (Hv.out.drew) hgr3 (fun y hy => by injection hy with hy; subst hy; intro e; injection e with e; exact hgh e.symm)
      obtain ⟨w4, hcp2, hown4, hgr4⟩ := copy_row (P := Tryd.prog) (sT := 31) elemFi hown3 hv3 i (n + 1 - i) (oc - i) 1 (by simp [Nat.min_def]; omega) (by decide) (by decide) (by omega) (fun u hu => Hon1.out u (List.mem_of_mem_take hu))
      have hb4 : w.grownBy w4 (some g) := grown_tr (grown_tr (grown_drew _ _) hgr3) hgr4
      have hRes := Lib.hid hown4
      have HB4 := Lib.hid hb4
      have HY := Lib.hid hy
      have hgo : ¬ ((oc : Int) < (n : Int) + 1) := by omega
      have j1 : IntKind.i64.wrap ((i : Int) + 1) = (i : Int) + 1 := IntWalk.i64_in _ (by omega)
      have j2 : (0 : Int) ≤ (i : Int) + 1 := by omega
      have j3 : (i : Int) + 1 ≤ (n : Int) + 1 := by omega
      have j4 : ((i : Int) + 1).toNat = i + 1 := by omega
      have j5 : (i : Int) ≤ (n : Int) := by omega
      clear hb4 hown1 hown3 hown4 hgr3 hgr4 hv3 hy hcs hg
      go_enter Tryd.func51, Tryd.ntmps51
      go_wp2_with (simp only [hov])
      have j6 : (i : Int) ≤ (n : Int) + 1 := by omega
      go_region_held3 (fun _ => True) (trivial) (fail)
      go_wp2_with fail
      go_ret
      refine ⟨_, rfl, ?_, HB4.out⟩
      refine (congrArg (World.ownsRow _ _ _ _ _ _) ?_).mp hRes.out
      have hc1 : c.take (1 * 3) = c := List.take_of_length_le (by rw [HL1.out]; omega)
      rw [hc1]
      exact ins_place hi HL.out (by rw [HY.out]) 

theorem step_append_run {P : Program} {w : World} {ops : Array Oper} {o : Oper} {a : Act} {K : Act → World → Prop} {Q : Exit → Act → World → Prop} {E : Prop} (hgd : o.guard = none) (s x : Operand) (t tn : TypeId)
    (ho : o.op = .call { callee := .builtin .append, args := #[s, x], argTypes := #[t, tn] }) (vs vx : Value) (hs : a.eval s = vs) (hx : a.eval x = vx)
    (v' : Value) (w' : World) (hr : (Builtin.append_ #[t, tn] o.type #[vs, vx]).run P w = .ok v' w') (h : K (a.put o.dst v') w') :
    if Region.wanted o (yielded ops a.tmps) = true then Oper.wp P o a w K Q else E := by
  have hw : Region.wanted o (yielded ops a.tmps) = true := by simp [Region.wanted, hgd]
  rw [if_pos hw]
  exact Lib.wp_append_run w s x t tn ho vs vx hs hx v' w' hr h
theorem slice_tail {w : World} {B g n cap : Nat} {xs : List Value} (h : w.ownsRow B 69 3 (.slice (some ⟨g, 0, none⟩) n cap) n xs) (k : Nat) (hk : k + 1 ≤ n) :
    ∃ p c', (∀ W kl, (Instr.slice 31 (.slice (some ⟨g, 0, none⟩) n cap) (some (.int kl ((k : Int) + 1))) none none).run Tryd.prog W = .ok (.slice (some p) (n - (k + 1)) c') W) ∧
      Rd w 3 (.slice (some p) (n - (k + 1)) c') (n - (k + 1)) (xs.drop ((k + 1) * 3)) := by
  obtain ⟨_, _, _, hnc⟩ := own_obj h
  by_cases hq : k + 1 < cap
  · exact ⟨_, _, slice_own1 g n cap k hk hq, own_from h (k + 1) hk hq⟩
  · obtain rfl : cap = k + 1 := by omega
    obtain rfl : n = k + 1 := by omega
    refine ⟨⟨g, 0, none⟩, 0, fun W kl => ?_, ?_⟩
    · obtain ⟨h1, h2⟩ := elem_of (P := Tryd.prog) elemFi
      rw [run_slice_l W 31 (some ⟨g, 0, none⟩) (k + 1) (k + 1) h1 kl ((k : Int) + 1) (by omega) (by omega), h2]
      have : ((k : Int) + 1).toNat = k + 1 := by omega
      simp [Result.andThen, sliced, this]
    · have hx := h.1
      rw [List.drop_of_length_le (by omega), Nat.sub_self]
      exact ⟨rfl, some ⟨g, 0, none⟩, 0, rfl, Nat.le_refl _, Nat.zero_le _, fun h => (by cases h), fun h => absurd h (by simp)⟩
theorem slice_last (g p cap : Nat) (hc : p + 1 ≤ cap) :
    ∀ W kl kh, (Instr.slice 31 (.slice (some ⟨g, 0, none⟩) p cap) (some (.int kl (p : Int))) (some (.int kh ((p : Int) + 1))) none).run Tryd.prog W = .ok (.slice (some ⟨g, p * 3, none⟩) 1 (cap - p)) W := fun W kl kh => by
  obtain ⟨h1, h2⟩ := elem_of (P := Tryd.prog) elemFi
  rw [run_slice_lh W 31 (some ⟨g, 0, none⟩) p cap h1 kl kh (p : Int) ((p : Int) + 1) (by omega) (by omega) (by omega), h2]
  have h3 : ((p : Int) + 1).toNat = p + 1 := by omega
  have h4 : cap ≠ p := by omega
  simp [Result.andThen, sliced, h3, h4, addr_add]
theorem slice_three (a : Option Addr) (n cap i : Nat) (hi : i + 1 ≤ n) (hn : n ≤ cap) :
    ∃ u, ∀ W kl kh km, (Instr.slice 31 (.slice a n cap) (some (.int kl (i : Int))) (some (.int kh ((i : Int) + 1))) (some (.int km (n : Int)))).run Tryd.prog W = .ok u W := by
  obtain ⟨h1, h2⟩ := elem_of (P := Tryd.prog) elemFi
  refine ⟨sliced a (i : Int).toNat ((i : Int) + 1).toNat (n : Int).toNat 3, fun W kl kh km => ?_⟩
  rw [run_slice_lhm W 31 a n cap h1 kl kh km (i : Int) ((i : Int) + 1) (n : Int) (by omega) (by omega) (by omega) (by omega), h2]
  rfl
set_option maxHeartbeats 1000000 in
theorem fdel_any (v : Value) (xs : List Value) (p i B : Nat) (w : World) (hown : w.ownsRow B 69 3 v (p + 1) xs) (hB : B ≤ w.heap.size) (hi : i < p + 1) (hs : p + 1 ≤ 1000000) (hone : ∀ u ∈ xs, u.oneCell' = true) :
    Calls Tryd.prog 63 #[v, .int .i64 (i : Int), .int .i64 ((i : Int) + 1)] w fun e w' => ∃ v', e = .returned v' ∧ w'.ownsRow B 69 3 v' p (xs.take (i * 3) ++ xs.drop ((i + 1) * 3)) ∧ w.grownBy w' v.ownBlock ∧ v'.ownBlock = v.ownBlock := by
  obtain ⟨oa, oc, rfl, ho1, ho2, ho3⟩ := own_form hown
  have Hone := Lib.hid hone
  have hl := hown.1
  obtain ⟨g, rfl⟩ : ∃ g, oa = some ⟨g, 0, none⟩ := by
    rcases hown.2 with ⟨e, h0⟩ | ⟨g, _, _, e, _⟩
    · omega
    · injection e with e; exact ⟨g, e⟩
  have gto := slice_to (P := Tryd.prog) elemFi (a := some ⟨g, 0, none⟩) (n := p + 1) (cap := oc) (fun x hx => ⟨g, 0, by injection hx with hx; exact hx.symm⟩) i (by omega)
  obtain ⟨q, qc, g1, hrd⟩ := slice_tail hown i hi
  obtain ⟨w3, hap, hown3, hgr3⟩ := app_room (own_take hown i (by omega)).drew hrd.drew (fun u hu => Hone.out u (List.mem_of_mem_drop hu)) (by omega)
  have e1 : i + (p + 1 - (i + 1)) = p := by omega
  rw [e1] at hap hown3
  have hgB := (hown.lt g rfl).1
  obtain ⟨ys, hy, hown4⟩ := own_more hown3 1 (by omega)
  obtain ⟨w5, hcl, hown5, hgr5⟩ := clear_raw hown4 p (by omega)
  have e2 : p + 1 - p = 1 := by omega
  rw [e2] at hcl
  have hb5 : w.grownBy w5 (some g) := grown_tr (grown_tr (grown_drew _ _) hgr3) hgr5
  obtain ⟨u3, g3⟩ := slice_three (some ⟨g, 0, none⟩) (p + 1) oc i hi ho1
  simp only [Int.natCast_add] at g3
  rw [show ((1 : Nat) : Int) = 1 from rfl] at g3
  have g2 := slice_last g p oc (by omega)
  have hl3 := hown3.1
  have hown6 := own_take hown5 p (by omega)
  rw [List.take_append_of_le_length (by rw [List.length_take, List.length_append, hl3]; omega), List.take_take, Nat.min_self, List.take_left' hl3] at hown6
  have HR := Lib.hid hown6
  have HB5 := Lib.hid hb5
  have hneq : ((i : Int) == (i : Int) + 1) = false := beq_eq_false_iff_ne.2 (by omega)
  have j1 : IntKind.i64.wrap ((i : Int) + 1) = (i : Int) + 1 := IntWalk.i64_in _ (by omega)
  have hm : oc ≤ 9223372036854775807 := by unfold maxLen at ho2; omega
  clear hown hown3 hown4 hown5 hown6 hgr3 hgr5 hb5 hrd hl hl3 ho3 hone e1 e2 hy
  go_enter Tryd.func63, Tryd.ntmps63
  go_wp2_with fail
  have j2 : (0 : Int) ≤ (i : Int) + 1 := by omega
  have j3 : (i : Int) + 1 ≤ (p : Int) + 1 := by omega
  have j4 : ((i : Int) + 1).toNat = i + 1 := by omega
  have j5 : (i : Int) ≤ (p : Int) + 1 := by omega
  have j6 : (i : Int) ≤ (oc : Int) := by omega
  go_region_held3 (fun _ => True) (trivial) (refine step_append_run rfl (.tmp 22) (.tmp 25) 31 31 rfl _ _ (by simp [Act.eval]) (by simp [Act.eval]) _ _ (hap _) ?_)
  go_wp2_with fail
  go_ret
  exact ⟨_, rfl, HR.out, HB5.out, rfl⟩
end Go.Proofs.YtkabcpmnbjllcaaDoor
