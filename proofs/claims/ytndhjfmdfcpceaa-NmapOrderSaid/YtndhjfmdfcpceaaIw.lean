/- slices.Insert at items: the walk. -/
import Derived.Test.YtndhjfmdfcpceaaIn
import Derived.Laws.Externs
namespace Go.Proofs.Ytndhjfmdfcpceaa
open Go.RowKit

set_option maxRecDepth 100000 in
theorem overlaps_run {w : World} {hb g : Nat} {ca cb : Array Value} (hne : hb ≠ g) (ha : w.heap[hb]? = some (.cells ca 29 (0, 0))) (hb' : w.heap[g]? = some (.cells cb 29 (0, 0))) (hn : cb.size ≠ 0) (off : Nat) :
    ∀ la c lb d, (callFunc 75 #[.slice (some ⟨hb, 0, none⟩) la c, .slice (some ⟨g, off, none⟩) lb d]).run Try.prog w = .ok (.value (.bool false)) w := fun la c lb d => by
  rw [run_callFunc_extern Try.func75 (by kernel_rfl) (by kernel_rfl) (by kernel_rfl) (e := Extern.SlicesOverlaps.overlaps #[22, 22] #[4]) (by kernel_rfl),
    Lib.run_overlaps_apart w 22 4 29 Try.underlying22 4 (elem_of elemT).2 ⟨hb, 0, none⟩ ⟨g, off, none⟩ la c lb d hne 29 29 ca.size cb.size (by simp [World.shape?, ha]) (by simp [World.shape?, hb']) hn (by simp [World.frozen?, ha]) (by simp [World.frozen?, ha])]
  rfl

theorem slice_own1 (g n cap k : Nat) (hk : k + 1 ≤ n) (hc : k + 1 < cap) :
    ∀ W kl, (Instr.slice 22 (.slice (some ⟨g, 0, none⟩) n cap) (some (.int kl ((k : Int) + 1))) none none).run Try.prog W = .ok (.slice (some ⟨g, (k + 1) * 4, none⟩) (n - (k + 1)) (cap - (k + 1))) W := fun W kl => by
  have := slice_own (P := Try.prog) elemT g n cap (k + 1) hk hc W kl
  rw [Int.natCast_add] at this
  exact this
theorem own_from {w : World} {B g n cap : Nat} {xs : List Value} (h : w.ownsRow B 29 4 (.slice (some ⟨g, 0, none⟩) n cap) n xs) (k : Nat) (hk : k ≤ n) (hc : k < cap) :
    Rd w 4 (.slice (some ⟨g, k * 4, none⟩) (n - k) (cap - k)) (n - k) (xs.drop (k * 4)) := by
  have hx := h.1
  have := rd_sliced (own_rd h) k n hk (Nat.le_refl _)
  have hne : cap ≠ k := by omega
  unfold sliced at this
  rw [if_neg hne] at this
  simp only [Option.map_some, addr_add, Nat.zero_add] at this
  rw [List.take_of_length_le (by rw [List.length_drop, hx, Nat.sub_mul]; omega)] at this
  exact this
theorem own_obj {w : World} {B g n cap : Nat} {xs : List Value} (h : w.ownsRow B 29 4 (.slice (some ⟨g, 0, none⟩) n cap) n xs) : ∃ cur, w.heap[g]? = some (.cells cur 29 (0, 0)) ∧ cur.size = cap * 4 ∧ n ≤ cap := by
  rcases h.2 with ⟨h', _⟩ | ⟨g', c2, cur, h', hb, hg, hnc, hcm, hcs, htake⟩
  · cases h'
  · injection h' with h' _ h''
    injection h' with h'
    injection h' with h' _
    subst h' h''
    exact ⟨cur, hg, hcs, hnc⟩
set_option maxHeartbeats 1000000 in
theorem ins_any (v : Value) (l : List It) (i : Nat) (x : It) (hb B : Nat) (w : World) (hown : OwnT w B v l) (hB : B ≤ w.heap.size) (hi : i ≤ l.length) (hs : l.length ≤ 1000000)
    (hh : w.heap[hb]? = some (.cells (itC x).toArray 29 (0, 0))) (hne : ∀ k, v.ownBlock = some k → k ≠ hb) :
    Calls Try.prog 63 #[v, .int .i64 (i : Int), .slice (some ⟨hb, 0, none⟩) 1 1] w fun e w' => ∃ v', e = .returned v' ∧ OwnT w' B v' (l.take i ++ x :: l.drop i) ∧ Below B w w' := by
  have hv1 : Rd w 4 (.slice (some ⟨hb, 0, none⟩) 1 1) 1 (itC x) := by
    refine ⟨rfl, some ⟨hb, 0, none⟩, 1, rfl, Nat.le_refl _, by unfold maxLen; omega, fun h => (by cases h), fun _ => ⟨hb, 0, rfl, fun j u hj => ?_⟩⟩
    have : w.cell? ⟨hb, 0 + j, none⟩ = (itC x).toArray[0 + j]? := by simp [World.cell?, hh]
    rw [this, Nat.zero_add, List.getElem?_toArray]; exact hj
  obtain ⟨oa, oc, rfl, ho1, ho2, ho3⟩ := own_form hown
  have hm := lt63 ho1 ho2
  have Hown := Lib.hid (show w.ownsRow B 29 4 _ l.length (itsC l) from hown)
  have Hv := Lib.hid hv1
  have Hh := Lib.hid hh
  have hl := itsC_length l
  have hfin : itsC (l.take i ++ x :: l.drop i) = (itsC l).take (i * 4) ++ itC x ++ (itsC l).drop (i * 4) := by
    rw [itsC_append, itsC_cons, itsC_take, itsC_drop, List.append_assoc]
  have HF := Lib.hid hfin
  have Hone := Lib.hid (itsC_one' l)
  have Hon1 := Lib.hid (show ∀ u ∈ itC x, u.oneCell' = true by rw [← itsC_one]; exact itsC_one' [x])
  have hl1 : (itC x).length = 4 := rfl
  generalize hn : l.length = n at *
  have HN := Lib.hid hn
  generalize itsC l = xs at *
  generalize itC x = c at *
  have HL := Lib.hid hl
  have HL1 := Lib.hid hl1
  clear hown hv1 hh hn hfin hl hl1 ho3
  by_cases hin : i = n
  · subst hin
    obtain ⟨x1, y1, g1, _, _⟩ := slice_from (P := Try.prog) elemT (own_rd Hown.out) i (Nat.le_refl _)
    clear hne
    go_enter Try.func63, Try.ntmps63
    go_wp2_with (at_builtin; go_must (refine wpList_app rfl (.tmp 23) (.tmp 24) 22 rfl elemT B rfl Hown.out rfl Hv.out Hon1.out (by unfold maxLen; omega) (by omega) hB ?_); intro v4 w4 hown4 hgr4 hv4; clear hv4)
    go_ret
    refine ⟨_, rfl, ownT_of hown4 ?_, own_below (Below.refl _ _) Hown.out hB hgr4⟩
    rw [HF.out, List.take_of_length_le (by rw [HL.out]; omega), List.drop_of_length_le (by rw [HL.out]; omega), List.append_nil]
  · obtain ⟨g, rfl⟩ : ∃ g, oa = some ⟨g, 0, none⟩ := by
      rcases Hown.out.2 with ⟨e, h0⟩ | ⟨g, _, _, e, _⟩
      · omega
      · injection e with e; exact ⟨g, e⟩
    have hgh : g ≠ hb := hne g rfl
    have hneq : ((i : Int) == (n : Int)) = false := beq_eq_false_iff_ne.2 (by omega)
    have g1 := slice_own (P := Try.prog) elemT g n oc i hi (by omega)
    clear hne
    by_cases hr : oc < n + 1
    · obtain ⟨w2, c2, ha, hown2, hb2, hc2⟩ := app_zeros Hown.out i (n + 1 - i) hi (by omega) (by omega) (by omega)
      have ha : ∀ ty, (Builtin.append_ #[22, 3] ty #[.slice (some ⟨g, 0, none⟩) i oc, .int .i64 ((n : Int) + 1 - (i : Int))]).run Try.prog w = .ok (.slice (some ⟨w.heap.size, 0, none⟩) (n + 1) c2) w2 := fun ty => by
        have := ha ty
        rw [show ((n + 1 - i : Nat) : Int) = (n : Int) + 1 - (i : Int) by omega, show i + (n + 1 - i) = n + 1 by omega] at this
        exact this
      rw [show i + (n + 1 - i) = n + 1 by omega] at hown2
      obtain ⟨_, _, _, hnc2⟩ := own_obj hown2
      have gto := slice_to (P := Try.prog) elemT (a := some ⟨g, 0, none⟩) (n := n) (cap := oc) (fun x hx => ⟨g, 0, by injection hx with hx; exact hx.symm⟩) i (by omega)
      have g2 := slice_own (P := Try.prog) elemT w.heap.size (n + 1) c2 i (by omega) (by omega)
      obtain ⟨w3, hcp1, hown3, hgr3⟩ := copy_row (P := Try.prog) (sT := 22) elemT hown2 (Hv.out.below hb2) i (n + 1 - i) (c2 - i) 1 (by simp [Nat.min_def]; omega) (by decide) (by decide) (by omega) (fun u hu => Hon1.out u (List.mem_of_mem_take hu))
      have hb3 : Below w.heap.size w w3 := hb2.grown hgr3 hb2.size (by intro r hr; injection hr with hr; omega)
      have g3 := slice_own1 w.heap.size (n + 1) c2 i (by omega) (by omega)
      obtain ⟨w4, hcp2, hown4, hgr4⟩ := copy_row (P := Try.prog) (sT := 22) elemT hown3.drew ((own_from Hown.out i hi (by omega)).below hb3.drew) (i + 1) (n - i) (c2 - (i + 1)) (n - i) (by simp) (by omega) (by decide) (by omega) (fun u hu => Hone.out u (List.mem_of_mem_drop (List.mem_of_mem_take hu)))
      have hb4 : Below w.heap.size w w4 := hb3.drew.grown hgr4 hb3.drew.size (by intro r hr; injection hr with hr; omega)
      have hgo : ((oc : Int) < (n : Int) + 1) := by omega
      have hw2 := Lib.hid (Hown.out.1)
      have hRes := Lib.hid hown4
      have HB4 := Lib.hid hb4
      clear hb2 hb3 hb4 hown2 hown3 hown4 hgr3 hgr4 hnc2
      go_enter Try.func63, Try.ntmps63
      go_wp2_with (at_builtin; go_must (refine Lib.wpList_append_run _ rfl (.tmp 34) (.tmp 39) 22 3 rfl _ _ rfl rfl _ _ (ha _) ?_))
      have j1 : IntKind.i64.wrap ((i : Int) + 1) = (i : Int) + 1 := IntWalk.i64_in _ (by omega)
      have j2 : (0 : Int) ≤ (i : Int) + 1 := by omega
      have j3 : (i : Int) + 1 ≤ (n : Int) + 1 := by omega
      have j4 : ((i : Int) + 1).toNat = i + 1 := by omega
      have j5 : (i : Int) ≤ (n : Int) := by omega
      go_region_held3 (fun _ => True) (trivial) (fail)
      go_wp2_with fail
      go_ret
      refine ⟨_, rfl, ownT_of (hRes.out.mono hB) ?_, HB4.out.mono hB⟩
      rw [HF.out]
      have hz : (itsC (List.replicate (n + 1 - i) it0)).length = (n + 1 - i) * 4 := by rw [itsC_length, List.length_replicate]
      have hc1 : c.take (1 * 4) = c := List.take_of_length_le (by rw [HL1.out]; omega)
      have hx1 : (xs.drop (i * 4)).take ((n - i) * 4) = xs.drop (i * 4) := List.take_of_length_le (by rw [List.length_drop, HL.out]; omega)
      rw [hc1, hx1]
      exact ins_grow hi HL.out hz HL1.out
    · obtain ⟨ys, hy, hown1⟩ := own_more Hown.out 1 (by omega)
      have gto := slice_to (P := Try.prog) elemT (a := some ⟨g, 0, none⟩) (n := n) (cap := oc) (fun x hx => ⟨g, 0, by injection hx with hx; exact hx.symm⟩) (n + 1) (by omega)
      simp only [Int.natCast_add] at gto
      rw [show ((1 : Nat) : Int) = 1 from rfl] at gto
      have g2 := slice_own (P := Try.prog) elemT g (n + 1) oc i (by omega) (by omega)
      have g3 := slice_own1 g (n + 1) oc i (by omega) (by omega)
      obtain ⟨cur, hg, hcs, _⟩ := own_obj hown1
      have hov := overlaps_run (Ne.symm hgh) Hh.out hg (by omega) ((i + 1) * 4)
      obtain ⟨w3, hcp1, hown3, hgr3⟩ := copy_row (P := Try.prog) (sT := 22) elemT hown1.drew (own_from hown1.drew i (by omega) (by omega)) (i + 1) (n - i) (oc - (i + 1)) (n - i) (by simp [Nat.min_def]; omega) (by omega) (by decide) (by omega) (fun u hu => Hone.out u (by
        rw [List.drop_append_of_le_length (by rw [HL.out]; omega), List.take_left' (by rw [List.length_drop, HL.out]; omega)] at hu
        exact List.mem_of_mem_drop hu))
      have hb3 : Below B w w3 := ((Below.refl B w).drew).grown hgr3 hB (by intro r hr; injection hr with hr; have := (hown1.lt g rfl).1; omega)
      have hv3 := Rd.grown (Hv.out.drew) hgr3 (fun y hy => by injection hy with hy; subst hy; intro e; injection e with e; exact hgh e.symm)
      obtain ⟨w4, hcp2, hown4, hgr4⟩ := copy_row (P := Try.prog) (sT := 22) elemT hown3 hv3 i (n + 1 - i) (oc - i) 1 (by simp [Nat.min_def]; omega) (by decide) (by decide) (by omega) (fun u hu => Hon1.out u (List.mem_of_mem_take hu))
      have hb4 : Below B w w4 := hb3.grown hgr4 (Nat.le_trans hB hb3.size) (by intro r hr; injection hr with hr; have := (hown1.lt g rfl).1; omega)
      have hRes := Lib.hid hown4
      have HB4 := Lib.hid hb4
      have HY := Lib.hid hy
      have hgo : ¬ ((oc : Int) < (n : Int) + 1) := by omega
      have j1 : IntKind.i64.wrap ((i : Int) + 1) = (i : Int) + 1 := IntWalk.i64_in _ (by omega)
      have j2 : (0 : Int) ≤ (i : Int) + 1 := by omega
      have j3 : (i : Int) + 1 ≤ (n : Int) + 1 := by omega
      have j4 : ((i : Int) + 1).toNat = i + 1 := by omega
      have j5 : (i : Int) ≤ (n : Int) := by omega
      clear hb3 hb4 hown1 hown3 hown4 hgr3 hgr4 hv3 hy hcs hg
      go_enter Try.func63, Try.ntmps63
      go_wp2_with (simp only [hov])
      have j6 : (i : Int) ≤ (n : Int) + 1 := by omega
      go_region_held3 (fun _ => True) (trivial) (fail)
      go_wp2_with fail
      go_ret
      refine ⟨_, rfl, ownT_of hRes.out ?_, HB4.out⟩
      rw [HF.out]
      have hc1 : c.take (1 * 4) = c := List.take_of_length_le (by rw [HL1.out]; omega)
      rw [hc1]
      exact ins_place hi HL.out (by rw [HY.out]) 
end Go.Proofs.Ytndhjfmdfcpceaa
