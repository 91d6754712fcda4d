/- Several texts in one, each over the last: Sync of the reference: the walk. Printed by mkDrk.py. Remove of the reference: the walk. Printed by mkDrl.py. Rename of the reference: the walk. Printed by mkDrm.py. -/
import Derived.Test.YtkabcpmnbjllcaaDoorDrj
import Derived.Test.YtkabcpmnbjllcaaDoorYa
namespace Go.Proofs.YtkabcpmnbjllcaaDoor
open Go.RowKit

/-- A file with the bytes of the call's own. -/
def agS (B : Nat) (s : Value) (b : List UInt8) : Sta := ⟨fun v w => ∃ dv, v = .agg #[s, dv, nilS] ∧ OwnU w B dv b, fun _ _ _ hb ⟨dv, e, h⟩ => ⟨dv, e, h.keep hb⟩⟩
theorem sync_no {d : Dk} {s : List UInt8} (h : atE d s ≠ 0) : syncD d s = (dk0, atE d s) := by unfold syncD; rw [if_pos h]
theorem sync_go {d : Dk} {s : List UInt8} (h : atE d s = 0) : syncD d s = (⟨d.cap, nextL d.left, d.files.set (lowN d.files s) ⟨s, contF (atN d.files (lowN d.files s)), []⟩⟩, 0) := by unfold syncD; rw [if_neg (by simpa using h)]
set_option maxRecDepth 100000 in
set_option maxHeartbeats 3200000 in
theorem rsync_any (d : Dk) (s : List UInt8) (fv : Value) (xs : List FX) (w : World) (hr : RdS 3 filC w fv (feX xs)) (hx : PartsX w xs) (hes : filX xs = d.files) (hL : LiteD d) (hs : s.length ≤ 9223372036854775807) :
    Calls Tryd.prog 71 #[diskVal d.cap d.left fv, .string (strB s)] w (RefOp w xs (syncD d s)) := by
  have h := rdFE_x hr hx
  have hF : RdF w fv d.files := ⟨feX xs, by rw [feX_fst, hes], h⟩
  obtain ⟨a, cap, rfl, h1, h2, _⟩ := hF.shape
  have Hxl := Lib.hid (show d.files.length = xs.length by rw [← hes]; exact List.length_map ..)
  have HA := Lib.hid (fun W (hW : Below w.heap.size w W) => rat_any d _ s W (hF.below hW) hL hs)
  have HOk := Lib.hid (fun e => atE_ok (d := d) (s := s) e)
  have HI := Lib.hid (show atI d s = if atE d s = 0 then (lowN d.files s : Int) else -1 from rfl)
  have HX := Lib.hid (fun i (hi : i < d.files.length) => atX hes hi)
  have HRw := Lib.hid (show ∀ W, Below w.heap.size w W → RdS 3 filC W _ (feX xs) from fun W hW => RdS.below hr hW)
  have HP := Lib.hid hx
  have HNx := Lib.hid (fun W (hW : Below w.heap.size w W) => by
    have hq := rnext_any d.cap d.left _ (feX xs) W (h.below hW) (by rw [feX_len, ← Hxl.out]; have := hL.len; omega) hL.left
    rw [feX_len, ← Hxl.out] at hq
    exact hq)
  have HSet := Lib.hid (fun (i : Nat) (q : FX) => show filX (xs.set i q) = d.files.set i q.1.1 by rw [← hes]; unfold filX; rw [List.map_set])
  have HSfe := Lib.hid (fun (i : Nat) (q : FX) => show feX (xs.set i q) = (feX xs).set i q.1 by unfold feX; rw [List.map_set])
  have HSmem := Lib.hid (fun (i : Nat) (q p : FX) (hp : p ∈ xs.set i q) => show p ∈ xs ∨ p = q from List.mem_or_eq_of_mem_set hp)
  have Hfl := Lib.hid (show (feX xs).length = d.files.length by rw [feX_len, ← Hxl.out])
  have Hn := Lib.hid hL.len
  have Hone := Lib.hid (fil_one h.base h.pend)
  have HCt := Lib.hid (fun i (hi : i < d.files.length) W u p (hu : RdB W u (atN d.files i).base) (hp : RdW W p (atN d.files i).pend) => show Calls Tryd.prog 38 #[filVal (atN d.files i).name u p] W fun e w' => ∃ v', e = .returned v' ∧ OwnU w' W.heap.size v' (contF (atN d.files i)) ∧ Below W.heap.size W w' from rcontent_any (atN d.files i).name _ _ u p W hu hp (hL.fil _ (atN_mem hi)))
  have HLc := Lib.hid (fun (hv : VldD d) i (hi : i < d.files.length) => And.intro (lenF_cont (sized_of_vld hv hi)) (lenF_bounds (sized_of_vld hv hi)))
  have HNo := Lib.hid (fun e => sync_no (d := d) (s := s) e)
  have HGo := Lib.hid (fun e => sync_go (d := d) (s := s) e)
  clear h hF hr hx hs
  generalize syncD d s = RS at *
  generalize atI d s = ai at *
  generalize hsv : strB s = sv at *
  have Hsv := Lib.hid hsv
  clear hsv
  by_cases he : atE d s = 0
  · obtain ⟨hv, _, _, hlo, _⟩ := HOk.out he
    obtain ⟨hqm, hqf⟩ := HX.out _ hlo
    have hai : ai = (lowN d.files s : Int) := by rw [HI.out, if_pos he]
    subst hai
    have HLc2 := Lib.hid (HLc.out hv _ hlo)
    have HCt2 := Lib.hid (HCt.out _ hlo)
    have HE := Lib.hid (HGo.out he)
    clear HGo HNo
    rw [← hqf] at HE
    rw [← hqf] at HCt2 HLc2
    clear HCt HLc HOk HI
    generalize lowN d.files s = lo at *
    rw [he] at HA
    have HPq := Lib.hid (HP.out _ hqm)
    have HAg := Lib.hid (fun W a n cap (h : RdS 3 filC W (.slice a n cap) (feX xs)) (hn : n = d.files.length) => RdFE.at2 h (hn.trans Hxl.out) (show lo < n by rw [hn]; exact hlo))
    have HAt := Lib.hid (fun W (hW : Below w.heap.size w W) => RdFE.at2 (HRw.out W hW) Hxl.out hlo)
    clear hqm he hv
    generalize xs.getD lo fx0 = q at *
    obtain ⟨⟨f, bv, pv⟩, wes⟩ := q
    dsimp only at hqf
    subst hqf
    generalize atN d.files lo = f at *
    obtain ⟨hb1, hp1, hp2⟩ := HPq.out
    dsimp only at *
    obtain ⟨ba, bc, rfl, _⟩ := hb1.shape0
    obtain ⟨pa, pc, rfl, _⟩ := hp1.shape
    clear hb1 hp1 hp2
    have HPr := Lib.hid (fun W (hW : Below w.heap.size w W) => (HPq.out.below hW).rd)
    dsimp only at HPr
    try generalize lenF f = LF at *
    generalize nextL d.left = nl at *
    obtain ⟨c, lf, fl⟩ := d
    dsimp only [diskVal] at *
    generalize wes.length = wl at *
    generalize f.base.length = bl at *
    generalize fl.length = n at *
    obtain ⟨b0, off, rfl, _⟩ := HAt.out w (Below.refl _ _)
    have HAt2 := Lib.hid (show ∀ W, Below w.heap.size w W → W.cell? ⟨b0, off + lo * 3, none⟩ = some (.string (strB f.name)) ∧ W.cell? ⟨b0, off + lo * 3 + 1, none⟩ = some (.slice ba bl bc) ∧ W.cell? ⟨b0, off + lo * 3 + 2, none⟩ = some (.slice pa wl pc) from fun W hW => by
      obtain ⟨b', off', e, k⟩ := HAt.out W hW
      injection e with e
      injection e with e1 e2
      subst e1 e2
      exact k)
    clear HAt
    dsimp only [filVal] at HCt2
    generalize strB f.name = nm at *
    have i1 : (lo : Int) < (n : Int) := by omega
    have HB0 := Lib.hid (show Below w.heap.size w ((w.alloc (.cells #[.int .i64 c, .int .i64 lf, .slice (some ⟨b0, off, none⟩) n cap] 24)).alloc (.cells #[.int .i64 0, .int .i64 0, .slice none 0 0] 24)) from ((Below.refl _ _).alloc (Nat.le_refl _) _).alloc (by simp) _)
    have X := Lib.hid (show BoxD ((w.alloc (.cells #[.int .i64 c, .int .i64 lf, .slice (some ⟨b0, off, none⟩) n cap] 24)).alloc (.cells #[.int .i64 0, .int .i64 0, .slice none 0 0] 24)) w.heap.size c lf (.slice (some ⟨b0, off, none⟩) n cap) from ⟨by simp, by simp, by simp, fun i => by simp⟩)
    have R := Lib.hid (show BoxD ((w.alloc (.cells #[.int .i64 c, .int .i64 lf, .slice (some ⟨b0, off, none⟩) n cap] 24)).alloc (.cells #[.int .i64 0, .int .i64 0, .slice none 0 0] 24)) (w.heap.size + 1) 0 0 (.slice none 0 0) from ⟨by simp, by simp, by simp, fun i => by simp⟩)
    have hB0 : w.heap.size + 2 ≤ ((w.alloc (.cells #[.int .i64 c, .int .i64 lf, .slice (some ⟨b0, off, none⟩) n cap] 24)).alloc (.cells #[.int .i64 0, .int .i64 0, .slice none 0 0] 24)).heap.size := by simp
    go_enter Tryd.func71, Tryd.ntmps71
    go_upto_region 1 with fail
    generalize (w.alloc (.cells #[.int .i64 c, .int .i64 lf, .slice (some ⟨b0, off, none⟩) n cap] 24)).alloc (.cells #[.int .i64 0, .int .i64 0, .slice none 0 0] 24) = W0 at *
    have x0 := X.out.c0
    have x1 := X.out.c1
    have x2 := X.out.c2
    go_wp2_with fail
    refine (HA.out W0 HB0.out).mono ?_
    rintro e w1 ⟨rfl, hb1⟩
    replace X := Lib.hid (X.out.below hb1)
    replace R := Lib.hid (R.out.below hb1)
    have HB1 := Lib.hid (bstep HB0.out hb1)
    have hB1 := Nat.le_trans hB0 hb1.size
    clear HB0 hB0 hb1 x0 x1 x2
    have x0 := X.out.c0
    have x1 := X.out.c1
    have x2 := X.out.c2
    go_wp2_with fail
    refine (HNx.out w1 HB1.out).mono ?_
    rintro e w2 ⟨v2, rfl, ho2, hb2⟩
    obtain ⟨na, nc, e2, hnc1, hnc2, _⟩ := own_form ho2
    subst e2
    have HRow := Lib.hid (own_all3 ho2 (show w.heap.size < w1.heap.size by omega) (.int .i64 c) (.int .i64 nl) (.slice na n nc))
    have X2 := Lib.hid (X.out.below hb2)
    have X3 := Lib.hid (X2.out.all c nl (.slice na n nc))
    have R3 := Lib.hid ((((R.out.below hb2).set_ne (p := ⟨w.heap.size, 0, none⟩) (by dsimp only; omega) (.int .i64 c)).set_ne (p := ⟨w.heap.size, 1, none⟩) (by dsimp only; omega) (.int .i64 nl)).set_ne (p := ⟨w.heap.size, 2, none⟩) (by dsimp only; omega) (.slice na n nc))
    have HB3 := Lib.hid ((bstep HB1.out hb2).all3 (b := w.heap.size) (Nat.le_refl _) (.int .i64 c) (.int .i64 nl) (.slice na n nc))
    have hw3 : w1.heap.size ≤ (((w2.setCell ⟨w.heap.size, 0, none⟩ (.int .i64 c)).setCell ⟨w.heap.size, 1, none⟩ (.int .i64 nl)).setCell ⟨w.heap.size, 2, none⟩ (.slice na n nc)).heap.size := by simp; exact hb2.size
    have hw3b : w2.heap.size = (((w2.setCell ⟨w.heap.size, 0, none⟩ (.int .i64 c)).setCell ⟨w.heap.size, 1, none⟩ (.int .i64 nl)).setCell ⟨w.heap.size, 2, none⟩ (.slice na n nc)).heap.size := by simp
    clear ho2 hb2 x0 x1 x2 X R HNx
    have x0 := X2.out.c0
    have x1 := X2.out.c1
    have x2 := X2.out.c2
    have xf := X2.out.f
    go_upto_region 5 with fail
    clear x0 x1 x2 xf X2
    generalize (((w2.setCell ⟨w.heap.size, 0, none⟩ (.int .i64 c)).setCell ⟨w.heap.size, 1, none⟩ (.int .i64 nl)).setCell ⟨w.heap.size, 2, none⟩ (.slice na n nc)) = w3 at *
    obtain ⟨g, rfl, hgB, hgl⟩ := own_some HRow.out (by omega)
    have HG := Lib.hid (show ∀ W, Below w3.heap.size w3 W → W.cell? ⟨g, lo * 3, none⟩ = some (.string nm) ∧ W.cell? ⟨g, lo * 3 + 1, none⟩ = some (.slice ba bl bc) ∧ W.cell? ⟨g, lo * 3 + 2, none⟩ = some (.slice pa wl pc) from fun W hW => by
      obtain ⟨b', off', e, k⟩ := HAg.out W _ _ _ (RdS.below (own_rds (fun _ _ => rfl) (by decide) HRow.out) hW) rfl
      injection e with e
      injection e with e1 e2
      subst e1 e2
      simp only [Nat.zero_add] at k
      exact k)
    clear HAg
    refine wp_region_rel [eqS (.pointer (some ⟨w.heap.size, 2, none⟩)), eqS (.slice (some ⟨g, 0, none⟩) n nc), eqS (.int .i64 (lo : Int)), eqS (.string sv), eqS (.pointer (some ⟨w.heap.size, 2, none⟩)), eqS (.slice (some ⟨g, 0, none⟩) n nc), eqS (.int .i64 (lo : Int)), eqS (.pointer (some ⟨g, lo * 3, none⟩)), eqS (.agg #[.string nm, .slice ba bl bc, .slice pa wl pc]), uS w3.heap.size (contF f), agS w3.heap.size (.string sv) (contF f), eqS (.pointer (some ⟨g, lo * 3, none⟩))] [] 33 (by kernel_rfl) (by kernel_rfl) (by rfl) (by kernel_rfl) (fun f => by simp [frm, dstOf, Act.put]; exact rfl) ?_ ?_
    · refine ⟨?_, ?_, ?_, ?_, ?_, ?_, ?_, ?_, ?_, ?_, ?_, ?_, trivial⟩
      · intro f' w4 hb hd
        clear hd
        dsimp only
        go_wp2_with fail
        exact ⟨rfl, Below.refl _ _, fun t ht => by injection ht with ht; subst ht; exact ⟨rfl, fun h => by simp at h⟩⟩
      · intro f' w4 hb hd
        have d0 : f' 0 = .pointer (some ⟨w.heap.size, 2, none⟩) := hd 0 (by kernel_rfl)
        clear hd
        dsimp only
        rw [d0]
        have z2 := (X3.out.below hb).c2
        go_wp2_with fail
        exact ⟨rfl, Below.refl _ _, fun t ht => by injection ht with ht; subst ht; exact ⟨rfl, fun h => by simp at h⟩⟩
      · intro f' w4 hb hd
        clear hd
        dsimp only
        go_wp2_with fail
        exact ⟨rfl, Below.refl _ _, fun t ht => by injection ht with ht; subst ht; exact ⟨rfl, fun h => by simp at h⟩⟩
      · intro f' w4 hb hd
        clear hd
        dsimp only
        go_wp2_with fail
        exact ⟨rfl, Below.refl _ _, fun t ht => by injection ht with ht; subst ht; exact ⟨rfl, fun h => by simp at h⟩⟩
      · intro f' w4 hb hd
        clear hd
        dsimp only
        go_wp2_with fail
        exact ⟨rfl, Below.refl _ _, fun t ht => by injection ht with ht; subst ht; exact ⟨rfl, fun h => by simp at h⟩⟩
      · intro f' w4 hb hd
        have d4 : f' 4 = .pointer (some ⟨w.heap.size, 2, none⟩) := hd 4 (by kernel_rfl)
        clear hd
        dsimp only
        rw [d4]
        have z2 := (X3.out.below hb).c2
        go_wp2_with fail
        exact ⟨rfl, Below.refl _ _, fun t ht => by injection ht with ht; subst ht; exact ⟨rfl, fun h => by simp at h⟩⟩
      · intro f' w4 hb hd
        clear hd
        dsimp only
        go_wp2_with fail
        exact ⟨rfl, Below.refl _ _, fun t ht => by injection ht with ht; subst ht; exact ⟨rfl, fun h => by simp at h⟩⟩
      · intro f' w4 hb hd
        have d5 : f' 5 = .slice (some ⟨g, 0, none⟩) n nc := hd 5 (by kernel_rfl)
        have d6 : f' 6 = .int .i64 (lo : Int) := hd 6 (by kernel_rfl)
        clear hd
        dsimp only
        rw [d5]
        rw [d6]
        go_wp2_with fail
        exact ⟨rfl, Below.refl _ _, fun t ht => by injection ht with ht; subst ht; exact ⟨rfl, fun h => by simp at h⟩⟩
      · intro f' w4 hb hd
        have d7 : f' 7 = .pointer (some ⟨g, lo * 3, none⟩) := hd 7 (by kernel_rfl)
        clear hd
        dsimp only
        rw [d7]
        obtain ⟨c0, c1, c2⟩ := HG.out _ hb
        go_wp2_with fail
        exact ⟨rfl, Below.refl _ _, fun t ht => by injection ht with ht; subst ht; exact ⟨rfl, fun h => by simp at h⟩⟩
      · intro f' w4 hb hd
        have d8 : f' 8 = .agg #[.string nm, .slice ba bl bc, .slice pa wl pc] := hd 8 (by kernel_rfl)
        clear hd
        dsimp only
        rw [d8]
        go_wp2_with fail
        ((with_reducible refine (HCt2.out w4 _ _ (HPr.out w4 (bstep HB3.out hb)).1 (HPr.out w4 (bstep HB3.out hb)).2).mono ?_); rintro e w5 ⟨v2, rfl, ho, hbe⟩)
        go_wp2_with fail
        exact ⟨rfl, hbe, fun t ht => by injection ht with ht; subst ht; exact ⟨ho.lower hb.size, fun h => by simp at h⟩⟩
      · intro f' w4 hb hd
        have d9 := hd 9 (by kernel_rfl)
        have d9 : OwnU w4 w3.heap.size (f' 9) (contF f) := d9
        have d3 : f' 3 = .string sv := hd 3 (by kernel_rfl)
        clear hd
        dsimp only
        rw [d3]
        obtain ⟨da, dc, e9, _⟩ := d9.form
        rw [e9] at d9 ⊢
        have D9 := Lib.hid d9
        clear d9 e9
        go_wp2_with fail
        exact ⟨rfl, Below.refl _ _, fun t ht => by injection ht with ht; subst ht; exact ⟨⟨_, rfl, D9.out⟩, fun h => by simp at h⟩⟩
      · intro f' w4 hb hd
        have d1 : f' 1 = .slice (some ⟨g, 0, none⟩) n nc := hd 1 (by kernel_rfl)
        have d2 : f' 2 = .int .i64 (lo : Int) := hd 2 (by kernel_rfl)
        clear hd
        dsimp only
        rw [d1]
        rw [d2]
        go_wp2_with fail
        exact ⟨rfl, Below.refl _ _, fun t ht => by injection ht with ht; subst ht; exact ⟨rfl, fun h => by simp at h⟩⟩
    · intro f' w4 hb hA _
      have d0 : f' 0 = .pointer (some ⟨w.heap.size, 2, none⟩) := hA 0 (show 0 < 12 by decide)
      have d1 : f' 1 = .slice (some ⟨g, 0, none⟩) n nc := hA 1 (show 1 < 12 by decide)
      have d2 : f' 2 = .int .i64 (lo : Int) := hA 2 (show 2 < 12 by decide)
      have d3 : f' 3 = .string sv := hA 3 (show 3 < 12 by decide)
      have d4 : f' 4 = .pointer (some ⟨w.heap.size, 2, none⟩) := hA 4 (show 4 < 12 by decide)
      have d5 : f' 5 = .slice (some ⟨g, 0, none⟩) n nc := hA 5 (show 5 < 12 by decide)
      have d6 : f' 6 = .int .i64 (lo : Int) := hA 6 (show 6 < 12 by decide)
      have d7 : f' 7 = .pointer (some ⟨g, lo * 3, none⟩) := hA 7 (show 7 < 12 by decide)
      have d8 : f' 8 = .agg #[.string nm, .slice ba bl bc, .slice pa wl pc] := hA 8 (show 8 < 12 by decide)
      have d9 := hA 9 (show 9 < 12 by decide)
      have d10 := hA 10 (show 10 < 12 by decide)
      have d11 : f' 11 = .pointer (some ⟨g, lo * 3, none⟩) := hA 11 (show 11 < 12 by decide)
      clear hA
      try dsimp only at *
      rw [d0]
      rw [d1]
      rw [d2]
      rw [d3]
      rw [d4]
      rw [d5]
      rw [d6]
      rw [d7]
      rw [d8]
      rw [d11]
      clear d0 d1 d2 d3 d4 d5 d6 d7 d8 d11
      have d10 : ∃ dv, f' 10 = .agg #[.string sv, dv, nilS] ∧ OwnU w4 w3.heap.size dv (contF f) := d10
      obtain ⟨dv, e10, hou⟩ := d10
      rw [e10]
      obtain ⟨da, dc, e11, _⟩ := hou.form
      subst e11
      have HRow4 := Lib.hid (own_keep HRow.out hb)
      have HD4 := Lib.hid hou
      have X4 := Lib.hid (X3.out.below hb)
      have R4 := Lib.hid (R3.out.below hb)
      have HB4 := Lib.hid (bstep HB3.out hb)
      obtain ⟨c0, c1, c2⟩ := HG.out _ hb
      have gf : ∀ j, w4.frozen? ⟨g, j, none⟩ = false := fun j => own_frozen HRow4.out j
      have hn4 : (Value.slice da (contF f).length dc).ownBlock ≠ some g := own_above hou (by omega)
      have HRow5 := Lib.hid (own_put3 HRow4.out (show lo < (feX xs).length by rw [Hfl.out]; omega) (⟨s, contF f, []⟩, .slice da (contF f).length dc, nilS))
      dsimp only at HRow5
      rw [Hsv.out] at HRow5
      have HD5 := Lib.hid (OwnU.set_ne (p := ⟨g, lo * 3 + 2, none⟩) (OwnU.set_ne (p := ⟨g, lo * 3 + 1, none⟩) (OwnU.set_ne (p := ⟨g, lo * 3, none⟩) HD4.out (by dsimp only; omega) (.string sv)) (by dsimp only; omega) (.slice da (contF f).length dc)) (by dsimp only; omega) nilS)
      have X5 := Lib.hid (((X4.out.set_ne (p := ⟨g, lo * 3, none⟩) (by dsimp only; omega) (.string sv)).set_ne (p := ⟨g, lo * 3 + 1, none⟩) (by dsimp only; omega) (.slice da (contF f).length dc)).set_ne (p := ⟨g, lo * 3 + 2, none⟩) (by dsimp only; omega) nilS)
      have R := Lib.hid (((R4.out.set_ne (p := ⟨g, lo * 3, none⟩) (by dsimp only; omega) (.string sv)).set_ne (p := ⟨g, lo * 3 + 1, none⟩) (by dsimp only; omega) (.slice da (contF f).length dc)).set_ne (p := ⟨g, lo * 3 + 2, none⟩) (by dsimp only; omega) nilS)
      have HB5 := Lib.hid (((HB4.out.setCell (p := ⟨g, lo * 3, none⟩) (show w.heap.size ≤ g by omega) (.string sv)).setCell (p := ⟨g, lo * 3 + 1, none⟩) (show w.heap.size ≤ g by omega) (.slice da (contF f).length dc)).setCell (p := ⟨g, lo * 3 + 2, none⟩) (show w.heap.size ≤ g by omega) nilS)
      clear hou hn4 HRow X3 R3 HB3 HRow4 HD4 X4 R4 HB4 HG e10
      go_upto_region 6 with fail
      clear c0 c1 c2 gf
      generalize (((w4.setCell ⟨g, lo * 3, none⟩ (.string sv)).setCell ⟨g, lo * 3 + 1, none⟩ (.slice da (contF f).length dc)).setCell ⟨g, lo * 3 + 2, none⟩ nilS) = w5 at *
      have HRw := Lib.hid (show RowB w xs w5 w1.heap.size (.slice (some ⟨g, 0, none⟩) n nc) (xs.set lo ((⟨s, contF f, []⟩, .slice da (contF f).length dc, nilS), [])) from ⟨by
          rw [HSfe.out, List.length_set, Hfl.out]
          exact HRow5.out, by omega, fun W' hk hp q hq => by
        rcases HSmem.out _ _ q hq with h | h
        · exact hp q h
        · rw [h]
          exact ⟨own_rdl (hk.own (World.ownsRow.mono HD5.out hw3) (Nat.le_refl _)), RdWE.nilX _, rfl⟩⟩)
      have x0 := X5.out.c0
      have x1 := X5.out.c1
      have x2 := X5.out.c2
      clear HRow5 HD5
      have r0 := R.out.c0
      have r1 := R.out.c1
      have r2 := R.out.c2
      have rf := R.out.f
      have HRz := Lib.hid (RowR.set3 (b := w.heap.size + 1) HRw.out (by omega) (.int .i64 c) (.int .i64 nl) (.slice (some ⟨g, 0, none⟩) n nc))
      go_wp2_with fail
      exact bodyPost_ret (v := .tuple #[diskVal c nl (.slice (some ⟨g, 0, none⟩) n nc), .int .i64 0]) (by simp [results, Tryd.results71, go_sem, r0, r1, r2]) rfl ⟨⟨_, _, by rw [HE.out]; first | done | rfl, by rw [HE.out]; exact (by rw [HSet.out]), HRz.out⟩, HB5.out.all3 (by omega) _ _ _⟩
  · generalize atE d s = E at *
    have HE := Lib.hid (HNo.out he)
    have hz1 : (E == 0) = false := beq_eq_false_iff_ne.2 he
    have hz2 : (E != 0) = true := by rw [bne_iff_ne]; exact he
    obtain ⟨c, lf, fl⟩ := d
    dsimp only [diskVal] at *
    generalize fl.length = n at *
    have HB0 := Lib.hid (show Below w.heap.size w ((w.alloc (.cells #[.int .i64 c, .int .i64 lf, .slice a n cap] 24)).alloc (.cells #[.int .i64 0, .int .i64 0, .slice none 0 0] 24)) from ((Below.refl _ _).alloc (Nat.le_refl _) _).alloc (by simp) _)
    have X := Lib.hid (show BoxD ((w.alloc (.cells #[.int .i64 c, .int .i64 lf, .slice a n cap] 24)).alloc (.cells #[.int .i64 0, .int .i64 0, .slice none 0 0] 24)) w.heap.size c lf (.slice a n cap) from ⟨by simp, by simp, by simp, fun i => by simp⟩)
    have R := Lib.hid (show BoxD ((w.alloc (.cells #[.int .i64 c, .int .i64 lf, .slice a n cap] 24)).alloc (.cells #[.int .i64 0, .int .i64 0, .slice none 0 0] 24)) (w.heap.size + 1) 0 0 (.slice none 0 0) from ⟨by simp, by simp, by simp, fun i => by simp⟩)
    have hB0 : w.heap.size + 2 ≤ ((w.alloc (.cells #[.int .i64 c, .int .i64 lf, .slice a n cap] 24)).alloc (.cells #[.int .i64 0, .int .i64 0, .slice none 0 0] 24)).heap.size := by simp
    go_enter Tryd.func71, Tryd.ntmps71
    go_upto_region 1 with fail
    generalize (w.alloc (.cells #[.int .i64 c, .int .i64 lf, .slice a n cap] 24)).alloc (.cells #[.int .i64 0, .int .i64 0, .slice none 0 0] 24) = W0 at *
    have x0 := X.out.c0
    have x1 := X.out.c1
    have x2 := X.out.c2
    go_wp2_with fail
    refine (HA.out W0 HB0.out).mono ?_
    rintro e w1 ⟨rfl, hb1⟩
    replace X := Lib.hid (X.out.below hb1)
    replace R := Lib.hid (R.out.below hb1)
    have HB1 := Lib.hid (bstep HB0.out hb1)
    have hB1 := Nat.le_trans hB0 hb1.size
    clear HB0 hB0 hb1 x0 x1 x2
    have x0 := X.out.c0
    have x1 := X.out.c1
    have x2 := X.out.c2
    have r0 := R.out.c0
    have r1 := R.out.c1
    have r2 := R.out.c2
    have rf := R.out.f
    go_wp2_with fail
    exact bodyPost_ret (v := .tuple #[diskVal 0 0 nilS, .int .i64 E]) (by simp [results, Tryd.results71, go_sem, r0, r1, r2]) rfl ⟨⟨_, [], by rw [HE.out]; first | done | rfl, by rw [HE.out]; rfl, RowR.nil _ _ _⟩, HB1.out.all3 (by omega) _ _ _⟩

end Go.Proofs.YtkabcpmnbjllcaaDoor

namespace Go.Proofs.YtkabcpmnbjllcaaDoor
open Go.RowKit

/-- What is done of a region that lays an empty row (0) and copies a row into it (a). -/
structure CpS (T : TypeId) (a B0 : Nat) (w6 : World) (n : Nat) (xs : List Value) (ps : List (Nat × Value)) (L : Nat → Bool) (f : Nat → Value) (W : World) : Prop where
  pur : PurR ps L f
  hb : Below B0 w6 W
  sz : B0 ≤ W.heap.size
  a0 : L 0 = true → L a = false → W.ownsRow B0 T 3 (f 0) 0 []
  aa : L a = true → W.ownsRow B0 T 3 (f a) n xs ∧ L 0 = true
section
variable {T : TypeId} {a B0 n : Nat} {w6 : World} {xs : List Value} {ps : List (Nat × Value)} {L : Nat → Bool} {f : Nat → Value} {W W' : World}
theorem CpS.start (hs : B0 = w6.heap.size) (f : Nat → Value) : CpS T a B0 w6 n xs ps (fun _ => false) f w6.drew := by
  subst hs
  exact ⟨(fun _ _ h => by cases h), below_drew (Below.refl _ _), Nat.le_refl _, (fun h => by cases h), fun h => by cases h⟩
theorem CpS.pure (h : CpS T a B0 w6 n xs ps L f W) {i : Nat} {v : Value} (h0 : 0 ≠ i) (ha : a ≠ i) (hp : ∀ q ∈ ps, q.1 = i → v = q.2) : CpS T a B0 w6 n xs ps (onL L i) (updF f i v) W := by
  refine ⟨h.pur.one hp, h.hb, h.sz, fun e e2 => ?_, fun e => ?_⟩
  · rw [onR_ne h0] at e; rw [onR_ne ha] at e2; rw [upR_ne h0]; exact h.a0 e e2
  · rw [onR_ne ha] at e; rw [upR_ne ha, onR_ne h0]; exact h.aa e
theorem CpS.made (h : CpS T a B0 w6 n xs ps L f W) (ha : a ≠ 0) (h0 : L 0 = false) (hp : ∀ q ∈ ps, q.1 ≠ 0) : CpS T a B0 w6 n xs ps (onL L 0) (updF f 0 (.slice (some ⟨W.heap.size, 0, none⟩) 0 0)) (W.alloc (.cells #[] T)) := by
  have h3 : L a = false := by
    cases e : L a with
    | false => rfl
    | true => rw [(h.aa e).2] at h0; cases h0
  refine ⟨h.pur.one fun q hq e => absurd e (hp q hq), h.hb.alloc h.sz _, by simp; have := h.sz; omega, fun _ _ => ?_, fun e => ?_⟩
  · rw [upR_eq]
    exact World.ownsRow_made (e := T) (size := 3) W #[] 0 h.sz (by decide) rfl
  · rw [onR_ne ha, h3] at e; cases e
theorem CpS.copy (h : CpS T a B0 w6 n xs ps L f W) (ha : a ≠ 0) (h0 : L 0 = true) (h3 : L a = false) (hp : ∀ q ∈ ps, q.1 ≠ a) {v : Value} (hn : W'.ownsRow B0 T 3 v n xs) (hg : W.grownBy W' (f 0).ownBlock) : CpS T a B0 w6 n xs ps (onL L a) (updF f a v) W' := by
  have ho := h.a0 h0 h3
  refine ⟨h.pur.one fun q hq e => absurd e (hp q hq), own_below h.hb ho h.sz hg, Nat.le_trans h.sz hg.size, fun _ e => ?_, fun _ => ?_⟩
  · rw [onR_eq] at e; cases e
  · rw [upR_eq, onR_ne (fun e => ha e.symm)]
    exact ⟨hn, h0⟩
end
/-- A row without its file number i. -/
def dropX (xs : List FX) (i : Nat) : List FX := xs.take i ++ xs.drop (i + 1)
theorem dropX_fe (xs : List FX) (i : Nat) : feX (dropX xs i) = (feX xs).take i ++ (feX xs).drop (i + 1) := by
  unfold dropX feX; rw [List.map_append, List.map_take, List.map_drop]
theorem dropX_fil (xs : List FX) (i : Nat) : filX (dropX xs i) = dropN (filX xs) i := by
  unfold dropX filX dropN; rw [List.map_append, List.map_take, List.map_drop]
theorem dropX_mem {xs : List FX} {i : Nat} {q : FX} (h : q ∈ dropX xs i) : q ∈ xs := by
  rcases List.mem_append.1 h with h | h
  · exact List.mem_of_mem_take h
  · exact List.mem_of_mem_drop h
theorem dropX_len {xs : List FX} {i n : Nat} (h : (feX xs).length = n) (hi : i < n) : (feX (dropX xs i)).length = i + (n - (i + 1)) := by
  rw [dropX_fe, List.length_append, List.length_take, List.length_drop]; omega
theorem dropX_flat (xs : List FX) (i : Nat) : (feX (dropX xs i)).flatMap filC = ((feX xs).flatMap filC).take (i * 3) ++ ((feX xs).flatMap filC).drop ((i + 1) * 3) := by
  rw [dropX_fe, List.flatMap_append, flat_take 3 filC _ (fun _ => rfl), flat_drop 3 filC _ (fun _ => rfl)]
theorem remove_no {d : Dk} {s : List UInt8} (h : atE d s ≠ 0) : removeD d s = (dk0, atE d s) := by unfold removeD; rw [if_pos h]
theorem remove_go {d : Dk} {s : List UInt8} (h : atE d s = 0) : removeD d s = (⟨d.cap, nextL d.left, dropN d.files (lowN d.files s)⟩, 0) := by unfold removeD; rw [if_neg (by simpa using h)]
set_option maxRecDepth 100000 in
set_option maxHeartbeats 3200000 in
theorem rremove_any (d : Dk) (s : List UInt8) (fv : Value) (xs : List FX) (w : World) (hr : RdS 3 filC w fv (feX xs)) (hx : PartsX w xs) (hes : filX xs = d.files) (hL : LiteD d) (hs : s.length ≤ 9223372036854775807) :
    Calls Tryd.prog 73 #[diskVal d.cap d.left fv, .string (strB s)] w (RefOp w xs (removeD d s)) := by
  have h := rdFE_x hr hx
  have hF : RdF w fv d.files := ⟨feX xs, by rw [feX_fst, hes], h⟩
  obtain ⟨a, cap, rfl, h1, h2, _⟩ := hF.shape
  have Hxl := Lib.hid (show d.files.length = xs.length by rw [← hes]; exact List.length_map ..)
  have HA := Lib.hid (fun W (hW : Below w.heap.size w W) => rat_any d _ s W (hF.below hW) hL hs)
  have HOk := Lib.hid (fun e => atE_ok (d := d) (s := s) e)
  have HI := Lib.hid (show atI d s = if atE d s = 0 then (lowN d.files s : Int) else -1 from rfl)
  have HX := Lib.hid (fun i (hi : i < d.files.length) => atX hes hi)
  have HRw := Lib.hid (show ∀ W, Below w.heap.size w W → RdS 3 filC W _ (feX xs) from fun W hW => RdS.below hr hW)
  have HP := Lib.hid hx
  have HNx := Lib.hid (fun W (hW : Below w.heap.size w W) => by
    have hq := rnext_any d.cap d.left _ (feX xs) W (h.below hW) (by rw [feX_len, ← Hxl.out]; have := hL.len; omega) hL.left
    rw [feX_len, ← Hxl.out] at hq
    exact hq)
  have HSet := Lib.hid (fun (i : Nat) (q : FX) => show filX (xs.set i q) = d.files.set i q.1.1 by rw [← hes]; unfold filX; rw [List.map_set])
  have HSfe := Lib.hid (fun (i : Nat) (q : FX) => show feX (xs.set i q) = (feX xs).set i q.1 by unfold feX; rw [List.map_set])
  have HSmem := Lib.hid (fun (i : Nat) (q p : FX) (hp : p ∈ xs.set i q) => show p ∈ xs ∨ p = q from List.mem_or_eq_of_mem_set hp)
  have Hfl := Lib.hid (show (feX xs).length = d.files.length by rw [feX_len, ← Hxl.out])
  have Hn := Lib.hid hL.len
  have Hone := Lib.hid (fil_one h.base h.pend)
  have HCt := Lib.hid (fun i (hi : i < d.files.length) W u p (hu : RdB W u (atN d.files i).base) (hp : RdW W p (atN d.files i).pend) => show Calls Tryd.prog 38 #[filVal (atN d.files i).name u p] W fun e w' => ∃ v', e = .returned v' ∧ OwnU w' W.heap.size v' (contF (atN d.files i)) ∧ Below W.heap.size W w' from rcontent_any (atN d.files i).name _ _ u p W hu hp (hL.fil _ (atN_mem hi)))
  have HLc := Lib.hid (fun (hv : VldD d) i (hi : i < d.files.length) => And.intro (lenF_cont (sized_of_vld hv hi)) (lenF_bounds (sized_of_vld hv hi)))
  have HNo := Lib.hid (fun e => remove_no (d := d) (s := s) e)
  have HGo := Lib.hid (fun e => remove_go (d := d) (s := s) e)
  clear h hF hr hx hs
  generalize removeD d s = RS at *
  generalize atI d s = ai at *
  generalize strB s = sv at *
  by_cases he : atE d s = 0
  · obtain ⟨hv, _, _, hlo, _⟩ := HOk.out he
    obtain ⟨hqm, hqf⟩ := HX.out _ hlo
    have hai : ai = (lowN d.files s : Int) := by rw [HI.out, if_pos he]
    subst hai
    have HLc2 := Lib.hid (HLc.out hv _ hlo)
    have HCt2 := Lib.hid (HCt.out _ hlo)
    have HE := Lib.hid (HGo.out he)
    clear HGo HNo
    rw [← hqf] at HCt2 HLc2
    clear HCt HLc HOk HI
    generalize lowN d.files s = lo at *
    rw [he] at HA
    have HPq := Lib.hid (HP.out _ hqm)
    have HAg := Lib.hid (fun W a n cap (h : RdS 3 filC W (.slice a n cap) (feX xs)) (hn : n = d.files.length) => RdFE.at2 h (hn.trans Hxl.out) (show lo < n by rw [hn]; exact hlo))
    have HAt := Lib.hid (fun W (hW : Below w.heap.size w W) => RdFE.at2 (HRw.out W hW) Hxl.out hlo)
    clear hqm he hv
    generalize xs.getD lo fx0 = q at *
    obtain ⟨⟨f, bv, pv⟩, wes⟩ := q
    dsimp only at hqf
    subst hqf
    generalize atN d.files lo = f at *
    obtain ⟨hb1, hp1, hp2⟩ := HPq.out
    dsimp only at *
    obtain ⟨ba, bc, rfl, _⟩ := hb1.shape0
    obtain ⟨pa, pc, rfl, _⟩ := hp1.shape
    clear hb1 hp1 hp2
    have HPr := Lib.hid (fun W (hW : Below w.heap.size w W) => (HPq.out.below hW).rd)
    dsimp only at HPr
    try generalize lenF f = LF at *
    generalize nextL d.left = nl at *
    obtain ⟨c, lf, fl⟩ := d
    dsimp only [diskVal] at *
    generalize wes.length = wl at *
    generalize f.base.length = bl at *
    generalize fl.length = n at *
    obtain ⟨b0, off, rfl, _⟩ := HAt.out w (Below.refl _ _)
    have HAt2 := Lib.hid (show ∀ W, Below w.heap.size w W → W.cell? ⟨b0, off + lo * 3, none⟩ = some (.string (strB f.name)) ∧ W.cell? ⟨b0, off + lo * 3 + 1, none⟩ = some (.slice ba bl bc) ∧ W.cell? ⟨b0, off + lo * 3 + 2, none⟩ = some (.slice pa wl pc) from fun W hW => by
      obtain ⟨b', off', e, k⟩ := HAt.out W hW
      injection e with e
      injection e with e1 e2
      subst e1 e2
      exact k)
    clear HAt
    dsimp only [filVal] at HCt2
    generalize strB f.name = nm at *
    have i1 : (lo : Int) < (n : Int) := by omega
    have HB0 := Lib.hid (show Below w.heap.size w ((w.alloc (.cells #[.int .i64 c, .int .i64 lf, .slice (some ⟨b0, off, none⟩) n cap] 24)).alloc (.cells #[.int .i64 0, .int .i64 0, .slice none 0 0] 24)) from ((Below.refl _ _).alloc (Nat.le_refl _) _).alloc (by simp) _)
    have X := Lib.hid (show BoxD ((w.alloc (.cells #[.int .i64 c, .int .i64 lf, .slice (some ⟨b0, off, none⟩) n cap] 24)).alloc (.cells #[.int .i64 0, .int .i64 0, .slice none 0 0] 24)) w.heap.size c lf (.slice (some ⟨b0, off, none⟩) n cap) from ⟨by simp, by simp, by simp, fun i => by simp⟩)
    have R := Lib.hid (show BoxD ((w.alloc (.cells #[.int .i64 c, .int .i64 lf, .slice (some ⟨b0, off, none⟩) n cap] 24)).alloc (.cells #[.int .i64 0, .int .i64 0, .slice none 0 0] 24)) (w.heap.size + 1) 0 0 (.slice none 0 0) from ⟨by simp, by simp, by simp, fun i => by simp⟩)
    have hB0 : w.heap.size + 2 ≤ ((w.alloc (.cells #[.int .i64 c, .int .i64 lf, .slice (some ⟨b0, off, none⟩) n cap] 24)).alloc (.cells #[.int .i64 0, .int .i64 0, .slice none 0 0] 24)).heap.size := by simp
    go_enter Tryd.func73, Tryd.ntmps73
    go_upto_region 1 with fail
    generalize (w.alloc (.cells #[.int .i64 c, .int .i64 lf, .slice (some ⟨b0, off, none⟩) n cap] 24)).alloc (.cells #[.int .i64 0, .int .i64 0, .slice none 0 0] 24) = W0 at *
    have x0 := X.out.c0
    have x1 := X.out.c1
    have x2 := X.out.c2
    go_wp2_with fail
    refine (HA.out W0 HB0.out).mono ?_
    rintro e w1 ⟨rfl, hb1⟩
    replace X := Lib.hid (X.out.below hb1)
    replace R := Lib.hid (R.out.below hb1)
    have HB1 := Lib.hid (bstep HB0.out hb1)
    have hB1 := Nat.le_trans hB0 hb1.size
    clear HB0 hB0 hb1 x0 x1 x2
    have x0 := X.out.c0
    have x1 := X.out.c1
    have x2 := X.out.c2
    go_wp2_with fail
    refine (HNx.out w1 HB1.out).mono ?_
    rintro e w2 ⟨v2, rfl, ho2, hb2⟩
    obtain ⟨na, nc, e2, hnc1, hnc2, _⟩ := own_form ho2
    subst e2
    have HRow := Lib.hid (own_all3 ho2 (show w.heap.size < w1.heap.size by omega) (.int .i64 c) (.int .i64 nl) (.slice na n nc))
    have X2 := Lib.hid (X.out.below hb2)
    have X3 := Lib.hid (X2.out.all c nl (.slice na n nc))
    have R3 := Lib.hid ((((R.out.below hb2).set_ne (p := ⟨w.heap.size, 0, none⟩) (by dsimp only; omega) (.int .i64 c)).set_ne (p := ⟨w.heap.size, 1, none⟩) (by dsimp only; omega) (.int .i64 nl)).set_ne (p := ⟨w.heap.size, 2, none⟩) (by dsimp only; omega) (.slice na n nc))
    have HB3 := Lib.hid ((bstep HB1.out hb2).all3 (b := w.heap.size) (Nat.le_refl _) (.int .i64 c) (.int .i64 nl) (.slice na n nc))
    have hw3 : w1.heap.size ≤ (((w2.setCell ⟨w.heap.size, 0, none⟩ (.int .i64 c)).setCell ⟨w.heap.size, 1, none⟩ (.int .i64 nl)).setCell ⟨w.heap.size, 2, none⟩ (.slice na n nc)).heap.size := by simp; exact hb2.size
    have hw3b : w2.heap.size = (((w2.setCell ⟨w.heap.size, 0, none⟩ (.int .i64 c)).setCell ⟨w.heap.size, 1, none⟩ (.int .i64 nl)).setCell ⟨w.heap.size, 2, none⟩ (.slice na n nc)).heap.size := by simp
    clear ho2 hb2 x0 x1 x2 X R HNx
    have x0 := X2.out.c0
    have x1 := X2.out.c1
    have x2 := X2.out.c2
    have xf := X2.out.f
    go_upto_region 5 with fail
    clear x0 x1 x2 xf X2
    generalize (((w2.setCell ⟨w.heap.size, 0, none⟩ (.int .i64 c)).setCell ⟨w.heap.size, 1, none⟩ (.int .i64 nl)).setCell ⟨w.heap.size, 2, none⟩ (.slice na n nc)) = w3 at *
    obtain ⟨g, rfl, hgB, hgl⟩ := own_some HRow.out (by omega)
    have HG := Lib.hid (show ∀ W, Below w3.heap.size w3 W → W.cell? ⟨g, lo * 3, none⟩ = some (.string nm) ∧ W.cell? ⟨g, lo * 3 + 1, none⟩ = some (.slice ba bl bc) ∧ W.cell? ⟨g, lo * 3 + 2, none⟩ = some (.slice pa wl pc) from fun W hW => by
      obtain ⟨b', off', e, k⟩ := HAg.out W _ _ _ (RdS.below (own_rds (fun _ _ => rfl) (by decide) HRow.out) hW) rfl
      injection e with e
      injection e with e1 e2
      subst e1 e2
      simp only [Nat.zero_add] at k
      exact k)
    clear HAg
    obtain ⟨sa, sc, gfrom, hsrc, _⟩ := slice_from (P := Tryd.prog) elemFr (own_rd HRow.out) (lo + 1) (show lo + 1 ≤ n by omega)
    have HSrc := Lib.hid hsrc
    have HTk := Lib.hid (own_rd (own_take HRow.out lo (by omega)))
    clear hsrc
    simp only [Int.natCast_add] at gfrom
    rw [show ((1 : Nat) : Int) = 1 from rfl] at gfrom
    have gto := slice_to (P := Tryd.prog) elemFr (a := some ⟨g, 0, none⟩) (n := n) (cap := nc) (fun x hx => ⟨g, 0, by injection hx with hx; exact hx.symm⟩) lo (by omega)
    have Hone1 := Lib.hid (fun u (hu : u ∈ ((feX xs).flatMap filC).take (lo * 3)) => Hone.out u (List.mem_of_mem_take hu))
    have Hone2 := Lib.hid (fun u (hu : u ∈ ((feX xs).flatMap filC).drop ((lo + 1) * 3)) => Hone.out u (List.mem_of_mem_drop hu))
    have hn9 := Hn.out
    refine wp_region_inv 11 (fun L f W => CpS 73 5 w3.heap.size w3 lo (((feX xs).flatMap filC).take (lo * 3)) [(1, .pointer (some ⟨w.heap.size, 2, none⟩)), (2, .slice (some ⟨g, 0, none⟩) n nc), (3, .int .i64 (lo : Int)), (4, .slice (some ⟨g, 0, none⟩) lo nc), (6, .pointer (some ⟨w.heap.size, 2, none⟩)), (7, .slice (some ⟨g, 0, none⟩) n nc), (8, .int .i64 (lo : Int)), (9, .int .i64 ((lo : Int) + 1)), (10, .slice sa (n - (lo + 1)) sc)] L f W) 34 (by kernel_rfl) (by kernel_rfl) (by rfl) (by kernel_rfl) (fun f => by simp [frm, dstOf, Act.put]; exact rfl) (fun f => CpS.start rfl f) ?_ ?_
    · refine ⟨?_, ?_, ?_, ?_, ?_, ?_, ?_, ?_, ?_, ?_, ?_, trivial⟩
      · intro L f' w4 h0 hd hI
        have HI1 := Lib.hid hI
        clear hI hd
        dsimp only
        go_wp2_with fail
        exact ⟨rfl, (fun h => by cases h), fun t ht => by injection ht with ht; subst ht; exact HI1.out.made (by decide) h0 (by simp)⟩
      · intro L f' w4 h0 hd hI
        have HI1 := Lib.hid hI
        clear hI hd
        dsimp only
        go_wp2_with fail
        exact ⟨rfl, (fun h => by cases h), fun t ht => by injection ht with ht; subst ht; exact HI1.out.pure (v := .pointer (some ⟨w.heap.size, 2, none⟩)) (by decide) (by decide) (by simp)⟩
      · intro L f' w4 h0 hd hI
        have HI1 := Lib.hid hI
        have d1 : f' 1 = .pointer (some ⟨w.heap.size, 2, none⟩) := hI.pur (1, .pointer (some ⟨w.heap.size, 2, none⟩)) (by simp) (hd 1 (by kernel_rfl))
        have z2 := (X3.out.below hI.hb).c2
        clear hI hd
        dsimp only
        rw [d1]
        go_wp2_with fail
        exact ⟨rfl, (fun h => by cases h), fun t ht => by injection ht with ht; subst ht; exact HI1.out.pure (v := .slice (some ⟨g, 0, none⟩) n nc) (by decide) (by decide) (by simp)⟩
      · intro L f' w4 h0 hd hI
        have HI1 := Lib.hid hI
        clear hI hd
        dsimp only
        go_wp2_with fail
        exact ⟨rfl, (fun h => by cases h), fun t ht => by injection ht with ht; subst ht; exact HI1.out.pure (v := .int .i64 (lo : Int)) (by decide) (by decide) (by simp)⟩
      · intro L f' w4 h0 hd hI
        have HI1 := Lib.hid hI
        have d2 : f' 2 = .slice (some ⟨g, 0, none⟩) n nc := hI.pur (2, .slice (some ⟨g, 0, none⟩) n nc) (by simp) (hd 2 (by kernel_rfl))
        have d3 : f' 3 = .int .i64 (lo : Int) := hI.pur (3, .int .i64 (lo : Int)) (by simp) (hd 3 (by kernel_rfl))
        clear hI hd
        dsimp only
        rw [d2]
        rw [d3]
        go_wp2_with fail
        exact ⟨rfl, (fun h => by cases h), fun t ht => by injection ht with ht; subst ht; exact HI1.out.pure (v := .slice (some ⟨g, 0, none⟩) lo nc) (by decide) (by decide) (by simp)⟩
      · intro L f' w4 h0 hd hI
        have HI1 := Lib.hid hI
        have hL0 := hd 0 (by kernel_rfl)
        have d4 : f' 4 = .slice (some ⟨g, 0, none⟩) lo nc := hI.pur (4, .slice (some ⟨g, 0, none⟩) lo nc) (by simp) (hd 4 (by kernel_rfl))
        have hown := hI.a0 hL0 h0
        have hsz := hI.sz
        have hrd := HTk.out.below hI.hb
        clear hI hd
        dsimp only
        rw [d4]
        refine wpList_app rfl (.tmp 20) (.tmp 24) 22 rfl elemFr w3.heap.size rfl hown rfl hrd Hone1.out (by unfold maxLen; omega) (by omega) hsz ?_
        intro v' w8 hown' hgr' _
        rw [Nat.zero_add, List.nil_append] at hown'
        have HQ := Lib.hid (HI1.out.copy (by decide) hL0 h0 (by simp) hown' hgr')
        exact ⟨rfl, (fun h => by cases h), fun t ht => by injection ht with ht; subst ht; exact HQ.out⟩
      · intro L f' w4 h0 hd hI
        have HI1 := Lib.hid hI
        clear hI hd
        dsimp only
        go_wp2_with fail
        exact ⟨rfl, (fun h => by cases h), fun t ht => by injection ht with ht; subst ht; exact HI1.out.pure (v := .pointer (some ⟨w.heap.size, 2, none⟩)) (by decide) (by decide) (by simp)⟩
      · intro L f' w4 h0 hd hI
        have HI1 := Lib.hid hI
        have d6 : f' 6 = .pointer (some ⟨w.heap.size, 2, none⟩) := hI.pur (6, .pointer (some ⟨w.heap.size, 2, none⟩)) (by simp) (hd 6 (by kernel_rfl))
        have z2 := (X3.out.below hI.hb).c2
        clear hI hd
        dsimp only
        rw [d6]
        go_wp2_with fail
        exact ⟨rfl, (fun h => by cases h), fun t ht => by injection ht with ht; subst ht; exact HI1.out.pure (v := .slice (some ⟨g, 0, none⟩) n nc) (by decide) (by decide) (by simp)⟩
      · intro L f' w4 h0 hd hI
        have HI1 := Lib.hid hI
        clear hI hd
        dsimp only
        go_wp2_with fail
        exact ⟨rfl, (fun h => by cases h), fun t ht => by injection ht with ht; subst ht; exact HI1.out.pure (v := .int .i64 (lo : Int)) (by decide) (by decide) (by simp)⟩
      · intro L f' w4 h0 hd hI
        have HI1 := Lib.hid hI
        have d8 : f' 8 = .int .i64 (lo : Int) := hI.pur (8, .int .i64 (lo : Int)) (by simp) (hd 8 (by kernel_rfl))
        clear hI hd
        dsimp only
        rw [d8]
        go_wp2_with fail
        exact ⟨rfl, (fun h => by cases h), fun t ht => by injection ht with ht; subst ht; exact HI1.out.pure (v := .int .i64 ((lo : Int) + 1)) (by decide) (by decide) (by simp)⟩
      · intro L f' w4 h0 hd hI
        have HI1 := Lib.hid hI
        have d7 : f' 7 = .slice (some ⟨g, 0, none⟩) n nc := hI.pur (7, .slice (some ⟨g, 0, none⟩) n nc) (by simp) (hd 7 (by kernel_rfl))
        have d9 : f' 9 = .int .i64 ((lo : Int) + 1) := hI.pur (9, .int .i64 ((lo : Int) + 1)) (by simp) (hd 9 (by kernel_rfl))
        clear hI hd
        dsimp only
        rw [d7]
        rw [d9]
        go_wp2_with fail
        exact ⟨rfl, (fun h => by cases h), fun t ht => by injection ht with ht; subst ht; exact HI1.out.pure (v := .slice sa (n - (lo + 1)) sc) (by decide) (by decide) (by simp)⟩
    · intro L f' w4 hA hI
      obtain ⟨hown, _⟩ := hI.aa (hA 5 (by decide))
      have d10 : f' 10 = .slice sa (n - (lo + 1)) sc := hI.pur (10, .slice sa (n - (lo + 1)) sc) (by simp) (hA 10 (by decide))
      have Hb4 := Lib.hid hI.hb
      have hsz := hI.sz
      have hrd := HSrc.out.below hI.hb
      clear hI hA
      rw [d10]
      clear d10
      refine wpList_app rfl (.tmp 25) (.tmp 30) 22 rfl elemFr w3.heap.size rfl hown rfl hrd Hone2.out (by unfold maxLen; omega) (by omega) hsz ?_
      intro v5 w5 hown5 hgr5 _
      have hb5 := own_below Hb4.out hown hsz hgr5
      rw [← dropX_flat] at hown5
      obtain ⟨ra, rc, e5, _⟩ := own_form hown5
      subst e5
      generalize hm5 : lo + (n - (lo + 1)) = m5 at *
      have Hm5 := Lib.hid hm5
      have HRow5 := Lib.hid (own_set_ne (p := ⟨w.heap.size, 2, none⟩) hown5 (own_above hown5 (show w.heap.size < w3.heap.size by omega)) (.slice ra m5 rc))
      have X5 := Lib.hid ((X3.out.below hb5).set2 (.slice ra m5 rc))
      have R := Lib.hid ((R3.out.below hb5).set_ne (p := ⟨w.heap.size, 2, none⟩) (by dsimp only; omega) (.slice ra m5 rc))
      have HB5 := Lib.hid ((bstep HB3.out hb5).setCell (p := ⟨w.heap.size, 2, none⟩) (Nat.le_refl _) (.slice ra m5 rc))
      have hw5 : w3.heap.size ≤ (w5.setCell ⟨w.heap.size, 2, none⟩ (.slice ra m5 rc)).heap.size := by simp; exact hb5.size
      have z2 := (X3.out.below hb5).c2
      have zf := (X3.out.below hb5).f
      clear hown hrd hown5 hgr5 Hb4 hsz hb5 hm5 X3 R3 HB3 HRow HSrc HTk Hone1 Hone2 gto gfrom
      go_upto_region 6 with fail
      clear z2 zf
      generalize w5.setCell ⟨w.heap.size, 2, none⟩ (.slice ra m5 rc) = w6 at *
      have HRw := Lib.hid (show RowB w xs w6 w3.heap.size (.slice ra m5 rc) (dropX xs lo) from ⟨by
          rw [dropX_len Hfl.out (by omega), Hm5.out]
          exact HRow5.out, by omega, fun W' hk hp q hq => hp q (dropX_mem hq)⟩)
      have x0 := X5.out.c0
      have x1 := X5.out.c1
      have x2 := X5.out.c2
      clear HRow5
      have r0 := R.out.c0
      have r1 := R.out.c1
      have r2 := R.out.c2
      have rf := R.out.f
      have HRz := Lib.hid (RowR.set3 (b := w.heap.size + 1) HRw.out (by omega) (.int .i64 c) (.int .i64 nl) (.slice ra m5 rc))
      go_wp2_with fail
      exact bodyPost_ret (v := .tuple #[diskVal c nl (.slice ra m5 rc), .int .i64 0]) (by simp [results, Tryd.results73, go_sem, r0, r1, r2]) rfl ⟨⟨_, _, by rw [HE.out]; first | done | rfl, by rw [HE.out]; exact (by rw [dropX_fil, hes]), HRz.out⟩, HB5.out.all3 (by omega) _ _ _⟩
  · generalize atE d s = E at *
    have HE := Lib.hid (HNo.out he)
    have hz1 : (E == 0) = false := beq_eq_false_iff_ne.2 he
    have hz2 : (E != 0) = true := by rw [bne_iff_ne]; exact he
    obtain ⟨c, lf, fl⟩ := d
    dsimp only [diskVal] at *
    generalize fl.length = n at *
    have HB0 := Lib.hid (show Below w.heap.size w ((w.alloc (.cells #[.int .i64 c, .int .i64 lf, .slice a n cap] 24)).alloc (.cells #[.int .i64 0, .int .i64 0, .slice none 0 0] 24)) from ((Below.refl _ _).alloc (Nat.le_refl _) _).alloc (by simp) _)
    have X := Lib.hid (show BoxD ((w.alloc (.cells #[.int .i64 c, .int .i64 lf, .slice a n cap] 24)).alloc (.cells #[.int .i64 0, .int .i64 0, .slice none 0 0] 24)) w.heap.size c lf (.slice a n cap) from ⟨by simp, by simp, by simp, fun i => by simp⟩)
    have R := Lib.hid (show BoxD ((w.alloc (.cells #[.int .i64 c, .int .i64 lf, .slice a n cap] 24)).alloc (.cells #[.int .i64 0, .int .i64 0, .slice none 0 0] 24)) (w.heap.size + 1) 0 0 (.slice none 0 0) from ⟨by simp, by simp, by simp, fun i => by simp⟩)
    have hB0 : w.heap.size + 2 ≤ ((w.alloc (.cells #[.int .i64 c, .int .i64 lf, .slice a n cap] 24)).alloc (.cells #[.int .i64 0, .int .i64 0, .slice none 0 0] 24)).heap.size := by simp
    go_enter Tryd.func73, Tryd.ntmps73
    go_upto_region 1 with fail
    generalize (w.alloc (.cells #[.int .i64 c, .int .i64 lf, .slice a n cap] 24)).alloc (.cells #[.int .i64 0, .int .i64 0, .slice none 0 0] 24) = W0 at *
    have x0 := X.out.c0
    have x1 := X.out.c1
    have x2 := X.out.c2
    go_wp2_with fail
    refine (HA.out W0 HB0.out).mono ?_
    rintro e w1 ⟨rfl, hb1⟩
    replace X := Lib.hid (X.out.below hb1)
    replace R := Lib.hid (R.out.below hb1)
    have HB1 := Lib.hid (bstep HB0.out hb1)
    have hB1 := Nat.le_trans hB0 hb1.size
    clear HB0 hB0 hb1 x0 x1 x2
    have x0 := X.out.c0
    have x1 := X.out.c1
    have x2 := X.out.c2
    have r0 := R.out.c0
    have r1 := R.out.c1
    have r2 := R.out.c2
    have rf := R.out.f
    go_wp2_with fail
    exact bodyPost_ret (v := .tuple #[diskVal 0 0 nilS, .int .i64 E]) (by simp [results, Tryd.results73, go_sem, r0, r1, r2]) rfl ⟨⟨_, [], by rw [HE.out]; first | done | rfl, by rw [HE.out]; rfl, RowR.nil _ _ _⟩, HB1.out.all3 (by omega) _ _ _⟩

end Go.Proofs.YtkabcpmnbjllcaaDoor

namespace Go.Proofs.YtkabcpmnbjllcaaDoor
open Go.RowKit

theorem rename_bad {d : Dk} {s t : List UInt8} (h : nameB t = false) : renameD d s t = (dk0, 1) := by unfold renameD; rw [if_pos (by simp [h])]
theorem rename_no {d : Dk} {s t : List UInt8} (h : nameB t = true) (h1 : atE d s ≠ 0) : renameD d s t = (dk0, atE d s) := by unfold renameD; rw [if_neg (by simp [h]), if_pos h1]
theorem rename_go {d : Dk} {s t : List UInt8} (h : nameB t = true) (h1 : atE d s = 0) : renameD d s t = (⟨d.cap, nextL d.left, addN (dropN d.files (lowN d.files s)) ⟨t, (atN d.files (lowN d.files s)).base, (atN d.files (lowN d.files s)).pend⟩⟩, 0) := by unfold renameD; rw [if_neg (by simp [h]), if_neg (by simpa using h1)]
set_option maxRecDepth 100000 in
set_option maxHeartbeats 3200000 in
theorem rrename_bad (d : Dk) (s t : List UInt8) (fv : Value) (xs : List FX) (w : World) (hr : RdS 3 filC w fv (feX xs)) (ht : nameB t = false) (hts : t.length ≤ 9223372036854775807) :
    Calls Tryd.prog 72 #[diskVal d.cap d.left fv, .string (strB s), .string (strB t)] w (RefOp w xs (renameD d s t)) := by
  obtain ⟨a, cap, rfl, h1, h2, _⟩ := hr.shape (by decide) fe0
  have HVn := Lib.hid (show ∀ W, Calls Tryd.prog 24 #[.string (strB t)] W fun e w' => e = .returned (.bool false) ∧ W = w' from fun W => by
    have h := rvname_any (strB t) W (by rw [strB_size]; exact hts)
    rw [show (strB t).data.toList = t from rfl, ht] at h
    exact h)
  have HE := Lib.hid (rename_bad (d := d) (s := s) ht)
  clear hr hts
  obtain ⟨c, lf, fl⟩ := d
  dsimp only [diskVal] at *
  generalize renameD ⟨c, lf, fl⟩ s t = RS at *
  generalize strB s = sv at *
  generalize strB t = tv at *
  generalize (feX xs).length = n at *
  have HB0 := Lib.hid (show Below w.heap.size w ((w.alloc (.cells #[.int .i64 c, .int .i64 lf, .slice a n cap] 24)).alloc (.cells #[.int .i64 0, .int .i64 0, .slice none 0 0] 24)) from ((Below.refl _ _).alloc (Nat.le_refl _) _).alloc (by simp) _)
  have X := Lib.hid (show BoxD ((w.alloc (.cells #[.int .i64 c, .int .i64 lf, .slice a n cap] 24)).alloc (.cells #[.int .i64 0, .int .i64 0, .slice none 0 0] 24)) w.heap.size c lf (.slice a n cap) from ⟨by simp, by simp, by simp, fun i => by simp⟩)
  have R := Lib.hid (show BoxD ((w.alloc (.cells #[.int .i64 c, .int .i64 lf, .slice a n cap] 24)).alloc (.cells #[.int .i64 0, .int .i64 0, .slice none 0 0] 24)) (w.heap.size + 1) 0 0 (.slice none 0 0) from ⟨by simp, by simp, by simp, fun i => by simp⟩)
  have hB0 : w.heap.size + 2 ≤ ((w.alloc (.cells #[.int .i64 c, .int .i64 lf, .slice a n cap] 24)).alloc (.cells #[.int .i64 0, .int .i64 0, .slice none 0 0] 24)).heap.size := by simp
  go_enter Tryd.func72, Tryd.ntmps72
  go_upto_region 1 with fail
  generalize (w.alloc (.cells #[.int .i64 c, .int .i64 lf, .slice a n cap] 24)).alloc (.cells #[.int .i64 0, .int .i64 0, .slice none 0 0] 24) = W0 at *
  have x0 := X.out.c0
  have x1 := X.out.c1
  have x2 := X.out.c2
  go_wp2_with fail
  refine (HVn.out W0).mono ?_
  rintro e w9 ⟨rfl, rfl⟩
  have r0 := R.out.c0
  have r1 := R.out.c1
  have r2 := R.out.c2
  have rf := R.out.f
  go_wp2_with fail
  exact bodyPost_ret (v := .tuple #[diskVal 0 0 nilS, .int .i64 1]) (by simp [results, Tryd.results72, go_sem, r0, r1, r2]) rfl ⟨⟨_, [], by rw [HE.out]; first | done | rfl, by rw [HE.out]; rfl, RowR.nil _ _ _⟩, HB0.out.all3 (by omega) _ _ _⟩
set_option maxRecDepth 100000 in
set_option maxHeartbeats 3200000 in
theorem rrename_yes (d : Dk) (s : List UInt8) (t : List UInt8) (fv : Value) (xs : List FX) (w : World) (hr : RdS 3 filC w fv (feX xs)) (hx : PartsX w xs) (hes : filX xs = d.files) (hL : LiteD d) (hs : s.length ≤ 9223372036854775807) (ht : nameB t = true) (hts : t.length ≤ 9223372036854775807) :
    Calls Tryd.prog 72 #[diskVal d.cap d.left fv, .string (strB s), .string (strB t)] w (RefOp w xs (renameD d s t)) := by
  have h := rdFE_x hr hx
  have hF : RdF w fv d.files := ⟨feX xs, by rw [feX_fst, hes], h⟩
  obtain ⟨a, cap, rfl, h1, h2, _⟩ := hF.shape
  have Hxl := Lib.hid (show d.files.length = xs.length by rw [← hes]; exact List.length_map ..)
  have HA := Lib.hid (fun W (hW : Below w.heap.size w W) => rat_any d _ s W (hF.below hW) hL hs)
  have HOk := Lib.hid (fun e => atE_ok (d := d) (s := s) e)
  have HI := Lib.hid (show atI d s = if atE d s = 0 then (lowN d.files s : Int) else -1 from rfl)
  have HX := Lib.hid (fun i (hi : i < d.files.length) => atX hes hi)
  have HRw := Lib.hid (show ∀ W, Below w.heap.size w W → RdS 3 filC W _ (feX xs) from fun W hW => RdS.below hr hW)
  have HP := Lib.hid hx
  have HNx := Lib.hid (fun W (hW : Below w.heap.size w W) => by
    have hq := rnext_any d.cap d.left _ (feX xs) W (h.below hW) (by rw [feX_len, ← Hxl.out]; have := hL.len; omega) hL.left
    rw [feX_len, ← Hxl.out] at hq
    exact hq)
  have HSet := Lib.hid (fun (i : Nat) (q : FX) => show filX (xs.set i q) = d.files.set i q.1.1 by rw [← hes]; unfold filX; rw [List.map_set])
  have HSfe := Lib.hid (fun (i : Nat) (q : FX) => show feX (xs.set i q) = (feX xs).set i q.1 by unfold feX; rw [List.map_set])
  have HSmem := Lib.hid (fun (i : Nat) (q p : FX) (hp : p ∈ xs.set i q) => show p ∈ xs ∨ p = q from List.mem_or_eq_of_mem_set hp)
  have Hfl := Lib.hid (show (feX xs).length = d.files.length by rw [feX_len, ← Hxl.out])
  have Hn := Lib.hid hL.len
  have Hone := Lib.hid (fil_one h.base h.pend)
  have HCt := Lib.hid (fun i (hi : i < d.files.length) W u p (hu : RdB W u (atN d.files i).base) (hp : RdW W p (atN d.files i).pend) => show Calls Tryd.prog 38 #[filVal (atN d.files i).name u p] W fun e w' => ∃ v', e = .returned v' ∧ OwnU w' W.heap.size v' (contF (atN d.files i)) ∧ Below W.heap.size W w' from rcontent_any (atN d.files i).name _ _ u p W hu hp (hL.fil _ (atN_mem hi)))
  have HLc := Lib.hid (fun (hv : VldD d) i (hi : i < d.files.length) => And.intro (lenF_cont (sized_of_vld hv hi)) (lenF_bounds (sized_of_vld hv hi)))
  have HVn := Lib.hid (show ∀ W, Calls Tryd.prog 24 #[.string (strB t)] W fun e w' => e = .returned (.bool true) ∧ W = w' from fun W => by
    have h := rvname_any (strB t) W (by rw [strB_size]; exact hts)
    rw [show (strB t).data.toList = t from rfl, ht] at h
    exact h)
  have HNo := Lib.hid (fun e => rename_no (d := d) (s := s) ht e)
  have HGo := Lib.hid (fun e => rename_go (d := d) (s := s) ht e)
  clear h hF hr hx hs
  clear ht hts
  generalize renameD d s t = RS at *
  generalize htv : strB t = tv at *
  have Htv := Lib.hid htv
  clear htv
  generalize atI d s = ai at *
  generalize strB s = sv at *
  by_cases he : atE d s = 0
  · obtain ⟨hv, _, _, hlo, _⟩ := HOk.out he
    obtain ⟨hqm, hqf⟩ := HX.out _ hlo
    have hai : ai = (lowN d.files s : Int) := by rw [HI.out, if_pos he]
    subst hai
    have HLc2 := Lib.hid (HLc.out hv _ hlo)
    have HCt2 := Lib.hid (HCt.out _ hlo)
    have HE := Lib.hid (HGo.out he)
    have HMem := Lib.hid hqm
    clear HGo HNo
    rw [← hqf] at HE
    rw [← hqf] at HCt2 HLc2
    clear HCt HLc HOk HI
    generalize lowN d.files s = lo at *
    rw [he] at HA
    have HPq := Lib.hid (HP.out _ hqm)
    have HAg := Lib.hid (fun W a n cap (h : RdS 3 filC W (.slice a n cap) (feX xs)) (hn : n = d.files.length) => RdFE.at2 h (hn.trans Hxl.out) (show lo < n by rw [hn]; exact hlo))
    have HAt := Lib.hid (fun W (hW : Below w.heap.size w W) => RdFE.at2 (HRw.out W hW) Hxl.out hlo)
    clear hqm he hv
    generalize xs.getD lo fx0 = q at *
    obtain ⟨⟨f, bv, pv⟩, wes⟩ := q
    dsimp only at hqf
    subst hqf
    generalize atN d.files lo = f at *
    obtain ⟨hb1, hp1, hp2⟩ := HPq.out
    dsimp only at *
    obtain ⟨ba, bc, rfl, _⟩ := hb1.shape0
    obtain ⟨pa, pc, rfl, _⟩ := hp1.shape
    clear hb1 hp1 hp2
    have HPr := Lib.hid (fun W (hW : Below w.heap.size w W) => (HPq.out.below hW).rd)
    dsimp only at HPr
    try generalize lenF f = LF at *
    generalize nextL d.left = nl at *
    obtain ⟨c, lf, fl⟩ := d
    dsimp only [diskVal] at *
    generalize wes.length = wl at *
    generalize f.base.length = bl at *
    generalize fl.length = n at *
    obtain ⟨b0, off, rfl, _⟩ := HAt.out w (Below.refl _ _)
    have HAt2 := Lib.hid (show ∀ W, Below w.heap.size w W → W.cell? ⟨b0, off + lo * 3, none⟩ = some (.string (strB f.name)) ∧ W.cell? ⟨b0, off + lo * 3 + 1, none⟩ = some (.slice ba bl bc) ∧ W.cell? ⟨b0, off + lo * 3 + 2, none⟩ = some (.slice pa wl pc) from fun W hW => by
      obtain ⟨b', off', e, k⟩ := HAt.out W hW
      injection e with e
      injection e with e1 e2
      subst e1 e2
      exact k)
    clear HAt
    dsimp only [filVal] at HCt2
    generalize strB f.name = nm at *
    have i1 : (lo : Int) < (n : Int) := by omega
    have HB0 := Lib.hid (show Below w.heap.size w ((w.alloc (.cells #[.int .i64 c, .int .i64 lf, .slice (some ⟨b0, off, none⟩) n cap] 24)).alloc (.cells #[.int .i64 0, .int .i64 0, .slice none 0 0] 24)) from ((Below.refl _ _).alloc (Nat.le_refl _) _).alloc (by simp) _)
    have X := Lib.hid (show BoxD ((w.alloc (.cells #[.int .i64 c, .int .i64 lf, .slice (some ⟨b0, off, none⟩) n cap] 24)).alloc (.cells #[.int .i64 0, .int .i64 0, .slice none 0 0] 24)) w.heap.size c lf (.slice (some ⟨b0, off, none⟩) n cap) from ⟨by simp, by simp, by simp, fun i => by simp⟩)
    have R := Lib.hid (show BoxD ((w.alloc (.cells #[.int .i64 c, .int .i64 lf, .slice (some ⟨b0, off, none⟩) n cap] 24)).alloc (.cells #[.int .i64 0, .int .i64 0, .slice none 0 0] 24)) (w.heap.size + 1) 0 0 (.slice none 0 0) from ⟨by simp, by simp, by simp, fun i => by simp⟩)
    have hB0 : w.heap.size + 2 ≤ ((w.alloc (.cells #[.int .i64 c, .int .i64 lf, .slice (some ⟨b0, off, none⟩) n cap] 24)).alloc (.cells #[.int .i64 0, .int .i64 0, .slice none 0 0] 24)).heap.size := by simp
    go_enter Tryd.func72, Tryd.ntmps72
    go_upto_region 1 with fail
    generalize (w.alloc (.cells #[.int .i64 c, .int .i64 lf, .slice (some ⟨b0, off, none⟩) n cap] 24)).alloc (.cells #[.int .i64 0, .int .i64 0, .slice none 0 0] 24) = W0 at *
    have x0 := X.out.c0
    have x1 := X.out.c1
    have x2 := X.out.c2
    go_wp2_with fail
    refine (HVn.out W0).mono ?_
    rintro e w9 ⟨rfl, rfl⟩
    go_wp2_with fail
    refine (HA.out W0 HB0.out).mono ?_
    rintro e w1 ⟨rfl, hb1⟩
    replace X := Lib.hid (X.out.below hb1)
    replace R := Lib.hid (R.out.below hb1)
    have HB1 := Lib.hid (bstep HB0.out hb1)
    have hB1 := Nat.le_trans hB0 hb1.size
    clear HB0 hB0 hb1 x0 x1 x2
    have x0 := X.out.c0
    have x1 := X.out.c1
    have x2 := X.out.c2
    obtain ⟨c0, c1, c2⟩ := HAt2.out _ HB1.out
    have hA := (Below.refl w1.heap.size w1).alloc (Nat.le_refl _) (.cells #[.string tv, .slice ba bl bc, .slice pa wl pc] 73)
    have F := Lib.hid (BoxF.new w1 tv (.slice ba bl bc) (.slice pa wl pc) 73)
    have Fz := Lib.hid (BoxF.new w1 nm (.slice ba bl bc) (.slice pa wl pc) 73)
    replace X := Lib.hid (X.out.below hA)
    replace R := Lib.hid (R.out.below hA)
    have HBq := Lib.hid (bstep HB1.out hA)
    have hBq : w1.heap.size + 1 ≤ (w1.alloc (.cells #[.string tv, .slice ba bl bc, .slice pa wl pc] 73)).heap.size := by simp
    clear hA
    go_upto_region 7 with fail
    clear c0 c1 c2 x0 x1 x2
    have f0 := Fz.out.c0
    have ff := Fz.out.f
    go_upto_region 8 with fail
    clear f0 ff Fz
    generalize w1.alloc (.cells #[.string tv, .slice ba bl bc, .slice pa wl pc] 73) = wq at *
    generalize w1.heap.size = FB at *
    have x0 := X.out.c0
    have x1 := X.out.c1
    have x2 := X.out.c2
    go_wp2_with fail
    refine (HNx.out wq HBq.out).mono ?_
    rintro e w2 ⟨v2, rfl, ho2, hb2⟩
    obtain ⟨na, nc, e2, hnc1, hnc2, _⟩ := own_form ho2
    subst e2
    have HRow := Lib.hid (own_all3 ho2 (show w.heap.size < wq.heap.size by omega) (.int .i64 c) (.int .i64 nl) (.slice na n nc))
    have X2 := Lib.hid (X.out.below hb2)
    have X3 := Lib.hid (X2.out.all c nl (.slice na n nc))
    have R3 := Lib.hid ((((R.out.below hb2).set_ne (p := ⟨w.heap.size, 0, none⟩) (by dsimp only; omega) (.int .i64 c)).set_ne (p := ⟨w.heap.size, 1, none⟩) (by dsimp only; omega) (.int .i64 nl)).set_ne (p := ⟨w.heap.size, 2, none⟩) (by dsimp only; omega) (.slice na n nc))
    have F3 := Lib.hid ((((F.out.below hb2).set_ne (p := ⟨w.heap.size, 0, none⟩) (by dsimp only; omega) (.int .i64 c)).set_ne (p := ⟨w.heap.size, 1, none⟩) (by dsimp only; omega) (.int .i64 nl)).set_ne (p := ⟨w.heap.size, 2, none⟩) (by dsimp only; omega) (.slice na n nc))
    have HB3 := Lib.hid ((bstep HBq.out hb2).all3 (b := w.heap.size) (Nat.le_refl _) (.int .i64 c) (.int .i64 nl) (.slice na n nc))
    have hw3 : wq.heap.size ≤ (((w2.setCell ⟨w.heap.size, 0, none⟩ (.int .i64 c)).setCell ⟨w.heap.size, 1, none⟩ (.int .i64 nl)).setCell ⟨w.heap.size, 2, none⟩ (.slice na n nc)).heap.size := by simp; exact hb2.size
    have hw3b : w2.heap.size = (((w2.setCell ⟨w.heap.size, 0, none⟩ (.int .i64 c)).setCell ⟨w.heap.size, 1, none⟩ (.int .i64 nl)).setCell ⟨w.heap.size, 2, none⟩ (.slice na n nc)).heap.size := by simp
    clear ho2 hb2 x0 x1 x2 X R HNx
    have x0 := X2.out.c0
    have x1 := X2.out.c1
    have x2 := X2.out.c2
    have xf := X2.out.f
    go_upto_region 9 with fail
    clear x0 x1 x2 xf X2
    generalize (((w2.setCell ⟨w.heap.size, 0, none⟩ (.int .i64 c)).setCell ⟨w.heap.size, 1, none⟩ (.int .i64 nl)).setCell ⟨w.heap.size, 2, none⟩ (.slice na n nc)) = w3 at *
    obtain ⟨g, rfl, hgB, hgl⟩ := own_some HRow.out (by omega)
    have HG := Lib.hid (show ∀ W, Below w3.heap.size w3 W → W.cell? ⟨g, lo * 3, none⟩ = some (.string nm) ∧ W.cell? ⟨g, lo * 3 + 1, none⟩ = some (.slice ba bl bc) ∧ W.cell? ⟨g, lo * 3 + 2, none⟩ = some (.slice pa wl pc) from fun W hW => by
      obtain ⟨b', off', e, k⟩ := HAg.out W _ _ _ (RdS.below (own_rds (fun _ _ => rfl) (by decide) HRow.out) hW) rfl
      injection e with e
      injection e with e1 e2
      subst e1 e2
      simp only [Nat.zero_add] at k
      exact k)
    clear HAg
    obtain ⟨sa, sc, gfrom, hsrc, _⟩ := slice_from (P := Tryd.prog) elemFr (own_rd HRow.out) (lo + 1) (show lo + 1 ≤ n by omega)
    have HSrc := Lib.hid hsrc
    have HTk := Lib.hid (own_rd (own_take HRow.out lo (by omega)))
    clear hsrc
    simp only [Int.natCast_add] at gfrom
    rw [show ((1 : Nat) : Int) = 1 from rfl] at gfrom
    have gto := slice_to (P := Tryd.prog) elemFr (a := some ⟨g, 0, none⟩) (n := n) (cap := nc) (fun x hx => ⟨g, 0, by injection hx with hx; exact hx.symm⟩) lo (by omega)
    have Hone1 := Lib.hid (fun u (hu : u ∈ ((feX xs).flatMap filC).take (lo * 3)) => Hone.out u (List.mem_of_mem_take hu))
    have Hone2 := Lib.hid (fun u (hu : u ∈ ((feX xs).flatMap filC).drop ((lo + 1) * 3)) => Hone.out u (List.mem_of_mem_drop hu))
    have hn9 := Hn.out
    refine wp_region_inv 11 (fun L f W => CpS 73 5 w3.heap.size w3 lo (((feX xs).flatMap filC).take (lo * 3)) [(1, .pointer (some ⟨w.heap.size, 2, none⟩)), (2, .slice (some ⟨g, 0, none⟩) n nc), (3, .int .i64 (lo : Int)), (4, .slice (some ⟨g, 0, none⟩) lo nc), (6, .pointer (some ⟨w.heap.size, 2, none⟩)), (7, .slice (some ⟨g, 0, none⟩) n nc), (8, .int .i64 (lo : Int)), (9, .int .i64 ((lo : Int) + 1)), (10, .slice sa (n - (lo + 1)) sc)] L f W) 50 (by kernel_rfl) (by kernel_rfl) (by rfl) (by kernel_rfl) (fun f => by simp [frm, dstOf, Act.put]; exact rfl) (fun f => CpS.start rfl f) ?_ ?_
    · refine ⟨?_, ?_, ?_, ?_, ?_, ?_, ?_, ?_, ?_, ?_, ?_, trivial⟩
      · intro L f' w4 h0 hd hI
        have HI1 := Lib.hid hI
        clear hI hd
        dsimp only
        go_wp2_with fail
        exact ⟨rfl, (fun h => by cases h), fun t ht => by injection ht with ht; subst ht; exact HI1.out.made (by decide) h0 (by simp)⟩
      · intro L f' w4 h0 hd hI
        have HI1 := Lib.hid hI
        clear hI hd
        dsimp only
        go_wp2_with fail
        exact ⟨rfl, (fun h => by cases h), fun t ht => by injection ht with ht; subst ht; exact HI1.out.pure (v := .pointer (some ⟨w.heap.size, 2, none⟩)) (by decide) (by decide) (by simp)⟩
      · intro L f' w4 h0 hd hI
        have HI1 := Lib.hid hI
        have d1 : f' 1 = .pointer (some ⟨w.heap.size, 2, none⟩) := hI.pur (1, .pointer (some ⟨w.heap.size, 2, none⟩)) (by simp) (hd 1 (by kernel_rfl))
        have z2 := (X3.out.below hI.hb).c2
        clear hI hd
        dsimp only
        rw [d1]
        go_wp2_with fail
        exact ⟨rfl, (fun h => by cases h), fun t ht => by injection ht with ht; subst ht; exact HI1.out.pure (v := .slice (some ⟨g, 0, none⟩) n nc) (by decide) (by decide) (by simp)⟩
      · intro L f' w4 h0 hd hI
        have HI1 := Lib.hid hI
        clear hI hd
        dsimp only
        go_wp2_with fail
        exact ⟨rfl, (fun h => by cases h), fun t ht => by injection ht with ht; subst ht; exact HI1.out.pure (v := .int .i64 (lo : Int)) (by decide) (by decide) (by simp)⟩
      · intro L f' w4 h0 hd hI
        have HI1 := Lib.hid hI
        have d2 : f' 2 = .slice (some ⟨g, 0, none⟩) n nc := hI.pur (2, .slice (some ⟨g, 0, none⟩) n nc) (by simp) (hd 2 (by kernel_rfl))
        have d3 : f' 3 = .int .i64 (lo : Int) := hI.pur (3, .int .i64 (lo : Int)) (by simp) (hd 3 (by kernel_rfl))
        clear hI hd
        dsimp only
        rw [d2]
        rw [d3]
        go_wp2_with fail
        exact ⟨rfl, (fun h => by cases h), fun t ht => by injection ht with ht; subst ht; exact HI1.out.pure (v := .slice (some ⟨g, 0, none⟩) lo nc) (by decide) (by decide) (by simp)⟩
      · intro L f' w4 h0 hd hI
        have HI1 := Lib.hid hI
        have hL0 := hd 0 (by kernel_rfl)
        have d4 : f' 4 = .slice (some ⟨g, 0, none⟩) lo nc := hI.pur (4, .slice (some ⟨g, 0, none⟩) lo nc) (by simp) (hd 4 (by kernel_rfl))
        have hown := hI.a0 hL0 h0
        have hsz := hI.sz
        have hrd := HTk.out.below hI.hb
        clear hI hd
        dsimp only
        rw [d4]
        refine wpList_app rfl (.tmp 34) (.tmp 38) 22 rfl elemFr w3.heap.size rfl hown rfl hrd Hone1.out (by unfold maxLen; omega) (by omega) hsz ?_
        intro v' w8 hown' hgr' _
        rw [Nat.zero_add, List.nil_append] at hown'
        have HQ := Lib.hid (HI1.out.copy (by decide) hL0 h0 (by simp) hown' hgr')
        exact ⟨rfl, (fun h => by cases h), fun t ht => by injection ht with ht; subst ht; exact HQ.out⟩
      · intro L f' w4 h0 hd hI
        have HI1 := Lib.hid hI
        clear hI hd
        dsimp only
        go_wp2_with fail
        exact ⟨rfl, (fun h => by cases h), fun t ht => by injection ht with ht; subst ht; exact HI1.out.pure (v := .pointer (some ⟨w.heap.size, 2, none⟩)) (by decide) (by decide) (by simp)⟩
      · intro L f' w4 h0 hd hI
        have HI1 := Lib.hid hI
        have d6 : f' 6 = .pointer (some ⟨w.heap.size, 2, none⟩) := hI.pur (6, .pointer (some ⟨w.heap.size, 2, none⟩)) (by simp) (hd 6 (by kernel_rfl))
        have z2 := (X3.out.below hI.hb).c2
        clear hI hd
        dsimp only
        rw [d6]
        go_wp2_with fail
        exact ⟨rfl, (fun h => by cases h), fun t ht => by injection ht with ht; subst ht; exact HI1.out.pure (v := .slice (some ⟨g, 0, none⟩) n nc) (by decide) (by decide) (by simp)⟩
      · intro L f' w4 h0 hd hI
        have HI1 := Lib.hid hI
        clear hI hd
        dsimp only
        go_wp2_with fail
        exact ⟨rfl, (fun h => by cases h), fun t ht => by injection ht with ht; subst ht; exact HI1.out.pure (v := .int .i64 (lo : Int)) (by decide) (by decide) (by simp)⟩
      · intro L f' w4 h0 hd hI
        have HI1 := Lib.hid hI
        have d8 : f' 8 = .int .i64 (lo : Int) := hI.pur (8, .int .i64 (lo : Int)) (by simp) (hd 8 (by kernel_rfl))
        clear hI hd
        dsimp only
        rw [d8]
        go_wp2_with fail
        exact ⟨rfl, (fun h => by cases h), fun t ht => by injection ht with ht; subst ht; exact HI1.out.pure (v := .int .i64 ((lo : Int) + 1)) (by decide) (by decide) (by simp)⟩
      · intro L f' w4 h0 hd hI
        have HI1 := Lib.hid hI
        have d7 : f' 7 = .slice (some ⟨g, 0, none⟩) n nc := hI.pur (7, .slice (some ⟨g, 0, none⟩) n nc) (by simp) (hd 7 (by kernel_rfl))
        have d9 : f' 9 = .int .i64 ((lo : Int) + 1) := hI.pur (9, .int .i64 ((lo : Int) + 1)) (by simp) (hd 9 (by kernel_rfl))
        clear hI hd
        dsimp only
        rw [d7]
        rw [d9]
        go_wp2_with fail
        exact ⟨rfl, (fun h => by cases h), fun t ht => by injection ht with ht; subst ht; exact HI1.out.pure (v := .slice sa (n - (lo + 1)) sc) (by decide) (by decide) (by simp)⟩
    · intro L f' w4 hA hI
      obtain ⟨hown, _⟩ := hI.aa (hA 5 (by decide))
      have d10 : f' 10 = .slice sa (n - (lo + 1)) sc := hI.pur (10, .slice sa (n - (lo + 1)) sc) (by simp) (hA 10 (by decide))
      have Hb4 := Lib.hid hI.hb
      have hsz := hI.sz
      have hrd := HSrc.out.below hI.hb
      clear hI hA
      rw [d10]
      clear d10
      refine wpList_app rfl (.tmp 39) (.tmp 44) 22 rfl elemFr w3.heap.size rfl hown rfl hrd Hone2.out (by unfold maxLen; omega) (by omega) hsz ?_
      intro v5 w5 hown5 hgr5 _
      have hb5 := own_below Hb4.out hown hsz hgr5
      rw [← dropX_flat] at hown5
      obtain ⟨ra, rc, e5, _⟩ := own_form hown5
      subst e5
      generalize hm5 : lo + (n - (lo + 1)) = m5 at *
      have Hm5 := Lib.hid hm5
      have HRow5 := Lib.hid (own_set_ne (p := ⟨w.heap.size, 2, none⟩) hown5 (own_above hown5 (show w.heap.size < w3.heap.size by omega)) (.slice ra m5 rc))
      have X5 := Lib.hid ((X3.out.below hb5).set2 (.slice ra m5 rc))
      have R := Lib.hid ((R3.out.below hb5).set_ne (p := ⟨w.heap.size, 2, none⟩) (by dsimp only; omega) (.slice ra m5 rc))
      have F5 := Lib.hid ((F3.out.below hb5).set_ne (p := ⟨w.heap.size, 2, none⟩) (by dsimp only; omega) (.slice ra m5 rc))
      have HB5 := Lib.hid ((bstep HB3.out hb5).setCell (p := ⟨w.heap.size, 2, none⟩) (Nat.le_refl _) (.slice ra m5 rc))
      have hw5 : w3.heap.size ≤ (w5.setCell ⟨w.heap.size, 2, none⟩ (.slice ra m5 rc)).heap.size := by simp; exact hb5.size
      have z2 := (X3.out.below hb5).c2
      have zf := (X3.out.below hb5).f
      clear hown hrd hown5 hgr5 Hb4 hsz hb5 hm5 X3 R3 HB3 HRow HSrc HTk Hone1 Hone2 gto gfrom
      go_upto_region 10 with fail
      clear z2 zf
      generalize w5.setCell ⟨w.heap.size, 2, none⟩ (.slice ra m5 rc) = w6 at *
      have HPy := Lib.hid (show PartsX w6 (dropX xs lo) from fun q hq => (HP.out.below HB5.out) q (dropX_mem hq))
      have HR6 := Lib.hid (show RdFE w6 (.slice ra m5 rc) (feX (dropX xs lo)) from rdFE_x (own_rds (fun _ _ => rfl) (by decide) (show w6.ownsRow w3.heap.size 73 3 (.slice ra m5 rc) (feX (dropX xs lo)).length ((feX (dropX xs lo)).flatMap filC) from by rw [dropX_len Hfl.out (by omega), Hm5.out]; exact HRow5.out)) HPy.out)
      have hpr := HPr.out w6 HB5.out
      have HAd := Lib.hid (radded_any c nl _ (feX (dropX xs lo)) (⟨t, f.base, f.pend⟩, .slice ba bl bc, .slice pa wl pc) w6 HR6.out (by rw [dropX_len Hfl.out (by omega)]; omega) hpr.1 hpr.2)
      dsimp only [filVal, diskVal] at HAd
      rw [← addX_fe (dropX xs lo) ((⟨t, f.base, f.pend⟩, .slice ba bl bc, .slice pa wl pc), wes), Htv.out] at HAd
      have HAF := Lib.hid (show filX (addX (dropX xs lo) ((⟨t, f.base, f.pend⟩, .slice ba bl bc, .slice pa wl pc), wes)) = addN (dropN fl lo) ⟨t, f.base, f.pend⟩ by rw [addX_fil, dropX_fil, hes])
      have HAM := Lib.hid (fun q hq => addX_mem (xs := dropX xs lo) (P := ((⟨t, f.base, f.pend⟩, .slice ba bl bc, .slice pa wl pc), wes)) (q := q) hq)
      generalize addX (dropX xs lo) ((⟨t, f.base, f.pend⟩, .slice ba bl bc, .slice pa wl pc), wes) = AX at *
      clear hpr HRow5 HR6 HPy
      have x0 := X5.out.c0
      have x1 := X5.out.c1
      have x2 := X5.out.c2
      have f0 := F5.out.c0
      have f1 := F5.out.c1
      have f2 := F5.out.c2
      go_wp2_with fail
      refine HAd.out.mono ?_
      rintro e w7 ⟨v7, rfl, ho7, hb7⟩
      have R := Lib.hid (R.out.below hb7)
      have HB7 := Lib.hid (bstep HB5.out hb7)
      obtain ⟨ya, yc, e7, _⟩ := own_form ho7
      subst e7
      have HRw := Lib.hid (show RowB w xs w7 w6.heap.size _ AX from ⟨ho7, by omega, fun W' _ hp q hq => by
        rcases HAM.out q hq with h | h
        · exact hp q (dropX_mem h)
        · rw [h]
          have hpo := hp _ HMem.out
          exact ⟨hpo.1, hpo.2.1, hpo.2.2⟩⟩)
      have hR7 := R.out.lt
      have hs7 : w3.heap.size ≤ w6.heap.size := hw5
      clear ho7 hb7 x0 x1 x2 f0 f1 f2
      generalize (feX AX).length = al at *
      have r0 := R.out.c0
      have r1 := R.out.c1
      have r2 := R.out.c2
      have rf := R.out.f
      have HRz := Lib.hid (RowR.set3 (b := w.heap.size + 1) HRw.out (by omega) (.int .i64 c) (.int .i64 nl) (.slice ya al yc))
      go_wp2_with fail
      exact bodyPost_ret (v := .tuple #[diskVal c nl (.slice ya al yc), .int .i64 0]) (by simp [results, Tryd.results72, go_sem, r0, r1, r2]) rfl ⟨⟨_, _, by rw [HE.out]; first | done | rfl, by rw [HE.out]; exact HAF.out, HRz.out⟩, HB7.out.all3 (by omega) _ _ _⟩
  · generalize atE d s = E at *
    have HE := Lib.hid (HNo.out he)
    have hz1 : (E == 0) = false := beq_eq_false_iff_ne.2 he
    have hz2 : (E != 0) = true := by rw [bne_iff_ne]; exact he
    obtain ⟨c, lf, fl⟩ := d
    dsimp only [diskVal] at *
    generalize fl.length = n at *
    have HB0 := Lib.hid (show Below w.heap.size w ((w.alloc (.cells #[.int .i64 c, .int .i64 lf, .slice a n cap] 24)).alloc (.cells #[.int .i64 0, .int .i64 0, .slice none 0 0] 24)) from ((Below.refl _ _).alloc (Nat.le_refl _) _).alloc (by simp) _)
    have X := Lib.hid (show BoxD ((w.alloc (.cells #[.int .i64 c, .int .i64 lf, .slice a n cap] 24)).alloc (.cells #[.int .i64 0, .int .i64 0, .slice none 0 0] 24)) w.heap.size c lf (.slice a n cap) from ⟨by simp, by simp, by simp, fun i => by simp⟩)
    have R := Lib.hid (show BoxD ((w.alloc (.cells #[.int .i64 c, .int .i64 lf, .slice a n cap] 24)).alloc (.cells #[.int .i64 0, .int .i64 0, .slice none 0 0] 24)) (w.heap.size + 1) 0 0 (.slice none 0 0) from ⟨by simp, by simp, by simp, fun i => by simp⟩)
    have hB0 : w.heap.size + 2 ≤ ((w.alloc (.cells #[.int .i64 c, .int .i64 lf, .slice a n cap] 24)).alloc (.cells #[.int .i64 0, .int .i64 0, .slice none 0 0] 24)).heap.size := by simp
    go_enter Tryd.func72, Tryd.ntmps72
    go_upto_region 1 with fail
    generalize (w.alloc (.cells #[.int .i64 c, .int .i64 lf, .slice a n cap] 24)).alloc (.cells #[.int .i64 0, .int .i64 0, .slice none 0 0] 24) = W0 at *
    have x0 := X.out.c0
    have x1 := X.out.c1
    have x2 := X.out.c2
    go_wp2_with fail
    refine (HVn.out W0).mono ?_
    rintro e w9 ⟨rfl, rfl⟩
    go_wp2_with fail
    refine (HA.out W0 HB0.out).mono ?_
    rintro e w1 ⟨rfl, hb1⟩
    replace X := Lib.hid (X.out.below hb1)
    replace R := Lib.hid (R.out.below hb1)
    have HB1 := Lib.hid (bstep HB0.out hb1)
    have hB1 := Nat.le_trans hB0 hb1.size
    clear HB0 hB0 hb1 x0 x1 x2
    have x0 := X.out.c0
    have x1 := X.out.c1
    have x2 := X.out.c2
    have r0 := R.out.c0
    have r1 := R.out.c1
    have r2 := R.out.c2
    have rf := R.out.f
    go_wp2_with fail
    exact bodyPost_ret (v := .tuple #[diskVal 0 0 nilS, .int .i64 E]) (by simp [results, Tryd.results72, go_sem, r0, r1, r2]) rfl ⟨⟨_, [], by rw [HE.out]; first | done | rfl, by rw [HE.out]; rfl, RowR.nil _ _ _⟩, HB1.out.all3 (by omega) _ _ _⟩

theorem rrename_any (d : Dk) (s t : List UInt8) (fv : Value) (xs : List FX) (w : World) (hr : RdS 3 filC w fv (feX xs)) (hx : PartsX w xs) (hes : filX xs = d.files) (hL : LiteD d) (hs : s.length ≤ 9223372036854775807) (hts : t.length ≤ 9223372036854775807) :
    Calls Tryd.prog 72 #[diskVal d.cap d.left fv, .string (strB s), .string (strB t)] w (RefOp w xs (renameD d s t)) := by
  cases ht : nameB t with
  | false => exact rrename_bad d s t fv xs w hr ht hts
  | true => exact rrename_yes d s t fv xs w hr hx hes hL hs ht hts

end Go.Proofs.YtkabcpmnbjllcaaDoor
