/- written of the reference: the walk. Printed by mkDri.py. -/
import Derived.Test.YtkabcpmnbjllcaaDoorDrh
namespace Go.Proofs.YtkabcpmnbjllcaaDoor
open Go.RowKit

theorem totC_totL : ∀ (l : List Fil) (n : Int), (∀ f ∈ l, sizedF f = true) → totC l n = totL l n
  | [], _, _ => rfl
  | f :: r, n, h => by
    show totC r (n + ((contF f).length : Int)) = totL r (n + lenF f)
    rw [← lenF_cont (h f (by simp))]
    exact totC_totL r _ fun g hg => h g (List.mem_cons_of_mem _ hg)
theorem fits_ok {w : Wr} {f : Fil} (h : FitsW w f) (hs : sizedF f = true) (hb : w.off + (w.data.length : Int) ≤ 1048576) : okW w = true ∧ grownW w (lenF f) ≤ 1048576 ∧ 0 ≤ grownW w (lenF f) := by
  have h1 := lenF_bounds hs
  obtain ⟨h2, h3, h4⟩ := h
  refine ⟨(okW_iff w).2 ⟨h2, by omega, h4⟩, ?_, ?_⟩
  · unfold grownW; split <;> omega
  · unfold grownW; split <;> omega
/-- One row has other parts. -/
def setX (xs : List FX) (i : Nat) (q : FX) : List FX := xs.set i q
theorem written_big {d : Dk} {i : Nat} {w : Wr} (h : 1048576 < w.off + (w.data.length : Int)) : writtenD d i w = (dk0, 9) := by unfold writtenD; dsimp only; rw [if_pos h]
theorem written_full {d : Dk} {i : Nat} {w : Wr} (h : ¬ 1048576 < w.off + (w.data.length : Int)) (h2 : 0 < d.cap ∧ 0 < grownW w (lenF (atN d.files i)) - lenF (atN d.files i) ∧ d.cap < totD d + (grownW w (lenF (atN d.files i)) - lenF (atN d.files i))) : writtenD d i w = (dk0, 9) := by
  unfold writtenD; dsimp only; rw [if_neg h, if_pos ⟨h2.1, by omega, h2.2.2⟩]
theorem written_ok {d : Dk} {i : Nat} {w : Wr} (h : ¬ 1048576 < w.off + (w.data.length : Int)) (h2 : ¬ (0 < d.cap ∧ 0 < grownW w (lenF (atN d.files i)) - lenF (atN d.files i) ∧ d.cap < totD d + (grownW w (lenF (atN d.files i)) - lenF (atN d.files i)))) :
    writtenD d i w = (⟨d.cap, nextL d.left, d.files.set i ⟨(atN d.files i).name, (atN d.files i).base, (atN d.files i).pend ++ [w]⟩⟩, 0) := by
  unfold writtenD; dsimp only; rw [if_neg h, if_neg fun h3 => h2 ⟨h3.1, by omega, h3.2.2⟩]
theorem RdWE.shape {w : World} {v : Value} {es : List (Wr × Value)} (h : RdWE w v es) : ∃ a cap, v = .slice a es.length cap ∧ es.length ≤ cap ∧ cap ≤ maxLen := by
  obtain ⟨a, c, e, h1, h2, _⟩ := RdS.shape h.row (by decide) (wr0, .slice none 0 0)
  exact ⟨a, c, e, h1, h2⟩
theorem BoxW.newR {w : World} {k : Nat} (hk : w.heap.size = k) (o : Int) (dv : Value) (c : Bool) (t : TypeId) : BoxW (w.alloc (.cells #[.int .i64 o, dv, .bool c] t)) k o dv c ∧ ∀ i, (w.alloc (.cells #[.int .i64 o, dv, .bool c] t)).frozen? ⟨k, i, none⟩ = false := by
  subst hk; exact ⟨⟨by simp, by simp, by simp⟩, fun i => by simp⟩
/-- A file is put into a row of the call's own. -/
theorem own_put3 {W : World} {B g n cap i : Nat} {es : List FE} {t : TypeId} (h : W.ownsRow B t 3 (.slice (some ⟨g, 0, none⟩) n cap) n (es.flatMap filC)) (hi : i < es.length) (p : FE) :
    (((W.setCell ⟨g, i * 3, none⟩ (.string (strB p.1.name))).setCell ⟨g, i * 3 + 1, none⟩ p.2.1).setCell ⟨g, i * 3 + 2, none⟩ p.2.2).ownsRow B t 3 (.slice (some ⟨g, 0, none⟩) n cap) n ((es.set i p).flatMap filC) := by
  have r0 := (h.stored (i * 3 + 0) (.string (strB p.1.name))).1
  have r1 := (r0.stored (i * 3 + 1) p.2.1).1
  have r2 := (r1.stored (i * 3 + 2) p.2.2).1
  rw [flat_set3 filC (fun _ => rfl) es i 0 (.string (strB p.1.name)) (p.1, (es.getD i fe0).2.1, (es.getD i fe0).2.2) hi (by decide) (fun y hy => by rw [List.getD_eq_getElem?_getD, hy]; rfl),
    flat_set3 filC (fun _ => rfl) _ i 1 p.2.1 (p.1, p.2.1, (es.getD i fe0).2.2) (by simpa using hi) (by decide) (fun y hy => by rw [List.getElem?_set_self hi] at hy; injection hy with hy; subst hy; rfl),
    flat_set3 filC (fun _ => rfl) _ i 2 p.2.2 p (by simpa using hi) (by decide) (fun y hy => by rw [List.getElem?_set_self (by simpa using hi)] at hy; injection hy with hy; subst hy; rfl), List.set_set, List.set_set] at r2
  exact r2
set_option maxRecDepth 100000 in
set_option maxHeartbeats 12800000 in
theorem rwritten_any (d : Dk) (fv dv : Value) (xs : List FX) (i : Nat) (x : Wr) (w : World) (hr : RdS 3 filC w fv (feX xs)) (hx : PartsX w xs) (hes : filX xs = d.files) (hL : LiteD d) (hv : VldD d) (hi : i < d.files.length) (hf : FitsW x (atN d.files i)) (hd : RdB w dv x.data) (hdl : x.data.length ≤ 2000000) (hpe : (atN d.files i).pend.length ≤ 4999) :
    Calls Tryd.prog 95 #[diskVal d.cap d.left fv, .int .i64 (i : Int), .agg #[.int .i64 x.off, dv, .bool x.cut]] w (RefOp w xs (writtenD d i x)) := by
  have h := rdFE_x hr hx
  have hF : RdF w fv d.files := ⟨feX xs, by rw [feX_fst, hes], h⟩
  obtain ⟨a, cap, rfl, h1, h2, _⟩ := hF.shape
  obtain ⟨da, dc, rfl, hdc, _⟩ := hd.shape0
  have hxl : xs.length = d.files.length := by rw [← hes]; exact (List.length_map ..).symm
  have hel : (feX xs).length = d.files.length := by rw [feX_len, hxl]
  have hix : i < xs.length := by rw [hxl]; exact hi
  have hmem : xs.getD i fx0 ∈ xs := by rw [List.getD_eq_getElem?_getD, List.getElem?_eq_getElem hix]; exact List.getElem_mem hix
  have hqf : (xs.getD i fx0).1.1 = atN d.files i := by
    rw [← hes]; unfold atN filX
    rw [List.getD_eq_getElem?_getD, List.getD_eq_getElem?_getD, List.getElem?_map, List.getElem?_eq_getElem hix]; rfl
  have hqe : (feX xs).getD i fe0 = (xs.getD i fx0).1 := by
    unfold feX
    rw [List.getD_eq_getElem?_getD, List.getD_eq_getElem?_getD, List.getElem?_map, List.getElem?_eq_getElem hix]; rfl
  have hwl0 : (xs.getD i fx0).2.length ≤ 4999 := by
    have := congrArg List.length (hx _ hmem).2.2
    rw [List.length_map, hqf] at this
    omega
  have hsz := sized_of_vld hv hi
  have hlf := lenF_bounds hsz
  have hoff := hf.low
  have hof2 := hf.high
  have hLi := hL.fil _ (atN_mem hi)
  have HTot := Lib.hid (fun W (hW : Below w.heap.size w W) => rtotal_any d.cap d.left _ d.files W (hF.below hW) hL.fs (by have := hL.len; omega))
  have HTe := Lib.hid (totC_totL d.files 0 fun f hf => (hv.ok f hf).2)
  have HTb := (totC_bounds d.files d.files.length (Nat.le_refl _))
  have hfl := hv.len
  have HNx := Lib.hid (fun W (hW : Below w.heap.size w W) => rnext_any d.cap d.left _ (feX xs) W (h.below hW) (by rw [hel]; have := hL.len; omega) hL.left)
  have HP := Lib.hid hx
  have HPi := Lib.hid (hx _ hmem)
  have HCt := Lib.hid (fun W u p (hu : RdB W u (atN d.files i).base) (hp : RdW W p (atN d.files i).pend) => rcontent_any (atN d.files i).name _ _ u p W hu hp hLi)
  have HCt2 := Lib.hid (fun W u p (hu : RdB W u (atN d.files i).base) (hp : RdW W p ((atN d.files i).pend ++ [x])) => rcontent_any (atN d.files i).name _ _ u p W hu hp ⟨hLi.name, hLi.base, by show ((atN d.files i).pend ++ [x]).length ≤ _; rw [List.length_append]; simp; omega, fun y hy => by
    rcases List.mem_append.1 hy with hy | hy
    · exact hLi.wr y hy
    · rw [List.mem_singleton.1 hy]; exact ⟨⟨by omega, by omega⟩, hdl⟩⟩)
  have HE1 := Lib.hid (fun e => written_big (d := d) (i := i) (w := x) e)
  have HE2 := Lib.hid (fun e e2 => written_full (d := d) (i := i) (w := x) e e2)
  have HE3 := Lib.hid (fun e e2 => written_ok (d := d) (i := i) (w := x) e e2)
  have HL0 := Lib.hid (show ((contF (atN d.files i)).length : Int) = lenF (atN d.files i) from (lenF_cont hsz).symm)
  have HL1 := Lib.hid (fun (hb : x.off + (x.data.length : Int) ≤ 1048576) => show ((contF ⟨(atN d.files i).name, (atN d.files i).base, (atN d.files i).pend ++ [x]⟩).length : Int) = grownW x (lenF (atN d.files i)) ∧ grownW x (lenF (atN d.files i)) ≤ 1048576 ∧ 0 ≤ grownW x (lenF (atN d.files i)) by
    obtain ⟨h1, h2, h3⟩ := fits_ok hf hsz hb
    exact ⟨by rw [← lenF_cont (sizedF_app hsz h1 h2)]; exact lenW_snoc _ _ _, h2, h3⟩)
  have HD := Lib.hid hd
  rw [List.take_length] at HTb
  obtain ⟨b, off, rfl, _, c0, c1, c2⟩ := h.at (show i < d.files.length from hi)
  rw [hqe] at c0 c1 c2
  have HSet := Lib.hid (fun (q : FX) => show filX (xs.set i q) = d.files.set i q.1.1 by rw [← hes]; unfold filX; rw [List.map_set])
  have HSfe := Lib.hid (fun (q : FX) => show feX (xs.set i q) = (feX xs).set i q.1 by unfold feX; rw [List.map_set])
  have HSmem := Lib.hid (fun (q p : FX) (hp : p ∈ xs.set i q) => show p ∈ xs ∨ p = q from List.mem_or_eq_of_mem_set hp)
  rw [← hqf] at HCt HCt2 HL0 HL1 HE2 HE3 hlf hof2
  have HMem := Lib.hid hmem
  clear h hF hr hx hes hd hv hf hL hsz hqf hqe hmem hLi hpe
  generalize hq : xs.getD i fx0 = q at *
  clear hq
  obtain ⟨⟨⟨nm, base, pend⟩, bv, pv⟩, wes⟩ := q
  obtain ⟨hb1, hp1, hp2⟩ := HPi.out
  dsimp only at *
  obtain ⟨ba, bc, rfl, _⟩ := hb1.shape0
  obtain ⟨pa, pc, rfl, hpc, hpc2⟩ := hp1.shape
  subst hp2
  clear hb1 hp1
  generalize hlF : lenF ⟨nm, base, wes.map (·.1)⟩ = L0 at *
  clear hlF
  generalize hgr : grownW x L0 = G at *
  clear hgr
  generalize writtenD d i x = RS at *
  obtain ⟨xo, xd, xc⟩ := x
  obtain ⟨c, lf, fl⟩ := d
  dsimp only [diskVal, totD] at *
  rw [← HTe.out] at HE2 HE3
  generalize totC fl 0 = TT at *
  generalize hnl : nextL lf = nl at *
  clear hnl
  generalize hpl : wes.length = wl at *
  have Hwl := Lib.hid hpl
  clear hpl
  generalize hxd : xd.length = xl at *
  have Hxl := Lib.hid hxd
  clear hxd
  generalize hn : fl.length = n at *
  clear hn
  have hfe : i < (feX xs).length := by rw [hel]; exact hi
  have Hel := Lib.hid hel
  clear hel hxl hix
  have HA1 := (Below.refl w.heap.size w).alloc (Nat.le_refl _) (.cells #[.int .i64 c, .int .i64 lf, .slice (some ⟨b, off, none⟩) n cap] 24)
  have HX1 := BoxD.new w c lf (.slice (some ⟨b, off, none⟩) n cap) 24
  have HZ1 := size_alloc1 w (.cells #[.int .i64 c, .int .i64 lf, .slice (some ⟨b, off, none⟩) n cap] 24)
  generalize hW1 : w.alloc (.cells #[.int .i64 c, .int .i64 lf, .slice (some ⟨b, off, none⟩) n cap] 24) = W1 at *
  have HA2 := (Below.refl W1.heap.size W1).alloc (Nat.le_refl _) (.cells #[.int .i64 xo, .slice da xl dc, .bool xc] 94)
  have HO2 := BoxW.newR HZ1 xo (.slice da xl dc) xc 94
  have HZ2 := size_alloc1 W1 (.cells #[.int .i64 xo, .slice da xl dc, .bool xc] 94)
  generalize hW2 : W1.alloc (.cells #[.int .i64 xo, .slice da xl dc, .bool xc] 94) = W2 at *
  have HA3 := (Below.refl W2.heap.size W2).alloc (Nat.le_refl _) (.cells #[.int .i64 0, .int .i64 0, .slice none 0 0] 24)
  have HR3 := BoxD.newR (show W2.heap.size = w.heap.size + 2 by omega) 0 0 (.slice none 0 0) 24
  have hs0 : w.heap.size + 3 ≤ (W2.alloc (.cells #[.int .i64 0, .int .i64 0, .slice none 0 0] 24)).heap.size := by simp; omega
  have X := Lib.hid ((HX1.below HA2).below HA3)
  have O := Lib.hid (show BoxW (W2.alloc (.cells #[.int .i64 0, .int .i64 0, .slice none 0 0] 24)) (w.heap.size + 1) xo (.slice da xl dc) xc from ⟨Below.keeps HA3 _ _ HO2.1.c0, Below.keeps HA3 _ _ HO2.1.c1, Below.keeps HA3 _ _ HO2.1.c2⟩)
  have OF := Lib.hid (fun i => (HA3.frozen (p := ⟨w.heap.size + 1, i, none⟩) (show w.heap.size + 1 < W2.heap.size by omega)).trans (HO2.2 i))
  have R := Lib.hid HR3
  have HB0 := Lib.hid (bstep (bstep HA1 HA2) HA3)
  clear HA1 HA2 HA3 HX1 HO2 HR3 HZ1 HZ2
  subst hW2 hW1
  go_enter Tryd.func95, Tryd.ntmps95
  go_upto_region 1 with fail
  generalize ((w.alloc (.cells #[.int .i64 c, .int .i64 lf, .slice (some ⟨b, off, none⟩) n cap] 24)).alloc (.cells #[.int .i64 xo, .slice da xl dc, .bool xc] 94)).alloc (.cells #[.int .i64 0, .int .i64 0, .slice none 0 0] 24) = w0 at *
  have x2 := X.out.c2
  replace c0 := Below.keeps HB0.out _ _ c0
  replace c1 := Below.keeps HB0.out _ _ c1
  replace c2 := Below.keeps HB0.out _ _ c2
  have j1 : (i : Int) < (n : Int) := by omega
  generalize hnm : strB nm = snm at *
  have Hnm := Lib.hid hnm
  clear hnm
  have hA := (Below.refl w0.heap.size w0).alloc (Nat.le_refl _) (.cells #[.string snm, .slice ba base.length bc, .slice pa wl pc] 73)
  have HF := Lib.hid (BoxF.new w0 snm (.slice ba base.length bc) (.slice pa wl pc) 73)
  have X1 := Lib.hid (X.out.below hA)
  have R1 := Lib.hid (R.out.below hA)
  have HB1 := Lib.hid (bstep HB0.out hA)
  have HS1 := Lib.hid (Nat.le_trans (Nat.le_refl _) hA.size)
  have O1 := Lib.hid (show BoxW (w0.alloc (.cells #[.string snm, .slice ba base.length bc, .slice pa wl pc] 73)) (w.heap.size + 1) xo (.slice da xl dc) xc from ⟨Below.keeps hA _ _ O.out.c0, Below.keeps hA _ _ O.out.c1, Below.keeps hA _ _ O.out.c2⟩)
  have OF1 := Lib.hid (fun i => (hA.frozen (p := ⟨w.heap.size + 1, i, none⟩) (show w.heap.size + 1 < w0.heap.size by omega)).trans (OF.out i))
  have hw1 : w0.heap.size + 1 ≤ (w0.alloc (.cells #[.string snm, .slice ba base.length bc, .slice pa wl pc] 73)).heap.size := by simp
  clear X R O OF hA HS1
  generalize base.length = bl at *
  go_upto_region 2 with fail
  clear x2 c0 c1 c2
  generalize w0.alloc (.cells #[.string snm, .slice ba bl bc, .slice pa wl pc] 73) = w1 at *
  have f0 := HF.out.c0
  have f1 := HF.out.c1
  have f2 := HF.out.c2
  have HPi1 := Lib.hid (HPi.out.below HB1.out)
  have HC1 := Lib.hid (HCt.out w1 _ _ HPi1.out.rd.1 HPi1.out.rd.2)
  dsimp only [filVal] at HC1
  rw [Hnm.out] at HC1
  go_wp2_with fail
  refine HC1.out.mono ?_
  rintro e w2 ⟨v2, rfl, ho2, hb2⟩
  obtain ⟨va, vc, e2, _⟩ := ho2.form
  subst e2
  have HL0b := HL0.out
  generalize (contF ⟨nm, base, wes.map (·.1)⟩).length = cl at *
  subst HL0b
  have X2 := Lib.hid (X1.out.below hb2)
  have R2 := Lib.hid (R1.out.below hb2)
  have F2 := Lib.hid (HF.out.below hb2)
  have O2 := Lib.hid (show BoxW w2 (w.heap.size + 1) xo (.slice da xl dc) xc from ⟨Below.keeps hb2 _ _ O1.out.c0, Below.keeps hb2 _ _ O1.out.c1, Below.keeps hb2 _ _ O1.out.c2⟩)
  have OF2 := Lib.hid (fun i => (hb2.frozen (p := ⟨w.heap.size + 1, i, none⟩) (show w.heap.size + 1 < w1.heap.size by omega)).trans (OF1.out i))
  have HB2 := Lib.hid (bstep HB1.out hb2)
  have hw2 := Nat.le_trans hw1 hb2.size
  clear ho2 hb2 f0 f1 f2 X1 R1 HF O1 OF1 HB1 HC1 HCt HPi1 hw1
  have o0 := O2.out.c0
  have o1 := O2.out.c1
  by_cases hbig : 1048576 < xo + (xl : Int)
  · have HE := Lib.hid (HE1.out hbig)
    have R := Lib.hid R2.out
    have r0 := R.out.c0
    have r1 := R.out.c1
    have r2 := R.out.c2
    have rf := R.out.f
    go_wp2_with fail
    exact bodyPost_ret (v := .tuple #[diskVal 0 0 nilS, .int .i64 9]) (by simp [results, Tryd.results95, go_sem, r0, r1, r2]) rfl ⟨⟨_, [], by rw [HE.out]; first | done | rfl, by rw [HE.out]; rfl, RowR.nil _ _ _⟩, HB2.out.all3 (by omega) _ _ _⟩
  · have HL1b := HL1.out (by omega)
    clear HE1
    have hb5s : w2.heap.size ≤ w2.heap.size := Nat.le_refl _
    have HRd := Lib.hid (show Rd w2 1 (.slice da xl dc) xl (xd.map byteV) from by
      have h : RdL byteV w2 (.slice da xl dc) xd := HD.out.below HB2.out
      unfold RdL at h
      rw [Hxl.out] at h
      exact h)
    have hA5 := (Below.refl w2.heap.size w2).alloc (Nat.le_refl _) (.cells #[] 5)
    have z1 := Below.keeps hA5 _ _ o1
    go_upto_region 6 with (at_builtin; go_must (refine wpList_app rfl (.tmp 27) (.tmp 29) 47 rfl elemU8 w2.heap.size rfl (World.ownsRow_made (size := 1) _ #[] 0 hb5s (by decide) rfl) rfl (HRd.out.alloc _) (bytes_one xd) (by unfold maxLen; omega) (by omega) (by simp) ?_); intro v4 w4 hown4 hgr4 hv4; clear hv4; obtain ⟨da4, dc4, e4, _⟩ := own_form hown4; subst e4; have hb4 := own_below ((Below.refl w2.heap.size w2).alloc hb5s (.cells #[] 5)) (World.ownsRow_made (e := 5) (size := 1) w2 #[] 0 hb5s (by decide) rfl) (by simp) hgr4; have Hb4 := Lib.hid hb4; have Hown := Lib.hid hown4; have zz1 := Below.keeps hb4 _ _ o1; have zf := fun i => (hb4.frozen (p := ⟨w.heap.size + 1, i, none⟩) (show w.heap.size + 1 < w2.heap.size by omega)).trans (OF2.out i); clear hown4 hgr4 hb4)
    clear z1 zz1 zf hA5 o0 o1
    have hOw := Hown.out
    rw [Nat.zero_add, List.nil_append] at hOw
    rw [Nat.zero_add] at *
    have HDo := Lib.hid (own_set_ne (p := ⟨w.heap.size + 1, 1, none⟩) hOw (own_above hOw (show w.heap.size + 1 < w2.heap.size by omega)) (.slice da4 xl dc4))
    have X5 := Lib.hid ((X2.out.below Hb4.out).set_ne (p := ⟨w.heap.size + 1, 1, none⟩) (by dsimp only; omega) (.slice da4 xl dc4))
    have R5 := Lib.hid ((R2.out.below Hb4.out).set_ne (p := ⟨w.heap.size + 1, 1, none⟩) (by dsimp only; omega) (.slice da4 xl dc4))
    have F5 := Lib.hid ((F2.out.below Hb4.out).set_ne (p := ⟨w.heap.size + 1, 1, none⟩) (by dsimp only; omega) (.slice da4 xl dc4))
    have O5 := Lib.hid (show BoxW (w4.setCell ⟨w.heap.size + 1, 1, none⟩ (.slice da4 xl dc4)) (w.heap.size + 1) xo (.slice da4 xl dc4) xc from ⟨cell_set_off (Below.keeps Hb4.out _ _ O2.out.c0) (by decide) _, cell_set_same (Below.keeps Hb4.out _ _ O2.out.c1) _, cell_set_off (Below.keeps Hb4.out _ _ O2.out.c2) (by decide) _⟩)
    have HB5 := Lib.hid ((bstep HB2.out Hb4.out).setCell (p := ⟨w.heap.size + 1, 1, none⟩) (Nat.le_succ _) (.slice da4 xl dc4))
    have hw5 : w2.heap.size ≤ (w4.setCell ⟨w.heap.size + 1, 1, none⟩ (.slice da4 xl dc4)).heap.size := by simp; exact Hb4.out.size
    clear hOw Hown Hb4 X2 R2 F2 O2 OF2 HB2 HRd hb5s HD
    generalize w4.setCell ⟨w.heap.size + 1, 1, none⟩ (.slice da4 xl dc4) = w5 at *
    refine wp_region_inv 6 (fun L f W => ApS w5.heap.size w5 wes (⟨xo, xd, xc⟩, .slice da4 xl dc4) [(1, .pointer (some ⟨w0.heap.size, 2, none⟩)), (2, .slice pa wl pc), (4, .agg #[.int .i64 xo, .slice da4 xl dc4, .bool xc])] L f W) 70 (by kernel_rfl) (by kernel_rfl) (by rfl) (by kernel_rfl) (fun f => by simp [frm, dstOf, Act.put]; exact rfl) (fun f => ApS.start rfl f) ?_ ?_
    · refine ⟨?_, ?_, ?_, ?_, ?_, ?_, trivial⟩
      · intro L f w7 h0 hd hI
        have HI1 := Lib.hid hI
        clear hI hd
        dsimp only
        go_wp2_with fail
        exact ⟨rfl, (fun h => by cases h), fun t ht => by injection ht with ht; subst ht; exact HI1.out.made h0 (by simp)⟩
      · intro L f w7 h0 hd hI
        have HI1 := Lib.hid hI
        clear hI hd
        dsimp only
        go_wp2_with fail
        exact ⟨rfl, (fun h => by cases h), fun t ht => by injection ht with ht; subst ht; exact HI1.out.pure (v := .pointer (some ⟨w0.heap.size, 2, none⟩)) (by decide) (by decide) (by decide) (by simp)⟩
      · intro L f w7 h0 hd hI
        have HI1 := Lib.hid hI
        have d1 : f 1 = .pointer (some ⟨w0.heap.size, 2, none⟩) := hI.pur (1, .pointer (some ⟨w0.heap.size, 2, none⟩)) (by simp) (hd 1 (by kernel_rfl))
        have z := (F5.out.below hI.hb).c2
        clear hI hd
        dsimp only
        rw [d1]
        go_wp2_with fail
        exact ⟨rfl, (fun h => by cases h), fun t ht => by injection ht with ht; subst ht; exact HI1.out.pure (v := .slice pa wl pc) (by decide) (by decide) (by decide) (by simp)⟩
      · intro L f w7 h0 hd hI
        have HI1 := Lib.hid hI
        have hL0 := hd 0 (by kernel_rfl)
        have d2 : f 2 = .slice pa wl pc := hI.pur (2, .slice pa wl pc) (by simp) (hd 2 (by kernel_rfl))
        obtain ⟨k, d0, hlt, _, hown⟩ := hI.a0 hL0
        have hown := hown h0
        have hsz := hI.sz
        have hrw := (HPi.out.below (bstep HB5.out hI.hb)).2.1.row.2
        dsimp only at hrw
        rw [Hwl.out] at hrw
        have HRw := Lib.hid hrw
        have hone : ∀ u ∈ wes.flatMap wrC, u.oneCell' = true := wr_one fun p hp => (HPi.out.below (bstep HB5.out hI.hb)).2.1.dat p hp
        clear hI hd hrw
        dsimp only
        rw [d0] at hown
        rw [d0, d2]
        refine wpList_app rfl (.tmp 32) (.tmp 34) 71 rfl elemWr w5.heap.size rfl hown rfl HRw.out hone (by unfold maxLen; omega) (by omega) hsz ?_
        intro v' w8 hown' hgr' _
        rw [Nat.zero_add, List.nil_append] at hown'
        have HQ := Lib.hid (HI1.out.copy hL0 h0 (by simp) hown' Hwl.out.symm (by rw [d0]; exact hgr'))
        exact ⟨rfl, (fun h => by cases h), fun t ht => by injection ht with ht; subst ht; exact HQ.out⟩
      · intro L f w7 h0 hd hI
        have HI1 := Lib.hid hI
        have z0 := Below.keeps hI.hb _ _ O5.out.c0
        have z1 := Below.keeps hI.hb _ _ O5.out.c1
        have z2 := Below.keeps hI.hb _ _ O5.out.c2
        clear hI hd
        dsimp only
        go_wp2_with fail
        exact ⟨rfl, (fun h => by cases h), fun t ht => by injection ht with ht; subst ht; exact HI1.out.pure (v := .agg #[.int .i64 xo, .slice da4 xl dc4, .bool xc]) (by decide) (by decide) (by decide) (by simp)⟩
      · intro L f w7 h0 hd hI
        have HI1 := Lib.hid hI
        have d4 : f 4 = .agg #[.int .i64 xo, .slice da4 xl dc4, .bool xc] := hI.pur (4, .agg #[.int .i64 xo, .slice da4 xl dc4, .bool xc]) (by simp) (hd 4 (by kernel_rfl))
        clear hI hd
        dsimp only
        rw [d4]
        go_wp2_with fail
        exact ⟨rfl, (fun h => by cases h), fun t ht => by injection ht with ht; subst ht; exact HI1.out.one (by simp)⟩
    · intro L f w7 hA hI
      obtain ⟨hown, _⟩ := hI.a3 (hA 3 (by decide))
      obtain ⟨k5, d5, _, hsrc⟩ := hI.a5 (hA 5 (by decide))
      have Hb7 := Lib.hid hI.hb
      have hsz := hI.sz
      rw [Hwl.out] at hown
      obtain ⟨ra, rc, d3, _⟩ := own_form hown
      rw [d3] at hown
      rw [d5] at hsrc
      rw [d3, d5]
      clear hI hA d3 d5
      have hone : ∀ u ∈ wrC ((⟨xo, xd, xc⟩, .slice da4 xl dc4) : Wr × Value), u.oneCell' = true := fun u hu => by simp [wrC] at hu; rcases hu with rfl | rfl | rfl <;> rfl
      refine wpList_app rfl (.tmp 35) (.tmp 37) 71 rfl elemWr w5.heap.size rfl hown rfl hsrc hone (by unfold maxLen; omega) (by omega) hsz ?_
      intro v8 w8 hown8 hgr8 _
      have hb8 := own_below Hb7.out hown hsz hgr8
      obtain ⟨ra8, rc8, e8, _⟩ := own_form hown8
      subst e8
      have HPn := Lib.hid (own_set_ne (p := ⟨w0.heap.size, 2, none⟩) hown8 (own_above hown8 (show w0.heap.size < w5.heap.size by omega)) (.slice ra8 (wl + 1) rc8))
      have X8 := Lib.hid ((X5.out.below hb8).set_ne (p := ⟨w0.heap.size, 2, none⟩) (by dsimp only; omega) (.slice ra8 (wl + 1) rc8))
      have R8 := Lib.hid ((R5.out.below hb8).set_ne (p := ⟨w0.heap.size, 2, none⟩) (by dsimp only; omega) (.slice ra8 (wl + 1) rc8))
      have F8 := Lib.hid ((F5.out.below hb8).set2 (.slice ra8 (wl + 1) rc8))
      have HB8 := Lib.hid ((bstep HB5.out hb8).setCell (p := ⟨w0.heap.size, 2, none⟩) (show w.heap.size ≤ w0.heap.size by omega) (.slice ra8 (wl + 1) rc8))
      have HD8 := Lib.hid (own_set_ne (p := ⟨w0.heap.size, 2, none⟩) (own_keep HDo.out hb8) (own_above HDo.out (show w0.heap.size < w2.heap.size by omega)) (.slice ra8 (wl + 1) rc8))
      have z := (F5.out.below hb8).c2
      have zf := (F5.out.below hb8).f
      have hw8 : w5.heap.size ≤ (w8.setCell ⟨w0.heap.size, 2, none⟩ (.slice ra8 (wl + 1) rc8)).heap.size := by simp; exact hb8.size
      clear hown hsrc hown8 hgr8 hb8 Hb7 hone X5 R5 F5 O5 HB5 HDo
      go_upto_region 7 with fail
      clear z zf
      generalize w8.setCell ⟨w0.heap.size, 2, none⟩ (.slice ra8 (wl + 1) rc8) = w9 at *
      have HPw := Lib.hid (show RdWE w9 (.slice ra8 (wl + 1) rc8) (wes ++ [((⟨xo, xd, xc⟩, .slice da4 xl dc4) : Wr × Value)]) from ⟨own_rds (fun _ _ => rfl) (by decide) (show w9.ownsRow w5.heap.size 94 3 (.slice ra8 (wl + 1) rc8) (wes ++ [((⟨xo, xd, xc⟩, .slice da4 xl dc4) : Wr × Value)]).length ((wes ++ [((⟨xo, xd, xc⟩, .slice da4 xl dc4) : Wr × Value)]).flatMap wrC) by rw [List.length_append, Hwl.out, List.flatMap_append, List.flatMap_cons, List.flatMap_nil, List.append_nil]; exact HPn.out), fun p hp => by
        rcases List.mem_append.1 hp with hp | hp
        · exact (HPi.out.below HB8.out).2.1.dat p hp
        · rw [List.mem_singleton.1 hp]; exact own_rdl HD8.out⟩)
      have f0 := F8.out.c0
      have f1 := F8.out.c1
      have f2 := F8.out.c2
      have HC2 := Lib.hid (HCt2.out w9 _ _ (HPi.out.below HB8.out).1 ⟨_, by rw [List.map_append]; rfl, HPw.out⟩)
      dsimp only [filVal] at HC2
      rw [Hnm.out] at HC2
      go_wp2_with fail
      refine HC2.out.mono ?_
      rintro e w10 ⟨v10, rfl, ho10, hb10⟩
      obtain ⟨va10, vc10, e10, _⟩ := ho10.form
      subst e10
      obtain ⟨hg1, hg2, hg3⟩ := HL1b
      generalize (contF ⟨nm, base, wes.map (·.1) ++ [⟨xo, xd, xc⟩]⟩).length = cg at *
      subst hg1
      obtain ⟨gw, hgw⟩ : ∃ gw : Int, (cg : Int) - (cl : Int) = gw := ⟨_, rfl⟩
      rw [hgw] at HE2 HE3
      have X10 := Lib.hid (X8.out.below hb10)
      have R10 := Lib.hid (R8.out.below hb10)
      have F10 := Lib.hid (F8.out.below hb10)
      have HB10 := Lib.hid (bstep HB8.out hb10)
      have HD10 := Lib.hid (own_keep HD8.out hb10)
      have HP10 := Lib.hid (own_keep HPn.out hb10)
      have hw10 := Nat.le_trans hw8 hb10.size
      clear ho10 hb10 f0 f1 f2 X8 R8 F8 HB8 HD8 HPn HPw HC2 HCt2 hw8
      go_upto_region 8 with fail
      have x0 := X10.out.c0
      have x1 := X10.out.c1
      have x2 := X10.out.c2
      have hgw2 : gw ≤ 1048576 ∧ -1048576 ≤ gw := by omega
      clear hgw
      have HT2 := Lib.hid (fun W (hW : Below w10.heap.size w10 W) => HTot.out W (bstep HB10.out hW))
      by_cases hc0 : 0 < c
      · have k1 : decide (0 < c) = true := decide_eq_true hc0
        by_cases hg0 : 0 < gw
        · have k2 : decide (0 < gw) = true := decide_eq_true hg0
          by_cases hov : c < TT + gw
          · have k3 : decide (c < TT + gw) = true := decide_eq_true hov
            have HE := Lib.hid (HE2.out hbig ⟨hc0, hg0, hov⟩)
            have e0 := cell_by x0
            have e1 := cell_by x1
            have e2 := cell_by x2
            clear x0 x1 x2
            refine wp_region_below (by kernel_rfl) (by kernel_rfl) ?_
            repeat (go_big_quiet_step ((with_reducible exact calls_by (HT2.out _ (BelowBy.h _)))))
            refine wpQuiet_nil ?_
            intro _ hw'
            obtain ⟨u, hw'⟩ := hw'
            subst hw'
            have X := Lib.hid (X10.out.below u.h)
            have R := Lib.hid (R10.out.below u.h)
            have F := Lib.hid (F10.out.below u.h)
            have HB := Lib.hid (bstep HB10.out u.h)
            have HDn := Lib.hid (own_keep HD10.out u.h)
            have HPn := Lib.hid (own_keep HP10.out u.h)
            have hwn := Nat.le_trans hw10 u.h.size
            generalize u.w' = w11 at *
            clear e0 e1 e2 u k1 X10 R10 F10 HB10 HD10 HP10 HT2 HTot
            have r0 := R.out.c0
            have r1 := R.out.c1
            have r2 := R.out.c2
            have rf := R.out.f
            go_wp2_with fail
            exact bodyPost_ret (v := .tuple #[diskVal 0 0 nilS, .int .i64 9]) (by simp [results, Tryd.results95, go_sem, r0, r1, r2]) rfl ⟨⟨_, [], by rw [HE.out]; first | done | rfl, by rw [HE.out]; rfl, RowR.nil _ _ _⟩, HB.out.all3 (by omega) _ _ _⟩
          · have k3 : decide (c < TT + gw) = false := decide_eq_false hov
            have HE := Lib.hid (HE3.out hbig (fun h => hov h.2.2))
            have e0 := cell_by x0
            have e1 := cell_by x1
            have e2 := cell_by x2
            clear x0 x1 x2
            refine wp_region_below (by kernel_rfl) (by kernel_rfl) ?_
            repeat (go_big_quiet_step ((with_reducible exact calls_by (HT2.out _ (BelowBy.h _)))))
            refine wpQuiet_nil ?_
            intro _ hw'
            obtain ⟨u, hw'⟩ := hw'
            subst hw'
            have X := Lib.hid (X10.out.below u.h)
            have R := Lib.hid (R10.out.below u.h)
            have F := Lib.hid (F10.out.below u.h)
            have HB := Lib.hid (bstep HB10.out u.h)
            have HDn := Lib.hid (own_keep HD10.out u.h)
            have HPn := Lib.hid (own_keep HP10.out u.h)
            have hwn := Nat.le_trans hw10 u.h.size
            generalize u.w' = w11 at *
            clear e0 e1 e2 u k1 X10 R10 F10 HB10 HD10 HP10 HT2 HTot
            go_upto_region 10 with fail
            have x0 := X.out.c0
            have x1 := X.out.c1
            have x2 := X.out.c2
            have xf := X.out.f
            go_wp2_with fail
            refine (HNx.out _ HB.out).mono ?_
            rintro e w12 ⟨v12, rfl, ho12, hb12⟩
            obtain ⟨na, nc, e12, _⟩ := own_form ho12
            subst e12
            have X12 := Lib.hid (X.out.below hb12)
            have HRow := Lib.hid (own_all3 ho12 (show w.heap.size < w11.heap.size by omega) (.int .i64 c) (.int .i64 nl) (.slice na (feX xs).length nc))
            have X13 := Lib.hid (X12.out.all c nl (.slice na (feX xs).length nc))
            have R13 := Lib.hid ((((R.out.below hb12).set_ne (p := ⟨w.heap.size, 0, none⟩) (by dsimp only; omega) (.int .i64 c)).set_ne (p := ⟨w.heap.size, 1, none⟩) (by dsimp only; omega) (.int .i64 nl)).set_ne (p := ⟨w.heap.size, 2, none⟩) (by dsimp only; omega) (.slice na (feX xs).length nc))
            have F13 := Lib.hid ((((F.out.below hb12).set_ne (p := ⟨w.heap.size, 0, none⟩) (by dsimp only; omega) (.int .i64 c)).set_ne (p := ⟨w.heap.size, 1, none⟩) (by dsimp only; omega) (.int .i64 nl)).set_ne (p := ⟨w.heap.size, 2, none⟩) (by dsimp only; omega) (.slice na (feX xs).length nc))
            have HB13 := Lib.hid ((bstep HB.out hb12).all3 (b := w.heap.size) (Nat.le_refl _) (.int .i64 c) (.int .i64 nl) (.slice na (feX xs).length nc))
            have HD13 := Lib.hid (own_all3 (own_keep HDn.out hb12) (show w.heap.size < w2.heap.size by omega) (.int .i64 c) (.int .i64 nl) (.slice na (feX xs).length nc))
            have HP13 := Lib.hid (own_all3 (own_keep HPn.out hb12) (show w.heap.size < w5.heap.size by omega) (.int .i64 c) (.int .i64 nl) (.slice na (feX xs).length nc))
            have hw13 : w0.heap.size + 1 ≤ w11.heap.size := by omega
            clear ho12 hb12 x0 x1 x2 xf X R F HB HDn HPn HNx
            have x0 := X12.out.c0
            have x1 := X12.out.c1
            have x2 := X12.out.c2
            have xf := X12.out.f
            go_upto_region 11 with fail
            clear x0 x1 x2 xf X12
            generalize (((w12.setCell ⟨w.heap.size, 0, none⟩ (.int .i64 c)).setCell ⟨w.heap.size, 1, none⟩ (.int .i64 nl)).setCell ⟨w.heap.size, 2, none⟩ (.slice na (feX xs).length nc)) = w13 at *
            have j2 : (i : Int) < ((feX xs).length : Int) := by omega
            obtain ⟨g, rfl, hgB, hgl⟩ := own_some HRow.out (by omega)
            have x2 := X13.out.c2
            have f0 := F13.out.c0
            have f1 := F13.out.c1
            have f2 := F13.out.c2
            have gf : ∀ j, w13.frozen? ⟨g, j, none⟩ = false := fun j => own_frozen HRow.out j
            have hS : RdS 3 filC w13 _ (feX xs) := own_rds (fun _ _ => rfl) (by decide) HRow.out
            obtain ⟨_, _, eS, _, _, _, hcS⟩ := hS.shape (by decide) fe0
            injection eS with eS1 eS2 eS3
            obtain ⟨bS, oS, eS4, hcS⟩ := hcS (by omega)
            rw [← eS1] at eS4
            injection eS4 with eS4
            injection eS4 with eS5 eS6
            subst eS5 eS6
            have gc := hcS i hfe
            simp only [Nat.zero_add] at gc
            have g0 := gc 0 _ rfl
            have g1 := gc 1 _ rfl
            have g2 := gc 2 _ rfl
            rw [Nat.add_zero] at g0
            clear hS hcS gc eS1 eS2 eS3
            have HRow2 := Lib.hid (own_put3 HRow.out hfe (⟨nm, base, wes.map (·.1) ++ [⟨xo, xd, xc⟩]⟩, .slice ba bl bc, .slice ra8 (wl + 1) rc8))
            dsimp only at HRow2
            rw [Hnm.out] at HRow2
            have hn4 : (Value.slice da4 xl dc4).ownBlock ≠ some g := by
              rcases own_ne HD13.out HRow.out (by decide) with e | e
              · rw [e]; simp
              · exact e
            have hn7 : (Value.slice ra8 (wl + 1) rc8).ownBlock ≠ some g := by
              rcases own_ne HP13.out HRow.out (by decide) with e | e
              · rw [e]; simp
              · exact e
            have HD14 := Lib.hid (own_set_ne (p := ⟨g, i * 3 + 2, none⟩) (own_set_ne (p := ⟨g, i * 3 + 1, none⟩) (own_set_ne (p := ⟨g, i * 3, none⟩) HD13.out hn4 (.string snm)) hn4 (.slice ba bl bc)) hn4 (.slice ra8 (wl + 1) rc8))
            have HP14 := Lib.hid (own_set_ne (p := ⟨g, i * 3 + 2, none⟩) (own_set_ne (p := ⟨g, i * 3 + 1, none⟩) (own_set_ne (p := ⟨g, i * 3, none⟩) HP13.out hn7 (.string snm)) hn7 (.slice ba bl bc)) hn7 (.slice ra8 (wl + 1) rc8))
            have X14 := Lib.hid (((X13.out.set_ne (p := ⟨g, i * 3, none⟩) (by dsimp only; omega) (.string snm)).set_ne (p := ⟨g, i * 3 + 1, none⟩) (by dsimp only; omega) (.slice ba bl bc)).set_ne (p := ⟨g, i * 3 + 2, none⟩) (by dsimp only; omega) (.slice ra8 (wl + 1) rc8))
            have R := Lib.hid (((R13.out.set_ne (p := ⟨g, i * 3, none⟩) (by dsimp only; omega) (.string snm)).set_ne (p := ⟨g, i * 3 + 1, none⟩) (by dsimp only; omega) (.slice ba bl bc)).set_ne (p := ⟨g, i * 3 + 2, none⟩) (by dsimp only; omega) (.slice ra8 (wl + 1) rc8))
            have HB14 := Lib.hid (((HB13.out.setCell (p := ⟨g, i * 3, none⟩) (show w.heap.size ≤ g by omega) (.string snm)).setCell (p := ⟨g, i * 3 + 1, none⟩) (show w.heap.size ≤ g by omega) (.slice ba bl bc)).setCell (p := ⟨g, i * 3 + 2, none⟩) (show w.heap.size ≤ g by omega) (.slice ra8 (wl + 1) rc8))
            clear hn4 hn7 X13 R13 F13 HB13 HD13 HP13
            go_upto_region 12 with fail
            clear x2 f0 f1 f2 gf g0 g1 g2 HRow
            generalize (((w13.setCell ⟨g, i * 3, none⟩ (.string snm)).setCell ⟨g, i * 3 + 1, none⟩ (.slice ba bl bc)).setCell ⟨g, i * 3 + 2, none⟩ (.slice ra8 (wl + 1) rc8)) = w14 at *
            have HRw := Lib.hid (show RowB w xs w14 w0.heap.size (.slice (some ⟨g, 0, none⟩) (feX xs).length nc) (xs.set i ((⟨nm, base, wes.map (·.1) ++ [⟨xo, xd, xc⟩]⟩, .slice ba bl bc, .slice ra8 (wl + 1) rc8), wes ++ [((⟨xo, xd, xc⟩, .slice da4 xl dc4) : Wr × Value)])) from ⟨by
                rw [HSfe.out, List.length_set]
                exact World.ownsRow.mono HRow2.out (by omega), by omega, fun W' hk hp q hq => by
              rcases HSmem.out _ q hq with h | h
              · exact hp q h
              · rw [h]
                have hpo := hp _ HMem.out
                refine ⟨hpo.1, ⟨own_rds (fun _ _ => rfl) (by decide) (show W'.ownsRow w0.heap.size 94 3 (.slice ra8 (wl + 1) rc8) (wes ++ [((⟨xo, xd, xc⟩, .slice da4 xl dc4) : Wr × Value)]).length ((wes ++ [((⟨xo, xd, xc⟩, .slice da4 xl dc4) : Wr × Value)]).flatMap wrC) by
                  rw [List.length_append, Hwl.out, List.flatMap_append, List.flatMap_cons, List.flatMap_nil, List.append_nil]
                  exact hk.own (World.ownsRow.mono HP14.out (by omega)) (Nat.le_refl _)), fun p hp' => ?_⟩, by rw [List.map_append]; rfl⟩
                rcases List.mem_append.1 hp' with hp' | hp'
                · exact hpo.2.1.dat p hp'
                · rw [List.mem_singleton.1 hp']; exact own_rdl (hk.own (World.ownsRow.mono HD14.out (by omega)) (Nat.le_refl _))⟩)
            have x0 := X14.out.c0
            have x1 := X14.out.c1
            have x2 := X14.out.c2
            clear HRow2 HD14 HP14
            generalize (feX xs).length = fl9 at *
            have r0 := R.out.c0
            have r1 := R.out.c1
            have r2 := R.out.c2
            have rf := R.out.f
            have HRz := Lib.hid (RowR.set3 (b := w.heap.size + 2) HRw.out (by omega) (.int .i64 c) (.int .i64 nl) (.slice (some ⟨g, 0, none⟩) fl9 nc))
            go_wp2_with fail
            exact bodyPost_ret (v := .tuple #[diskVal c nl (.slice (some ⟨g, 0, none⟩) fl9 nc), .int .i64 0]) (by simp [results, Tryd.results95, go_sem, r0, r1, r2]) rfl ⟨⟨_, _, by rw [HE.out]; first | done | rfl, by rw [HE.out]; exact (by rw [HSet.out]), HRz.out⟩, HB14.out.all3 (by omega) _ _ _⟩
        · have k2 : decide (0 < gw) = false := decide_eq_false hg0
          have HE := Lib.hid (HE3.out hbig (fun h => hg0 h.2.1))
          have e0 := cell_by x0
          have e1 := cell_by x1
          have e2 := cell_by x2
          clear x0 x1 x2
          refine wp_region_below (by kernel_rfl) (by kernel_rfl) ?_
          repeat (go_big_quiet_step ((with_reducible exact calls_by (HT2.out _ (BelowBy.h _)))))
          refine wpQuiet_nil ?_
          intro _ hw'
          obtain ⟨u, hw'⟩ := hw'
          subst hw'
          have X := Lib.hid (X10.out.below u.h)
          have R := Lib.hid (R10.out.below u.h)
          have F := Lib.hid (F10.out.below u.h)
          have HB := Lib.hid (bstep HB10.out u.h)
          have HDn := Lib.hid (own_keep HD10.out u.h)
          have HPn := Lib.hid (own_keep HP10.out u.h)
          have hwn := Nat.le_trans hw10 u.h.size
          generalize u.w' = w11 at *
          clear e0 e1 e2 u k1 X10 R10 F10 HB10 HD10 HP10 HT2 HTot
          go_upto_region 10 with fail
          have x0 := X.out.c0
          have x1 := X.out.c1
          have x2 := X.out.c2
          have xf := X.out.f
          go_wp2_with fail
          refine (HNx.out _ HB.out).mono ?_
          rintro e w12 ⟨v12, rfl, ho12, hb12⟩
          obtain ⟨na, nc, e12, _⟩ := own_form ho12
          subst e12
          have X12 := Lib.hid (X.out.below hb12)
          have HRow := Lib.hid (own_all3 ho12 (show w.heap.size < w11.heap.size by omega) (.int .i64 c) (.int .i64 nl) (.slice na (feX xs).length nc))
          have X13 := Lib.hid (X12.out.all c nl (.slice na (feX xs).length nc))
          have R13 := Lib.hid ((((R.out.below hb12).set_ne (p := ⟨w.heap.size, 0, none⟩) (by dsimp only; omega) (.int .i64 c)).set_ne (p := ⟨w.heap.size, 1, none⟩) (by dsimp only; omega) (.int .i64 nl)).set_ne (p := ⟨w.heap.size, 2, none⟩) (by dsimp only; omega) (.slice na (feX xs).length nc))
          have F13 := Lib.hid ((((F.out.below hb12).set_ne (p := ⟨w.heap.size, 0, none⟩) (by dsimp only; omega) (.int .i64 c)).set_ne (p := ⟨w.heap.size, 1, none⟩) (by dsimp only; omega) (.int .i64 nl)).set_ne (p := ⟨w.heap.size, 2, none⟩) (by dsimp only; omega) (.slice na (feX xs).length nc))
          have HB13 := Lib.hid ((bstep HB.out hb12).all3 (b := w.heap.size) (Nat.le_refl _) (.int .i64 c) (.int .i64 nl) (.slice na (feX xs).length nc))
          have HD13 := Lib.hid (own_all3 (own_keep HDn.out hb12) (show w.heap.size < w2.heap.size by omega) (.int .i64 c) (.int .i64 nl) (.slice na (feX xs).length nc))
          have HP13 := Lib.hid (own_all3 (own_keep HPn.out hb12) (show w.heap.size < w5.heap.size by omega) (.int .i64 c) (.int .i64 nl) (.slice na (feX xs).length nc))
          have hw13 : w0.heap.size + 1 ≤ w11.heap.size := by omega
          clear ho12 hb12 x0 x1 x2 xf X R F HB HDn HPn HNx
          have x0 := X12.out.c0
          have x1 := X12.out.c1
          have x2 := X12.out.c2
          have xf := X12.out.f
          go_upto_region 11 with fail
          clear x0 x1 x2 xf X12
          generalize (((w12.setCell ⟨w.heap.size, 0, none⟩ (.int .i64 c)).setCell ⟨w.heap.size, 1, none⟩ (.int .i64 nl)).setCell ⟨w.heap.size, 2, none⟩ (.slice na (feX xs).length nc)) = w13 at *
          have j2 : (i : Int) < ((feX xs).length : Int) := by omega
          obtain ⟨g, rfl, hgB, hgl⟩ := own_some HRow.out (by omega)
          have x2 := X13.out.c2
          have f0 := F13.out.c0
          have f1 := F13.out.c1
          have f2 := F13.out.c2
          have gf : ∀ j, w13.frozen? ⟨g, j, none⟩ = false := fun j => own_frozen HRow.out j
          have hS : RdS 3 filC w13 _ (feX xs) := own_rds (fun _ _ => rfl) (by decide) HRow.out
          obtain ⟨_, _, eS, _, _, _, hcS⟩ := hS.shape (by decide) fe0
          injection eS with eS1 eS2 eS3
          obtain ⟨bS, oS, eS4, hcS⟩ := hcS (by omega)
          rw [← eS1] at eS4
          injection eS4 with eS4
          injection eS4 with eS5 eS6
          subst eS5 eS6
          have gc := hcS i hfe
          simp only [Nat.zero_add] at gc
          have g0 := gc 0 _ rfl
          have g1 := gc 1 _ rfl
          have g2 := gc 2 _ rfl
          rw [Nat.add_zero] at g0
          clear hS hcS gc eS1 eS2 eS3
          have HRow2 := Lib.hid (own_put3 HRow.out hfe (⟨nm, base, wes.map (·.1) ++ [⟨xo, xd, xc⟩]⟩, .slice ba bl bc, .slice ra8 (wl + 1) rc8))
          dsimp only at HRow2
          rw [Hnm.out] at HRow2
          have hn4 : (Value.slice da4 xl dc4).ownBlock ≠ some g := by
            rcases own_ne HD13.out HRow.out (by decide) with e | e
            · rw [e]; simp
            · exact e
          have hn7 : (Value.slice ra8 (wl + 1) rc8).ownBlock ≠ some g := by
            rcases own_ne HP13.out HRow.out (by decide) with e | e
            · rw [e]; simp
            · exact e
          have HD14 := Lib.hid (own_set_ne (p := ⟨g, i * 3 + 2, none⟩) (own_set_ne (p := ⟨g, i * 3 + 1, none⟩) (own_set_ne (p := ⟨g, i * 3, none⟩) HD13.out hn4 (.string snm)) hn4 (.slice ba bl bc)) hn4 (.slice ra8 (wl + 1) rc8))
          have HP14 := Lib.hid (own_set_ne (p := ⟨g, i * 3 + 2, none⟩) (own_set_ne (p := ⟨g, i * 3 + 1, none⟩) (own_set_ne (p := ⟨g, i * 3, none⟩) HP13.out hn7 (.string snm)) hn7 (.slice ba bl bc)) hn7 (.slice ra8 (wl + 1) rc8))
          have X14 := Lib.hid (((X13.out.set_ne (p := ⟨g, i * 3, none⟩) (by dsimp only; omega) (.string snm)).set_ne (p := ⟨g, i * 3 + 1, none⟩) (by dsimp only; omega) (.slice ba bl bc)).set_ne (p := ⟨g, i * 3 + 2, none⟩) (by dsimp only; omega) (.slice ra8 (wl + 1) rc8))
          have R := Lib.hid (((R13.out.set_ne (p := ⟨g, i * 3, none⟩) (by dsimp only; omega) (.string snm)).set_ne (p := ⟨g, i * 3 + 1, none⟩) (by dsimp only; omega) (.slice ba bl bc)).set_ne (p := ⟨g, i * 3 + 2, none⟩) (by dsimp only; omega) (.slice ra8 (wl + 1) rc8))
          have HB14 := Lib.hid (((HB13.out.setCell (p := ⟨g, i * 3, none⟩) (show w.heap.size ≤ g by omega) (.string snm)).setCell (p := ⟨g, i * 3 + 1, none⟩) (show w.heap.size ≤ g by omega) (.slice ba bl bc)).setCell (p := ⟨g, i * 3 + 2, none⟩) (show w.heap.size ≤ g by omega) (.slice ra8 (wl + 1) rc8))
          clear hn4 hn7 X13 R13 F13 HB13 HD13 HP13
          go_upto_region 12 with fail
          clear x2 f0 f1 f2 gf g0 g1 g2 HRow
          generalize (((w13.setCell ⟨g, i * 3, none⟩ (.string snm)).setCell ⟨g, i * 3 + 1, none⟩ (.slice ba bl bc)).setCell ⟨g, i * 3 + 2, none⟩ (.slice ra8 (wl + 1) rc8)) = w14 at *
          have HRw := Lib.hid (show RowB w xs w14 w0.heap.size (.slice (some ⟨g, 0, none⟩) (feX xs).length nc) (xs.set i ((⟨nm, base, wes.map (·.1) ++ [⟨xo, xd, xc⟩]⟩, .slice ba bl bc, .slice ra8 (wl + 1) rc8), wes ++ [((⟨xo, xd, xc⟩, .slice da4 xl dc4) : Wr × Value)])) from ⟨by
              rw [HSfe.out, List.length_set]
              exact World.ownsRow.mono HRow2.out (by omega), by omega, fun W' hk hp q hq => by
            rcases HSmem.out _ q hq with h | h
            · exact hp q h
            · rw [h]
              have hpo := hp _ HMem.out
              refine ⟨hpo.1, ⟨own_rds (fun _ _ => rfl) (by decide) (show W'.ownsRow w0.heap.size 94 3 (.slice ra8 (wl + 1) rc8) (wes ++ [((⟨xo, xd, xc⟩, .slice da4 xl dc4) : Wr × Value)]).length ((wes ++ [((⟨xo, xd, xc⟩, .slice da4 xl dc4) : Wr × Value)]).flatMap wrC) by
                rw [List.length_append, Hwl.out, List.flatMap_append, List.flatMap_cons, List.flatMap_nil, List.append_nil]
                exact hk.own (World.ownsRow.mono HP14.out (by omega)) (Nat.le_refl _)), fun p hp' => ?_⟩, by rw [List.map_append]; rfl⟩
              rcases List.mem_append.1 hp' with hp' | hp'
              · exact hpo.2.1.dat p hp'
              · rw [List.mem_singleton.1 hp']; exact own_rdl (hk.own (World.ownsRow.mono HD14.out (by omega)) (Nat.le_refl _))⟩)
          have x0 := X14.out.c0
          have x1 := X14.out.c1
          have x2 := X14.out.c2
          clear HRow2 HD14 HP14
          generalize (feX xs).length = fl9 at *
          have r0 := R.out.c0
          have r1 := R.out.c1
          have r2 := R.out.c2
          have rf := R.out.f
          have HRz := Lib.hid (RowR.set3 (b := w.heap.size + 2) HRw.out (by omega) (.int .i64 c) (.int .i64 nl) (.slice (some ⟨g, 0, none⟩) fl9 nc))
          go_wp2_with fail
          exact bodyPost_ret (v := .tuple #[diskVal c nl (.slice (some ⟨g, 0, none⟩) fl9 nc), .int .i64 0]) (by simp [results, Tryd.results95, go_sem, r0, r1, r2]) rfl ⟨⟨_, _, by rw [HE.out]; first | done | rfl, by rw [HE.out]; exact (by rw [HSet.out]), HRz.out⟩, HB14.out.all3 (by omega) _ _ _⟩
      · have k1 : decide (0 < c) = false := decide_eq_false hc0
        have HE := Lib.hid (HE3.out hbig (fun h => hc0 h.1))
        have e0 := cell_by x0
        have e1 := cell_by x1
        have e2 := cell_by x2
        clear x0 x1 x2
        refine wp_region_below (by kernel_rfl) (by kernel_rfl) ?_
        repeat (go_big_quiet_step ((with_reducible exact calls_by (HT2.out _ (BelowBy.h _)))))
        refine wpQuiet_nil ?_
        intro _ hw'
        obtain ⟨u, hw'⟩ := hw'
        subst hw'
        have X := Lib.hid (X10.out.below u.h)
        have R := Lib.hid (R10.out.below u.h)
        have F := Lib.hid (F10.out.below u.h)
        have HB := Lib.hid (bstep HB10.out u.h)
        have HDn := Lib.hid (own_keep HD10.out u.h)
        have HPn := Lib.hid (own_keep HP10.out u.h)
        have hwn := Nat.le_trans hw10 u.h.size
        generalize u.w' = w11 at *
        clear e0 e1 e2 u k1 X10 R10 F10 HB10 HD10 HP10 HT2 HTot
        go_upto_region 10 with fail
        have x0 := X.out.c0
        have x1 := X.out.c1
        have x2 := X.out.c2
        have xf := X.out.f
        go_wp2_with fail
        refine (HNx.out _ HB.out).mono ?_
        rintro e w12 ⟨v12, rfl, ho12, hb12⟩
        obtain ⟨na, nc, e12, _⟩ := own_form ho12
        subst e12
        have X12 := Lib.hid (X.out.below hb12)
        have HRow := Lib.hid (own_all3 ho12 (show w.heap.size < w11.heap.size by omega) (.int .i64 c) (.int .i64 nl) (.slice na (feX xs).length nc))
        have X13 := Lib.hid (X12.out.all c nl (.slice na (feX xs).length nc))
        have R13 := Lib.hid ((((R.out.below hb12).set_ne (p := ⟨w.heap.size, 0, none⟩) (by dsimp only; omega) (.int .i64 c)).set_ne (p := ⟨w.heap.size, 1, none⟩) (by dsimp only; omega) (.int .i64 nl)).set_ne (p := ⟨w.heap.size, 2, none⟩) (by dsimp only; omega) (.slice na (feX xs).length nc))
        have F13 := Lib.hid ((((F.out.below hb12).set_ne (p := ⟨w.heap.size, 0, none⟩) (by dsimp only; omega) (.int .i64 c)).set_ne (p := ⟨w.heap.size, 1, none⟩) (by dsimp only; omega) (.int .i64 nl)).set_ne (p := ⟨w.heap.size, 2, none⟩) (by dsimp only; omega) (.slice na (feX xs).length nc))
        have HB13 := Lib.hid ((bstep HB.out hb12).all3 (b := w.heap.size) (Nat.le_refl _) (.int .i64 c) (.int .i64 nl) (.slice na (feX xs).length nc))
        have HD13 := Lib.hid (own_all3 (own_keep HDn.out hb12) (show w.heap.size < w2.heap.size by omega) (.int .i64 c) (.int .i64 nl) (.slice na (feX xs).length nc))
        have HP13 := Lib.hid (own_all3 (own_keep HPn.out hb12) (show w.heap.size < w5.heap.size by omega) (.int .i64 c) (.int .i64 nl) (.slice na (feX xs).length nc))
        have hw13 : w0.heap.size + 1 ≤ w11.heap.size := by omega
        clear ho12 hb12 x0 x1 x2 xf X R F HB HDn HPn HNx
        have x0 := X12.out.c0
        have x1 := X12.out.c1
        have x2 := X12.out.c2
        have xf := X12.out.f
        go_upto_region 11 with fail
        clear x0 x1 x2 xf X12
        generalize (((w12.setCell ⟨w.heap.size, 0, none⟩ (.int .i64 c)).setCell ⟨w.heap.size, 1, none⟩ (.int .i64 nl)).setCell ⟨w.heap.size, 2, none⟩ (.slice na (feX xs).length nc)) = w13 at *
        have j2 : (i : Int) < ((feX xs).length : Int) := by omega
        obtain ⟨g, rfl, hgB, hgl⟩ := own_some HRow.out (by omega)
        have x2 := X13.out.c2
        have f0 := F13.out.c0
        have f1 := F13.out.c1
        have f2 := F13.out.c2
        have gf : ∀ j, w13.frozen? ⟨g, j, none⟩ = false := fun j => own_frozen HRow.out j
        have hS : RdS 3 filC w13 _ (feX xs) := own_rds (fun _ _ => rfl) (by decide) HRow.out
        obtain ⟨_, _, eS, _, _, _, hcS⟩ := hS.shape (by decide) fe0
        injection eS with eS1 eS2 eS3
        obtain ⟨bS, oS, eS4, hcS⟩ := hcS (by omega)
        rw [← eS1] at eS4
        injection eS4 with eS4
        injection eS4 with eS5 eS6
        subst eS5 eS6
        have gc := hcS i hfe
        simp only [Nat.zero_add] at gc
        have g0 := gc 0 _ rfl
        have g1 := gc 1 _ rfl
        have g2 := gc 2 _ rfl
        rw [Nat.add_zero] at g0
        clear hS hcS gc eS1 eS2 eS3
        have HRow2 := Lib.hid (own_put3 HRow.out hfe (⟨nm, base, wes.map (·.1) ++ [⟨xo, xd, xc⟩]⟩, .slice ba bl bc, .slice ra8 (wl + 1) rc8))
        dsimp only at HRow2
        rw [Hnm.out] at HRow2
        have hn4 : (Value.slice da4 xl dc4).ownBlock ≠ some g := by
          rcases own_ne HD13.out HRow.out (by decide) with e | e
          · rw [e]; simp
          · exact e
        have hn7 : (Value.slice ra8 (wl + 1) rc8).ownBlock ≠ some g := by
          rcases own_ne HP13.out HRow.out (by decide) with e | e
          · rw [e]; simp
          · exact e
        have HD14 := Lib.hid (own_set_ne (p := ⟨g, i * 3 + 2, none⟩) (own_set_ne (p := ⟨g, i * 3 + 1, none⟩) (own_set_ne (p := ⟨g, i * 3, none⟩) HD13.out hn4 (.string snm)) hn4 (.slice ba bl bc)) hn4 (.slice ra8 (wl + 1) rc8))
        have HP14 := Lib.hid (own_set_ne (p := ⟨g, i * 3 + 2, none⟩) (own_set_ne (p := ⟨g, i * 3 + 1, none⟩) (own_set_ne (p := ⟨g, i * 3, none⟩) HP13.out hn7 (.string snm)) hn7 (.slice ba bl bc)) hn7 (.slice ra8 (wl + 1) rc8))
        have X14 := Lib.hid (((X13.out.set_ne (p := ⟨g, i * 3, none⟩) (by dsimp only; omega) (.string snm)).set_ne (p := ⟨g, i * 3 + 1, none⟩) (by dsimp only; omega) (.slice ba bl bc)).set_ne (p := ⟨g, i * 3 + 2, none⟩) (by dsimp only; omega) (.slice ra8 (wl + 1) rc8))
        have R := Lib.hid (((R13.out.set_ne (p := ⟨g, i * 3, none⟩) (by dsimp only; omega) (.string snm)).set_ne (p := ⟨g, i * 3 + 1, none⟩) (by dsimp only; omega) (.slice ba bl bc)).set_ne (p := ⟨g, i * 3 + 2, none⟩) (by dsimp only; omega) (.slice ra8 (wl + 1) rc8))
        have HB14 := Lib.hid (((HB13.out.setCell (p := ⟨g, i * 3, none⟩) (show w.heap.size ≤ g by omega) (.string snm)).setCell (p := ⟨g, i * 3 + 1, none⟩) (show w.heap.size ≤ g by omega) (.slice ba bl bc)).setCell (p := ⟨g, i * 3 + 2, none⟩) (show w.heap.size ≤ g by omega) (.slice ra8 (wl + 1) rc8))
        clear hn4 hn7 X13 R13 F13 HB13 HD13 HP13
        go_upto_region 12 with fail
        clear x2 f0 f1 f2 gf g0 g1 g2 HRow
        generalize (((w13.setCell ⟨g, i * 3, none⟩ (.string snm)).setCell ⟨g, i * 3 + 1, none⟩ (.slice ba bl bc)).setCell ⟨g, i * 3 + 2, none⟩ (.slice ra8 (wl + 1) rc8)) = w14 at *
        have HRw := Lib.hid (show RowB w xs w14 w0.heap.size (.slice (some ⟨g, 0, none⟩) (feX xs).length nc) (xs.set i ((⟨nm, base, wes.map (·.1) ++ [⟨xo, xd, xc⟩]⟩, .slice ba bl bc, .slice ra8 (wl + 1) rc8), wes ++ [((⟨xo, xd, xc⟩, .slice da4 xl dc4) : Wr × Value)])) from ⟨by
            rw [HSfe.out, List.length_set]
            exact World.ownsRow.mono HRow2.out (by omega), by omega, fun W' hk hp q hq => by
          rcases HSmem.out _ q hq with h | h
          · exact hp q h
          · rw [h]
            have hpo := hp _ HMem.out
            refine ⟨hpo.1, ⟨own_rds (fun _ _ => rfl) (by decide) (show W'.ownsRow w0.heap.size 94 3 (.slice ra8 (wl + 1) rc8) (wes ++ [((⟨xo, xd, xc⟩, .slice da4 xl dc4) : Wr × Value)]).length ((wes ++ [((⟨xo, xd, xc⟩, .slice da4 xl dc4) : Wr × Value)]).flatMap wrC) by
              rw [List.length_append, Hwl.out, List.flatMap_append, List.flatMap_cons, List.flatMap_nil, List.append_nil]
              exact hk.own (World.ownsRow.mono HP14.out (by omega)) (Nat.le_refl _)), fun p hp' => ?_⟩, by rw [List.map_append]; rfl⟩
            rcases List.mem_append.1 hp' with hp' | hp'
            · exact hpo.2.1.dat p hp'
            · rw [List.mem_singleton.1 hp']; exact own_rdl (hk.own (World.ownsRow.mono HD14.out (by omega)) (Nat.le_refl _))⟩)
        have x0 := X14.out.c0
        have x1 := X14.out.c1
        have x2 := X14.out.c2
        clear HRow2 HD14 HP14
        generalize (feX xs).length = fl9 at *
        have r0 := R.out.c0
        have r1 := R.out.c1
        have r2 := R.out.c2
        have rf := R.out.f
        have HRz := Lib.hid (RowR.set3 (b := w.heap.size + 2) HRw.out (by omega) (.int .i64 c) (.int .i64 nl) (.slice (some ⟨g, 0, none⟩) fl9 nc))
        go_wp2_with fail
        exact bodyPost_ret (v := .tuple #[diskVal c nl (.slice (some ⟨g, 0, none⟩) fl9 nc), .int .i64 0]) (by simp [results, Tryd.results95, go_sem, r0, r1, r2]) rfl ⟨⟨_, _, by rw [HE.out]; first | done | rfl, by rw [HE.out]; exact (by rw [HSet.out]), HRz.out⟩, HB14.out.all3 (by omega) _ _ _⟩
end Go.Proofs.YtkabcpmnbjllcaaDoor
