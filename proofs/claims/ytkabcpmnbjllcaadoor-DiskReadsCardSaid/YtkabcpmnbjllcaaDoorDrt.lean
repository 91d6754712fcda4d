/- want of the law: the walk. Printed by mkDrt.py. -/
import Derived.Test.YtkabcpmnbjllcaaDoorKG
import Derived.Test.YtkabcpmnbjllcaaDoorDki
namespace Go.Proofs.YtkabcpmnbjllcaaDoor
open Go.RowKit

set_option maxRecDepth 100000 in
set_option maxHeartbeats 6400000 in
theorem want_any (d : Dk) (o : Opr) (fv dv kv : Value) (xs : List FX) (w : World) (hr : RdS 3 filC w fv (feX xs)) (hx : PartsX w xs) (hes : filX xs = d.files) (hL : LiteD d) (hpe : ∀ f ∈ d.files, f.pend.length ≤ 4999) (hd : RdB w dv o.data) (hk : RdK w kv o.keep) (hO : LiteO o) (hof : I64 o.off) :
    Calls Tryd.prog 45 #[diskVal d.cap d.left fv, opVal o dv kv] w (RefOp w xs (changeD d o)) := by
  have h := rdFE_x hr hx
  have hF : RdF w fv d.files := ⟨feX xs, by rw [feX_fst, hes], h⟩
  obtain ⟨a, cap, rfl, h1, h2, _⟩ := hF.shape
  clear h hF
  obtain ⟨da, dc, rfl, _⟩ := hd.shape0
  obtain ⟨ka, kc, rfl, _⟩ := hk.shape
  obtain ⟨r, q, e1, r1, r2, e2, e3, hqk, q1, q2⟩ := kind_mod hO.kind
  have hqs : q = 0 ∨ q = 1 ∨ q = 2 ∨ q = 3 ∨ q = 4 ∨ q = 5 ∨ q = 6 ∨ q = 7 ∨ q = 8 ∨ q = 9 := by omega
  rcases hqs with hq | hq | hq | hq | hq | hq | hq | hq | hq | hq
  · rw [hqk] at hq
    have hE : changeD d o = createD d o.name := by unfold changeD; dsimp only; rw [if_pos hq]
    have HOp := Lib.hid (fun W (hW : Below w.heap.size w W) => show Calls Tryd.prog 67 #[diskVal d.cap d.left (.slice a d.files.length cap), .string (strB o.name)] W (RefOp W xs (changeD d o)) by rw [hE]; exact rcreate_any d o.name _ xs W (RdS.below hr hW) (hx.below hW) hes hL hO.name)
    rw [← hqk] at hq
    subst hq
    clear hE hr hx hes hpe hL hd hk hO hof hqk q1 q2
    generalize changeD d o = RS at *
    generalize d.files.length = n at *
    generalize o.data.length = dl at *
    generalize o.keep.length = kl at *
    obtain ⟨c, lf, fl⟩ := d
    obtain ⟨kd, nm, nt, off, data, keep⟩ := o
    dsimp only [opVal, diskVal] at *
    generalize hsn : strB nm = snm at *
    generalize hst : strB nt = sto at *
    clear hsn hst
    have HA1 := (Below.refl w.heap.size w).alloc (Nat.le_refl _) (.cells #[.int .i64 c, .int .i64 lf, .slice a n cap] 24)
    have HX1 := BoxD.new w c lf (.slice a n cap) 24
    have HZ1 := size_alloc w (.cells #[.int .i64 c, .int .i64 lf, .slice a n cap] 24)
    generalize hW1 : w.alloc (.cells #[.int .i64 c, .int .i64 lf, .slice a n cap] 24) = W1 at *
    have HA2 := (Below.refl W1.heap.size W1).alloc (Nat.le_refl _) (.cells #[.int .i64 kd, .string snm, .string sto, .int .i64 off, .slice da dl dc, .slice ka kl kc] 85)
    have HO2 := BoxO.newK HZ1 kd snm sto off (.slice da dl dc) (.slice ka kl kc) 85
    have HZ2 := size_alloc W1 (.cells #[.int .i64 kd, .string snm, .string sto, .int .i64 off, .slice da dl dc, .slice ka kl kc] 85)
    generalize hW2 : W1.alloc (.cells #[.int .i64 kd, .string snm, .string sto, .int .i64 off, .slice da dl dc, .slice ka kl kc] 85) = W2 at *
    have HA3 := (Below.refl W2.heap.size W2).alloc (Nat.le_refl _) (.cells #[.int .i64 0, .int .i64 0, .slice none 0 0] 24)
    have HR3 := BoxD.newK (show W2.heap.size = w.heap.size + 2 by omega) 0 0 (.slice none 0 0) 24
    have X := Lib.hid ((HX1.below HA2).below HA3)
    have O := Lib.hid (HO2.below HA3)
    have R := Lib.hid HR3
    have HB0 := Lib.hid (bstep (bstep HA1 HA2) HA3)
    clear HA1 HA2 HA3 HX1 HO2 HR3 HZ1 HZ2
    subst hW2 hW1
    go_enter Tryd.func45, Tryd.ntmps45
    go_upto_region 1 with fail
    generalize ((w.alloc (.cells #[.int .i64 c, .int .i64 lf, .slice a n cap] 24)).alloc (.cells #[.int .i64 kd, .string snm, .string sto, .int .i64 off, .slice da dl dc, .slice ka kl kc] 85)).alloc (.cells #[.int .i64 0, .int .i64 0, .slice none 0 0] 24) = W0 at *
    have hRl := R.out.lt
    have x0 := X.out.c0
    have x1 := X.out.c1
    have x2 := X.out.c2
    have y0 := O.out.c0
    have y1 := O.out.c1
    have y2 := O.out.c2
    have y3 := O.out.c3
    have y4 := O.out.c4
    have y5 := O.out.c5
    go_wp2_with fail
    refine (HOp.out W0 HB0.out).mono ?_
    rintro e w1 ⟨⟨v, xs', rfl, hfs, hrow⟩, hb1⟩
    obtain ⟨va, vc, e9, _⟩ := own_form hrow.1
    subst e9
    have HB1 := Lib.hid (bstep HB0.out hb1)
    have R1 := Lib.hid (R.out.below hb1)
    have HRz := Lib.hid (RowR.set3 (b := w.heap.size + 2) (hrow.b (w := w) HB0.out.size) hRl (.int .i64 RS.1.cap) (.int .i64 RS.1.left) (.slice va (feX xs').length vc))
    have HFs := Lib.hid hfs
    clear hrow hfs hb1 x0 x1 x2 y0 y1 y2 y3 y4 y5 X O R
    have r0 := R1.out.c0
    have r1 := R1.out.c1
    have r2 := R1.out.c2
    have rf := R1.out.f
    generalize (feX xs').length = l3 at *
    obtain ⟨⟨rc, rl, rfs⟩, rE⟩ := RS
    dsimp only at *
    go_wp2_with fail
    exact bodyPost_ret (v := .tuple #[diskVal rc rl (.slice va l3 vc), .int .i64 rE]) (by simp [results, Tryd.results45, go_sem, r0, r1, r2]) rfl ⟨⟨_, _, rfl, HFs.out, HRz.out⟩, HB1.out.all3 (by omega) _ _ _⟩
  · rw [hqk] at hq
    have hE : changeD d o = appendD d o.name o.data := by unfold changeD; dsimp only; rw [if_neg (by omega)]; rw [if_pos (by omega)]
    have HOp := Lib.hid (fun W (hW : Below w.heap.size w W) => show Calls Tryd.prog 68 #[diskVal d.cap d.left (.slice a d.files.length cap), .string (strB o.name), .slice da o.data.length dc] W (RefOp W xs (changeD d o)) by rw [hE]; exact rappend_any d o.name o.data _ _ xs W (RdS.below hr hW) (hx.below hW) hes hL hO.name hpe (hd.below hW) hO.data)
    rw [← hqk] at hq
    subst hq
    clear hE hr hx hes hpe hL hd hk hO hof hqk q1 q2
    generalize changeD d o = RS at *
    generalize d.files.length = n at *
    generalize o.data.length = dl at *
    generalize o.keep.length = kl at *
    obtain ⟨c, lf, fl⟩ := d
    obtain ⟨kd, nm, nt, off, data, keep⟩ := o
    dsimp only [opVal, diskVal] at *
    generalize hsn : strB nm = snm at *
    generalize hst : strB nt = sto at *
    clear hsn hst
    have HA1 := (Below.refl w.heap.size w).alloc (Nat.le_refl _) (.cells #[.int .i64 c, .int .i64 lf, .slice a n cap] 24)
    have HX1 := BoxD.new w c lf (.slice a n cap) 24
    have HZ1 := size_alloc w (.cells #[.int .i64 c, .int .i64 lf, .slice a n cap] 24)
    generalize hW1 : w.alloc (.cells #[.int .i64 c, .int .i64 lf, .slice a n cap] 24) = W1 at *
    have HA2 := (Below.refl W1.heap.size W1).alloc (Nat.le_refl _) (.cells #[.int .i64 kd, .string snm, .string sto, .int .i64 off, .slice da dl dc, .slice ka kl kc] 85)
    have HO2 := BoxO.newK HZ1 kd snm sto off (.slice da dl dc) (.slice ka kl kc) 85
    have HZ2 := size_alloc W1 (.cells #[.int .i64 kd, .string snm, .string sto, .int .i64 off, .slice da dl dc, .slice ka kl kc] 85)
    generalize hW2 : W1.alloc (.cells #[.int .i64 kd, .string snm, .string sto, .int .i64 off, .slice da dl dc, .slice ka kl kc] 85) = W2 at *
    have HA3 := (Below.refl W2.heap.size W2).alloc (Nat.le_refl _) (.cells #[.int .i64 0, .int .i64 0, .slice none 0 0] 24)
    have HR3 := BoxD.newK (show W2.heap.size = w.heap.size + 2 by omega) 0 0 (.slice none 0 0) 24
    have X := Lib.hid ((HX1.below HA2).below HA3)
    have O := Lib.hid (HO2.below HA3)
    have R := Lib.hid HR3
    have HB0 := Lib.hid (bstep (bstep HA1 HA2) HA3)
    clear HA1 HA2 HA3 HX1 HO2 HR3 HZ1 HZ2
    subst hW2 hW1
    go_enter Tryd.func45, Tryd.ntmps45
    go_upto_region 1 with fail
    generalize ((w.alloc (.cells #[.int .i64 c, .int .i64 lf, .slice a n cap] 24)).alloc (.cells #[.int .i64 kd, .string snm, .string sto, .int .i64 off, .slice da dl dc, .slice ka kl kc] 85)).alloc (.cells #[.int .i64 0, .int .i64 0, .slice none 0 0] 24) = W0 at *
    have hRl := R.out.lt
    have x0 := X.out.c0
    have x1 := X.out.c1
    have x2 := X.out.c2
    have y0 := O.out.c0
    have y1 := O.out.c1
    have y2 := O.out.c2
    have y3 := O.out.c3
    have y4 := O.out.c4
    have y5 := O.out.c5
    go_wp2_with fail
    refine (HOp.out W0 HB0.out).mono ?_
    rintro e w1 ⟨⟨v, xs', rfl, hfs, hrow⟩, hb1⟩
    obtain ⟨va, vc, e9, _⟩ := own_form hrow.1
    subst e9
    have HB1 := Lib.hid (bstep HB0.out hb1)
    have R1 := Lib.hid (R.out.below hb1)
    have HRz := Lib.hid (RowR.set3 (b := w.heap.size + 2) (hrow.b (w := w) HB0.out.size) hRl (.int .i64 RS.1.cap) (.int .i64 RS.1.left) (.slice va (feX xs').length vc))
    have HFs := Lib.hid hfs
    clear hrow hfs hb1 x0 x1 x2 y0 y1 y2 y3 y4 y5 X O R
    have r0 := R1.out.c0
    have r1 := R1.out.c1
    have r2 := R1.out.c2
    have rf := R1.out.f
    generalize (feX xs').length = l3 at *
    obtain ⟨⟨rc, rl, rfs⟩, rE⟩ := RS
    dsimp only at *
    go_wp2_with fail
    exact bodyPost_ret (v := .tuple #[diskVal rc rl (.slice va l3 vc), .int .i64 rE]) (by simp [results, Tryd.results45, go_sem, r0, r1, r2]) rfl ⟨⟨_, _, rfl, HFs.out, HRz.out⟩, HB1.out.all3 (by omega) _ _ _⟩
  · rw [hqk] at hq
    have hE : changeD d o = appendD d o.name o.data := by unfold changeD; dsimp only; rw [if_neg (by omega)]; rw [if_pos (by omega)]
    have HOp := Lib.hid (fun W (hW : Below w.heap.size w W) => show Calls Tryd.prog 68 #[diskVal d.cap d.left (.slice a d.files.length cap), .string (strB o.name), .slice da o.data.length dc] W (RefOp W xs (changeD d o)) by rw [hE]; exact rappend_any d o.name o.data _ _ xs W (RdS.below hr hW) (hx.below hW) hes hL hO.name hpe (hd.below hW) hO.data)
    rw [← hqk] at hq
    subst hq
    clear hE hr hx hes hpe hL hd hk hO hof hqk q1 q2
    generalize changeD d o = RS at *
    generalize d.files.length = n at *
    generalize o.data.length = dl at *
    generalize o.keep.length = kl at *
    obtain ⟨c, lf, fl⟩ := d
    obtain ⟨kd, nm, nt, off, data, keep⟩ := o
    dsimp only [opVal, diskVal] at *
    generalize hsn : strB nm = snm at *
    generalize hst : strB nt = sto at *
    clear hsn hst
    have HA1 := (Below.refl w.heap.size w).alloc (Nat.le_refl _) (.cells #[.int .i64 c, .int .i64 lf, .slice a n cap] 24)
    have HX1 := BoxD.new w c lf (.slice a n cap) 24
    have HZ1 := size_alloc w (.cells #[.int .i64 c, .int .i64 lf, .slice a n cap] 24)
    generalize hW1 : w.alloc (.cells #[.int .i64 c, .int .i64 lf, .slice a n cap] 24) = W1 at *
    have HA2 := (Below.refl W1.heap.size W1).alloc (Nat.le_refl _) (.cells #[.int .i64 kd, .string snm, .string sto, .int .i64 off, .slice da dl dc, .slice ka kl kc] 85)
    have HO2 := BoxO.newK HZ1 kd snm sto off (.slice da dl dc) (.slice ka kl kc) 85
    have HZ2 := size_alloc W1 (.cells #[.int .i64 kd, .string snm, .string sto, .int .i64 off, .slice da dl dc, .slice ka kl kc] 85)
    generalize hW2 : W1.alloc (.cells #[.int .i64 kd, .string snm, .string sto, .int .i64 off, .slice da dl dc, .slice ka kl kc] 85) = W2 at *
    have HA3 := (Below.refl W2.heap.size W2).alloc (Nat.le_refl _) (.cells #[.int .i64 0, .int .i64 0, .slice none 0 0] 24)
    have HR3 := BoxD.newK (show W2.heap.size = w.heap.size + 2 by omega) 0 0 (.slice none 0 0) 24
    have X := Lib.hid ((HX1.below HA2).below HA3)
    have O := Lib.hid (HO2.below HA3)
    have R := Lib.hid HR3
    have HB0 := Lib.hid (bstep (bstep HA1 HA2) HA3)
    clear HA1 HA2 HA3 HX1 HO2 HR3 HZ1 HZ2
    subst hW2 hW1
    go_enter Tryd.func45, Tryd.ntmps45
    go_upto_region 1 with fail
    generalize ((w.alloc (.cells #[.int .i64 c, .int .i64 lf, .slice a n cap] 24)).alloc (.cells #[.int .i64 kd, .string snm, .string sto, .int .i64 off, .slice da dl dc, .slice ka kl kc] 85)).alloc (.cells #[.int .i64 0, .int .i64 0, .slice none 0 0] 24) = W0 at *
    have hRl := R.out.lt
    have x0 := X.out.c0
    have x1 := X.out.c1
    have x2 := X.out.c2
    have y0 := O.out.c0
    have y1 := O.out.c1
    have y2 := O.out.c2
    have y3 := O.out.c3
    have y4 := O.out.c4
    have y5 := O.out.c5
    go_wp2_with fail
    refine (HOp.out W0 HB0.out).mono ?_
    rintro e w1 ⟨⟨v, xs', rfl, hfs, hrow⟩, hb1⟩
    obtain ⟨va, vc, e9, _⟩ := own_form hrow.1
    subst e9
    have HB1 := Lib.hid (bstep HB0.out hb1)
    have R1 := Lib.hid (R.out.below hb1)
    have HRz := Lib.hid (RowR.set3 (b := w.heap.size + 2) (hrow.b (w := w) HB0.out.size) hRl (.int .i64 RS.1.cap) (.int .i64 RS.1.left) (.slice va (feX xs').length vc))
    have HFs := Lib.hid hfs
    clear hrow hfs hb1 x0 x1 x2 y0 y1 y2 y3 y4 y5 X O R
    have r0 := R1.out.c0
    have r1 := R1.out.c1
    have r2 := R1.out.c2
    have rf := R1.out.f
    generalize (feX xs').length = l3 at *
    obtain ⟨⟨rc, rl, rfs⟩, rE⟩ := RS
    dsimp only at *
    go_wp2_with fail
    exact bodyPost_ret (v := .tuple #[diskVal rc rl (.slice va l3 vc), .int .i64 rE]) (by simp [results, Tryd.results45, go_sem, r0, r1, r2]) rfl ⟨⟨_, _, rfl, HFs.out, HRz.out⟩, HB1.out.all3 (by omega) _ _ _⟩
  · rw [hqk] at hq
    have hE : changeD d o = putD d o.name o.off o.data := by unfold changeD; dsimp only; rw [if_neg (by omega)]; rw [if_neg (by omega)]; rw [if_pos hq]
    have HOp := Lib.hid (fun W (hW : Below w.heap.size w W) => show Calls Tryd.prog 69 #[diskVal d.cap d.left (.slice a d.files.length cap), .string (strB o.name), .int .i64 o.off, .slice da o.data.length dc] W (RefOp W xs (changeD d o)) by rw [hE]; exact rput_any d o.name o.off o.data _ _ xs W (RdS.below hr hW) (hx.below hW) hes hL hO.name hpe (hd.below hW) hO.data)
    rw [← hqk] at hq
    subst hq
    clear hE hr hx hes hpe hL hd hk hO hof hqk q1 q2
    generalize changeD d o = RS at *
    generalize d.files.length = n at *
    generalize o.data.length = dl at *
    generalize o.keep.length = kl at *
    obtain ⟨c, lf, fl⟩ := d
    obtain ⟨kd, nm, nt, off, data, keep⟩ := o
    dsimp only [opVal, diskVal] at *
    generalize hsn : strB nm = snm at *
    generalize hst : strB nt = sto at *
    clear hsn hst
    have HA1 := (Below.refl w.heap.size w).alloc (Nat.le_refl _) (.cells #[.int .i64 c, .int .i64 lf, .slice a n cap] 24)
    have HX1 := BoxD.new w c lf (.slice a n cap) 24
    have HZ1 := size_alloc w (.cells #[.int .i64 c, .int .i64 lf, .slice a n cap] 24)
    generalize hW1 : w.alloc (.cells #[.int .i64 c, .int .i64 lf, .slice a n cap] 24) = W1 at *
    have HA2 := (Below.refl W1.heap.size W1).alloc (Nat.le_refl _) (.cells #[.int .i64 kd, .string snm, .string sto, .int .i64 off, .slice da dl dc, .slice ka kl kc] 85)
    have HO2 := BoxO.newK HZ1 kd snm sto off (.slice da dl dc) (.slice ka kl kc) 85
    have HZ2 := size_alloc W1 (.cells #[.int .i64 kd, .string snm, .string sto, .int .i64 off, .slice da dl dc, .slice ka kl kc] 85)
    generalize hW2 : W1.alloc (.cells #[.int .i64 kd, .string snm, .string sto, .int .i64 off, .slice da dl dc, .slice ka kl kc] 85) = W2 at *
    have HA3 := (Below.refl W2.heap.size W2).alloc (Nat.le_refl _) (.cells #[.int .i64 0, .int .i64 0, .slice none 0 0] 24)
    have HR3 := BoxD.newK (show W2.heap.size = w.heap.size + 2 by omega) 0 0 (.slice none 0 0) 24
    have X := Lib.hid ((HX1.below HA2).below HA3)
    have O := Lib.hid (HO2.below HA3)
    have R := Lib.hid HR3
    have HB0 := Lib.hid (bstep (bstep HA1 HA2) HA3)
    clear HA1 HA2 HA3 HX1 HO2 HR3 HZ1 HZ2
    subst hW2 hW1
    go_enter Tryd.func45, Tryd.ntmps45
    go_upto_region 1 with fail
    generalize ((w.alloc (.cells #[.int .i64 c, .int .i64 lf, .slice a n cap] 24)).alloc (.cells #[.int .i64 kd, .string snm, .string sto, .int .i64 off, .slice da dl dc, .slice ka kl kc] 85)).alloc (.cells #[.int .i64 0, .int .i64 0, .slice none 0 0] 24) = W0 at *
    have hRl := R.out.lt
    have x0 := X.out.c0
    have x1 := X.out.c1
    have x2 := X.out.c2
    have y0 := O.out.c0
    have y1 := O.out.c1
    have y2 := O.out.c2
    have y3 := O.out.c3
    have y4 := O.out.c4
    have y5 := O.out.c5
    go_wp2_with fail
    refine (HOp.out W0 HB0.out).mono ?_
    rintro e w1 ⟨⟨v, xs', rfl, hfs, hrow⟩, hb1⟩
    obtain ⟨va, vc, e9, _⟩ := own_form hrow.1
    subst e9
    have HB1 := Lib.hid (bstep HB0.out hb1)
    have R1 := Lib.hid (R.out.below hb1)
    have HRz := Lib.hid (RowR.set3 (b := w.heap.size + 2) (hrow.b (w := w) HB0.out.size) hRl (.int .i64 RS.1.cap) (.int .i64 RS.1.left) (.slice va (feX xs').length vc))
    have HFs := Lib.hid hfs
    clear hrow hfs hb1 x0 x1 x2 y0 y1 y2 y3 y4 y5 X O R
    have r0 := R1.out.c0
    have r1 := R1.out.c1
    have r2 := R1.out.c2
    have rf := R1.out.f
    generalize (feX xs').length = l3 at *
    obtain ⟨⟨rc, rl, rfs⟩, rE⟩ := RS
    dsimp only at *
    go_wp2_with fail
    exact bodyPost_ret (v := .tuple #[diskVal rc rl (.slice va l3 vc), .int .i64 rE]) (by simp [results, Tryd.results45, go_sem, r0, r1, r2]) rfl ⟨⟨_, _, rfl, HFs.out, HRz.out⟩, HB1.out.all3 (by omega) _ _ _⟩
  · rw [hqk] at hq
    have hE : changeD d o = truncD d o.name o.off := by unfold changeD; dsimp only; rw [if_neg (by omega)]; rw [if_neg (by omega)]; rw [if_neg (by omega)]; rw [if_pos hq]
    have HOp := Lib.hid (fun W (hW : Below w.heap.size w W) => show Calls Tryd.prog 70 #[diskVal d.cap d.left (.slice a d.files.length cap), .string (strB o.name), .int .i64 o.off] W (RefOp W xs (changeD d o)) by rw [hE]; exact rtrunc_any d o.name o.off _ xs W (RdS.below hr hW) (hx.below hW) hes hL hO.name hpe)
    rw [← hqk] at hq
    subst hq
    clear hE hr hx hes hpe hL hd hk hO hof hqk q1 q2
    generalize changeD d o = RS at *
    generalize d.files.length = n at *
    generalize o.data.length = dl at *
    generalize o.keep.length = kl at *
    obtain ⟨c, lf, fl⟩ := d
    obtain ⟨kd, nm, nt, off, data, keep⟩ := o
    dsimp only [opVal, diskVal] at *
    generalize hsn : strB nm = snm at *
    generalize hst : strB nt = sto at *
    clear hsn hst
    have HA1 := (Below.refl w.heap.size w).alloc (Nat.le_refl _) (.cells #[.int .i64 c, .int .i64 lf, .slice a n cap] 24)
    have HX1 := BoxD.new w c lf (.slice a n cap) 24
    have HZ1 := size_alloc w (.cells #[.int .i64 c, .int .i64 lf, .slice a n cap] 24)
    generalize hW1 : w.alloc (.cells #[.int .i64 c, .int .i64 lf, .slice a n cap] 24) = W1 at *
    have HA2 := (Below.refl W1.heap.size W1).alloc (Nat.le_refl _) (.cells #[.int .i64 kd, .string snm, .string sto, .int .i64 off, .slice da dl dc, .slice ka kl kc] 85)
    have HO2 := BoxO.newK HZ1 kd snm sto off (.slice da dl dc) (.slice ka kl kc) 85
    have HZ2 := size_alloc W1 (.cells #[.int .i64 kd, .string snm, .string sto, .int .i64 off, .slice da dl dc, .slice ka kl kc] 85)
    generalize hW2 : W1.alloc (.cells #[.int .i64 kd, .string snm, .string sto, .int .i64 off, .slice da dl dc, .slice ka kl kc] 85) = W2 at *
    have HA3 := (Below.refl W2.heap.size W2).alloc (Nat.le_refl _) (.cells #[.int .i64 0, .int .i64 0, .slice none 0 0] 24)
    have HR3 := BoxD.newK (show W2.heap.size = w.heap.size + 2 by omega) 0 0 (.slice none 0 0) 24
    have X := Lib.hid ((HX1.below HA2).below HA3)
    have O := Lib.hid (HO2.below HA3)
    have R := Lib.hid HR3
    have HB0 := Lib.hid (bstep (bstep HA1 HA2) HA3)
    clear HA1 HA2 HA3 HX1 HO2 HR3 HZ1 HZ2
    subst hW2 hW1
    go_enter Tryd.func45, Tryd.ntmps45
    go_upto_region 1 with fail
    generalize ((w.alloc (.cells #[.int .i64 c, .int .i64 lf, .slice a n cap] 24)).alloc (.cells #[.int .i64 kd, .string snm, .string sto, .int .i64 off, .slice da dl dc, .slice ka kl kc] 85)).alloc (.cells #[.int .i64 0, .int .i64 0, .slice none 0 0] 24) = W0 at *
    have hRl := R.out.lt
    have x0 := X.out.c0
    have x1 := X.out.c1
    have x2 := X.out.c2
    have y0 := O.out.c0
    have y1 := O.out.c1
    have y2 := O.out.c2
    have y3 := O.out.c3
    have y4 := O.out.c4
    have y5 := O.out.c5
    go_wp2_with fail
    refine (HOp.out W0 HB0.out).mono ?_
    rintro e w1 ⟨⟨v, xs', rfl, hfs, hrow⟩, hb1⟩
    obtain ⟨va, vc, e9, _⟩ := own_form hrow.1
    subst e9
    have HB1 := Lib.hid (bstep HB0.out hb1)
    have R1 := Lib.hid (R.out.below hb1)
    have HRz := Lib.hid (RowR.set3 (b := w.heap.size + 2) (hrow.b (w := w) HB0.out.size) hRl (.int .i64 RS.1.cap) (.int .i64 RS.1.left) (.slice va (feX xs').length vc))
    have HFs := Lib.hid hfs
    clear hrow hfs hb1 x0 x1 x2 y0 y1 y2 y3 y4 y5 X O R
    have r0 := R1.out.c0
    have r1 := R1.out.c1
    have r2 := R1.out.c2
    have rf := R1.out.f
    generalize (feX xs').length = l3 at *
    obtain ⟨⟨rc, rl, rfs⟩, rE⟩ := RS
    dsimp only at *
    go_wp2_with fail
    exact bodyPost_ret (v := .tuple #[diskVal rc rl (.slice va l3 vc), .int .i64 rE]) (by simp [results, Tryd.results45, go_sem, r0, r1, r2]) rfl ⟨⟨_, _, rfl, HFs.out, HRz.out⟩, HB1.out.all3 (by omega) _ _ _⟩
  · rw [hqk] at hq
    have hE : changeD d o = syncD d o.name := by unfold changeD; dsimp only; rw [if_neg (by omega)]; rw [if_neg (by omega)]; rw [if_neg (by omega)]; rw [if_neg (by omega)]; rw [if_pos hq]
    have HOp := Lib.hid (fun W (hW : Below w.heap.size w W) => show Calls Tryd.prog 71 #[diskVal d.cap d.left (.slice a d.files.length cap), .string (strB o.name)] W (RefOp W xs (changeD d o)) by rw [hE]; exact rsync_any d o.name _ xs W (RdS.below hr hW) (hx.below hW) hes hL hO.name)
    rw [← hqk] at hq
    subst hq
    clear hE hr hx hes hpe hL hd hk hO hof hqk q1 q2
    generalize changeD d o = RS at *
    generalize d.files.length = n at *
    generalize o.data.length = dl at *
    generalize o.keep.length = kl at *
    obtain ⟨c, lf, fl⟩ := d
    obtain ⟨kd, nm, nt, off, data, keep⟩ := o
    dsimp only [opVal, diskVal] at *
    generalize hsn : strB nm = snm at *
    generalize hst : strB nt = sto at *
    clear hsn hst
    have HA1 := (Below.refl w.heap.size w).alloc (Nat.le_refl _) (.cells #[.int .i64 c, .int .i64 lf, .slice a n cap] 24)
    have HX1 := BoxD.new w c lf (.slice a n cap) 24
    have HZ1 := size_alloc w (.cells #[.int .i64 c, .int .i64 lf, .slice a n cap] 24)
    generalize hW1 : w.alloc (.cells #[.int .i64 c, .int .i64 lf, .slice a n cap] 24) = W1 at *
    have HA2 := (Below.refl W1.heap.size W1).alloc (Nat.le_refl _) (.cells #[.int .i64 kd, .string snm, .string sto, .int .i64 off, .slice da dl dc, .slice ka kl kc] 85)
    have HO2 := BoxO.newK HZ1 kd snm sto off (.slice da dl dc) (.slice ka kl kc) 85
    have HZ2 := size_alloc W1 (.cells #[.int .i64 kd, .string snm, .string sto, .int .i64 off, .slice da dl dc, .slice ka kl kc] 85)
    generalize hW2 : W1.alloc (.cells #[.int .i64 kd, .string snm, .string sto, .int .i64 off, .slice da dl dc, .slice ka kl kc] 85) = W2 at *
    have HA3 := (Below.refl W2.heap.size W2).alloc (Nat.le_refl _) (.cells #[.int .i64 0, .int .i64 0, .slice none 0 0] 24)
    have HR3 := BoxD.newK (show W2.heap.size = w.heap.size + 2 by omega) 0 0 (.slice none 0 0) 24
    have X := Lib.hid ((HX1.below HA2).below HA3)
    have O := Lib.hid (HO2.below HA3)
    have R := Lib.hid HR3
    have HB0 := Lib.hid (bstep (bstep HA1 HA2) HA3)
    clear HA1 HA2 HA3 HX1 HO2 HR3 HZ1 HZ2
    subst hW2 hW1
    go_enter Tryd.func45, Tryd.ntmps45
    go_upto_region 1 with fail
    generalize ((w.alloc (.cells #[.int .i64 c, .int .i64 lf, .slice a n cap] 24)).alloc (.cells #[.int .i64 kd, .string snm, .string sto, .int .i64 off, .slice da dl dc, .slice ka kl kc] 85)).alloc (.cells #[.int .i64 0, .int .i64 0, .slice none 0 0] 24) = W0 at *
    have hRl := R.out.lt
    have x0 := X.out.c0
    have x1 := X.out.c1
    have x2 := X.out.c2
    have y0 := O.out.c0
    have y1 := O.out.c1
    have y2 := O.out.c2
    have y3 := O.out.c3
    have y4 := O.out.c4
    have y5 := O.out.c5
    go_wp2_with fail
    refine (HOp.out W0 HB0.out).mono ?_
    rintro e w1 ⟨⟨v, xs', rfl, hfs, hrow⟩, hb1⟩
    obtain ⟨va, vc, e9, _⟩ := own_form hrow.1
    subst e9
    have HB1 := Lib.hid (bstep HB0.out hb1)
    have R1 := Lib.hid (R.out.below hb1)
    have HRz := Lib.hid (RowR.set3 (b := w.heap.size + 2) (hrow.b (w := w) HB0.out.size) hRl (.int .i64 RS.1.cap) (.int .i64 RS.1.left) (.slice va (feX xs').length vc))
    have HFs := Lib.hid hfs
    clear hrow hfs hb1 x0 x1 x2 y0 y1 y2 y3 y4 y5 X O R
    have r0 := R1.out.c0
    have r1 := R1.out.c1
    have r2 := R1.out.c2
    have rf := R1.out.f
    generalize (feX xs').length = l3 at *
    obtain ⟨⟨rc, rl, rfs⟩, rE⟩ := RS
    dsimp only at *
    go_wp2_with fail
    exact bodyPost_ret (v := .tuple #[diskVal rc rl (.slice va l3 vc), .int .i64 rE]) (by simp [results, Tryd.results45, go_sem, r0, r1, r2]) rfl ⟨⟨_, _, rfl, HFs.out, HRz.out⟩, HB1.out.all3 (by omega) _ _ _⟩
  · rw [hqk] at hq
    have hE : changeD d o = renameD d o.name o.to := by unfold changeD; dsimp only; rw [if_neg (by omega)]; rw [if_neg (by omega)]; rw [if_neg (by omega)]; rw [if_neg (by omega)]; rw [if_neg (by omega)]; rw [if_pos hq]
    have HOp := Lib.hid (fun W (hW : Below w.heap.size w W) => show Calls Tryd.prog 72 #[diskVal d.cap d.left (.slice a d.files.length cap), .string (strB o.name), .string (strB o.to)] W (RefOp W xs (changeD d o)) by rw [hE]; exact rrename_any d o.name o.to _ xs W (RdS.below hr hW) (hx.below hW) hes hL hO.name hO.nt)
    rw [← hqk] at hq
    subst hq
    clear hE hr hx hes hpe hL hd hk hO hof hqk q1 q2
    generalize changeD d o = RS at *
    generalize d.files.length = n at *
    generalize o.data.length = dl at *
    generalize o.keep.length = kl at *
    obtain ⟨c, lf, fl⟩ := d
    obtain ⟨kd, nm, nt, off, data, keep⟩ := o
    dsimp only [opVal, diskVal] at *
    generalize hsn : strB nm = snm at *
    generalize hst : strB nt = sto at *
    clear hsn hst
    have HA1 := (Below.refl w.heap.size w).alloc (Nat.le_refl _) (.cells #[.int .i64 c, .int .i64 lf, .slice a n cap] 24)
    have HX1 := BoxD.new w c lf (.slice a n cap) 24
    have HZ1 := size_alloc w (.cells #[.int .i64 c, .int .i64 lf, .slice a n cap] 24)
    generalize hW1 : w.alloc (.cells #[.int .i64 c, .int .i64 lf, .slice a n cap] 24) = W1 at *
    have HA2 := (Below.refl W1.heap.size W1).alloc (Nat.le_refl _) (.cells #[.int .i64 kd, .string snm, .string sto, .int .i64 off, .slice da dl dc, .slice ka kl kc] 85)
    have HO2 := BoxO.newK HZ1 kd snm sto off (.slice da dl dc) (.slice ka kl kc) 85
    have HZ2 := size_alloc W1 (.cells #[.int .i64 kd, .string snm, .string sto, .int .i64 off, .slice da dl dc, .slice ka kl kc] 85)
    generalize hW2 : W1.alloc (.cells #[.int .i64 kd, .string snm, .string sto, .int .i64 off, .slice da dl dc, .slice ka kl kc] 85) = W2 at *
    have HA3 := (Below.refl W2.heap.size W2).alloc (Nat.le_refl _) (.cells #[.int .i64 0, .int .i64 0, .slice none 0 0] 24)
    have HR3 := BoxD.newK (show W2.heap.size = w.heap.size + 2 by omega) 0 0 (.slice none 0 0) 24
    have X := Lib.hid ((HX1.below HA2).below HA3)
    have O := Lib.hid (HO2.below HA3)
    have R := Lib.hid HR3
    have HB0 := Lib.hid (bstep (bstep HA1 HA2) HA3)
    clear HA1 HA2 HA3 HX1 HO2 HR3 HZ1 HZ2
    subst hW2 hW1
    go_enter Tryd.func45, Tryd.ntmps45
    go_upto_region 1 with fail
    generalize ((w.alloc (.cells #[.int .i64 c, .int .i64 lf, .slice a n cap] 24)).alloc (.cells #[.int .i64 kd, .string snm, .string sto, .int .i64 off, .slice da dl dc, .slice ka kl kc] 85)).alloc (.cells #[.int .i64 0, .int .i64 0, .slice none 0 0] 24) = W0 at *
    have hRl := R.out.lt
    have x0 := X.out.c0
    have x1 := X.out.c1
    have x2 := X.out.c2
    have y0 := O.out.c0
    have y1 := O.out.c1
    have y2 := O.out.c2
    have y3 := O.out.c3
    have y4 := O.out.c4
    have y5 := O.out.c5
    go_wp2_with fail
    refine (HOp.out W0 HB0.out).mono ?_
    rintro e w1 ⟨⟨v, xs', rfl, hfs, hrow⟩, hb1⟩
    obtain ⟨va, vc, e9, _⟩ := own_form hrow.1
    subst e9
    have HB1 := Lib.hid (bstep HB0.out hb1)
    have R1 := Lib.hid (R.out.below hb1)
    have HRz := Lib.hid (RowR.set3 (b := w.heap.size + 2) (hrow.b (w := w) HB0.out.size) hRl (.int .i64 RS.1.cap) (.int .i64 RS.1.left) (.slice va (feX xs').length vc))
    have HFs := Lib.hid hfs
    clear hrow hfs hb1 x0 x1 x2 y0 y1 y2 y3 y4 y5 X O R
    have r0 := R1.out.c0
    have r1 := R1.out.c1
    have r2 := R1.out.c2
    have rf := R1.out.f
    generalize (feX xs').length = l3 at *
    obtain ⟨⟨rc, rl, rfs⟩, rE⟩ := RS
    dsimp only at *
    go_wp2_with fail
    exact bodyPost_ret (v := .tuple #[diskVal rc rl (.slice va l3 vc), .int .i64 rE]) (by simp [results, Tryd.results45, go_sem, r0, r1, r2]) rfl ⟨⟨_, _, rfl, HFs.out, HRz.out⟩, HB1.out.all3 (by omega) _ _ _⟩
  · rw [hqk] at hq
    have hE : changeD d o = removeD d o.name := by unfold changeD; dsimp only; rw [if_neg (by omega)]; rw [if_neg (by omega)]; rw [if_neg (by omega)]; rw [if_neg (by omega)]; rw [if_neg (by omega)]; rw [if_neg (by omega)]; rw [if_pos hq]
    have HOp := Lib.hid (fun W (hW : Below w.heap.size w W) => show Calls Tryd.prog 73 #[diskVal d.cap d.left (.slice a d.files.length cap), .string (strB o.name)] W (RefOp W xs (changeD d o)) by rw [hE]; exact rremove_any d o.name _ xs W (RdS.below hr hW) (hx.below hW) hes hL hO.name)
    rw [← hqk] at hq
    subst hq
    clear hE hr hx hes hpe hL hd hk hO hof hqk q1 q2
    generalize changeD d o = RS at *
    generalize d.files.length = n at *
    generalize o.data.length = dl at *
    generalize o.keep.length = kl at *
    obtain ⟨c, lf, fl⟩ := d
    obtain ⟨kd, nm, nt, off, data, keep⟩ := o
    dsimp only [opVal, diskVal] at *
    generalize hsn : strB nm = snm at *
    generalize hst : strB nt = sto at *
    clear hsn hst
    have HA1 := (Below.refl w.heap.size w).alloc (Nat.le_refl _) (.cells #[.int .i64 c, .int .i64 lf, .slice a n cap] 24)
    have HX1 := BoxD.new w c lf (.slice a n cap) 24
    have HZ1 := size_alloc w (.cells #[.int .i64 c, .int .i64 lf, .slice a n cap] 24)
    generalize hW1 : w.alloc (.cells #[.int .i64 c, .int .i64 lf, .slice a n cap] 24) = W1 at *
    have HA2 := (Below.refl W1.heap.size W1).alloc (Nat.le_refl _) (.cells #[.int .i64 kd, .string snm, .string sto, .int .i64 off, .slice da dl dc, .slice ka kl kc] 85)
    have HO2 := BoxO.newK HZ1 kd snm sto off (.slice da dl dc) (.slice ka kl kc) 85
    have HZ2 := size_alloc W1 (.cells #[.int .i64 kd, .string snm, .string sto, .int .i64 off, .slice da dl dc, .slice ka kl kc] 85)
    generalize hW2 : W1.alloc (.cells #[.int .i64 kd, .string snm, .string sto, .int .i64 off, .slice da dl dc, .slice ka kl kc] 85) = W2 at *
    have HA3 := (Below.refl W2.heap.size W2).alloc (Nat.le_refl _) (.cells #[.int .i64 0, .int .i64 0, .slice none 0 0] 24)
    have HR3 := BoxD.newK (show W2.heap.size = w.heap.size + 2 by omega) 0 0 (.slice none 0 0) 24
    have X := Lib.hid ((HX1.below HA2).below HA3)
    have O := Lib.hid (HO2.below HA3)
    have R := Lib.hid HR3
    have HB0 := Lib.hid (bstep (bstep HA1 HA2) HA3)
    clear HA1 HA2 HA3 HX1 HO2 HR3 HZ1 HZ2
    subst hW2 hW1
    go_enter Tryd.func45, Tryd.ntmps45
    go_upto_region 1 with fail
    generalize ((w.alloc (.cells #[.int .i64 c, .int .i64 lf, .slice a n cap] 24)).alloc (.cells #[.int .i64 kd, .string snm, .string sto, .int .i64 off, .slice da dl dc, .slice ka kl kc] 85)).alloc (.cells #[.int .i64 0, .int .i64 0, .slice none 0 0] 24) = W0 at *
    have hRl := R.out.lt
    have x0 := X.out.c0
    have x1 := X.out.c1
    have x2 := X.out.c2
    have y0 := O.out.c0
    have y1 := O.out.c1
    have y2 := O.out.c2
    have y3 := O.out.c3
    have y4 := O.out.c4
    have y5 := O.out.c5
    go_wp2_with fail
    refine (HOp.out W0 HB0.out).mono ?_
    rintro e w1 ⟨⟨v, xs', rfl, hfs, hrow⟩, hb1⟩
    obtain ⟨va, vc, e9, _⟩ := own_form hrow.1
    subst e9
    have HB1 := Lib.hid (bstep HB0.out hb1)
    have R1 := Lib.hid (R.out.below hb1)
    have HRz := Lib.hid (RowR.set3 (b := w.heap.size + 2) (hrow.b (w := w) HB0.out.size) hRl (.int .i64 RS.1.cap) (.int .i64 RS.1.left) (.slice va (feX xs').length vc))
    have HFs := Lib.hid hfs
    clear hrow hfs hb1 x0 x1 x2 y0 y1 y2 y3 y4 y5 X O R
    have r0 := R1.out.c0
    have r1 := R1.out.c1
    have r2 := R1.out.c2
    have rf := R1.out.f
    generalize (feX xs').length = l3 at *
    obtain ⟨⟨rc, rl, rfs⟩, rE⟩ := RS
    dsimp only at *
    go_wp2_with fail
    exact bodyPost_ret (v := .tuple #[diskVal rc rl (.slice va l3 vc), .int .i64 rE]) (by simp [results, Tryd.results45, go_sem, r0, r1, r2]) rfl ⟨⟨_, _, rfl, HFs.out, HRz.out⟩, HB1.out.all3 (by omega) _ _ _⟩
  · rw [hqk] at hq
    have hE : changeD d o = (crashD d o.keep, (0 : Int)) := by unfold changeD; dsimp only; rw [if_neg (by omega)]; rw [if_neg (by omega)]; rw [if_neg (by omega)]; rw [if_neg (by omega)]; rw [if_neg (by omega)]; rw [if_neg (by omega)]; rw [if_neg (by omega)]; rw [if_pos hq]
    have HOp := Lib.hid (fun W (hW : Below w.heap.size w W) => show Calls Tryd.prog 74 #[diskVal d.cap d.left (.slice a d.files.length cap), .slice ka o.keep.length kc] W (RefDk W xs (changeD d o).1) by rw [hE]; exact rcrash_any d o.keep _ _ xs W (RdS.below hr hW) (hx.below hW) hes hL (hk.below hW) (by have := hO.keep; omega))
    have HE2 := Lib.hid (show (changeD d o).2 = 0 by rw [hE])
    rw [← hqk] at hq
    subst hq
    clear hE hr hx hes hpe hL hd hk hO hof hqk q1 q2
    generalize changeD d o = RS at *
    generalize d.files.length = n at *
    generalize o.data.length = dl at *
    generalize o.keep.length = kl at *
    obtain ⟨c, lf, fl⟩ := d
    obtain ⟨kd, nm, nt, off, data, keep⟩ := o
    dsimp only [opVal, diskVal] at *
    generalize hsn : strB nm = snm at *
    generalize hst : strB nt = sto at *
    clear hsn hst
    have HA1 := (Below.refl w.heap.size w).alloc (Nat.le_refl _) (.cells #[.int .i64 c, .int .i64 lf, .slice a n cap] 24)
    have HX1 := BoxD.new w c lf (.slice a n cap) 24
    have HZ1 := size_alloc w (.cells #[.int .i64 c, .int .i64 lf, .slice a n cap] 24)
    generalize hW1 : w.alloc (.cells #[.int .i64 c, .int .i64 lf, .slice a n cap] 24) = W1 at *
    have HA2 := (Below.refl W1.heap.size W1).alloc (Nat.le_refl _) (.cells #[.int .i64 kd, .string snm, .string sto, .int .i64 off, .slice da dl dc, .slice ka kl kc] 85)
    have HO2 := BoxO.newK HZ1 kd snm sto off (.slice da dl dc) (.slice ka kl kc) 85
    have HZ2 := size_alloc W1 (.cells #[.int .i64 kd, .string snm, .string sto, .int .i64 off, .slice da dl dc, .slice ka kl kc] 85)
    generalize hW2 : W1.alloc (.cells #[.int .i64 kd, .string snm, .string sto, .int .i64 off, .slice da dl dc, .slice ka kl kc] 85) = W2 at *
    have HA3 := (Below.refl W2.heap.size W2).alloc (Nat.le_refl _) (.cells #[.int .i64 0, .int .i64 0, .slice none 0 0] 24)
    have HR3 := BoxD.newK (show W2.heap.size = w.heap.size + 2 by omega) 0 0 (.slice none 0 0) 24
    have X := Lib.hid ((HX1.below HA2).below HA3)
    have O := Lib.hid (HO2.below HA3)
    have R := Lib.hid HR3
    have HB0 := Lib.hid (bstep (bstep HA1 HA2) HA3)
    clear HA1 HA2 HA3 HX1 HO2 HR3 HZ1 HZ2
    subst hW2 hW1
    go_enter Tryd.func45, Tryd.ntmps45
    go_upto_region 1 with fail
    generalize ((w.alloc (.cells #[.int .i64 c, .int .i64 lf, .slice a n cap] 24)).alloc (.cells #[.int .i64 kd, .string snm, .string sto, .int .i64 off, .slice da dl dc, .slice ka kl kc] 85)).alloc (.cells #[.int .i64 0, .int .i64 0, .slice none 0 0] 24) = W0 at *
    have hRl := R.out.lt
    have x0 := X.out.c0
    have x1 := X.out.c1
    have x2 := X.out.c2
    have y0 := O.out.c0
    have y1 := O.out.c1
    have y2 := O.out.c2
    have y3 := O.out.c3
    have y4 := O.out.c4
    have y5 := O.out.c5
    go_wp2_with fail
    refine (HOp.out W0 HB0.out).mono ?_
    rintro e w1 ⟨⟨v, xs', rfl, hfs, hrow⟩, hb1⟩
    obtain ⟨va, vc, e9, _⟩ := own_form hrow.1
    subst e9
    have HB1 := Lib.hid (bstep HB0.out hb1)
    have R1 := Lib.hid (R.out.below hb1)
    have HRz := Lib.hid (RowR.set3 (b := w.heap.size + 2) (hrow.b (w := w) HB0.out.size) hRl (.int .i64 RS.1.cap) (.int .i64 RS.1.left) (.slice va (feX xs').length vc))
    have HFs := Lib.hid hfs
    clear hrow hfs hb1 x0 x1 x2 y0 y1 y2 y3 y4 y5 X O R
    have r0 := R1.out.c0
    have r1 := R1.out.c1
    have r2 := R1.out.c2
    have rf := R1.out.f
    generalize (feX xs').length = l3 at *
    obtain ⟨⟨rc, rl, rfs⟩, rE⟩ := RS
    dsimp only at *
    go_wp2_with fail
    exact bodyPost_ret (v := .tuple #[diskVal rc rl (.slice va l3 vc), .int .i64 0]) (by simp [results, Tryd.results45, go_sem, r0, r1, r2]) rfl ⟨⟨_, _, by rw [HE2.out], HFs.out, HRz.out⟩, HB1.out.all3 (by omega) _ _ _⟩
  · rw [hqk] at hq
    have hE : changeD d o = flipD d o.name o.off := by unfold changeD; dsimp only; rw [if_neg (by omega)]; rw [if_neg (by omega)]; rw [if_neg (by omega)]; rw [if_neg (by omega)]; rw [if_neg (by omega)]; rw [if_neg (by omega)]; rw [if_neg (by omega)]; rw [if_neg (by omega)]
    have HOp := Lib.hid (fun W (hW : Below w.heap.size w W) => show Calls Tryd.prog 75 #[diskVal d.cap d.left (.slice a d.files.length cap), .string (strB o.name), .int .i64 o.off] W (RefOp W xs (changeD d o)) by rw [hE]; exact rflip_any d o.name o.off _ xs W (RdS.below hr hW) (hx.below hW) hes hL hO.name hof)
    rw [← hqk] at hq
    subst hq
    clear hE hr hx hes hpe hL hd hk hO hof hqk q1 q2
    generalize changeD d o = RS at *
    generalize d.files.length = n at *
    generalize o.data.length = dl at *
    generalize o.keep.length = kl at *
    obtain ⟨c, lf, fl⟩ := d
    obtain ⟨kd, nm, nt, off, data, keep⟩ := o
    dsimp only [opVal, diskVal] at *
    generalize hsn : strB nm = snm at *
    generalize hst : strB nt = sto at *
    clear hsn hst
    have HA1 := (Below.refl w.heap.size w).alloc (Nat.le_refl _) (.cells #[.int .i64 c, .int .i64 lf, .slice a n cap] 24)
    have HX1 := BoxD.new w c lf (.slice a n cap) 24
    have HZ1 := size_alloc w (.cells #[.int .i64 c, .int .i64 lf, .slice a n cap] 24)
    generalize hW1 : w.alloc (.cells #[.int .i64 c, .int .i64 lf, .slice a n cap] 24) = W1 at *
    have HA2 := (Below.refl W1.heap.size W1).alloc (Nat.le_refl _) (.cells #[.int .i64 kd, .string snm, .string sto, .int .i64 off, .slice da dl dc, .slice ka kl kc] 85)
    have HO2 := BoxO.newK HZ1 kd snm sto off (.slice da dl dc) (.slice ka kl kc) 85
    have HZ2 := size_alloc W1 (.cells #[.int .i64 kd, .string snm, .string sto, .int .i64 off, .slice da dl dc, .slice ka kl kc] 85)
    generalize hW2 : W1.alloc (.cells #[.int .i64 kd, .string snm, .string sto, .int .i64 off, .slice da dl dc, .slice ka kl kc] 85) = W2 at *
    have HA3 := (Below.refl W2.heap.size W2).alloc (Nat.le_refl _) (.cells #[.int .i64 0, .int .i64 0, .slice none 0 0] 24)
    have HR3 := BoxD.newK (show W2.heap.size = w.heap.size + 2 by omega) 0 0 (.slice none 0 0) 24
    have X := Lib.hid ((HX1.below HA2).below HA3)
    have O := Lib.hid (HO2.below HA3)
    have R := Lib.hid HR3
    have HB0 := Lib.hid (bstep (bstep HA1 HA2) HA3)
    clear HA1 HA2 HA3 HX1 HO2 HR3 HZ1 HZ2
    subst hW2 hW1
    go_enter Tryd.func45, Tryd.ntmps45
    go_upto_region 1 with fail
    generalize ((w.alloc (.cells #[.int .i64 c, .int .i64 lf, .slice a n cap] 24)).alloc (.cells #[.int .i64 kd, .string snm, .string sto, .int .i64 off, .slice da dl dc, .slice ka kl kc] 85)).alloc (.cells #[.int .i64 0, .int .i64 0, .slice none 0 0] 24) = W0 at *
    have hRl := R.out.lt
    have x0 := X.out.c0
    have x1 := X.out.c1
    have x2 := X.out.c2
    have y0 := O.out.c0
    have y1 := O.out.c1
    have y2 := O.out.c2
    have y3 := O.out.c3
    have y4 := O.out.c4
    have y5 := O.out.c5
    go_wp2_with fail
    refine (HOp.out W0 HB0.out).mono ?_
    rintro e w1 ⟨⟨v, xs', rfl, hfs, hrow⟩, hb1⟩
    obtain ⟨va, vc, e9, _⟩ := own_form hrow.1
    subst e9
    have HB1 := Lib.hid (bstep HB0.out hb1)
    have R1 := Lib.hid (R.out.below hb1)
    have HRz := Lib.hid (RowR.set3 (b := w.heap.size + 2) (hrow.b (w := w) HB0.out.size) hRl (.int .i64 RS.1.cap) (.int .i64 RS.1.left) (.slice va (feX xs').length vc))
    have HFs := Lib.hid hfs
    clear hrow hfs hb1 x0 x1 x2 y0 y1 y2 y3 y4 y5 X O R
    have r0 := R1.out.c0
    have r1 := R1.out.c1
    have r2 := R1.out.c2
    have rf := R1.out.f
    generalize (feX xs').length = l3 at *
    obtain ⟨⟨rc, rl, rfs⟩, rE⟩ := RS
    dsimp only at *
    go_wp2_with fail
    exact bodyPost_ret (v := .tuple #[diskVal rc rl (.slice va l3 vc), .int .i64 rE]) (by simp [results, Tryd.results45, go_sem, r0, r1, r2]) rfl ⟨⟨_, _, rfl, HFs.out, HRz.out⟩, HB1.out.all3 (by omega) _ _ _⟩
end Go.Proofs.YtkabcpmnbjllcaaDoor
