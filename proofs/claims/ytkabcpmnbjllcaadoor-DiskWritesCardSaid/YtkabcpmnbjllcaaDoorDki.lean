/- change of the law: the walk. Printed by mkDki.py. -/
import Derived.Test.YtkabcpmnbjllcaaDoorDkh
import Derived.Test.YtkabcpmnbjllcaaDoorDkf
namespace Go.Proofs.YtkabcpmnbjllcaaDoor
open Go.RowKit

structure LiteO (o : Opr) : Prop where
  kind : I64 o.kind
  name : o.name.length ≤ 9223372036854775807
  nt : o.to.length ≤ 9223372036854775807
  data : o.data.length ≤ 2000000
  keep : o.keep.length ≤ 1000
theorem kind_mod {k : Int} (h : I64 k) : ∃ r q : Int, k.tmod 10 = r ∧ -9 ≤ r ∧ r ≤ 9 ∧ (r + 10).tmod 10 = q ∧ (r + 10) % 10 = q ∧ q = k % 10 ∧ 0 ≤ q ∧ q ≤ 9 := by
  refine ⟨k.tmod 10, k % 10, rfl, ?_, ?_, ?_, ?_, rfl, by omega, by omega⟩
  · have := Int.tmod_eq_emod (a := k) (b := 10); split at this <;> omega
  · have := Int.tmod_eq_emod (a := k) (b := 10); split at this <;> omega
  · have h1 := Int.tmod_eq_emod (a := k) (b := 10)
    rw [Int.tmod_eq_emod_of_nonneg (by split at h1 <;> omega)]
    split at h1 <;> omega
  · have h1 := Int.tmod_eq_emod (a := k) (b := 10)
    split at h1 <;> omega
theorem BoxD.newK {w : World} {k : Nat} (hk : w.heap.size = k) (c l : Int) (fv : Value) (t : TypeId) : BoxD (w.alloc (.cells #[.int .i64 c, .int .i64 l, fv] t)) k c l fv := by subst hk; exact BoxD.new w c l fv t
theorem BoxO.newK {w : World} {k : Nat} (hk : w.heap.size = k) (kd : Int) (nm nt : ByteArray) (off : Int) (dv kv : Value) (t : TypeId) : BoxO (w.alloc (.cells #[.int .i64 kd, .string nm, .string nt, .int .i64 off, dv, kv] t)) k kd nm nt off dv kv := by
  subst hk; exact ⟨by simp, by simp, by simp, by simp, by simp, by simp, fun i => by simp⟩
theorem size_alloc (w : World) (o : Obj) : (w.alloc o).heap.size = w.heap.size + 1 := by simp
/-- A slice of keeps. -/
def kpS (l : List Kp) : Sta := ⟨fun v w => RdK w v l, fun _ _ _ hb h => h.below hb⟩
set_option maxRecDepth 100000 in
set_option maxHeartbeats 6400000 in
theorem change_any (d : Dk) (o : Opr) (fv dv kv : Value) (w : World) (h : RdF w fv d.files) (hL : LiteD d) (hd : RdB w dv o.data) (hk : RdK w kv o.keep) (hO : LiteO o) :
    Calls Tryd.prog 44 #[diskVal d.cap d.left fv, opVal o dv kv] w (WrRes w.heap.size w (changeD d o)) := by
  obtain ⟨a, cap, rfl, h1, h2, _⟩ := h.shape
  obtain ⟨da, dc, rfl, _⟩ := hd.shape0
  obtain ⟨ka, kc, rfl, _⟩ := hk.shape
  obtain ⟨r, q, e1, r1, r2, e2, e3, hqk, q1, q2⟩ := kind_mod hO.kind
  have hqs : q = 0 ∨ q = 1 ∨ q = 2 ∨ q = 3 ∨ q = 4 ∨ q = 5 ∨ q = 6 ∨ q = 7 ∨ q = 8 ∨ q = 9 := by omega
  rcases hqs with hq | hq | hq | hq | hq | hq | hq | hq | hq | hq
  · rw [hqk] at hq
    have hE : changeD d o = createD d o.name := by unfold changeD; dsimp only; rw [if_pos hq]
    have HOp := Lib.hid (fun W (hW : Below w.heap.size w W) => show Calls Tryd.prog 27 #[diskVal d.cap d.left (.slice a d.files.length cap), .string (strB o.name)] W (WrRes W.heap.size W (changeD d o)) by rw [hE]; exact create_any d o.name _ W (h.below hW) hL hO.name)
    rw [← hqk] at hq
    subst hq
    clear hE h hL hd hk hO hqk q1 q2
    generalize changeD d o = RS at *
    generalize d.files.length = n at *
    generalize o.data.length = dl at *
    generalize o.keep.length = kl at *
    obtain ⟨c, lf, fl⟩ := d
    obtain ⟨kd, nm, nt, off, data, keep⟩ := o
    dsimp only [opVal, diskVal] at *
    generalize hsn : strB nm = snm at *
    generalize hst : strB nt = sto at *
    clear hsn hst
    have HA1 := (Below.refl w.heap.size w).alloc (Nat.le_refl _) (.cells #[.int .i64 c, .int .i64 lf, .slice a n cap] 33)
    have HX1 := BoxD.new w c lf (.slice a n cap) 33
    have HZ1 := size_alloc w (.cells #[.int .i64 c, .int .i64 lf, .slice a n cap] 33)
    generalize hW1 : w.alloc (.cells #[.int .i64 c, .int .i64 lf, .slice a n cap] 33) = W1 at *
    have HA2 := (Below.refl W1.heap.size W1).alloc (Nat.le_refl _) (.cells #[.int .i64 kd, .string snm, .string sto, .int .i64 off, .slice da dl dc, .slice ka kl kc] 85)
    have HO2 := BoxO.newK HZ1 kd snm sto off (.slice da dl dc) (.slice ka kl kc) 85
    have HZ2 := size_alloc W1 (.cells #[.int .i64 kd, .string snm, .string sto, .int .i64 off, .slice da dl dc, .slice ka kl kc] 85)
    generalize hW2 : W1.alloc (.cells #[.int .i64 kd, .string snm, .string sto, .int .i64 off, .slice da dl dc, .slice ka kl kc] 85) = W2 at *
    have HA3 := (Below.refl W2.heap.size W2).alloc (Nat.le_refl _) (.cells #[.int .i64 0, .int .i64 0, .slice none 0 0] 33)
    have HR3 := BoxD.newK (show W2.heap.size = w.heap.size + 2 by omega) 0 0 (.slice none 0 0) 33
    have X := Lib.hid ((HX1.below HA2).below HA3)
    have O := Lib.hid (HO2.below HA3)
    have R := Lib.hid HR3
    have HB0 := Lib.hid (bstep (bstep HA1 HA2) HA3)
    clear HA1 HA2 HA3 HX1 HO2 HR3 HZ1 HZ2
    subst hW2 hW1
    go_enter Tryd.func44, Tryd.ntmps44
    go_upto_region 1 with fail
    generalize ((w.alloc (.cells #[.int .i64 c, .int .i64 lf, .slice a n cap] 33)).alloc (.cells #[.int .i64 kd, .string snm, .string sto, .int .i64 off, .slice da dl dc, .slice ka kl kc] 85)).alloc (.cells #[.int .i64 0, .int .i64 0, .slice none 0 0] 33) = W0 at *
    have hRl := R.out.lt
    have x0 := X.out.c0
    have x1 := X.out.c1
    have x2 := X.out.c2
    have y0 := O.out.c0
    have y1 := O.out.c1
    have y2 := O.out.c2
    have y3 := O.out.c3
    have y4 := O.out.c4
    have y5 := O.out.c5
    go_wp2_with fail
    refine (HOp.out W0 HB0.out).mono ?_
    rintro e w1 ⟨⟨v, rfl, hs⟩, hb1⟩
    obtain ⟨va, vn, vc, rfl, _⟩ := hs.sl
    have HB1 := Lib.hid (bstep HB0.out hb1)
    have R1 := Lib.hid (R.out.below hb1)
    have HS := Lib.hid (hs.keep (KeepB.all3 hRl (.int .i64 RS.1.cap) (.int .i64 RS.1.left) (.slice va vn vc)) (show w.heap.size ≤ W0.heap.size from HB0.out.size))
    clear hs hb1 x0 x1 x2 y0 y1 y2 y3 y4 y5 X O R
    have r0 := R1.out.c0
    have r1 := R1.out.c1
    have r2 := R1.out.c2
    have rf := R1.out.f
    obtain ⟨⟨rc, rl, rfs⟩, rE⟩ := RS
    dsimp only at *
    go_wp2_with fail
    exact bodyPost_ret (v := .tuple #[diskVal rc rl (.slice va vn vc), .int .i64 rE]) (by simp [results, Tryd.results44, go_sem, r0, r1, r2]) rfl ⟨⟨_, rfl, HS.out⟩, HB1.out.all3 (by omega) _ _ _⟩
  · rw [hqk] at hq
    have hE : changeD d o = appendD d o.name o.data := by unfold changeD; dsimp only; rw [if_neg (by omega)]; rw [if_pos (by omega)]
    have HOp := Lib.hid (fun W (hW : Below w.heap.size w W) => show Calls Tryd.prog 28 #[diskVal d.cap d.left (.slice a d.files.length cap), .string (strB o.name), .slice da o.data.length dc] W (WrRes W.heap.size W (changeD d o)) by rw [hE]; exact append_any d o.name o.data _ _ W (h.below hW) hL hO.name (hd.below hW) hO.data)
    rw [← hqk] at hq
    subst hq
    clear hE h hL hd hk hO hqk q1 q2
    generalize changeD d o = RS at *
    generalize d.files.length = n at *
    generalize o.data.length = dl at *
    generalize o.keep.length = kl at *
    obtain ⟨c, lf, fl⟩ := d
    obtain ⟨kd, nm, nt, off, data, keep⟩ := o
    dsimp only [opVal, diskVal] at *
    generalize hsn : strB nm = snm at *
    generalize hst : strB nt = sto at *
    clear hsn hst
    have HA1 := (Below.refl w.heap.size w).alloc (Nat.le_refl _) (.cells #[.int .i64 c, .int .i64 lf, .slice a n cap] 33)
    have HX1 := BoxD.new w c lf (.slice a n cap) 33
    have HZ1 := size_alloc w (.cells #[.int .i64 c, .int .i64 lf, .slice a n cap] 33)
    generalize hW1 : w.alloc (.cells #[.int .i64 c, .int .i64 lf, .slice a n cap] 33) = W1 at *
    have HA2 := (Below.refl W1.heap.size W1).alloc (Nat.le_refl _) (.cells #[.int .i64 kd, .string snm, .string sto, .int .i64 off, .slice da dl dc, .slice ka kl kc] 85)
    have HO2 := BoxO.newK HZ1 kd snm sto off (.slice da dl dc) (.slice ka kl kc) 85
    have HZ2 := size_alloc W1 (.cells #[.int .i64 kd, .string snm, .string sto, .int .i64 off, .slice da dl dc, .slice ka kl kc] 85)
    generalize hW2 : W1.alloc (.cells #[.int .i64 kd, .string snm, .string sto, .int .i64 off, .slice da dl dc, .slice ka kl kc] 85) = W2 at *
    have HA3 := (Below.refl W2.heap.size W2).alloc (Nat.le_refl _) (.cells #[.int .i64 0, .int .i64 0, .slice none 0 0] 33)
    have HR3 := BoxD.newK (show W2.heap.size = w.heap.size + 2 by omega) 0 0 (.slice none 0 0) 33
    have X := Lib.hid ((HX1.below HA2).below HA3)
    have O := Lib.hid (HO2.below HA3)
    have R := Lib.hid HR3
    have HB0 := Lib.hid (bstep (bstep HA1 HA2) HA3)
    clear HA1 HA2 HA3 HX1 HO2 HR3 HZ1 HZ2
    subst hW2 hW1
    go_enter Tryd.func44, Tryd.ntmps44
    go_upto_region 1 with fail
    generalize ((w.alloc (.cells #[.int .i64 c, .int .i64 lf, .slice a n cap] 33)).alloc (.cells #[.int .i64 kd, .string snm, .string sto, .int .i64 off, .slice da dl dc, .slice ka kl kc] 85)).alloc (.cells #[.int .i64 0, .int .i64 0, .slice none 0 0] 33) = W0 at *
    have hRl := R.out.lt
    have x0 := X.out.c0
    have x1 := X.out.c1
    have x2 := X.out.c2
    have y0 := O.out.c0
    have y1 := O.out.c1
    have y2 := O.out.c2
    have y3 := O.out.c3
    have y4 := O.out.c4
    have y5 := O.out.c5
    go_wp2_with fail
    refine (HOp.out W0 HB0.out).mono ?_
    rintro e w1 ⟨⟨v, rfl, hs⟩, hb1⟩
    obtain ⟨va, vn, vc, rfl, _⟩ := hs.sl
    have HB1 := Lib.hid (bstep HB0.out hb1)
    have R1 := Lib.hid (R.out.below hb1)
    have HS := Lib.hid (hs.keep (KeepB.all3 hRl (.int .i64 RS.1.cap) (.int .i64 RS.1.left) (.slice va vn vc)) (show w.heap.size ≤ W0.heap.size from HB0.out.size))
    clear hs hb1 x0 x1 x2 y0 y1 y2 y3 y4 y5 X O R
    have r0 := R1.out.c0
    have r1 := R1.out.c1
    have r2 := R1.out.c2
    have rf := R1.out.f
    obtain ⟨⟨rc, rl, rfs⟩, rE⟩ := RS
    dsimp only at *
    go_wp2_with fail
    exact bodyPost_ret (v := .tuple #[diskVal rc rl (.slice va vn vc), .int .i64 rE]) (by simp [results, Tryd.results44, go_sem, r0, r1, r2]) rfl ⟨⟨_, rfl, HS.out⟩, HB1.out.all3 (by omega) _ _ _⟩
  · rw [hqk] at hq
    have hE : changeD d o = appendD d o.name o.data := by unfold changeD; dsimp only; rw [if_neg (by omega)]; rw [if_pos (by omega)]
    have HOp := Lib.hid (fun W (hW : Below w.heap.size w W) => show Calls Tryd.prog 28 #[diskVal d.cap d.left (.slice a d.files.length cap), .string (strB o.name), .slice da o.data.length dc] W (WrRes W.heap.size W (changeD d o)) by rw [hE]; exact append_any d o.name o.data _ _ W (h.below hW) hL hO.name (hd.below hW) hO.data)
    rw [← hqk] at hq
    subst hq
    clear hE h hL hd hk hO hqk q1 q2
    generalize changeD d o = RS at *
    generalize d.files.length = n at *
    generalize o.data.length = dl at *
    generalize o.keep.length = kl at *
    obtain ⟨c, lf, fl⟩ := d
    obtain ⟨kd, nm, nt, off, data, keep⟩ := o
    dsimp only [opVal, diskVal] at *
    generalize hsn : strB nm = snm at *
    generalize hst : strB nt = sto at *
    clear hsn hst
    have HA1 := (Below.refl w.heap.size w).alloc (Nat.le_refl _) (.cells #[.int .i64 c, .int .i64 lf, .slice a n cap] 33)
    have HX1 := BoxD.new w c lf (.slice a n cap) 33
    have HZ1 := size_alloc w (.cells #[.int .i64 c, .int .i64 lf, .slice a n cap] 33)
    generalize hW1 : w.alloc (.cells #[.int .i64 c, .int .i64 lf, .slice a n cap] 33) = W1 at *
    have HA2 := (Below.refl W1.heap.size W1).alloc (Nat.le_refl _) (.cells #[.int .i64 kd, .string snm, .string sto, .int .i64 off, .slice da dl dc, .slice ka kl kc] 85)
    have HO2 := BoxO.newK HZ1 kd snm sto off (.slice da dl dc) (.slice ka kl kc) 85
    have HZ2 := size_alloc W1 (.cells #[.int .i64 kd, .string snm, .string sto, .int .i64 off, .slice da dl dc, .slice ka kl kc] 85)
    generalize hW2 : W1.alloc (.cells #[.int .i64 kd, .string snm, .string sto, .int .i64 off, .slice da dl dc, .slice ka kl kc] 85) = W2 at *
    have HA3 := (Below.refl W2.heap.size W2).alloc (Nat.le_refl _) (.cells #[.int .i64 0, .int .i64 0, .slice none 0 0] 33)
    have HR3 := BoxD.newK (show W2.heap.size = w.heap.size + 2 by omega) 0 0 (.slice none 0 0) 33
    have X := Lib.hid ((HX1.below HA2).below HA3)
    have O := Lib.hid (HO2.below HA3)
    have R := Lib.hid HR3
    have HB0 := Lib.hid (bstep (bstep HA1 HA2) HA3)
    clear HA1 HA2 HA3 HX1 HO2 HR3 HZ1 HZ2
    subst hW2 hW1
    go_enter Tryd.func44, Tryd.ntmps44
    go_upto_region 1 with fail
    generalize ((w.alloc (.cells #[.int .i64 c, .int .i64 lf, .slice a n cap] 33)).alloc (.cells #[.int .i64 kd, .string snm, .string sto, .int .i64 off, .slice da dl dc, .slice ka kl kc] 85)).alloc (.cells #[.int .i64 0, .int .i64 0, .slice none 0 0] 33) = W0 at *
    have hRl := R.out.lt
    have x0 := X.out.c0
    have x1 := X.out.c1
    have x2 := X.out.c2
    have y0 := O.out.c0
    have y1 := O.out.c1
    have y2 := O.out.c2
    have y3 := O.out.c3
    have y4 := O.out.c4
    have y5 := O.out.c5
    go_wp2_with fail
    refine (HOp.out W0 HB0.out).mono ?_
    rintro e w1 ⟨⟨v, rfl, hs⟩, hb1⟩
    obtain ⟨va, vn, vc, rfl, _⟩ := hs.sl
    have HB1 := Lib.hid (bstep HB0.out hb1)
    have R1 := Lib.hid (R.out.below hb1)
    have HS := Lib.hid (hs.keep (KeepB.all3 hRl (.int .i64 RS.1.cap) (.int .i64 RS.1.left) (.slice va vn vc)) (show w.heap.size ≤ W0.heap.size from HB0.out.size))
    clear hs hb1 x0 x1 x2 y0 y1 y2 y3 y4 y5 X O R
    have r0 := R1.out.c0
    have r1 := R1.out.c1
    have r2 := R1.out.c2
    have rf := R1.out.f
    obtain ⟨⟨rc, rl, rfs⟩, rE⟩ := RS
    dsimp only at *
    go_wp2_with fail
    exact bodyPost_ret (v := .tuple #[diskVal rc rl (.slice va vn vc), .int .i64 rE]) (by simp [results, Tryd.results44, go_sem, r0, r1, r2]) rfl ⟨⟨_, rfl, HS.out⟩, HB1.out.all3 (by omega) _ _ _⟩
  · rw [hqk] at hq
    have hE : changeD d o = putD d o.name o.off o.data := by unfold changeD; dsimp only; rw [if_neg (by omega)]; rw [if_neg (by omega)]; rw [if_pos hq]
    have HOp := Lib.hid (fun W (hW : Below w.heap.size w W) => show Calls Tryd.prog 40 #[diskVal d.cap d.left (.slice a d.files.length cap), .string (strB o.name), .int .i64 o.off, .slice da o.data.length dc] W (WrRes W.heap.size W (changeD d o)) by rw [hE]; exact put_any d o.name o.data o.off _ _ W (h.below hW) hL hO.name (hd.below hW) hO.data)
    rw [← hqk] at hq
    subst hq
    clear hE h hL hd hk hO hqk q1 q2
    generalize changeD d o = RS at *
    generalize d.files.length = n at *
    generalize o.data.length = dl at *
    generalize o.keep.length = kl at *
    obtain ⟨c, lf, fl⟩ := d
    obtain ⟨kd, nm, nt, off, data, keep⟩ := o
    dsimp only [opVal, diskVal] at *
    generalize hsn : strB nm = snm at *
    generalize hst : strB nt = sto at *
    clear hsn hst
    have HA1 := (Below.refl w.heap.size w).alloc (Nat.le_refl _) (.cells #[.int .i64 c, .int .i64 lf, .slice a n cap] 33)
    have HX1 := BoxD.new w c lf (.slice a n cap) 33
    have HZ1 := size_alloc w (.cells #[.int .i64 c, .int .i64 lf, .slice a n cap] 33)
    generalize hW1 : w.alloc (.cells #[.int .i64 c, .int .i64 lf, .slice a n cap] 33) = W1 at *
    have HA2 := (Below.refl W1.heap.size W1).alloc (Nat.le_refl _) (.cells #[.int .i64 kd, .string snm, .string sto, .int .i64 off, .slice da dl dc, .slice ka kl kc] 85)
    have HO2 := BoxO.newK HZ1 kd snm sto off (.slice da dl dc) (.slice ka kl kc) 85
    have HZ2 := size_alloc W1 (.cells #[.int .i64 kd, .string snm, .string sto, .int .i64 off, .slice da dl dc, .slice ka kl kc] 85)
    generalize hW2 : W1.alloc (.cells #[.int .i64 kd, .string snm, .string sto, .int .i64 off, .slice da dl dc, .slice ka kl kc] 85) = W2 at *
    have HA3 := (Below.refl W2.heap.size W2).alloc (Nat.le_refl _) (.cells #[.int .i64 0, .int .i64 0, .slice none 0 0] 33)
    have HR3 := BoxD.newK (show W2.heap.size = w.heap.size + 2 by omega) 0 0 (.slice none 0 0) 33
    have X := Lib.hid ((HX1.below HA2).below HA3)
    have O := Lib.hid (HO2.below HA3)
    have R := Lib.hid HR3
    have HB0 := Lib.hid (bstep (bstep HA1 HA2) HA3)
    clear HA1 HA2 HA3 HX1 HO2 HR3 HZ1 HZ2
    subst hW2 hW1
    go_enter Tryd.func44, Tryd.ntmps44
    go_upto_region 1 with fail
    generalize ((w.alloc (.cells #[.int .i64 c, .int .i64 lf, .slice a n cap] 33)).alloc (.cells #[.int .i64 kd, .string snm, .string sto, .int .i64 off, .slice da dl dc, .slice ka kl kc] 85)).alloc (.cells #[.int .i64 0, .int .i64 0, .slice none 0 0] 33) = W0 at *
    have hRl := R.out.lt
    have x0 := X.out.c0
    have x1 := X.out.c1
    have x2 := X.out.c2
    have y0 := O.out.c0
    have y1 := O.out.c1
    have y2 := O.out.c2
    have y3 := O.out.c3
    have y4 := O.out.c4
    have y5 := O.out.c5
    go_wp2_with fail
    refine (HOp.out W0 HB0.out).mono ?_
    rintro e w1 ⟨⟨v, rfl, hs⟩, hb1⟩
    obtain ⟨va, vn, vc, rfl, _⟩ := hs.sl
    have HB1 := Lib.hid (bstep HB0.out hb1)
    have R1 := Lib.hid (R.out.below hb1)
    have HS := Lib.hid (hs.keep (KeepB.all3 hRl (.int .i64 RS.1.cap) (.int .i64 RS.1.left) (.slice va vn vc)) (show w.heap.size ≤ W0.heap.size from HB0.out.size))
    clear hs hb1 x0 x1 x2 y0 y1 y2 y3 y4 y5 X O R
    have r0 := R1.out.c0
    have r1 := R1.out.c1
    have r2 := R1.out.c2
    have rf := R1.out.f
    obtain ⟨⟨rc, rl, rfs⟩, rE⟩ := RS
    dsimp only at *
    go_wp2_with fail
    exact bodyPost_ret (v := .tuple #[diskVal rc rl (.slice va vn vc), .int .i64 rE]) (by simp [results, Tryd.results44, go_sem, r0, r1, r2]) rfl ⟨⟨_, rfl, HS.out⟩, HB1.out.all3 (by omega) _ _ _⟩
  · rw [hqk] at hq
    have hE : changeD d o = truncD d o.name o.off := by unfold changeD; dsimp only; rw [if_neg (by omega)]; rw [if_neg (by omega)]; rw [if_neg (by omega)]; rw [if_pos hq]
    have HOp := Lib.hid (fun W (hW : Below w.heap.size w W) => show Calls Tryd.prog 41 #[diskVal d.cap d.left (.slice a d.files.length cap), .string (strB o.name), .int .i64 o.off] W (WrRes W.heap.size W (changeD d o)) by rw [hE]; exact trunc_any d o.name o.off _ W (h.below hW) hL hO.name)
    rw [← hqk] at hq
    subst hq
    clear hE h hL hd hk hO hqk q1 q2
    generalize changeD d o = RS at *
    generalize d.files.length = n at *
    generalize o.data.length = dl at *
    generalize o.keep.length = kl at *
    obtain ⟨c, lf, fl⟩ := d
    obtain ⟨kd, nm, nt, off, data, keep⟩ := o
    dsimp only [opVal, diskVal] at *
    generalize hsn : strB nm = snm at *
    generalize hst : strB nt = sto at *
    clear hsn hst
    have HA1 := (Below.refl w.heap.size w).alloc (Nat.le_refl _) (.cells #[.int .i64 c, .int .i64 lf, .slice a n cap] 33)
    have HX1 := BoxD.new w c lf (.slice a n cap) 33
    have HZ1 := size_alloc w (.cells #[.int .i64 c, .int .i64 lf, .slice a n cap] 33)
    generalize hW1 : w.alloc (.cells #[.int .i64 c, .int .i64 lf, .slice a n cap] 33) = W1 at *
    have HA2 := (Below.refl W1.heap.size W1).alloc (Nat.le_refl _) (.cells #[.int .i64 kd, .string snm, .string sto, .int .i64 off, .slice da dl dc, .slice ka kl kc] 85)
    have HO2 := BoxO.newK HZ1 kd snm sto off (.slice da dl dc) (.slice ka kl kc) 85
    have HZ2 := size_alloc W1 (.cells #[.int .i64 kd, .string snm, .string sto, .int .i64 off, .slice da dl dc, .slice ka kl kc] 85)
    generalize hW2 : W1.alloc (.cells #[.int .i64 kd, .string snm, .string sto, .int .i64 off, .slice da dl dc, .slice ka kl kc] 85) = W2 at *
    have HA3 := (Below.refl W2.heap.size W2).alloc (Nat.le_refl _) (.cells #[.int .i64 0, .int .i64 0, .slice none 0 0] 33)
    have HR3 := BoxD.newK (show W2.heap.size = w.heap.size + 2 by omega) 0 0 (.slice none 0 0) 33
    have X := Lib.hid ((HX1.below HA2).below HA3)
    have O := Lib.hid (HO2.below HA3)
    have R := Lib.hid HR3
    have HB0 := Lib.hid (bstep (bstep HA1 HA2) HA3)
    clear HA1 HA2 HA3 HX1 HO2 HR3 HZ1 HZ2
    subst hW2 hW1
    go_enter Tryd.func44, Tryd.ntmps44
    go_upto_region 1 with fail
    generalize ((w.alloc (.cells #[.int .i64 c, .int .i64 lf, .slice a n cap] 33)).alloc (.cells #[.int .i64 kd, .string snm, .string sto, .int .i64 off, .slice da dl dc, .slice ka kl kc] 85)).alloc (.cells #[.int .i64 0, .int .i64 0, .slice none 0 0] 33) = W0 at *
    have hRl := R.out.lt
    have x0 := X.out.c0
    have x1 := X.out.c1
    have x2 := X.out.c2
    have y0 := O.out.c0
    have y1 := O.out.c1
    have y2 := O.out.c2
    have y3 := O.out.c3
    have y4 := O.out.c4
    have y5 := O.out.c5
    go_wp2_with fail
    refine (HOp.out W0 HB0.out).mono ?_
    rintro e w1 ⟨⟨v, rfl, hs⟩, hb1⟩
    obtain ⟨va, vn, vc, rfl, _⟩ := hs.sl
    have HB1 := Lib.hid (bstep HB0.out hb1)
    have R1 := Lib.hid (R.out.below hb1)
    have HS := Lib.hid (hs.keep (KeepB.all3 hRl (.int .i64 RS.1.cap) (.int .i64 RS.1.left) (.slice va vn vc)) (show w.heap.size ≤ W0.heap.size from HB0.out.size))
    clear hs hb1 x0 x1 x2 y0 y1 y2 y3 y4 y5 X O R
    have r0 := R1.out.c0
    have r1 := R1.out.c1
    have r2 := R1.out.c2
    have rf := R1.out.f
    obtain ⟨⟨rc, rl, rfs⟩, rE⟩ := RS
    dsimp only at *
    go_wp2_with fail
    exact bodyPost_ret (v := .tuple #[diskVal rc rl (.slice va vn vc), .int .i64 rE]) (by simp [results, Tryd.results44, go_sem, r0, r1, r2]) rfl ⟨⟨_, rfl, HS.out⟩, HB1.out.all3 (by omega) _ _ _⟩
  · rw [hqk] at hq
    have hE : changeD d o = syncD d o.name := by unfold changeD; dsimp only; rw [if_neg (by omega)]; rw [if_neg (by omega)]; rw [if_neg (by omega)]; rw [if_neg (by omega)]; rw [if_pos hq]
    have HOp := Lib.hid (fun W (hW : Below w.heap.size w W) => show Calls Tryd.prog 31 #[diskVal d.cap d.left (.slice a d.files.length cap), .string (strB o.name)] W (WrRes W.heap.size W (changeD d o)) by rw [hE]; exact sync_any d o.name _ W (h.below hW) hL hO.name)
    rw [← hqk] at hq
    subst hq
    clear hE h hL hd hk hO hqk q1 q2
    generalize changeD d o = RS at *
    generalize d.files.length = n at *
    generalize o.data.length = dl at *
    generalize o.keep.length = kl at *
    obtain ⟨c, lf, fl⟩ := d
    obtain ⟨kd, nm, nt, off, data, keep⟩ := o
    dsimp only [opVal, diskVal] at *
    generalize hsn : strB nm = snm at *
    generalize hst : strB nt = sto at *
    clear hsn hst
    have HA1 := (Below.refl w.heap.size w).alloc (Nat.le_refl _) (.cells #[.int .i64 c, .int .i64 lf, .slice a n cap] 33)
    have HX1 := BoxD.new w c lf (.slice a n cap) 33
    have HZ1 := size_alloc w (.cells #[.int .i64 c, .int .i64 lf, .slice a n cap] 33)
    generalize hW1 : w.alloc (.cells #[.int .i64 c, .int .i64 lf, .slice a n cap] 33) = W1 at *
    have HA2 := (Below.refl W1.heap.size W1).alloc (Nat.le_refl _) (.cells #[.int .i64 kd, .string snm, .string sto, .int .i64 off, .slice da dl dc, .slice ka kl kc] 85)
    have HO2 := BoxO.newK HZ1 kd snm sto off (.slice da dl dc) (.slice ka kl kc) 85
    have HZ2 := size_alloc W1 (.cells #[.int .i64 kd, .string snm, .string sto, .int .i64 off, .slice da dl dc, .slice ka kl kc] 85)
    generalize hW2 : W1.alloc (.cells #[.int .i64 kd, .string snm, .string sto, .int .i64 off, .slice da dl dc, .slice ka kl kc] 85) = W2 at *
    have HA3 := (Below.refl W2.heap.size W2).alloc (Nat.le_refl _) (.cells #[.int .i64 0, .int .i64 0, .slice none 0 0] 33)
    have HR3 := BoxD.newK (show W2.heap.size = w.heap.size + 2 by omega) 0 0 (.slice none 0 0) 33
    have X := Lib.hid ((HX1.below HA2).below HA3)
    have O := Lib.hid (HO2.below HA3)
    have R := Lib.hid HR3
    have HB0 := Lib.hid (bstep (bstep HA1 HA2) HA3)
    clear HA1 HA2 HA3 HX1 HO2 HR3 HZ1 HZ2
    subst hW2 hW1
    go_enter Tryd.func44, Tryd.ntmps44
    go_upto_region 1 with fail
    generalize ((w.alloc (.cells #[.int .i64 c, .int .i64 lf, .slice a n cap] 33)).alloc (.cells #[.int .i64 kd, .string snm, .string sto, .int .i64 off, .slice da dl dc, .slice ka kl kc] 85)).alloc (.cells #[.int .i64 0, .int .i64 0, .slice none 0 0] 33) = W0 at *
    have hRl := R.out.lt
    have x0 := X.out.c0
    have x1 := X.out.c1
    have x2 := X.out.c2
    have y0 := O.out.c0
    have y1 := O.out.c1
    have y2 := O.out.c2
    have y3 := O.out.c3
    have y4 := O.out.c4
    have y5 := O.out.c5
    go_wp2_with fail
    refine (HOp.out W0 HB0.out).mono ?_
    rintro e w1 ⟨⟨v, rfl, hs⟩, hb1⟩
    obtain ⟨va, vn, vc, rfl, _⟩ := hs.sl
    have HB1 := Lib.hid (bstep HB0.out hb1)
    have R1 := Lib.hid (R.out.below hb1)
    have HS := Lib.hid (hs.keep (KeepB.all3 hRl (.int .i64 RS.1.cap) (.int .i64 RS.1.left) (.slice va vn vc)) (show w.heap.size ≤ W0.heap.size from HB0.out.size))
    clear hs hb1 x0 x1 x2 y0 y1 y2 y3 y4 y5 X O R
    have r0 := R1.out.c0
    have r1 := R1.out.c1
    have r2 := R1.out.c2
    have rf := R1.out.f
    obtain ⟨⟨rc, rl, rfs⟩, rE⟩ := RS
    dsimp only at *
    go_wp2_with fail
    exact bodyPost_ret (v := .tuple #[diskVal rc rl (.slice va vn vc), .int .i64 rE]) (by simp [results, Tryd.results44, go_sem, r0, r1, r2]) rfl ⟨⟨_, rfl, HS.out⟩, HB1.out.all3 (by omega) _ _ _⟩
  · rw [hqk] at hq
    have hE : changeD d o = renameD d o.name o.to := by unfold changeD; dsimp only; rw [if_neg (by omega)]; rw [if_neg (by omega)]; rw [if_neg (by omega)]; rw [if_neg (by omega)]; rw [if_neg (by omega)]; rw [if_pos hq]
    have HOp := Lib.hid (fun W (hW : Below w.heap.size w W) => show Calls Tryd.prog 42 #[diskVal d.cap d.left (.slice a d.files.length cap), .string (strB o.name), .string (strB o.to)] W (WrRes W.heap.size W (changeD d o)) by rw [hE]; exact rename_any d o.name o.to _ W (h.below hW) hL hO.name hO.nt)
    rw [← hqk] at hq
    subst hq
    clear hE h hL hd hk hO hqk q1 q2
    generalize changeD d o = RS at *
    generalize d.files.length = n at *
    generalize o.data.length = dl at *
    generalize o.keep.length = kl at *
    obtain ⟨c, lf, fl⟩ := d
    obtain ⟨kd, nm, nt, off, data, keep⟩ := o
    dsimp only [opVal, diskVal] at *
    generalize hsn : strB nm = snm at *
    generalize hst : strB nt = sto at *
    clear hsn hst
    have HA1 := (Below.refl w.heap.size w).alloc (Nat.le_refl _) (.cells #[.int .i64 c, .int .i64 lf, .slice a n cap] 33)
    have HX1 := BoxD.new w c lf (.slice a n cap) 33
    have HZ1 := size_alloc w (.cells #[.int .i64 c, .int .i64 lf, .slice a n cap] 33)
    generalize hW1 : w.alloc (.cells #[.int .i64 c, .int .i64 lf, .slice a n cap] 33) = W1 at *
    have HA2 := (Below.refl W1.heap.size W1).alloc (Nat.le_refl _) (.cells #[.int .i64 kd, .string snm, .string sto, .int .i64 off, .slice da dl dc, .slice ka kl kc] 85)
    have HO2 := BoxO.newK HZ1 kd snm sto off (.slice da dl dc) (.slice ka kl kc) 85
    have HZ2 := size_alloc W1 (.cells #[.int .i64 kd, .string snm, .string sto, .int .i64 off, .slice da dl dc, .slice ka kl kc] 85)
    generalize hW2 : W1.alloc (.cells #[.int .i64 kd, .string snm, .string sto, .int .i64 off, .slice da dl dc, .slice ka kl kc] 85) = W2 at *
    have HA3 := (Below.refl W2.heap.size W2).alloc (Nat.le_refl _) (.cells #[.int .i64 0, .int .i64 0, .slice none 0 0] 33)
    have HR3 := BoxD.newK (show W2.heap.size = w.heap.size + 2 by omega) 0 0 (.slice none 0 0) 33
    have X := Lib.hid ((HX1.below HA2).below HA3)
    have O := Lib.hid (HO2.below HA3)
    have R := Lib.hid HR3
    have HB0 := Lib.hid (bstep (bstep HA1 HA2) HA3)
    clear HA1 HA2 HA3 HX1 HO2 HR3 HZ1 HZ2
    subst hW2 hW1
    go_enter Tryd.func44, Tryd.ntmps44
    go_upto_region 1 with fail
    generalize ((w.alloc (.cells #[.int .i64 c, .int .i64 lf, .slice a n cap] 33)).alloc (.cells #[.int .i64 kd, .string snm, .string sto, .int .i64 off, .slice da dl dc, .slice ka kl kc] 85)).alloc (.cells #[.int .i64 0, .int .i64 0, .slice none 0 0] 33) = W0 at *
    have hRl := R.out.lt
    have x0 := X.out.c0
    have x1 := X.out.c1
    have x2 := X.out.c2
    have y0 := O.out.c0
    have y1 := O.out.c1
    have y2 := O.out.c2
    have y3 := O.out.c3
    have y4 := O.out.c4
    have y5 := O.out.c5
    go_wp2_with fail
    refine (HOp.out W0 HB0.out).mono ?_
    rintro e w1 ⟨⟨v, rfl, hs⟩, hb1⟩
    obtain ⟨va, vn, vc, rfl, _⟩ := hs.sl
    have HB1 := Lib.hid (bstep HB0.out hb1)
    have R1 := Lib.hid (R.out.below hb1)
    have HS := Lib.hid (hs.keep (KeepB.all3 hRl (.int .i64 RS.1.cap) (.int .i64 RS.1.left) (.slice va vn vc)) (show w.heap.size ≤ W0.heap.size from HB0.out.size))
    clear hs hb1 x0 x1 x2 y0 y1 y2 y3 y4 y5 X O R
    have r0 := R1.out.c0
    have r1 := R1.out.c1
    have r2 := R1.out.c2
    have rf := R1.out.f
    obtain ⟨⟨rc, rl, rfs⟩, rE⟩ := RS
    dsimp only at *
    go_wp2_with fail
    exact bodyPost_ret (v := .tuple #[diskVal rc rl (.slice va vn vc), .int .i64 rE]) (by simp [results, Tryd.results44, go_sem, r0, r1, r2]) rfl ⟨⟨_, rfl, HS.out⟩, HB1.out.all3 (by omega) _ _ _⟩
  · rw [hqk] at hq
    have hE : changeD d o = removeD d o.name := by unfold changeD; dsimp only; rw [if_neg (by omega)]; rw [if_neg (by omega)]; rw [if_neg (by omega)]; rw [if_neg (by omega)]; rw [if_neg (by omega)]; rw [if_neg (by omega)]; rw [if_pos hq]
    have HOp := Lib.hid (fun W (hW : Below w.heap.size w W) => show Calls Tryd.prog 65 #[diskVal d.cap d.left (.slice a d.files.length cap), .string (strB o.name)] W (WrRes W.heap.size W (changeD d o)) by rw [hE]; exact remove_any d o.name _ W (h.below hW) hL hO.name)
    rw [← hqk] at hq
    subst hq
    clear hE h hL hd hk hO hqk q1 q2
    generalize changeD d o = RS at *
    generalize d.files.length = n at *
    generalize o.data.length = dl at *
    generalize o.keep.length = kl at *
    obtain ⟨c, lf, fl⟩ := d
    obtain ⟨kd, nm, nt, off, data, keep⟩ := o
    dsimp only [opVal, diskVal] at *
    generalize hsn : strB nm = snm at *
    generalize hst : strB nt = sto at *
    clear hsn hst
    have HA1 := (Below.refl w.heap.size w).alloc (Nat.le_refl _) (.cells #[.int .i64 c, .int .i64 lf, .slice a n cap] 33)
    have HX1 := BoxD.new w c lf (.slice a n cap) 33
    have HZ1 := size_alloc w (.cells #[.int .i64 c, .int .i64 lf, .slice a n cap] 33)
    generalize hW1 : w.alloc (.cells #[.int .i64 c, .int .i64 lf, .slice a n cap] 33) = W1 at *
    have HA2 := (Below.refl W1.heap.size W1).alloc (Nat.le_refl _) (.cells #[.int .i64 kd, .string snm, .string sto, .int .i64 off, .slice da dl dc, .slice ka kl kc] 85)
    have HO2 := BoxO.newK HZ1 kd snm sto off (.slice da dl dc) (.slice ka kl kc) 85
    have HZ2 := size_alloc W1 (.cells #[.int .i64 kd, .string snm, .string sto, .int .i64 off, .slice da dl dc, .slice ka kl kc] 85)
    generalize hW2 : W1.alloc (.cells #[.int .i64 kd, .string snm, .string sto, .int .i64 off, .slice da dl dc, .slice ka kl kc] 85) = W2 at *
    have HA3 := (Below.refl W2.heap.size W2).alloc (Nat.le_refl _) (.cells #[.int .i64 0, .int .i64 0, .slice none 0 0] 33)
    have HR3 := BoxD.newK (show W2.heap.size = w.heap.size + 2 by omega) 0 0 (.slice none 0 0) 33
    have X := Lib.hid ((HX1.below HA2).below HA3)
    have O := Lib.hid (HO2.below HA3)
    have R := Lib.hid HR3
    have HB0 := Lib.hid (bstep (bstep HA1 HA2) HA3)
    clear HA1 HA2 HA3 HX1 HO2 HR3 HZ1 HZ2
    subst hW2 hW1
    go_enter Tryd.func44, Tryd.ntmps44
    go_upto_region 1 with fail
    generalize ((w.alloc (.cells #[.int .i64 c, .int .i64 lf, .slice a n cap] 33)).alloc (.cells #[.int .i64 kd, .string snm, .string sto, .int .i64 off, .slice da dl dc, .slice ka kl kc] 85)).alloc (.cells #[.int .i64 0, .int .i64 0, .slice none 0 0] 33) = W0 at *
    have hRl := R.out.lt
    have x0 := X.out.c0
    have x1 := X.out.c1
    have x2 := X.out.c2
    have y0 := O.out.c0
    have y1 := O.out.c1
    have y2 := O.out.c2
    have y3 := O.out.c3
    have y4 := O.out.c4
    have y5 := O.out.c5
    go_wp2_with fail
    refine (HOp.out W0 HB0.out).mono ?_
    rintro e w1 ⟨⟨v, rfl, hs⟩, hb1⟩
    obtain ⟨va, vn, vc, rfl, _⟩ := hs.sl
    have HB1 := Lib.hid (bstep HB0.out hb1)
    have R1 := Lib.hid (R.out.below hb1)
    have HS := Lib.hid (hs.keep (KeepB.all3 hRl (.int .i64 RS.1.cap) (.int .i64 RS.1.left) (.slice va vn vc)) (show w.heap.size ≤ W0.heap.size from HB0.out.size))
    clear hs hb1 x0 x1 x2 y0 y1 y2 y3 y4 y5 X O R
    have r0 := R1.out.c0
    have r1 := R1.out.c1
    have r2 := R1.out.c2
    have rf := R1.out.f
    obtain ⟨⟨rc, rl, rfs⟩, rE⟩ := RS
    dsimp only at *
    go_wp2_with fail
    exact bodyPost_ret (v := .tuple #[diskVal rc rl (.slice va vn vc), .int .i64 rE]) (by simp [results, Tryd.results44, go_sem, r0, r1, r2]) rfl ⟨⟨_, rfl, HS.out⟩, HB1.out.all3 (by omega) _ _ _⟩
  · rw [hqk] at hq
    have hE : changeD d o = (crashD d o.keep, (0 : Int)) := by unfold changeD; dsimp only; rw [if_neg (by omega)]; rw [if_neg (by omega)]; rw [if_neg (by omega)]; rw [if_neg (by omega)]; rw [if_neg (by omega)]; rw [if_neg (by omega)]; rw [if_neg (by omega)]; rw [if_pos hq]
    have HKe := Lib.hid (fun W (hW : Below w.heap.size w W) => keeps_any _ o.keep W (hk.below hW) hO.keep)
    have HOp := Lib.hid (fun W v (hW : Below w.heap.size w W) (hv : RdK W v o.keep) => show Calls Tryd.prog 30 #[diskVal d.cap d.left (.slice a d.files.length cap), v] W fun e w' => ∃ v, e = .returned v ∧ StD W.heap.size w' v (changeD d o).1 ∧ Below W.heap.size W w' by rw [hE]; exact crash_any d o.keep _ _ W (h.below hW) hL hv (by have := hO.keep; omega))
    have HE2 := Lib.hid (show (changeD d o).2 = 0 by rw [hE])
    rw [← hqk] at hq
    subst hq
    clear hE h hL hd hk hO hqk q1 q2
    generalize changeD d o = RS at *
    generalize d.files.length = n at *
    generalize o.data.length = dl at *
    generalize o.keep.length = kl at *
    obtain ⟨c, lf, fl⟩ := d
    obtain ⟨kd, nm, nt, off, data, keep⟩ := o
    dsimp only [opVal, diskVal] at *
    generalize hsn : strB nm = snm at *
    generalize hst : strB nt = sto at *
    clear hsn hst
    have HA1 := (Below.refl w.heap.size w).alloc (Nat.le_refl _) (.cells #[.int .i64 c, .int .i64 lf, .slice a n cap] 33)
    have HX1 := BoxD.new w c lf (.slice a n cap) 33
    have HZ1 := size_alloc w (.cells #[.int .i64 c, .int .i64 lf, .slice a n cap] 33)
    generalize hW1 : w.alloc (.cells #[.int .i64 c, .int .i64 lf, .slice a n cap] 33) = W1 at *
    have HA2 := (Below.refl W1.heap.size W1).alloc (Nat.le_refl _) (.cells #[.int .i64 kd, .string snm, .string sto, .int .i64 off, .slice da dl dc, .slice ka kl kc] 85)
    have HO2 := BoxO.newK HZ1 kd snm sto off (.slice da dl dc) (.slice ka kl kc) 85
    have HZ2 := size_alloc W1 (.cells #[.int .i64 kd, .string snm, .string sto, .int .i64 off, .slice da dl dc, .slice ka kl kc] 85)
    generalize hW2 : W1.alloc (.cells #[.int .i64 kd, .string snm, .string sto, .int .i64 off, .slice da dl dc, .slice ka kl kc] 85) = W2 at *
    have HA3 := (Below.refl W2.heap.size W2).alloc (Nat.le_refl _) (.cells #[.int .i64 0, .int .i64 0, .slice none 0 0] 33)
    have HR3 := BoxD.newK (show W2.heap.size = w.heap.size + 2 by omega) 0 0 (.slice none 0 0) 33
    have X := Lib.hid ((HX1.below HA2).below HA3)
    have O := Lib.hid (HO2.below HA3)
    have R := Lib.hid HR3
    have HB0 := Lib.hid (bstep (bstep HA1 HA2) HA3)
    clear HA1 HA2 HA3 HX1 HO2 HR3 HZ1 HZ2
    subst hW2 hW1
    go_enter Tryd.func44, Tryd.ntmps44
    go_upto_region 1 with fail
    generalize ((w.alloc (.cells #[.int .i64 c, .int .i64 lf, .slice a n cap] 33)).alloc (.cells #[.int .i64 kd, .string snm, .string sto, .int .i64 off, .slice da dl dc, .slice ka kl kc] 85)).alloc (.cells #[.int .i64 0, .int .i64 0, .slice none 0 0] 33) = W0 at *
    have hRl := R.out.lt
    have x0 := X.out.c0
    have x1 := X.out.c1
    have x2 := X.out.c2
    have y0 := O.out.c0
    have y1 := O.out.c1
    have y2 := O.out.c2
    have y3 := O.out.c3
    have y4 := O.out.c4
    have y5 := O.out.c5
    go_upto_region 18 with fail
    refine wp_region_rel [eqS (.agg #[.int .i64 c, .int .i64 lf, .slice a n cap]), eqS (.pointer (some ⟨w.heap.size + 1, 5, none⟩)), eqS (.slice ka kl kc), kpS keep] [] 93 (by kernel_rfl) (by kernel_rfl) (by rfl) (by kernel_rfl) (fun f => by simp [frm, dstOf, Act.put]; exact rfl) ?_ ?_
    · refine ⟨?_, ?_, ?_, ?_, trivial⟩
      · intro f w1 hb hd
        clear hd
        dsimp only
        have z0 := (X.out.below hb).c0
        have z1 := (X.out.below hb).c1
        have z2 := (X.out.below hb).c2
        go_wp2_with fail
        exact ⟨rfl, Below.refl _ _, fun t ht => by injection ht with ht; subst ht; exact ⟨rfl, fun h => by simp at h⟩⟩
      · intro f w1 hb hd
        clear hd
        dsimp only
        go_wp2_with fail
        exact ⟨rfl, Below.refl _ _, fun t ht => by injection ht with ht; subst ht; exact ⟨rfl, fun h => by simp at h⟩⟩
      · intro f w1 hb hd
        have d1 : f 1 = .pointer (some ⟨w.heap.size + 1, 5, none⟩) := hd 1 (by kernel_rfl)
        clear hd
        dsimp only
        rw [d1]
        have z := (O.out.below hb).c5
        go_wp2_with fail
        exact ⟨rfl, Below.refl _ _, fun t ht => by injection ht with ht; subst ht; exact ⟨rfl, fun h => by simp at h⟩⟩
      · intro f w1 hb hd
        have d2 : f 2 = .slice ka kl kc := hd 2 (by kernel_rfl)
        clear hd
        dsimp only
        rw [d2]
        go_wp2_with fail
        ((with_reducible refine (HKe.out w1 (bstep HB0.out hb)).mono ?_); rintro e w2 ⟨v, rfl, ho, hb2⟩)
        go_wp2_with fail
        exact ⟨rfl, hb2, fun t ht => by injection ht with ht; subst ht; exact ⟨ho.rd, fun h => by simp at h⟩⟩
    · intro f w1 hb hA _
      have d0 : f 0 = .agg #[.int .i64 c, .int .i64 lf, .slice a n cap] := hA 0 (show 0 < 4 by decide)
      have d1 : f 1 = .pointer (some ⟨w.heap.size + 1, 5, none⟩) := hA 1 (show 1 < 4 by decide)
      have d2 : f 2 = .slice ka kl kc := hA 2 (show 2 < 4 by decide)
      have d3 := hA 3 (show 3 < 4 by decide)
      clear hA
      try dsimp only at *
      rw [d0]
      rw [d1]
      rw [d2]
      clear d0 d1 d2
      have R1 := Lib.hid (R.out.below hb)
      have HB1 := Lib.hid (bstep HB0.out hb)
      have hRl1 := R1.out.lt
      clear X O R hb
      go_wp2_with fail
      refine (HOp.out w1 _ HB1.out d3).mono ?_
      rintro e w2 ⟨v, rfl, hs, hb2⟩
      obtain ⟨va, vn, vc, rfl, _⟩ := hs.sl
      have HB2 := Lib.hid (bstep HB1.out hb2)
      have R2 := Lib.hid (R1.out.below hb2)
      have HS := Lib.hid (hs.keep (KeepB.all3 hRl1 (.int .i64 RS.1.cap) (.int .i64 RS.1.left) (.slice va vn vc)) (show w.heap.size ≤ w1.heap.size from HB1.out.size))
      clear hs hb2 R1 d3
      have r0 := R2.out.c0
      have r1 := R2.out.c1
      have r2 := R2.out.c2
      have rf := R2.out.f
      obtain ⟨⟨rc, rl, rfs⟩, rE⟩ := RS
      dsimp only at *
      go_wp2_with fail
      exact bodyPost_ret (v := .tuple #[diskVal rc rl (.slice va vn vc), .int .i64 0]) (by simp [results, Tryd.results44, go_sem, r0, r1, r2]) rfl ⟨⟨_, by rw [HE2.out], HS.out⟩, HB2.out.all3 (by omega) _ _ _⟩
  · rw [hqk] at hq
    have hE : changeD d o = flipD d o.name o.off := by unfold changeD; dsimp only; rw [if_neg (by omega)]; rw [if_neg (by omega)]; rw [if_neg (by omega)]; rw [if_neg (by omega)]; rw [if_neg (by omega)]; rw [if_neg (by omega)]; rw [if_neg (by omega)]; rw [if_neg (by omega)]
    have HOp := Lib.hid (fun W (hW : Below w.heap.size w W) => show Calls Tryd.prog 66 #[diskVal d.cap d.left (.slice a d.files.length cap), .string (strB o.name), .int .i64 o.off] W (WrRes W.heap.size W (changeD d o)) by rw [hE]; exact flip_any d o.name o.off _ W (h.below hW) hL hO.name)
    rw [← hqk] at hq
    subst hq
    clear hE h hL hd hk hO hqk q1 q2
    generalize changeD d o = RS at *
    generalize d.files.length = n at *
    generalize o.data.length = dl at *
    generalize o.keep.length = kl at *
    obtain ⟨c, lf, fl⟩ := d
    obtain ⟨kd, nm, nt, off, data, keep⟩ := o
    dsimp only [opVal, diskVal] at *
    generalize hsn : strB nm = snm at *
    generalize hst : strB nt = sto at *
    clear hsn hst
    have HA1 := (Below.refl w.heap.size w).alloc (Nat.le_refl _) (.cells #[.int .i64 c, .int .i64 lf, .slice a n cap] 33)
    have HX1 := BoxD.new w c lf (.slice a n cap) 33
    have HZ1 := size_alloc w (.cells #[.int .i64 c, .int .i64 lf, .slice a n cap] 33)
    generalize hW1 : w.alloc (.cells #[.int .i64 c, .int .i64 lf, .slice a n cap] 33) = W1 at *
    have HA2 := (Below.refl W1.heap.size W1).alloc (Nat.le_refl _) (.cells #[.int .i64 kd, .string snm, .string sto, .int .i64 off, .slice da dl dc, .slice ka kl kc] 85)
    have HO2 := BoxO.newK HZ1 kd snm sto off (.slice da dl dc) (.slice ka kl kc) 85
    have HZ2 := size_alloc W1 (.cells #[.int .i64 kd, .string snm, .string sto, .int .i64 off, .slice da dl dc, .slice ka kl kc] 85)
    generalize hW2 : W1.alloc (.cells #[.int .i64 kd, .string snm, .string sto, .int .i64 off, .slice da dl dc, .slice ka kl kc] 85) = W2 at *
    have HA3 := (Below.refl W2.heap.size W2).alloc (Nat.le_refl _) (.cells #[.int .i64 0, .int .i64 0, .slice none 0 0] 33)
    have HR3 := BoxD.newK (show W2.heap.size = w.heap.size + 2 by omega) 0 0 (.slice none 0 0) 33
    have X := Lib.hid ((HX1.below HA2).below HA3)
    have O := Lib.hid (HO2.below HA3)
    have R := Lib.hid HR3
    have HB0 := Lib.hid (bstep (bstep HA1 HA2) HA3)
    clear HA1 HA2 HA3 HX1 HO2 HR3 HZ1 HZ2
    subst hW2 hW1
    go_enter Tryd.func44, Tryd.ntmps44
    go_upto_region 1 with fail
    generalize ((w.alloc (.cells #[.int .i64 c, .int .i64 lf, .slice a n cap] 33)).alloc (.cells #[.int .i64 kd, .string snm, .string sto, .int .i64 off, .slice da dl dc, .slice ka kl kc] 85)).alloc (.cells #[.int .i64 0, .int .i64 0, .slice none 0 0] 33) = W0 at *
    have hRl := R.out.lt
    have x0 := X.out.c0
    have x1 := X.out.c1
    have x2 := X.out.c2
    have y0 := O.out.c0
    have y1 := O.out.c1
    have y2 := O.out.c2
    have y3 := O.out.c3
    have y4 := O.out.c4
    have y5 := O.out.c5
    go_wp2_with fail
    refine (HOp.out W0 HB0.out).mono ?_
    rintro e w1 ⟨⟨v, rfl, hs⟩, hb1⟩
    obtain ⟨va, vn, vc, rfl, _⟩ := hs.sl
    have HB1 := Lib.hid (bstep HB0.out hb1)
    have R1 := Lib.hid (R.out.below hb1)
    have HS := Lib.hid (hs.keep (KeepB.all3 hRl (.int .i64 RS.1.cap) (.int .i64 RS.1.left) (.slice va vn vc)) (show w.heap.size ≤ W0.heap.size from HB0.out.size))
    clear hs hb1 x0 x1 x2 y0 y1 y2 y3 y4 y5 X O R
    have r0 := R1.out.c0
    have r1 := R1.out.c1
    have r2 := R1.out.c2
    have rf := R1.out.f
    obtain ⟨⟨rc, rl, rfs⟩, rE⟩ := RS
    dsimp only at *
    go_wp2_with fail
    exact bodyPost_ret (v := .tuple #[diskVal rc rl (.slice va vn vc), .int .i64 rE]) (by simp [results, Tryd.results44, go_sem, r0, r1, r2]) rfl ⟨⟨_, rfl, HS.out⟩, HB1.out.all3 (by omega) _ _ _⟩
end Go.Proofs.YtkabcpmnbjllcaaDoor
