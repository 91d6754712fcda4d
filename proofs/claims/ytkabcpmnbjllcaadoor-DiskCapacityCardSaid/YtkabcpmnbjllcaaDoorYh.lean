/- New and Arm of the program: the walks. Printed by mkYh.py. -/
import Derived.Test.YtkabcpmnbjllcaaDoorYg
namespace Go.Proofs.YtkabcpmnbjllcaaDoor
open Go.RowKit

/-- The files of a copy read so, whatever becomes of the two boxes. -/
theorem OwnFs.stF {W : World} {B b0 : Nat} {v : Value} {es : List FE} {T : Nat → Nat} (h : OwnFs W B v es T es.length) (hb0 : b0 + 2 ≤ B) (hd0 : BlkD W b0) (hd1 : BlkD W (b0 + 1)) : StF W b0 B v (es.map (·.1)) := fun W' hk => by
  refine rdF_row (hk.own h.row (Nat.le_refl _) hd0 hd1 (by decide)) fun q hq => h.partsI (fun b h1 h2 => ?_) q hq
  have := h.base
  have := h.top
  exact hk.same b (by omega) (by omega) (by omega) (by omega)
set_option maxRecDepth 100000 in
theorem new_any (limit : Int) (w : World) : Calls Tryd.prog 25 #[.int .i64 limit] w fun e w' => e = .returned (diskVal (max limit 0) (-1) nilS) ∧ Below w.heap.size w w' := by
  have HB0 := Lib.hid (show Below w.heap.size w (w.alloc (.cells #[.int .i64 0, .int .i64 0, .slice none 0 0] 33)) from (Below.refl _ _).alloc (Nat.le_refl _) _)
  have X := Lib.hid (BoxD.new w 0 0 (.slice none 0 0) 33)
  go_enter Tryd.func25, Tryd.ntmps25
  go_upto_region 1 with fail
  generalize w.alloc (.cells #[.int .i64 0, .int .i64 0, .slice none 0 0] 33) = W0 at *
  have r0 := X.out.c0
  have r1 := X.out.c1
  have r2 := X.out.c2
  have rf := X.out.f
  go_wp2_with fail
  exact bodyPost_ret (v := diskVal (max limit 0) (-1) nilS) (by simp [results, Tryd.results25, go_sem, r0, r1, r2]) rfl ⟨rfl, HB0.out.all3 (by omega) _ _ _⟩
set_option maxRecDepth 100000 in
set_option maxHeartbeats 1600000 in
theorem arm_any (d : Dk) (m : Int) (fv : Value) (w : World) (h : RdF w fv d.files) (hL : LiteD d) :
    Calls Tryd.prog 21 #[diskVal d.cap d.left fv, .int .i64 m] w fun e w' => ∃ v, e = .returned v ∧ StD w.heap.size w' v (armD d m) ∧ Below w.heap.size w w' := by
  obtain ⟨a, cap, rfl, h1, h2, _⟩ := h.shape
  have HC := Lib.hid (fun W (hW : Below w.heap.size w W) => dclone_any d.cap d.left _ d.files W (h.below hW) hL.fs (by have := hL.len; omega))
  have HE := Lib.hid (show armD d m = ⟨d.cap, max m (-1), d.files⟩ from rfl)
  clear h hL
  generalize armD d m = RS at *
  generalize d.files.length = n at *
  obtain ⟨c, lf, fl⟩ := d
  dsimp only at *
  have HB0 := Lib.hid (show Below w.heap.size w ((w.alloc (.cells #[.int .i64 c, .int .i64 lf, .slice a n cap] 33)).alloc (.cells #[.int .i64 0, .int .i64 0, .slice none 0 0] 33)) from ((Below.refl _ _).alloc (Nat.le_refl _) _).alloc (by simp) _)
  have X := Lib.hid (show BoxD ((w.alloc (.cells #[.int .i64 c, .int .i64 lf, .slice a n cap] 33)).alloc (.cells #[.int .i64 0, .int .i64 0, .slice none 0 0] 33)) w.heap.size c lf (.slice a n cap) from ⟨by simp, by simp, by simp, fun i => by simp⟩)
  have R := Lib.hid (show BoxD ((w.alloc (.cells #[.int .i64 c, .int .i64 lf, .slice a n cap] 33)).alloc (.cells #[.int .i64 0, .int .i64 0, .slice none 0 0] 33)) (w.heap.size + 1) 0 0 (.slice none 0 0) from ⟨by simp, by simp, by simp, fun i => by simp⟩)
  have HD := Lib.hid (twoBlk w (.cells #[.int .i64 c, .int .i64 lf, .slice a n cap] 33) (.cells #[.int .i64 0, .int .i64 0, .slice none 0 0] 33) ⟨_, rfl⟩ ⟨_, rfl⟩)
  have hBB : w.heap.size + 2 ≤ ((w.alloc (.cells #[.int .i64 c, .int .i64 lf, .slice a n cap] 33)).alloc (.cells #[.int .i64 0, .int .i64 0, .slice none 0 0] 33)).heap.size := by simp
  go_enter Tryd.func21, Tryd.ntmps21
  go_upto_region 1 with fail
  generalize (w.alloc (.cells #[.int .i64 c, .int .i64 lf, .slice a n cap] 33)).alloc (.cells #[.int .i64 0, .int .i64 0, .slice none 0 0] 33) = W0 at *
  have x0 := X.out.c0
  have x1 := X.out.c1
  have x2 := X.out.c2
  go_wp2_with fail
  refine (HC.out W0 HB0.out).mono ?_
  rintro e w1 ⟨v, rfl, ⟨fv, es, T, rfl, hes, hO⟩, hb1⟩
  replace X := Lib.hid (X.out.below hb1)
  replace R := Lib.hid (R.out.below hb1)
  replace HD := Lib.hid (And.intro (HD.out.1.below hb1) (HD.out.2.below hb1))
  have HB1 := Lib.hid (bstep HB0.out hb1)
  have hBB1 := Nat.le_trans hBB hb1.size
  clear x0 x1 x2
  have x0 := X.out.c0
  have x1 := X.out.c1
  have x2 := X.out.c2
  have xf := X.out.f
  have hat := hO.row
  obtain ⟨a2, k2, rfl, hk2, hk3, _⟩ := own_form hat
  clear hat
  dsimp only at *
  have HO2 := Lib.hid ((hO.lower (B' := w.heap.size + 2) hBB rfl).all_ne (b := w.heap.size) (by omega) (.int .i64 c) (.int .i64 lf) (.slice a2 es.length k2))
  have X2 := Lib.hid (X.out.all c lf (.slice a2 es.length k2))
  have R2 := Lib.hid (((R.out.set_ne (p := ⟨w.heap.size, 0, none⟩) (by dsimp only; omega) (.int .i64 c)).set_ne (p := ⟨w.heap.size, 1, none⟩) (by dsimp only; omega) (.int .i64 lf)).set_ne (p := ⟨w.heap.size, 2, none⟩) (by dsimp only; omega) (.slice a2 es.length k2))
  have HB2 := Lib.hid (HB1.out.all3 (b := w.heap.size) (Nat.le_refl _) (.int .i64 c) (.int .i64 lf) (.slice a2 es.length k2))
  have HD2 := Lib.hid (And.intro (HD.out.1.all3 w.heap.size (.int .i64 c) (.int .i64 lf) (.slice a2 es.length k2)) (HD.out.2.all3 w.heap.size (.int .i64 c) (.int .i64 lf) (.slice a2 es.length k2)))
  have Hes := Lib.hid hes
  clear hO hes X R HB1 HD
  go_upto_region 2 with fail
  change Code.wp _ _ _ _ (((w1.setCell ⟨w.heap.size, 0, none⟩ (.int .i64 c)).setCell ⟨w.heap.size, 1, none⟩ (.int .i64 lf)).setCell ⟨w.heap.size, 2, none⟩ (.slice a2 es.length k2))
  clear x0 x1 x2 xf
  generalize (((w1.setCell ⟨w.heap.size, 0, none⟩ (.int .i64 c)).setCell ⟨w.heap.size, 1, none⟩ (.int .i64 lf)).setCell ⟨w.heap.size, 2, none⟩ (.slice a2 es.length k2)) = W2 at *
  have HSt := Lib.hid (HO2.out.stF (b0 := w.heap.size) (Nat.le_refl _) HD2.out.1 HD2.out.2)
  have X3 := Lib.hid (X2.out.set1 (max m (-1)))
  have R3 := Lib.hid (R2.out.set_ne (p := ⟨w.heap.size, 1, none⟩) (by dsimp only; omega) (.int .i64 (max m (-1))))
  have HB3 := Lib.hid (HB2.out.setCell (p := ⟨w.heap.size, 1, none⟩) (Nat.le_refl _) (.int .i64 (max m (-1))))
  have HK3 := Lib.hid (KeepX.set0 (b0 := w.heap.size) (B := w.heap.size + 2) (W := W2) 1 (.int .i64 (max m (-1))))
  have x1 := X2.out.c1
  have xf := X2.out.f
  clear X2 R2 HB2 HD2 HO2
  go_upto_region 3 with fail
  clear x1 xf
  generalize W2.setCell ⟨w.heap.size, 1, none⟩ (.int .i64 (max m (-1))) = W3 at *
  have HRd := Lib.hid (show StD w.heap.size (((W3.setCell ⟨w.heap.size + 1, 0, none⟩ (.int .i64 c)).setCell ⟨w.heap.size + 1, 1, none⟩ (.int .i64 (max m (-1)))).setCell ⟨w.heap.size + 1, 2, none⟩ (.slice a2 es.length k2)) (diskVal c (max m (-1)) (.slice a2 es.length k2)) ⟨c, max m (-1), fl⟩ from fun W' h' => ⟨_, rfl, Hes.out ▸ HSt.out W' (HK3.out.trans ((KeepX.all1 (.int .i64 c) (.int .i64 (max m (-1))) (.slice a2 es.length k2)).trans (h'.up (Nat.le_add_right _ 2)).x))⟩)
  have x0 := X3.out.c0
  have x1 := X3.out.c1
  have x2 := X3.out.c2
  have r0 := R3.out.c0
  have r1 := R3.out.c1
  have r2 := R3.out.c2
  have rf := R3.out.f
  go_wp2_with fail
  exact bodyPost_ret (v := diskVal c (max m (-1)) (.slice a2 es.length k2)) (by simp [results, Tryd.results21, go_sem, r0, r1, r2]) rfl ⟨_, rfl, by rw [HE.out]; exact HRd.out, HB3.out.all3 (by omega) _ _ _⟩
end Go.Proofs.YtkabcpmnbjllcaaDoor
