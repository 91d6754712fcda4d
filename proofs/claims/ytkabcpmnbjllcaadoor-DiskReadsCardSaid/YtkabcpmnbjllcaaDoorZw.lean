/- Create, Append and Put of the program: the walks. Printed by mkZw.py. -/
import Derived.Test.YtkabcpmnbjllcaaDoorZv
namespace Go.Proofs.YtkabcpmnbjllcaaDoor
open Go.RowKit

set_option maxRecDepth 100000 in
set_option maxHeartbeats 3200000 in
theorem create_any (d : Dk) (s : List UInt8) (fv : Value) (w : World) (h : RdF w fv d.files) (hL : LiteD d) (hs : s.length ≤ 9223372036854775807) :
    Calls Tryd.prog 27 #[diskVal d.cap d.left fv, .string (strB s)] w (WrRes w.heap.size w (createD d s)) := by
  obtain ⟨a, cap, rfl, h1, h2, _⟩ := h.shape
  have HBg := Lib.hid (fun W (hW : Below w.heap.size w W) => begin_any d s false _ W (h.below hW) hL hs)
  have HErr := Lib.hid (show begE d s false ≠ 0 → createD d s = (dk0, begE d s false) from fun h => createD_no h)
  have Hfl := Lib.hid hL.len
  have HOk := Lib.hid (fun h => createD_yes (d := d) (s := s) h)
  have Hlo := Lib.hid (lowN_le d.files s)
  clear h hL
  unfold BegRes at HBg
  generalize createD d s = RS at *
  generalize begE d s false = E at *
  generalize nextL d.left = nl at *
  generalize hn : d.files.length = n at *
  have Hn := Lib.hid hn
  clear hn
  obtain ⟨c, lf, fl⟩ := d
  dsimp only at *
  have HB0 := Lib.hid (show Below w.heap.size w ((w.alloc (.cells #[.int .i64 c, .int .i64 lf, .slice a n cap] 33)).alloc (.cells #[.int .i64 0, .int .i64 0, .slice none 0 0] 33)) from ((Below.refl _ _).alloc (Nat.le_refl _) _).alloc (by simp) _)
  have X := Lib.hid (show BoxD ((w.alloc (.cells #[.int .i64 c, .int .i64 lf, .slice a n cap] 33)).alloc (.cells #[.int .i64 0, .int .i64 0, .slice none 0 0] 33)) w.heap.size c lf (.slice a n cap) from ⟨by simp, by simp, by simp, fun i => by simp⟩)
  have R := Lib.hid (show BoxD ((w.alloc (.cells #[.int .i64 c, .int .i64 lf, .slice a n cap] 33)).alloc (.cells #[.int .i64 0, .int .i64 0, .slice none 0 0] 33)) (w.heap.size + 1) 0 0 (.slice none 0 0) from ⟨by simp, by simp, by simp, fun i => by simp⟩)
  have HD := Lib.hid (twoBlk w (.cells #[.int .i64 c, .int .i64 lf, .slice a n cap] 33) (.cells #[.int .i64 0, .int .i64 0, .slice none 0 0] 33) ⟨_, rfl⟩ ⟨_, rfl⟩)
  have hBB : w.heap.size + 2 ≤ ((w.alloc (.cells #[.int .i64 c, .int .i64 lf, .slice a n cap] 33)).alloc (.cells #[.int .i64 0, .int .i64 0, .slice none 0 0] 33)).heap.size := by simp
  go_enter Tryd.func27, Tryd.ntmps27
  go_upto_region 1 with fail
  generalize (w.alloc (.cells #[.int .i64 c, .int .i64 lf, .slice a n cap] 33)).alloc (.cells #[.int .i64 0, .int .i64 0, .slice none 0 0] 33) = W0 at *
  have x0 := X.out.c0
  have x1 := X.out.c1
  have x2 := X.out.c2
  go_wp2_with fail
  refine (HBg.out W0 HB0.out).mono ?_
  rintro e w1 ⟨hres, hb1⟩
  replace X := Lib.hid (X.out.below hb1)
  replace R := Lib.hid (R.out.below hb1)
  replace HD := Lib.hid (And.intro (HD.out.1.below hb1) (HD.out.2.below hb1))
  have HB1 := Lib.hid (bstep HB0.out hb1)
  have hBB1 := Nat.le_trans hBB hb1.size
  clear x0 x1 x2
  have x0 := X.out.c0
  have x1 := X.out.c1
  have x2 := X.out.c2
  have xf := X.out.f
  rcases hres with ⟨hne, rfl⟩ | ⟨heq, hv, v, rfl, ⟨fv, es, T, rfl, hes, hO⟩⟩
  · have hz1 : (E == 0) = false := beq_eq_false_iff_ne.2 hne
    have hz2 : (E != 0) = true := by rw [bne_iff_ne]; exact hne
    have HEr := Lib.hid (HErr.out hne)
    have R2 := Lib.hid (((R.out.set_ne (p := ⟨w.heap.size, 0, none⟩) (by dsimp only; omega) (.int .i64 0)).set_ne (p := ⟨w.heap.size, 1, none⟩) (by dsimp only; omega) (.int .i64 0)).set_ne (p := ⟨w.heap.size, 2, none⟩) (by dsimp only; omega) nilS)
    have HB2 := Lib.hid (HB1.out.all3 (b := w.heap.size) (Nat.le_refl _) (.int .i64 0) (.int .i64 0) nilS)
    clear hne
    have r0 := R2.out.c0
    have r1 := R2.out.c1
    have r2 := R2.out.c2
    have rf := R2.out.f
    go_wp2_with fail
    exact bodyPost_ret (v := .tuple #[diskVal 0 0 nilS, .int .i64 E]) (by simp [results, Tryd.results27, go_sem, r0, r1, r2]) rfl ⟨⟨_, by rw [HEr.out], by rw [HEr.out]; exact stD_zero _ _⟩, HB2.out.all3 (by omega) _ _ _⟩
  · have hRS := HOk.out heq
    clear HOk HBg
    generalize lowN fl s = lo at *
    have HRS := Lib.hid hRS
    clear hRS
    have hat := hO.row
    obtain ⟨a2, k2, rfl, hk2, hk3, _⟩ := own_form hat
    clear hat
    have HO2 := Lib.hid ((hO.lower (B' := w.heap.size + 2) hBB rfl).all_ne (b := w.heap.size) (by omega) (.int .i64 c) (.int .i64 nl) (.slice a2 es.length k2))
    have X2 := Lib.hid (X.out.all c nl (.slice a2 es.length k2))
    have R2 := Lib.hid (((R.out.set_ne (p := ⟨w.heap.size, 0, none⟩) (by dsimp only; omega) (.int .i64 c)).set_ne (p := ⟨w.heap.size, 1, none⟩) (by dsimp only; omega) (.int .i64 nl)).set_ne (p := ⟨w.heap.size, 2, none⟩) (by dsimp only; omega) (.slice a2 es.length k2))
    have HB2 := Lib.hid (HB1.out.all3 (b := w.heap.size) (Nat.le_refl _) (.int .i64 c) (.int .i64 nl) (.slice a2 es.length k2))
    have HD2 := Lib.hid (And.intro (HD.out.1.all3 w.heap.size (.int .i64 c) (.int .i64 nl) (.slice a2 es.length k2)) (HD.out.2.all3 w.heap.size (.int .i64 c) (.int .i64 nl) (.slice a2 es.length k2)))
    have hs2 : w.heap.size + 2 ≤ (((w1.setCell ⟨w.heap.size, 0, none⟩ (.int .i64 c)).setCell ⟨w.heap.size, 1, none⟩ (.int .i64 nl)).setCell ⟨w.heap.size, 2, none⟩ (.slice a2 es.length k2)).heap.size := by simp; omega
    have Hes := Lib.hid hes
    have Hv := Lib.hid hv
    have Heq := Lib.hid heq
    clear hO hes hv heq X R HB1 HD HErr
    go_upto_region 4 with fail
    change Code.wp _ _ _ _ (((w1.setCell ⟨w.heap.size, 0, none⟩ (.int .i64 c)).setCell ⟨w.heap.size, 1, none⟩ (.int .i64 nl)).setCell ⟨w.heap.size, 2, none⟩ (.slice a2 es.length k2))
    clear x0 x1 x2 xf
    generalize (((w1.setCell ⟨w.heap.size, 0, none⟩ (.int .i64 c)).setCell ⟨w.heap.size, 1, none⟩ (.int .i64 nl)).setCell ⟨w.heap.size, 2, none⟩ (.slice a2 es.length k2)) = W2 at *
    have hel : es.length = n := by rw [← Hn.out, ← Hes.out, List.length_map]
    have hv256 : n ≤ 256 := by rw [← Hn.out]; exact Hv.out.len
    have hlo := Hlo.out
    have x2 := X2.out.c2
    by_cases h6 : n = 256
    · have HE := Lib.hid (show RS = (dk0, 9) by rw [HRS.out, if_pos h6])
      have i1 : (256 : Int) ≤ (es.length : Int) := by omega
      clear hel
      have r0 := R2.out.c0
      have r1 := R2.out.c1
      have r2 := R2.out.c2
      have rf := R2.out.f
      go_wp2_with fail
      exact bodyPost_ret (v := .tuple #[diskVal 0 0 nilS, .int .i64 9]) (by simp [results, Tryd.results27, go_sem, r0, r1, r2]) rfl ⟨⟨_, by rw [HE.out], by rw [HE.out]; exact stD_zero _ _⟩, HB2.out.all3 (by omega) _ _ _⟩
    · have HE := Lib.hid (show RS = (⟨c, nl, fl.take lo ++ ⟨s, [], []⟩ :: fl.drop lo⟩, 0) by rw [HRS.out, if_neg h6])
      have i1 : ¬ (256 : Int) ≤ (es.length : Int) := by omega
      have hbq : Below W2.heap.size W2 (W2.alloc (.cells (filC (⟨s, [], []⟩, nilS, nilS)).toArray 69)) := (Below.refl _ _).alloc (Nat.le_refl _) _
      have HO3 := Lib.hid (HO2.out.below hbq)
      have hIns := fins_any (.slice a2 es.length k2) (es.flatMap filC) (filC (⟨s, [], []⟩, nilS, nilS)) es.length lo W2.heap.size (w.heap.size + 2) _ HO3.out.row (Nat.le_trans hs2 hbq.size) (by omega) (by omega) (HO3.out.one rfl) (by
        intro u hu
        simp only [filC, List.mem_cons, List.not_mem_nil, or_false] at hu
        rcases hu with h | h | h <;> rw [h] <;> rfl) rfl (heap_alloc_new W2 _) (fun k hk => by have := (HO2.out.row.lt k hk).2; omega)
      have HIns := Lib.hid hIns
      have X3 := Lib.hid (X2.out.below hbq)
      have R3 := Lib.hid (R2.out.below hbq)
      have HD3 := Lib.hid (And.intro (HD2.out.1.below hbq) (HD2.out.2.below hbq))
      have HB3 := Lib.hid (bstep HB2.out hbq)
      have Hel := Lib.hid hel
      have hs3 := Nat.le_trans hs2 hbq.size
      clear hIns hbq X2 R2 HD2 HB2 HO2 hel
      go_wp2_with fail
      refine HIns.out.mono ?_
      rintro e w4 ⟨v4, rfl, ho4, hg4⟩
      have hX4 := X3.out.grown HD3.out.1 HO3.out.row (by decide) hg4
      have hR4 := R3.out.grown HD3.out.2 HO3.out.row (by decide) hg4
      have hD0 := HD3.out.1.grown HO3.out.row (by decide) hg4
      have hD1 := HD3.out.2.grown HO3.out.row (by decide) hg4
      obtain ⟨a4, k4, rfl, _⟩ := own_form ho4
      have X4 := Lib.hid (hX4.set2 (.slice a4 (es.length + 1) k4))
      have R4 := Lib.hid (hR4.set_ne (p := ⟨w.heap.size, 2, none⟩) (by dsimp only; omega) (.slice a4 (es.length + 1) k4))
      have hbel : Below w.heap.size w w4 := HB3.out.grown hg4 (by omega) (fun k hk => by have := (HO3.out.row.lt k hk).1; omega)
      have HB4 := Lib.hid (hbel.setCell (p := ⟨w.heap.size, 2, none⟩) (Nat.le_refl _) (.slice a4 (es.length + 1) k4))
      have hkeep : KeepX w.heap.size w.heap.size w4 ((((w4.setCell ⟨w.heap.size, 2, none⟩ (.slice a4 (es.length + 1) k4)).setCell ⟨w.heap.size + 1, 0, none⟩ (.int .i64 c)).setCell ⟨w.heap.size + 1, 1, none⟩ (.int .i64 nl)).setCell ⟨w.heap.size + 1, 2, none⟩ (.slice a4 (es.length + 1) k4)) :=
        (KeepX.set0 2 _).trans (KeepX.all1 _ _ _)
      have hrow := ho4
      rw [filC_take, filC_drop, show (es.take lo).flatMap filC ++ filC (⟨s, [], []⟩, nilS, nilS) ++ (es.drop lo).flatMap filC = (es.take lo ++ (⟨s, [], []⟩, nilS, nilS) :: es.drop lo).flatMap filC by simp] at hrow
      have hb0 := HO3.out.base
      have HRd := Lib.hid (show StD w.heap.size _ (diskVal c nl (.slice a4 (es.length + 1) k4)) ⟨c, nl, fl.take lo ++ ⟨s, [], []⟩ :: fl.drop lo⟩ from fun W' h' => ⟨_, rfl, by
        replace hkeep := hkeep.trans h'.x
        have := rdF_row (hkeep.own hrow (by omega) hD0 hD1 (by decide)) (fun p hp => by
          rcases List.mem_append.1 hp with hp | hp
          · exact HO3.out.parts hg4 hkeep (by omega) (.inr HO3.out.base) p (List.mem_of_mem_take hp)
          · rcases List.mem_cons.1 hp with hp | hp
            · rw [hp]; exact ⟨RdB_nil _, RdW_nil _⟩
            · exact HO3.out.parts hg4 hkeep (by omega) (.inr HO3.out.base) p (List.mem_of_mem_drop hp))
        rw [List.map_append, List.map_cons, List.map_take, List.map_drop, Hes.out] at this
        exact this⟩)
      have y2 := hX4.c2
      have yf := hX4.f
      clear hkeep hrow ho4 hg4 hD0 hD1 hX4 hR4 hbel HO3 X3 R3 HD3 HB3
      have x0 := X4.out.c0
      have x1 := X4.out.c1
      have x2 := X4.out.c2
      have r0 := R4.out.c0
      have r1 := R4.out.c1
      have r2 := R4.out.c2
      have rf := R4.out.f
      go_wp2_with fail
      exact bodyPost_ret (v := .tuple #[diskVal c nl (.slice a4 (es.length + 1) k4), .int .i64 0]) (by simp [results, Tryd.results27, go_sem, r0, r1, r2]) rfl ⟨⟨_, by rw [HE.out], by rw [HE.out]; exact HRd.out⟩, HB4.out.all3 (by omega) _ _ _⟩
end Go.Proofs.YtkabcpmnbjllcaaDoor
