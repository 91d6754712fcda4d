/- Append and Put of the program: the walks. Printed by mkZx.py. -/
import Derived.Test.YtkabcpmnbjllcaaDoorZw
namespace Go.Proofs.YtkabcpmnbjllcaaDoor
open Go.RowKit

theorem BoxD.low3 {w w' : World} {B b : Nat} {c l : Int} {fv : Value} (h : BoxD w b c l fv) (hb : Below B w w') (hB : b < B) : BoxD w' b c l fv := h.of_block (hb.block b hB)
theorem beg_true {d : Dk} {s : List UInt8} (h : begE d s true ≠ 0) : atE d s ≠ 0 := h
theorem appendD_no {d : Dk} {s b : List UInt8} (h : begE d s true ≠ 0) : appendD d s b = (dk0, begE d s true) := by unfold appendD; rw [if_pos (beg_true h)]; rfl
theorem appendD_yes {d : Dk} {s b : List UInt8} (h : begE d s true = 0) : appendD d s b = wroteD ⟨d.cap, nextL d.left, d.files⟩ (lowN d.files s) ⟨lenF (atN d.files (lowN d.files s)), b, false⟩ := by
  have h : atE d s = 0 := h
  unfold appendD; rw [if_neg (by simpa using h)]; rfl
theorem putD_no {d : Dk} {s b : List UInt8} {off : Int} (h : begE d s true ≠ 0) : putD d s off b = (dk0, begE d s true) := by unfold putD; rw [if_pos (beg_true h)]; rfl
theorem putD_yes {d : Dk} {s b : List UInt8} {off : Int} (h : begE d s true = 0) : putD d s off b = if off < 0 ∨ lenF (atN d.files (lowN d.files s)) < off then (dk0, 2) else wroteD ⟨d.cap, nextL d.left, d.files⟩ (lowN d.files s) ⟨off, b, false⟩ := by
  have h : atE d s = 0 := h
  unfold putD; rw [if_neg (by simpa using h)]; rfl
set_option maxRecDepth 100000 in
set_option maxHeartbeats 3200000 in
theorem append_any (d : Dk) (s b : List UInt8) (fv bv : Value) (w : World) (h : RdF w fv d.files) (hL : LiteD d) (hs : s.length ≤ 9223372036854775807) (hb : RdB w bv b) (hbl : b.length ≤ 2000000) :
    Calls Tryd.prog 28 #[diskVal d.cap d.left fv, .string (strB s), bv] w (WrRes w.heap.size w (appendD d s b)) := by
  obtain ⟨a, cap, rfl, h1, h2, _⟩ := h.shape
  have HBg := Lib.hid (fun W (hW : Below w.heap.size w W) => begin_any d s true _ W (h.below hW) hL hs)
  have HErr := Lib.hid (show begE d s true ≠ 0 → appendD d s b = (dk0, begE d s true) from fun h => appendD_no h)
  have Hfl := Lib.hid hL.len
  have HOk := Lib.hid (fun h => appendD_yes (d := d) (s := s) (b := b) h)
  have Hat0 := Lib.hid (show begE d s true = 0 → lowN d.files s < d.files.length from fun h => (atE_ok h).2.2.2.1)
  have HWr := Lib.hid (show begE d s true = 0 → ∀ off, 0 ≤ off → off ≤ lenF (atN d.files (lowN d.files s)) → ∀ B v W, OwnD W B v ⟨d.cap, nextL d.left, d.files⟩ → B ≤ W.heap.size → RdB W bv b → Calls Tryd.prog 52 #[v, .int .i64 (lowN d.files s : Int), .int .i64 off, bv] W (WrRes B W (wroteD ⟨d.cap, nextL d.left, d.files⟩ (lowN d.files s) ⟨off, b, false⟩)) from fun he off h0 h1 B v W hO hB hb => by
    obtain ⟨hv, _, _, hlo, _⟩ := atE_ok he
    exact write_any ⟨d.cap, nextL d.left, d.files⟩ (lowN d.files s) off b v bv B W hO hB hb hlo (by have := hv.len; dsimp only; omega) (fun f hf => (hv.ok f hf).2) h0 h1 hbl ((hL.fil _ (atN_mem hlo)).pend))
  have HLn := Lib.hid (show begE d s true = 0 → ∀ W u p, RdB W u (atN d.files (lowN d.files s)).base → RdW W p (atN d.files (lowN d.files s)).pend → Calls Tryd.prog 53 #[filVal (atN d.files (lowN d.files s)).name u p] W fun e w' => e = .returned (.int .i64 (lenF (atN d.files (lowN d.files s)))) ∧ Below W.heap.size W w' from fun he W u p h h' => by
    obtain ⟨hv, _, _, hlo, _⟩ := atE_ok he
    exact length_any _ _ _ u p W h h' (sized_range (hv.ok _ (atN_mem hlo)).2))
  have Hbd := Lib.hid (show begE d s true = 0 → 0 ≤ lenF (atN d.files (lowN d.files s)) ∧ lenF (atN d.files (lowN d.files s)) ≤ 1048576 from fun he => by
    obtain ⟨hv, _, _, hlo, _⟩ := atE_ok he
    exact lenF_bounds (hv.ok _ (atN_mem hlo)).2)
  have Hbv := Lib.hid hb
  obtain ⟨ba, bc, rfl, _⟩ := hb.shape0
  clear hb
  clear h hL
  unfold BegRes at HBg
  generalize appendD d s b = RS at *
  generalize begE d s true = E at *
  generalize nextL d.left = nl at *
  generalize hn : d.files.length = n at *
  have Hn := Lib.hid hn
  clear hn
  obtain ⟨c, lf, fl⟩ := d
  dsimp only at *
  generalize b.length = bl at *
  have HB0 := Lib.hid (show Below w.heap.size w ((w.alloc (.cells #[.int .i64 c, .int .i64 lf, .slice a n cap] 33)).alloc (.cells #[.int .i64 0, .int .i64 0, .slice none 0 0] 33)) from ((Below.refl _ _).alloc (Nat.le_refl _) _).alloc (by simp) _)
  have X := Lib.hid (show BoxD ((w.alloc (.cells #[.int .i64 c, .int .i64 lf, .slice a n cap] 33)).alloc (.cells #[.int .i64 0, .int .i64 0, .slice none 0 0] 33)) w.heap.size c lf (.slice a n cap) from ⟨by simp, by simp, by simp, fun i => by simp⟩)
  have R := Lib.hid (show BoxD ((w.alloc (.cells #[.int .i64 c, .int .i64 lf, .slice a n cap] 33)).alloc (.cells #[.int .i64 0, .int .i64 0, .slice none 0 0] 33)) (w.heap.size + 1) 0 0 (.slice none 0 0) from ⟨by simp, by simp, by simp, fun i => by simp⟩)
  have HD := Lib.hid (twoBlk w (.cells #[.int .i64 c, .int .i64 lf, .slice a n cap] 33) (.cells #[.int .i64 0, .int .i64 0, .slice none 0 0] 33) ⟨_, rfl⟩ ⟨_, rfl⟩)
  have hBB : w.heap.size + 2 ≤ ((w.alloc (.cells #[.int .i64 c, .int .i64 lf, .slice a n cap] 33)).alloc (.cells #[.int .i64 0, .int .i64 0, .slice none 0 0] 33)).heap.size := by simp
  go_enter Tryd.func28, Tryd.ntmps28
  go_upto_region 1 with fail
  generalize (w.alloc (.cells #[.int .i64 c, .int .i64 lf, .slice a n cap] 33)).alloc (.cells #[.int .i64 0, .int .i64 0, .slice none 0 0] 33) = W0 at *
  have x0 := X.out.c0
  have x1 := X.out.c1
  have x2 := X.out.c2
  go_wp2_with fail
  refine (HBg.out W0 HB0.out).mono ?_
  rintro e w1 ⟨hres, hb1⟩
  replace X := Lib.hid (X.out.below hb1)
  replace R := Lib.hid (R.out.below hb1)
  replace HD := Lib.hid (And.intro (HD.out.1.below hb1) (HD.out.2.below hb1))
  have HB1 := Lib.hid (bstep HB0.out hb1)
  have hBB1 := Nat.le_trans hBB hb1.size
  clear x0 x1 x2
  have x0 := X.out.c0
  have x1 := X.out.c1
  have x2 := X.out.c2
  have xf := X.out.f
  rcases hres with ⟨hne, rfl⟩ | ⟨heq, hv, v, rfl, ⟨fv, es, T, rfl, hes, hO⟩⟩
  · have hz1 : (E == 0) = false := beq_eq_false_iff_ne.2 hne
    have hz2 : (E != 0) = true := by rw [bne_iff_ne]; exact hne
    have HEr := Lib.hid (HErr.out hne)
    have R2 := Lib.hid (((R.out.set_ne (p := ⟨w.heap.size, 0, none⟩) (by dsimp only; omega) (.int .i64 0)).set_ne (p := ⟨w.heap.size, 1, none⟩) (by dsimp only; omega) (.int .i64 0)).set_ne (p := ⟨w.heap.size, 2, none⟩) (by dsimp only; omega) nilS)
    have HB2 := Lib.hid (HB1.out.all3 (b := w.heap.size) (Nat.le_refl _) (.int .i64 0) (.int .i64 0) nilS)
    clear hne
    have r0 := R2.out.c0
    have r1 := R2.out.c1
    have r2 := R2.out.c2
    have rf := R2.out.f
    go_wp2_with fail
    exact bodyPost_ret (v := .tuple #[diskVal 0 0 nilS, .int .i64 E]) (by simp [results, Tryd.results28, go_sem, r0, r1, r2]) rfl ⟨⟨_, by rw [HEr.out], by rw [HEr.out]; exact stD_zero _ _⟩, HB2.out.all3 (by omega) _ _ _⟩
  · have hRS := HOk.out heq
    have hlo := Hat0.out heq
    replace HWr := Lib.hid (HWr.out heq)
    replace HLn := Lib.hid (HLn.out heq)
    have hbd := Hbd.out heq
    clear HOk HBg Hat0 Hbd
    generalize lowN fl s = lo at *
    have HRS := Lib.hid hRS
    clear hRS
    generalize lenF (atN fl lo) = len at *
    have hat := hO.row
    obtain ⟨a2, k2, rfl, hk2, hk3, _⟩ := own_form hat
    clear hat
    have HO2 := Lib.hid ((hO.lower (B' := w.heap.size + 2) hBB rfl).all_ne (b := w.heap.size) (by omega) (.int .i64 c) (.int .i64 nl) (.slice a2 es.length k2))
    have X2 := Lib.hid (X.out.all c nl (.slice a2 es.length k2))
    have R2 := Lib.hid (((R.out.set_ne (p := ⟨w.heap.size, 0, none⟩) (by dsimp only; omega) (.int .i64 c)).set_ne (p := ⟨w.heap.size, 1, none⟩) (by dsimp only; omega) (.int .i64 nl)).set_ne (p := ⟨w.heap.size, 2, none⟩) (by dsimp only; omega) (.slice a2 es.length k2))
    have HB2 := Lib.hid (HB1.out.all3 (b := w.heap.size) (Nat.le_refl _) (.int .i64 c) (.int .i64 nl) (.slice a2 es.length k2))
    have HD2 := Lib.hid (And.intro (HD.out.1.all3 w.heap.size (.int .i64 c) (.int .i64 nl) (.slice a2 es.length k2)) (HD.out.2.all3 w.heap.size (.int .i64 c) (.int .i64 nl) (.slice a2 es.length k2)))
    have hs2 : w.heap.size + 2 ≤ (((w1.setCell ⟨w.heap.size, 0, none⟩ (.int .i64 c)).setCell ⟨w.heap.size, 1, none⟩ (.int .i64 nl)).setCell ⟨w.heap.size, 2, none⟩ (.slice a2 es.length k2)).heap.size := by simp; omega
    have Hes := Lib.hid hes
    have Hv := Lib.hid hv
    have Heq := Lib.hid heq
    clear hO hes hv heq X R HB1 HD HErr
    go_upto_region 4 with fail
    change Code.wp _ _ _ _ (((w1.setCell ⟨w.heap.size, 0, none⟩ (.int .i64 c)).setCell ⟨w.heap.size, 1, none⟩ (.int .i64 nl)).setCell ⟨w.heap.size, 2, none⟩ (.slice a2 es.length k2))
    clear x0 x1 x2 xf
    generalize (((w1.setCell ⟨w.heap.size, 0, none⟩ (.int .i64 c)).setCell ⟨w.heap.size, 1, none⟩ (.int .i64 nl)).setCell ⟨w.heap.size, 2, none⟩ (.slice a2 es.length k2)) = W2 at *
    have hie : lo < es.length := by rw [← Hn.out, ← Hes.out, List.length_map] at hlo; exact hlo
    have hii : (lo : Int) < (es.length : Int) := by omega
    have hat : atN fl lo = (es.getD lo fe0).1 := by rw [← Hes.out]; exact fe_fst es lo hie
    obtain ⟨g, rfl, _, hgl, m0, m1, m2, _⟩ := HO2.out.at hie rfl
    have hrd := (HO2.out.fil lo hie).1.rd
    rw [← hat] at hrd m0
    obtain ⟨ua, uc, eu, _⟩ := hrd.1.shape0
    obtain ⟨pa, pc, ep, _⟩ := hrd.2.shape
    have Hrd := Lib.hid hrd
    rw [eu] at m1 Hrd
    rw [ep] at m2 Hrd
    generalize (atN fl lo).base.length = ul at *
    generalize (atN fl lo).pend.length = pl at *
    clear hrd eu ep hat
    refine wp_region_call [eqS (diskVal c nl (.slice (some ⟨g, 0, none⟩) es.length k2)), eqS (.int .i64 (lo : Int)), eqS (.pointer (some ⟨w.heap.size, 2, none⟩)), eqS (.slice (some ⟨g, 0, none⟩) es.length k2), eqS (.int .i64 (lo : Int)), eqS (.pointer (some ⟨g, lo * 3, none⟩)), eqS (filVal (atN fl lo).name (.slice ua ul uc) (.slice pa pl pc)), eqS (.int .i64 len), eqS (.slice ba bl bc)] [] 33 (by kernel_rfl) (by kernel_rfl) rfl rfl rfl (by rfl) (by kernel_rfl) (fun f => by simp [frm, dstOf, Act.put]; exact rfl) ?_ ?_
    · refine ⟨?_, ?_, ?_, ?_, ?_, ?_, ?_, ?_, ?_, trivial⟩
      · intro f w1 hb hd
        clear hd
        dsimp only
        have hX := X2.out.below hb
        have q0 := hX.c0
        have q1 := hX.c1
        have q2 := hX.c2
        go_wp2_with fail
        exact ⟨rfl, Below.refl _ _, fun t ht => by injection ht with ht; subst ht; exact ⟨rfl, fun h => by simp at h⟩⟩
      · intro f w1 hb hd
        clear hd
        dsimp only
        go_wp2_with fail
        exact ⟨rfl, Below.refl _ _, fun t ht => by injection ht with ht; subst ht; exact ⟨rfl, fun h => by simp at h⟩⟩
      · intro f w1 hb hd
        clear hd
        dsimp only
        go_wp2_with fail
        exact ⟨rfl, Below.refl _ _, fun t ht => by injection ht with ht; subst ht; exact ⟨rfl, fun h => by simp at h⟩⟩
      · intro f w1 hb hd
        have d2 : f 2 = .pointer (some ⟨w.heap.size, 2, none⟩) := hd 2 (by kernel_rfl)
        clear hd
        dsimp only
        rw [d2]
        have hX := X2.out.below hb
        have q2 := hX.c2
        go_wp2_with fail
        exact ⟨rfl, Below.refl _ _, fun t ht => by injection ht with ht; subst ht; exact ⟨rfl, fun h => by simp at h⟩⟩
      · intro f w1 hb hd
        clear hd
        dsimp only
        go_wp2_with fail
        exact ⟨rfl, Below.refl _ _, fun t ht => by injection ht with ht; subst ht; exact ⟨rfl, fun h => by simp at h⟩⟩
      · intro f w1 hb hd
        have d3 : f 3 = .slice (some ⟨g, 0, none⟩) es.length k2 := hd 3 (by kernel_rfl)
        have d4 : f 4 = .int .i64 (lo : Int) := hd 4 (by kernel_rfl)
        clear hd
        dsimp only
        rw [d3]
        rw [d4]
        go_wp2_with fail
        exact ⟨rfl, Below.refl _ _, fun t ht => by injection ht with ht; subst ht; exact ⟨rfl, fun h => by simp at h⟩⟩
      · intro f w1 hb hd
        have d5 : f 5 = .pointer (some ⟨g, lo * 3, none⟩) := hd 5 (by kernel_rfl)
        clear hd
        dsimp only
        rw [d5]
        have q0 := Below.keeps hb _ _ m0
        have q1 := Below.keeps hb _ _ m1
        have q2 := Below.keeps hb _ _ m2
        go_wp2_with fail
        exact ⟨rfl, Below.refl _ _, fun t ht => by injection ht with ht; subst ht; exact ⟨rfl, fun h => by simp at h⟩⟩
      · intro f w1 hb hd
        have d6 : f 6 = filVal (atN fl lo).name (.slice ua ul uc) (.slice pa pl pc) := hd 6 (by kernel_rfl)
        clear hd
        dsimp only
        rw [d6]
        go_wp2_with fail
        ((with_reducible refine (HLn.out w1 _ _ (Hrd.out.1.below hb) (Hrd.out.2.below hb)).mono ?_); rintro e w2 ⟨rfl, hbe⟩)
        go_wp2_with fail
        exact ⟨rfl, hbe, fun t ht => by injection ht with ht; subst ht; exact ⟨rfl, fun h => by simp at h⟩⟩
      · intro f w1 hb hd
        clear hd
        dsimp only
        go_wp2_with fail
        exact ⟨rfl, Below.refl _ _, fun t ht => by injection ht with ht; subst ht; exact ⟨rfl, fun h => by simp at h⟩⟩
    · intro f w1 hb hA _
      have d0 : f 0 = diskVal c nl (.slice (some ⟨g, 0, none⟩) es.length k2) := hA 0 (show 0 < 9 by decide)
      have d1 : f 1 = .int .i64 (lo : Int) := hA 1 (show 1 < 9 by decide)
      have d2 : f 2 = .pointer (some ⟨w.heap.size, 2, none⟩) := hA 2 (show 2 < 9 by decide)
      have d3 : f 3 = .slice (some ⟨g, 0, none⟩) es.length k2 := hA 3 (show 3 < 9 by decide)
      have d4 : f 4 = .int .i64 (lo : Int) := hA 4 (show 4 < 9 by decide)
      have d5 : f 5 = .pointer (some ⟨g, lo * 3, none⟩) := hA 5 (show 5 < 9 by decide)
      have d6 : f 6 = filVal (atN fl lo).name (.slice ua ul uc) (.slice pa pl pc) := hA 6 (show 6 < 9 by decide)
      have d7 := hA 7 (show 7 < 9 by decide)
      have d8 : f 8 = .slice ba bl bc := hA 8 (show 8 < 9 by decide)
      clear hA
      try dsimp only at *
      rw [d0]
      rw [d1]
      rw [d2]
      rw [d3]
      rw [d4]
      rw [d5]
      rw [d6]
      rw [d8]
      clear d0 d1 d2 d3 d4 d5 d6 d8
      have d7 : f 7 = .int .i64 len := d7
      rw [d7]
      clear d7
      have hO5 := HO2.out.below hb
      have hw := HWr.out len hbd.1 (Int.le_refl _) (w.heap.size + 2) (diskVal c nl (.slice (some ⟨g, 0, none⟩) es.length k2)) w1 ⟨_, es, T, rfl, Hes.out, hO5⟩ (Nat.le_trans hs2 hb.size) (Hbv.out.below (bstep HB2.out hb))
      have HE := HRS
      have hR5 := R2.out.below hb
      have HB5 := Lib.hid (bstep HB2.out hb)
      have hs5 := Nat.le_trans hs2 hb.size
      have Hw := Lib.hid hw
      clear hO5 hw HWr
      go_wp2_with fail
      refine Hw.out.mono ?_
      rintro e w3 ⟨⟨v3, rfl, hst⟩, hb3⟩
      obtain ⟨fv3, ev3, hf3⟩ := hst.rd
      obtain ⟨a3, k3, rfl, _⟩ := hf3.shape
      rw [← HRS.out] at hst hf3 ev3
      obtain ⟨⟨rc, rl, rf⟩, re⟩ := RS
      dsimp only at hst hf3 ev3
      subst ev3
      rw [← HRS.out]
      have hR6 := hR5.low3 hb3 (by omega)
      have HB6 := Lib.hid (HB5.out.trans (hb3.mono (by omega)))
      have HRd := Lib.hid (hst.keep (KeepB.all3 (b0 := w.heap.size + 1) (by omega) (.int .i64 rc) (.int .i64 rl) (.slice a3 rf.length k3)) (show w.heap.size ≤ w.heap.size + 2 by omega))
      have r0 := hR6.c0
      have r1 := hR6.c1
      have r2 := hR6.c2
      have rz := hR6.f
      clear hR6 hR5 hst hf3 hb3 Hw
      go_wp2_with fail
      refine ⟨trivial, ?_, ?_⟩
      all_goals
        go_wp2_with fail
        exact bodyPost_ret (v := .tuple #[diskVal rc rl (.slice a3 rf.length k3), .int .i64 re]) (by simp [results, Tryd.results28, go_sem, r0, r1, r2]) rfl ⟨⟨_, rfl, HRd.out⟩, HB6.out.all3 (by omega) _ _ _⟩
set_option maxRecDepth 100000 in
set_option maxHeartbeats 3200000 in
theorem put_any (d : Dk) (s b : List UInt8) (off : Int) (fv bv : Value) (w : World) (h : RdF w fv d.files) (hL : LiteD d) (hs : s.length ≤ 9223372036854775807) (hb : RdB w bv b) (hbl : b.length ≤ 2000000) :
    Calls Tryd.prog 40 #[diskVal d.cap d.left fv, .string (strB s), .int .i64 off, bv] w (WrRes w.heap.size w (putD d s off b)) := by
  obtain ⟨a, cap, rfl, h1, h2, _⟩ := h.shape
  have HBg := Lib.hid (fun W (hW : Below w.heap.size w W) => begin_any d s true _ W (h.below hW) hL hs)
  have HErr := Lib.hid (show begE d s true ≠ 0 → putD d s off b = (dk0, begE d s true) from fun h => putD_no h)
  have Hfl := Lib.hid hL.len
  have HOk := Lib.hid (fun h => putD_yes (d := d) (s := s) (b := b) (off := off) h)
  have Hat0 := Lib.hid (show begE d s true = 0 → lowN d.files s < d.files.length from fun h => (atE_ok h).2.2.2.1)
  have HWr := Lib.hid (show begE d s true = 0 → ∀ off, 0 ≤ off → off ≤ lenF (atN d.files (lowN d.files s)) → ∀ B v W, OwnD W B v ⟨d.cap, nextL d.left, d.files⟩ → B ≤ W.heap.size → RdB W bv b → Calls Tryd.prog 52 #[v, .int .i64 (lowN d.files s : Int), .int .i64 off, bv] W (WrRes B W (wroteD ⟨d.cap, nextL d.left, d.files⟩ (lowN d.files s) ⟨off, b, false⟩)) from fun he off h0 h1 B v W hO hB hb => by
    obtain ⟨hv, _, _, hlo, _⟩ := atE_ok he
    exact write_any ⟨d.cap, nextL d.left, d.files⟩ (lowN d.files s) off b v bv B W hO hB hb hlo (by have := hv.len; dsimp only; omega) (fun f hf => (hv.ok f hf).2) h0 h1 hbl ((hL.fil _ (atN_mem hlo)).pend))
  have HLn := Lib.hid (show begE d s true = 0 → ∀ W u p, RdB W u (atN d.files (lowN d.files s)).base → RdW W p (atN d.files (lowN d.files s)).pend → Calls Tryd.prog 53 #[filVal (atN d.files (lowN d.files s)).name u p] W fun e w' => e = .returned (.int .i64 (lenF (atN d.files (lowN d.files s)))) ∧ Below W.heap.size W w' from fun he W u p h h' => by
    obtain ⟨hv, _, _, hlo, _⟩ := atE_ok he
    exact length_any _ _ _ u p W h h' (sized_range (hv.ok _ (atN_mem hlo)).2))
  have Hbd := Lib.hid (show begE d s true = 0 → 0 ≤ lenF (atN d.files (lowN d.files s)) ∧ lenF (atN d.files (lowN d.files s)) ≤ 1048576 from fun he => by
    obtain ⟨hv, _, _, hlo, _⟩ := atE_ok he
    exact lenF_bounds (hv.ok _ (atN_mem hlo)).2)
  have Hbv := Lib.hid hb
  obtain ⟨ba, bc, rfl, _⟩ := hb.shape0
  clear hb
  clear h hL
  unfold BegRes at HBg
  generalize putD d s off b = RS at *
  generalize begE d s true = E at *
  generalize nextL d.left = nl at *
  generalize hn : d.files.length = n at *
  have Hn := Lib.hid hn
  clear hn
  obtain ⟨c, lf, fl⟩ := d
  dsimp only at *
  generalize b.length = bl at *
  have HB0 := Lib.hid (show Below w.heap.size w ((w.alloc (.cells #[.int .i64 c, .int .i64 lf, .slice a n cap] 33)).alloc (.cells #[.int .i64 0, .int .i64 0, .slice none 0 0] 33)) from ((Below.refl _ _).alloc (Nat.le_refl _) _).alloc (by simp) _)
  have X := Lib.hid (show BoxD ((w.alloc (.cells #[.int .i64 c, .int .i64 lf, .slice a n cap] 33)).alloc (.cells #[.int .i64 0, .int .i64 0, .slice none 0 0] 33)) w.heap.size c lf (.slice a n cap) from ⟨by simp, by simp, by simp, fun i => by simp⟩)
  have R := Lib.hid (show BoxD ((w.alloc (.cells #[.int .i64 c, .int .i64 lf, .slice a n cap] 33)).alloc (.cells #[.int .i64 0, .int .i64 0, .slice none 0 0] 33)) (w.heap.size + 1) 0 0 (.slice none 0 0) from ⟨by simp, by simp, by simp, fun i => by simp⟩)
  have HD := Lib.hid (twoBlk w (.cells #[.int .i64 c, .int .i64 lf, .slice a n cap] 33) (.cells #[.int .i64 0, .int .i64 0, .slice none 0 0] 33) ⟨_, rfl⟩ ⟨_, rfl⟩)
  have hBB : w.heap.size + 2 ≤ ((w.alloc (.cells #[.int .i64 c, .int .i64 lf, .slice a n cap] 33)).alloc (.cells #[.int .i64 0, .int .i64 0, .slice none 0 0] 33)).heap.size := by simp
  go_enter Tryd.func40, Tryd.ntmps40
  go_upto_region 1 with fail
  generalize (w.alloc (.cells #[.int .i64 c, .int .i64 lf, .slice a n cap] 33)).alloc (.cells #[.int .i64 0, .int .i64 0, .slice none 0 0] 33) = W0 at *
  have x0 := X.out.c0
  have x1 := X.out.c1
  have x2 := X.out.c2
  go_wp2_with fail
  refine (HBg.out W0 HB0.out).mono ?_
  rintro e w1 ⟨hres, hb1⟩
  replace X := Lib.hid (X.out.below hb1)
  replace R := Lib.hid (R.out.below hb1)
  replace HD := Lib.hid (And.intro (HD.out.1.below hb1) (HD.out.2.below hb1))
  have HB1 := Lib.hid (bstep HB0.out hb1)
  have hBB1 := Nat.le_trans hBB hb1.size
  clear x0 x1 x2
  have x0 := X.out.c0
  have x1 := X.out.c1
  have x2 := X.out.c2
  have xf := X.out.f
  rcases hres with ⟨hne, rfl⟩ | ⟨heq, hv, v, rfl, ⟨fv, es, T, rfl, hes, hO⟩⟩
  · have hz1 : (E == 0) = false := beq_eq_false_iff_ne.2 hne
    have hz2 : (E != 0) = true := by rw [bne_iff_ne]; exact hne
    have HEr := Lib.hid (HErr.out hne)
    have R2 := Lib.hid (((R.out.set_ne (p := ⟨w.heap.size, 0, none⟩) (by dsimp only; omega) (.int .i64 0)).set_ne (p := ⟨w.heap.size, 1, none⟩) (by dsimp only; omega) (.int .i64 0)).set_ne (p := ⟨w.heap.size, 2, none⟩) (by dsimp only; omega) nilS)
    have HB2 := Lib.hid (HB1.out.all3 (b := w.heap.size) (Nat.le_refl _) (.int .i64 0) (.int .i64 0) nilS)
    clear hne
    have r0 := R2.out.c0
    have r1 := R2.out.c1
    have r2 := R2.out.c2
    have rf := R2.out.f
    go_wp2_with fail
    exact bodyPost_ret (v := .tuple #[diskVal 0 0 nilS, .int .i64 E]) (by simp [results, Tryd.results40, go_sem, r0, r1, r2]) rfl ⟨⟨_, by rw [HEr.out], by rw [HEr.out]; exact stD_zero _ _⟩, HB2.out.all3 (by omega) _ _ _⟩
  · have hRS := HOk.out heq
    have hlo := Hat0.out heq
    replace HWr := Lib.hid (HWr.out heq)
    replace HLn := Lib.hid (HLn.out heq)
    have hbd := Hbd.out heq
    clear HOk HBg Hat0 Hbd
    generalize lowN fl s = lo at *
    have HRS := Lib.hid hRS
    clear hRS
    generalize lenF (atN fl lo) = len at *
    have hat := hO.row
    obtain ⟨a2, k2, rfl, hk2, hk3, _⟩ := own_form hat
    clear hat
    have HO2 := Lib.hid ((hO.lower (B' := w.heap.size + 2) hBB rfl).all_ne (b := w.heap.size) (by omega) (.int .i64 c) (.int .i64 nl) (.slice a2 es.length k2))
    have X2 := Lib.hid (X.out.all c nl (.slice a2 es.length k2))
    have R2 := Lib.hid (((R.out.set_ne (p := ⟨w.heap.size, 0, none⟩) (by dsimp only; omega) (.int .i64 c)).set_ne (p := ⟨w.heap.size, 1, none⟩) (by dsimp only; omega) (.int .i64 nl)).set_ne (p := ⟨w.heap.size, 2, none⟩) (by dsimp only; omega) (.slice a2 es.length k2))
    have HB2 := Lib.hid (HB1.out.all3 (b := w.heap.size) (Nat.le_refl _) (.int .i64 c) (.int .i64 nl) (.slice a2 es.length k2))
    have HD2 := Lib.hid (And.intro (HD.out.1.all3 w.heap.size (.int .i64 c) (.int .i64 nl) (.slice a2 es.length k2)) (HD.out.2.all3 w.heap.size (.int .i64 c) (.int .i64 nl) (.slice a2 es.length k2)))
    have hs2 : w.heap.size + 2 ≤ (((w1.setCell ⟨w.heap.size, 0, none⟩ (.int .i64 c)).setCell ⟨w.heap.size, 1, none⟩ (.int .i64 nl)).setCell ⟨w.heap.size, 2, none⟩ (.slice a2 es.length k2)).heap.size := by simp; omega
    have Hes := Lib.hid hes
    have Hv := Lib.hid hv
    have Heq := Lib.hid heq
    clear hO hes hv heq X R HB1 HD HErr
    go_upto_region 4 with fail
    change Code.wp _ _ _ _ (((w1.setCell ⟨w.heap.size, 0, none⟩ (.int .i64 c)).setCell ⟨w.heap.size, 1, none⟩ (.int .i64 nl)).setCell ⟨w.heap.size, 2, none⟩ (.slice a2 es.length k2))
    clear x0 x1 x2 xf
    generalize (((w1.setCell ⟨w.heap.size, 0, none⟩ (.int .i64 c)).setCell ⟨w.heap.size, 1, none⟩ (.int .i64 nl)).setCell ⟨w.heap.size, 2, none⟩ (.slice a2 es.length k2)) = W2 at *
    have hie : lo < es.length := by rw [← Hn.out, ← Hes.out, List.length_map] at hlo; exact hlo
    have hii : (lo : Int) < (es.length : Int) := by omega
    have hat : atN fl lo = (es.getD lo fe0).1 := by rw [← Hes.out]; exact fe_fst es lo hie
    obtain ⟨g, rfl, _, hgl, m0, m1, m2, _⟩ := HO2.out.at hie rfl
    have hrd := (HO2.out.fil lo hie).1.rd
    rw [← hat] at hrd m0
    obtain ⟨ua, uc, eu, _⟩ := hrd.1.shape0
    obtain ⟨pa, pc, ep, _⟩ := hrd.2.shape
    have Hrd := Lib.hid hrd
    rw [eu] at m1 Hrd
    rw [ep] at m2 Hrd
    generalize (atN fl lo).base.length = ul at *
    generalize (atN fl lo).pend.length = pl at *
    clear hrd eu ep hat
    have x0 := X2.out.c0
    have x1 := X2.out.c1
    have x2 := X2.out.c2
    by_cases h1 : off < 0
    · have HE := Lib.hid (show RS = (dk0, 2) by rw [HRS.out, if_pos (.inl h1)])
      have r0 := R2.out.c0
      have r1 := R2.out.c1
      have r2 := R2.out.c2
      have rf := R2.out.f
      go_wp2_with fail
      exact bodyPost_ret (v := .tuple #[diskVal 0 0 nilS, .int .i64 2]) (by simp [results, Tryd.results40, go_sem, r0, r1, r2]) rfl ⟨⟨_, by rw [HE.out], by rw [HE.out]; exact stD_zero _ _⟩, HB2.out.all3 (by omega) _ _ _⟩
    · go_wp2_with fail
      refine (HLn.out W2 _ _ Hrd.out.1 Hrd.out.2).mono ?_
      rintro e w5 ⟨rfl, hb5⟩
      have X5 := Lib.hid (X2.out.below hb5)
      have HR5 := Lib.hid (R2.out.below hb5)
      have HO5 := Lib.hid (HO2.out.below hb5)
      have HB5 := Lib.hid (bstep HB2.out hb5)
      have hs5 := Nat.le_trans hs2 hb5.size
      clear hb5 X2 R2 HO2 x0 x1 x2 m0 m1 m2 HLn
      by_cases h2 : len < off
      · have HE := Lib.hid (show RS = (dk0, 2) by rw [HRS.out, if_pos (.inr h2)])
        have r0 := HR5.out.c0
        have r1 := HR5.out.c1
        have r2 := HR5.out.c2
        have rf := HR5.out.f
        go_wp2_with fail
        exact bodyPost_ret (v := .tuple #[diskVal 0 0 nilS, .int .i64 2]) (by simp [results, Tryd.results40, go_sem, r0, r1, r2]) rfl ⟨⟨_, by rw [HE.out], by rw [HE.out]; exact stD_zero _ _⟩, HB5.out.all3 (by omega) _ _ _⟩
      · have HRS2 := Lib.hid (show RS = wroteD ⟨c, nl, fl⟩ lo ⟨off, b, false⟩ by rw [HRS.out, if_neg (by omega)])
        have Hw := Lib.hid (HWr.out off (by omega) (by omega) (w.heap.size + 2) (diskVal c nl (.slice (some ⟨g, 0, none⟩) es.length k2)) w5 ⟨_, es, T, rfl, Hes.out, HO5.out⟩ hs5 (Hbv.out.below HB5.out))
        have x0 := X5.out.c0
        have x1 := X5.out.c1
        have x2 := X5.out.c2
        clear HWr X5 HO5
        go_wp2_with fail
        refine Hw.out.mono ?_
        rintro e w3 ⟨⟨v3, rfl, hst⟩, hb3⟩
        obtain ⟨fv3, ev3, hf3⟩ := hst.rd
        obtain ⟨a3, k3, rfl, _⟩ := hf3.shape
        rw [← HRS2.out] at hst hf3 ev3
        obtain ⟨⟨rc, rl, rf⟩, re⟩ := RS
        dsimp only at hst hf3 ev3
        subst ev3
        rw [← HRS2.out]
        have hR6 := (HR5.out).low3 hb3 (by omega)
        have HB6 := Lib.hid (HB5.out.trans (hb3.mono (by omega)))
        have HRd := Lib.hid (hst.keep (KeepB.all3 (b0 := w.heap.size + 1) (by omega) (.int .i64 rc) (.int .i64 rl) (.slice a3 rf.length k3)) (show w.heap.size ≤ w.heap.size + 2 by omega))
        have r0 := hR6.c0
        have r1 := hR6.c1
        have r2 := hR6.c2
        have rz := hR6.f
        clear hR6 HR5 hst hf3 hb3 Hw
        go_wp2_with fail
        exact bodyPost_ret (v := .tuple #[diskVal rc rl (.slice a3 rf.length k3), .int .i64 re]) (by simp [results, Tryd.results40, go_sem, r0, r1, r2]) rfl ⟨⟨_, rfl, HRd.out⟩, HB6.out.all3 (by omega) _ _ _⟩
end Go.Proofs.YtkabcpmnbjllcaaDoor
