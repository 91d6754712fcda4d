/- Sync of the program: the walk. Printed by mkYg.py. -/
import Derived.Test.YtkabcpmnbjllcaaDoorYf
import Derived.Test.YtkabcpmnbjllcaaDoorYa
namespace Go.Proofs.YtkabcpmnbjllcaaDoor
open Go.RowKit

theorem syncD_no {d : Dk} {s : List UInt8} (h : begE d s true ≠ 0) : syncD d s = (dk0, begE d s true) := by unfold syncD; rw [if_pos (beg_true h)]; rfl
theorem syncD_yes {d : Dk} {s : List UInt8} (h : begE d s true = 0) : syncD d s = (⟨d.cap, nextL d.left, d.files.set (lowN d.files s) ⟨(atN d.files (lowN d.files s)).name, contF (atN d.files (lowN d.files s)), []⟩⟩, 0) := by
  have h : atE d s = 0 := h
  have := (atE_ok h).2.2.2.2
  unfold syncD; rw [if_neg (by simpa using h), this]
/-- File i has taken a content, and no write is pending. -/
theorem OwnFs.synced {W : World} {B B5 g n cap i b0 : Nat} {es : List FE} {T : Nat → Nat} (h : OwnFs W B (.slice (some ⟨g, 0, none⟩) n cap) es T es.length) (hi : i < es.length) (hn : n = es.length) (hb0 : b0 + 2 ≤ B) (hd0 : BlkD W b0) (hd1 : BlkD W (b0 + 1))
    {v5 : Value} {bs : List UInt8} (hv : OwnC W B5 v5 bs) (hB5 : B ≤ B5) :
    StF ((W.setCell ⟨g, i * 3 + 1, none⟩ v5).setCell ⟨g, i * 3 + 2, none⟩ nilS) b0 B (.slice (some ⟨g, 0, none⟩) n cap) ((es.map (·.1)).set i ⟨(es.getD i fe0).1.name, bs, []⟩) := by
  subst hn
  obtain ⟨va, vcap, vc, rfl, hvo, hv1, hv2⟩ := hv
  have hgB := (h.row.lt g rfl).1
  have hT0 := h.mono 0 es.length (Nat.zero_le _) (Nat.le_refl _)
  have hBT := h.base
  have htop := h.top
  have blk : ∀ b u, BlkD W b → b ≠ g → BlkD ((W.setCell ⟨g, i * 3 + 1, none⟩ u).setCell ⟨g, i * 3 + 2, none⟩ nilS) b := fun b u hb hbg => by
    obtain ⟨cs, fz, hb⟩ := hb
    refine ⟨cs, fz, ?_⟩
    rw [Below.heap_setCell _ ⟨g, i * 3 + 2, none⟩ nilS b hbg, Below.heap_setCell W ⟨g, i * 3 + 1, none⟩ u b hbg]
    exact hb
  have b0' := blk b0 (.slice va bs.length vc) hd0 (by omega)
  have b1' := blk (b0 + 1) (.slice va bs.length vc) hd1 (by omega)
  have r1 := (h.row.stored (i * 3 + 1) (.slice va bs.length vc)).1
  have o1 := set_kept hvo h.row (by decide) (i := i * 3 + 1) (.slice va bs.length vc)
  have o2 := set_kept o1 r1 (by decide) (i := i * 3 + 2) nilS
  have r2 := (r1.stored (i * 3 + 2) nilS).1
  intro W' hk
  have hr := hk.own r2 (Nat.le_refl _) b0' b1' (by decide)
  have ho := hk.own o2 hB5 b0' b1' (by decide)
  rw [flat_set3 filC (fun _ => rfl) es i 1 (.slice va bs.length vc) (⟨(es.getD i fe0).1.name, bs, (es.getD i fe0).1.pend⟩, .slice va bs.length vc, (es.getD i fe0).2.2) hi (by decide) (fun y hy => by rw [List.getD_eq_getElem?_getD, hy]; rfl),
    flat_set3 filC (fun _ => rfl) _ i 2 nilS (⟨(es.getD i fe0).1.name, bs, []⟩, .slice va bs.length vc, nilS) (by simpa using hi) (by decide) (fun y hy => by rw [List.getElem?_set_self hi] at hy; injection hy with hy; subst hy; rfl), List.set_set] at hr
  refine h.changed hi rfl (fun b hb0 hb h1 h2 => ?_) (p := (⟨(es.getD i fe0).1.name, bs, []⟩, .slice va bs.length vc, nilS)) hr (OwnC.rd ⟨va, vcap, vc, rfl, ho, hv1, hv2⟩) (RdW_nil _)
  have hsz : ((W.setCell ⟨g, i * 3 + 1, none⟩ (.slice va bs.length vc)).setCell ⟨g, i * 3 + 2, none⟩ nilS).heap.size = W.heap.size := by simp
  rw [hk.same b (by omega) (by rw [hsz]; omega) (by omega) (by omega), Below.heap_setCell _ ⟨g, i * 3 + 2, none⟩ nilS b h2, Below.heap_setCell W ⟨g, i * 3 + 1, none⟩ _ b h2]
set_option maxRecDepth 100000 in
set_option maxHeartbeats 3200000 in
theorem sync_any (d : Dk) (s : List UInt8) (fv : Value) (w : World) (h : RdF w fv d.files) (hL : LiteD d) (hs : s.length ≤ 9223372036854775807) :
    Calls Tryd.prog 31 #[diskVal d.cap d.left fv, .string (strB s)] w (WrRes w.heap.size w (syncD d s)) := by
  obtain ⟨a, cap, rfl, h1, h2, _⟩ := h.shape
  have HBg := Lib.hid (fun W (hW : Below w.heap.size w W) => begin_any d s true _ W (h.below hW) hL hs)
  have HErr := Lib.hid (show begE d s true ≠ 0 → syncD d s = (dk0, begE d s true) from fun h => syncD_no h)
  have Hfl := Lib.hid hL.len
  have HOk := Lib.hid (fun h => syncD_yes (d := d) (s := s) h)
  have Hat0 := Lib.hid (show begE d s true = 0 → lowN d.files s < d.files.length from fun h => (atE_ok h).2.2.2.1)
  have HCt := Lib.hid (show begE d s true = 0 → ∀ W u p, RdB W u (atN d.files (lowN d.files s)).base → RdW W p (atN d.files (lowN d.files s)).pend → Calls Tryd.prog 37 #[filVal (atN d.files (lowN d.files s)).name u p] W fun e w' => ∃ v', e = .returned v' ∧ OwnC w' W.heap.size v' (contF (atN d.files (lowN d.files s))) ∧ Below W.heap.size W w' from fun he W u p h h' => by
    obtain ⟨hv, _, _, hlo, _⟩ := atE_ok he
    exact content_any _ _ _ u p W h h' (hL.fil _ (atN_mem hlo)).wr)
  clear h hL
  unfold BegRes at HBg
  generalize syncD d s = RS at *
  generalize begE d s true = E at *
  generalize nextL d.left = nl at *
  generalize hn : d.files.length = n at *
  have Hn := Lib.hid hn
  clear hn
  obtain ⟨c, lf, fl⟩ := d
  dsimp only at *
  have HB0 := Lib.hid (show Below w.heap.size w ((w.alloc (.cells #[.int .i64 c, .int .i64 lf, .slice a n cap] 33)).alloc (.cells #[.int .i64 0, .int .i64 0, .slice none 0 0] 33)) from ((Below.refl _ _).alloc (Nat.le_refl _) _).alloc (by simp) _)
  have X := Lib.hid (show BoxD ((w.alloc (.cells #[.int .i64 c, .int .i64 lf, .slice a n cap] 33)).alloc (.cells #[.int .i64 0, .int .i64 0, .slice none 0 0] 33)) w.heap.size c lf (.slice a n cap) from ⟨by simp, by simp, by simp, fun i => by simp⟩)
  have R := Lib.hid (show BoxD ((w.alloc (.cells #[.int .i64 c, .int .i64 lf, .slice a n cap] 33)).alloc (.cells #[.int .i64 0, .int .i64 0, .slice none 0 0] 33)) (w.heap.size + 1) 0 0 (.slice none 0 0) from ⟨by simp, by simp, by simp, fun i => by simp⟩)
  have HD := Lib.hid (twoBlk w (.cells #[.int .i64 c, .int .i64 lf, .slice a n cap] 33) (.cells #[.int .i64 0, .int .i64 0, .slice none 0 0] 33) ⟨_, rfl⟩ ⟨_, rfl⟩)
  have hBB : w.heap.size + 2 ≤ ((w.alloc (.cells #[.int .i64 c, .int .i64 lf, .slice a n cap] 33)).alloc (.cells #[.int .i64 0, .int .i64 0, .slice none 0 0] 33)).heap.size := by simp
  go_enter Tryd.func31, Tryd.ntmps31
  go_upto_region 1 with fail
  generalize (w.alloc (.cells #[.int .i64 c, .int .i64 lf, .slice a n cap] 33)).alloc (.cells #[.int .i64 0, .int .i64 0, .slice none 0 0] 33) = W0 at *
  have x0 := X.out.c0
  have x1 := X.out.c1
  have x2 := X.out.c2
  go_wp2_with fail
  refine (HBg.out W0 HB0.out).mono ?_
  rintro e w1 ⟨hres, hb1⟩
  replace X := Lib.hid (X.out.below hb1)
  replace R := Lib.hid (R.out.below hb1)
  replace HD := Lib.hid (And.intro (HD.out.1.below hb1) (HD.out.2.below hb1))
  have HB1 := Lib.hid (bstep HB0.out hb1)
  have hBB1 := Nat.le_trans hBB hb1.size
  clear x0 x1 x2
  have x0 := X.out.c0
  have x1 := X.out.c1
  have x2 := X.out.c2
  have xf := X.out.f
  rcases hres with ⟨hne, rfl⟩ | ⟨heq, hv, v, rfl, ⟨fv, es, T, rfl, hes, hO⟩⟩
  · have hz1 : (E == 0) = false := beq_eq_false_iff_ne.2 hne
    have hz2 : (E != 0) = true := by rw [bne_iff_ne]; exact hne
    have HEr := Lib.hid (HErr.out hne)
    have R2 := Lib.hid (((R.out.set_ne (p := ⟨w.heap.size, 0, none⟩) (by dsimp only; omega) (.int .i64 0)).set_ne (p := ⟨w.heap.size, 1, none⟩) (by dsimp only; omega) (.int .i64 0)).set_ne (p := ⟨w.heap.size, 2, none⟩) (by dsimp only; omega) nilS)
    have HB2 := Lib.hid (HB1.out.all3 (b := w.heap.size) (Nat.le_refl _) (.int .i64 0) (.int .i64 0) nilS)
    clear hne
    have r0 := R2.out.c0
    have r1 := R2.out.c1
    have r2 := R2.out.c2
    have rf := R2.out.f
    go_wp2_with fail
    exact bodyPost_ret (v := .tuple #[diskVal 0 0 nilS, .int .i64 E]) (by simp [results, Tryd.results31, go_sem, r0, r1, r2]) rfl ⟨⟨_, by rw [HEr.out], by rw [HEr.out]; exact stD_zero _ _⟩, HB2.out.all3 (by omega) _ _ _⟩
  · have hRS := HOk.out heq
    have hlo := Hat0.out heq
    clear HOk HBg Hat0
    replace HCt := Lib.hid (HCt.out heq)
    generalize lowN fl s = lo at *
    have HE := Lib.hid hRS
    clear hRS
    have hat := hO.row
    obtain ⟨a2, k2, rfl, hk2, hk3, _⟩ := own_form hat
    clear hat
    have HO2 := Lib.hid ((hO.lower (B' := w.heap.size + 2) hBB rfl).all_ne (b := w.heap.size) (by omega) (.int .i64 c) (.int .i64 nl) (.slice a2 es.length k2))
    have X2 := Lib.hid (X.out.all c nl (.slice a2 es.length k2))
    have R2 := Lib.hid (((R.out.set_ne (p := ⟨w.heap.size, 0, none⟩) (by dsimp only; omega) (.int .i64 c)).set_ne (p := ⟨w.heap.size, 1, none⟩) (by dsimp only; omega) (.int .i64 nl)).set_ne (p := ⟨w.heap.size, 2, none⟩) (by dsimp only; omega) (.slice a2 es.length k2))
    have HB2 := Lib.hid (HB1.out.all3 (b := w.heap.size) (Nat.le_refl _) (.int .i64 c) (.int .i64 nl) (.slice a2 es.length k2))
    have HD2 := Lib.hid (And.intro (HD.out.1.all3 w.heap.size (.int .i64 c) (.int .i64 nl) (.slice a2 es.length k2)) (HD.out.2.all3 w.heap.size (.int .i64 c) (.int .i64 nl) (.slice a2 es.length k2)))
    have hs2 : w.heap.size + 2 ≤ (((w1.setCell ⟨w.heap.size, 0, none⟩ (.int .i64 c)).setCell ⟨w.heap.size, 1, none⟩ (.int .i64 nl)).setCell ⟨w.heap.size, 2, none⟩ (.slice a2 es.length k2)).heap.size := by simp; omega
    have Hes := Lib.hid hes
    have Hv := Lib.hid hv
    have Heq := Lib.hid heq
    clear hO hes hv heq X R HB1 HD HErr
    go_upto_region 4 with fail
    change Code.wp _ _ _ _ (((w1.setCell ⟨w.heap.size, 0, none⟩ (.int .i64 c)).setCell ⟨w.heap.size, 1, none⟩ (.int .i64 nl)).setCell ⟨w.heap.size, 2, none⟩ (.slice a2 es.length k2))
    clear x0 x1 x2 xf
    generalize (((w1.setCell ⟨w.heap.size, 0, none⟩ (.int .i64 c)).setCell ⟨w.heap.size, 1, none⟩ (.int .i64 nl)).setCell ⟨w.heap.size, 2, none⟩ (.slice a2 es.length k2)) = W2 at *
    have hie : lo < es.length := by rw [← Hn.out, ← Hes.out, List.length_map] at hlo; exact hlo
    have hii : (lo : Int) < (es.length : Int) := by omega
    have hat : atN fl lo = (es.getD lo fe0).1 := by rw [← Hes.out]; exact fe_fst es lo hie
    obtain ⟨g, rfl, hgB, hgl, m0, m1, m2, mf⟩ := HO2.out.at hie rfl
    have hrd := (HO2.out.fil lo hie).1.rd
    generalize hP : es.getD lo fe0 = P0 at *
    have HP := Lib.hid hP
    clear hP
    obtain ⟨pf0, pu0, pv0⟩ := P0
    dsimp only at hrd hat m0 m1 m2
    subst hat
    obtain ⟨ua, uc, eu, _⟩ := hrd.1.shape0
    obtain ⟨pa, pc, ep, hp1, hp2, _⟩ := hrd.2.shape
    subst eu ep
    have Hrd := Lib.hid hrd
    clear hrd
    generalize (atN fl lo).base.length = ul at *
    generalize (atN fl lo).pend.length = pl at *
    have Hmm := Lib.hid (show ∀ W, Below W2.heap.size W2 W → ∀ j, W.frozen? ⟨g, j, none⟩ = false from fun W hb j => (hb.frozen (p := ⟨g, j, none⟩) hgl).trans (mf j))
    have Hm1 := Lib.hid m1
    have Hm2 := Lib.hid m2
    have x0 := X2.out.c0
    have x1 := X2.out.c1
    have x2 := X2.out.c2
    go_wp2_with fail
    refine (HCt.out W2 _ _ Hrd.out.1 Hrd.out.2).mono ?_
    rintro e w5 ⟨v5, rfl, ho5, hb5⟩
    have X5 := Lib.hid (X2.out.below hb5)
    have HR5 := Lib.hid (R2.out.below hb5)
    have HO5 := Lib.hid (HO2.out.below hb5)
    have HD5 := Lib.hid (And.intro (HD2.out.1.below hb5) (HD2.out.2.below hb5))
    have HB5 := Lib.hid (bstep HB2.out hb5)
    have Hv5 := Lib.hid (show OwnC w5 W2.heap.size v5 (contF (atN fl lo)) from ho5)
    have hs5 := Nat.le_trans hs2 hb5.size
    have hgl5 := Nat.lt_of_lt_of_le hgl hb5.size
    have mf5 := Hmm.out _ hb5
    have m15 := Below.keeps hb5 _ _ Hm1.out
    have m25 := Below.keeps hb5 _ _ Hm2.out
    obtain ⟨sa, sc, e5, _⟩ := (Hv5.out.rd).shape0
    subst e5
    have hX7 := (X5.out.set_ne (p := ⟨g, lo * 3 + 1, none⟩) (by dsimp only; omega) (.slice sa (contF (atN fl lo)).length sc)).set_ne (p := ⟨g, lo * 3 + 2, none⟩) (by dsimp only; omega) nilS
    have hR7 := (HR5.out.set_ne (p := ⟨g, lo * 3 + 1, none⟩) (by dsimp only; omega) (.slice sa (contF (atN fl lo)).length sc)).set_ne (p := ⟨g, lo * 3 + 2, none⟩) (by dsimp only; omega) nilS
    have hB7 := (HB5.out.setCell (p := ⟨g, lo * 3 + 1, none⟩) (by dsimp only; omega) (.slice sa (contF (atN fl lo)).length sc)).setCell (p := ⟨g, lo * 3 + 2, none⟩) (by dsimp only; omega) nilS
    have hst := HO5.out.synced (b0 := w.heap.size) hie rfl (Nat.le_refl _) HD5.out.1 HD5.out.2 Hv5.out hs2
    rw [HP.out, Hes.out] at hst
    dsimp only at hst
    have X7 := Lib.hid hX7
    have R7 := Lib.hid hR7
    have HB7 := Lib.hid hB7
    have HSt := Lib.hid hst
    clear hX7 hR7 hB7 hst ho5 hb5 X2 R2 HO2 HB2 HD2 X5 HR5 HO5 HB5 HD5 Hv5 x0 x1 x2 m0 m1 m2 mf HCt
    generalize contF (atN fl lo) = CC at *
    generalize CC.length = cl at *
    go_upto_region 6 with fail
    generalize (w5.setCell ⟨g, lo * 3 + 1, none⟩ (.slice sa cl sc)).setCell ⟨g, lo * 3 + 2, none⟩ nilS = W7 at *
    have HRd := Lib.hid (show StD w.heap.size (((W7.setCell ⟨w.heap.size + 1, 0, none⟩ (.int .i64 c)).setCell ⟨w.heap.size + 1, 1, none⟩ (.int .i64 nl)).setCell ⟨w.heap.size + 1, 2, none⟩ (.slice (some ⟨g, 0, none⟩) es.length k2)) (diskVal c nl (.slice (some ⟨g, 0, none⟩) es.length k2)) ⟨c, nl, fl.set lo ⟨(atN fl lo).name, CC, []⟩⟩ from fun W' h' => ⟨_, rfl, HSt.out W' ((KeepX.all1 (.int .i64 c) (.int .i64 nl) (.slice (some ⟨g, 0, none⟩) es.length k2)).trans (h'.up (Nat.le_add_right _ 2)).x)⟩)
    have x0 := X7.out.c0
    have x1 := X7.out.c1
    have x2 := X7.out.c2
    have r0 := R7.out.c0
    have r1 := R7.out.c1
    have r2 := R7.out.c2
    have rf := R7.out.f
    go_wp2_with fail
    exact bodyPost_ret (v := .tuple #[diskVal c nl (.slice (some ⟨g, 0, none⟩) es.length k2), .int .i64 0]) (by simp [results, Tryd.results31, go_sem, r0, r1, r2]) rfl ⟨⟨_, by rw [HE.out], by rw [HE.out]; exact HRd.out⟩, HB7.out.all3 (by omega) _ _ _⟩
end Go.Proofs.YtkabcpmnbjllcaaDoor
