/- Truncate and Remove of the program: the walks. Printed by mkZy.py. -/
import Derived.Test.YtkabcpmnbjllcaaDoorZx
namespace Go.Proofs.YtkabcpmnbjllcaaDoor
open Go.RowKit

theorem truncD_no {d : Dk} {s : List UInt8} {n : Int} (h : begE d s true ≠ 0) : truncD d s n = (dk0, begE d s true) := by unfold truncD; rw [if_pos (beg_true h)]; rfl
theorem truncD_yes {d : Dk} {s : List UInt8} {n : Int} (h : begE d s true = 0) : truncD d s n = if n < 0 ∨ lenF (atN d.files (lowN d.files s)) < n then (dk0, 2) else (⟨d.cap, nextL d.left, d.files.set (lowN d.files s) ⟨(atN d.files (lowN d.files s)).name, (atN d.files (lowN d.files s)).base, (atN d.files (lowN d.files s)).pend ++ [⟨n, [], true⟩]⟩⟩, 0) := by
  obtain ⟨hv, _, _, hlo, _⟩ := atE_ok (show atE d s = 0 from h)
  have hb := (lenF_bounds (hv.ok _ (atN_mem hlo)).2).2
  have h : atE d s = 0 := h
  unfold truncD; rw [if_neg (by simpa using h)]
  split
  · rfl
  · rename_i hn
    unfold writtenD
    dsimp only
    rw [if_neg (by simp; omega), if_neg (by unfold grownW; simp; omega)]
theorem removeD_no {d : Dk} {s : List UInt8} (h : begE d s true ≠ 0) : removeD d s = (dk0, begE d s true) := by unfold removeD; rw [if_pos (beg_true h)]; rfl
theorem removeD_yes {d : Dk} {s : List UInt8} (h : begE d s true = 0) : removeD d s = (⟨d.cap, nextL d.left, dropN d.files (lowN d.files s)⟩, 0) := by
  have h : atE d s = 0 := h
  unfold removeD; rw [if_neg (by simpa using h)]
set_option maxRecDepth 100000 in
set_option maxHeartbeats 3200000 in
theorem trunc_any (d : Dk) (s : List UInt8) (off : Int) (fv : Value) (w : World) (h : RdF w fv d.files) (hL : LiteD d) (hs : s.length ≤ 9223372036854775807) :
    Calls Tryd.prog 41 #[diskVal d.cap d.left fv, .string (strB s), .int .i64 off] w (WrRes w.heap.size w (truncD d s off)) := by
  obtain ⟨a, cap, rfl, h1, h2, _⟩ := h.shape
  have HBg := Lib.hid (fun W (hW : Below w.heap.size w W) => begin_any d s true _ W (h.below hW) hL hs)
  have HErr := Lib.hid (show begE d s true ≠ 0 → truncD d s off = (dk0, begE d s true) from fun h => truncD_no h)
  have Hfl := Lib.hid hL.len
  have HOk := Lib.hid (fun h => truncD_yes (d := d) (s := s) (n := off) h)
  have Hat0 := Lib.hid (show begE d s true = 0 → lowN d.files s < d.files.length from fun h => (atE_ok h).2.2.2.1)
  have HLn := Lib.hid (show begE d s true = 0 → ∀ W u p, RdB W u (atN d.files (lowN d.files s)).base → RdW W p (atN d.files (lowN d.files s)).pend → Calls Tryd.prog 53 #[filVal (atN d.files (lowN d.files s)).name u p] W fun e w' => e = .returned (.int .i64 (lenF (atN d.files (lowN d.files s)))) ∧ Below W.heap.size W w' from fun he W u p h h' => by
    obtain ⟨hv, _, _, hlo, _⟩ := atE_ok he
    exact length_any _ _ _ u p W h h' (sized_range (hv.ok _ (atN_mem hlo)).2))
  have Hpl := Lib.hid (show begE d s true = 0 → (atN d.files (lowN d.files s)).pend.length ≤ 5000 from fun he => by
    obtain ⟨hv, _, _, hlo, _⟩ := atE_ok he
    exact (hL.fil _ (atN_mem hlo)).pend)
  clear h hL
  unfold BegRes at HBg
  generalize truncD d s off = RS at *
  generalize begE d s true = E at *
  generalize nextL d.left = nl at *
  generalize hn : d.files.length = n at *
  have Hn := Lib.hid hn
  clear hn
  obtain ⟨c, lf, fl⟩ := d
  dsimp only at *
  have HB0 := Lib.hid (show Below w.heap.size w ((w.alloc (.cells #[.int .i64 c, .int .i64 lf, .slice a n cap] 33)).alloc (.cells #[.int .i64 0, .int .i64 0, .slice none 0 0] 33)) from ((Below.refl _ _).alloc (Nat.le_refl _) _).alloc (by simp) _)
  have X := Lib.hid (show BoxD ((w.alloc (.cells #[.int .i64 c, .int .i64 lf, .slice a n cap] 33)).alloc (.cells #[.int .i64 0, .int .i64 0, .slice none 0 0] 33)) w.heap.size c lf (.slice a n cap) from ⟨by simp, by simp, by simp, fun i => by simp⟩)
  have R := Lib.hid (show BoxD ((w.alloc (.cells #[.int .i64 c, .int .i64 lf, .slice a n cap] 33)).alloc (.cells #[.int .i64 0, .int .i64 0, .slice none 0 0] 33)) (w.heap.size + 1) 0 0 (.slice none 0 0) from ⟨by simp, by simp, by simp, fun i => by simp⟩)
  have HD := Lib.hid (twoBlk w (.cells #[.int .i64 c, .int .i64 lf, .slice a n cap] 33) (.cells #[.int .i64 0, .int .i64 0, .slice none 0 0] 33) ⟨_, rfl⟩ ⟨_, rfl⟩)
  have hBB : w.heap.size + 2 ≤ ((w.alloc (.cells #[.int .i64 c, .int .i64 lf, .slice a n cap] 33)).alloc (.cells #[.int .i64 0, .int .i64 0, .slice none 0 0] 33)).heap.size := by simp
  go_enter Tryd.func41, Tryd.ntmps41
  go_upto_region 1 with fail
  generalize (w.alloc (.cells #[.int .i64 c, .int .i64 lf, .slice a n cap] 33)).alloc (.cells #[.int .i64 0, .int .i64 0, .slice none 0 0] 33) = W0 at *
  have x0 := X.out.c0
  have x1 := X.out.c1
  have x2 := X.out.c2
  go_wp2_with fail
  refine (HBg.out W0 HB0.out).mono ?_
  rintro e w1 ⟨hres, hb1⟩
  replace X := Lib.hid (X.out.below hb1)
  replace R := Lib.hid (R.out.below hb1)
  replace HD := Lib.hid (And.intro (HD.out.1.below hb1) (HD.out.2.below hb1))
  have HB1 := Lib.hid (bstep HB0.out hb1)
  have hBB1 := Nat.le_trans hBB hb1.size
  clear x0 x1 x2
  have x0 := X.out.c0
  have x1 := X.out.c1
  have x2 := X.out.c2
  have xf := X.out.f
  rcases hres with ⟨hne, rfl⟩ | ⟨heq, hv, v, rfl, ⟨fv, es, T, rfl, hes, hO⟩⟩
  · have hz1 : (E == 0) = false := beq_eq_false_iff_ne.2 hne
    have hz2 : (E != 0) = true := by rw [bne_iff_ne]; exact hne
    have HEr := Lib.hid (HErr.out hne)
    have R2 := Lib.hid (((R.out.set_ne (p := ⟨w.heap.size, 0, none⟩) (by dsimp only; omega) (.int .i64 0)).set_ne (p := ⟨w.heap.size, 1, none⟩) (by dsimp only; omega) (.int .i64 0)).set_ne (p := ⟨w.heap.size, 2, none⟩) (by dsimp only; omega) nilS)
    have HB2 := Lib.hid (HB1.out.all3 (b := w.heap.size) (Nat.le_refl _) (.int .i64 0) (.int .i64 0) nilS)
    clear hne
    have r0 := R2.out.c0
    have r1 := R2.out.c1
    have r2 := R2.out.c2
    have rf := R2.out.f
    go_wp2_with fail
    exact bodyPost_ret (v := .tuple #[diskVal 0 0 nilS, .int .i64 E]) (by simp [results, Tryd.results41, go_sem, r0, r1, r2]) rfl ⟨⟨_, by rw [HEr.out], by rw [HEr.out]; exact stD_zero _ _⟩, HB2.out.all3 (by omega) _ _ _⟩
  · have hRS := HOk.out heq
    have hlo := Hat0.out heq
    clear HOk HBg Hat0
    replace HLn := Lib.hid (HLn.out heq)
    have hplb := Hpl.out heq
    clear Hpl
    generalize lowN fl s = lo at *
    have HRS := Lib.hid hRS
    clear hRS
    generalize lenF (atN fl lo) = len at *
    have hat := hO.row
    obtain ⟨a2, k2, rfl, hk2, hk3, _⟩ := own_form hat
    clear hat
    have HO2 := Lib.hid ((hO.lower (B' := w.heap.size + 2) hBB rfl).all_ne (b := w.heap.size) (by omega) (.int .i64 c) (.int .i64 nl) (.slice a2 es.length k2))
    have X2 := Lib.hid (X.out.all c nl (.slice a2 es.length k2))
    have R2 := Lib.hid (((R.out.set_ne (p := ⟨w.heap.size, 0, none⟩) (by dsimp only; omega) (.int .i64 c)).set_ne (p := ⟨w.heap.size, 1, none⟩) (by dsimp only; omega) (.int .i64 nl)).set_ne (p := ⟨w.heap.size, 2, none⟩) (by dsimp only; omega) (.slice a2 es.length k2))
    have HB2 := Lib.hid (HB1.out.all3 (b := w.heap.size) (Nat.le_refl _) (.int .i64 c) (.int .i64 nl) (.slice a2 es.length k2))
    have HD2 := Lib.hid (And.intro (HD.out.1.all3 w.heap.size (.int .i64 c) (.int .i64 nl) (.slice a2 es.length k2)) (HD.out.2.all3 w.heap.size (.int .i64 c) (.int .i64 nl) (.slice a2 es.length k2)))
    have hs2 : w.heap.size + 2 ≤ (((w1.setCell ⟨w.heap.size, 0, none⟩ (.int .i64 c)).setCell ⟨w.heap.size, 1, none⟩ (.int .i64 nl)).setCell ⟨w.heap.size, 2, none⟩ (.slice a2 es.length k2)).heap.size := by simp; omega
    have Hes := Lib.hid hes
    have Hv := Lib.hid hv
    have Heq := Lib.hid heq
    clear hO hes hv heq X R HB1 HD HErr
    go_upto_region 4 with fail
    change Code.wp _ _ _ _ (((w1.setCell ⟨w.heap.size, 0, none⟩ (.int .i64 c)).setCell ⟨w.heap.size, 1, none⟩ (.int .i64 nl)).setCell ⟨w.heap.size, 2, none⟩ (.slice a2 es.length k2))
    clear x0 x1 x2 xf
    generalize (((w1.setCell ⟨w.heap.size, 0, none⟩ (.int .i64 c)).setCell ⟨w.heap.size, 1, none⟩ (.int .i64 nl)).setCell ⟨w.heap.size, 2, none⟩ (.slice a2 es.length k2)) = W2 at *
    have hie : lo < es.length := by rw [← Hn.out, ← Hes.out, List.length_map] at hlo; exact hlo
    have hii : (lo : Int) < (es.length : Int) := by omega
    have hat : atN fl lo = (es.getD lo fe0).1 := by rw [← Hes.out]; exact fe_fst es lo hie
    obtain ⟨g, rfl, hgB, hgl, m0, m1, m2, mf⟩ := HO2.out.at hie rfl
    have hrd := (HO2.out.fil lo hie).1.rd
    obtain ⟨ws, hwf, hws⟩ := (HO2.out.fil lo hie).1.pend
    generalize hP : es.getD lo fe0 = P0 at *
    have HP := Lib.hid hP
    clear hP
    obtain ⟨pf0, pu0, pv0⟩ := P0
    dsimp only at hrd hwf hws hat m0 m1 m2
    subst hat
    obtain ⟨ua, uc, eu, _⟩ := hrd.1.shape0
    obtain ⟨pa, pc, ep, hp1, hp2, _⟩ := hrd.2.shape
    subst eu ep
    have Hrd := Lib.hid hrd
    have hwl : ws.length = (atN fl lo).pend.length := by rw [← hwf, List.length_map]
    have Hwf := Lib.hid hwf
    have Hws := Lib.hid hws
    have Hwl := Lib.hid hwl
    clear hrd hwf hws hwl
    generalize (atN fl lo).base.length = ul at *
    generalize (atN fl lo).pend.length = pl at *
    have x0 := X2.out.c0
    have x1 := X2.out.c1
    have x2 := X2.out.c2
    by_cases h1 : off < 0
    · have HE := Lib.hid (show RS = (dk0, 2) by rw [HRS.out, if_pos (.inl h1)])
      have r0 := R2.out.c0
      have r1 := R2.out.c1
      have r2 := R2.out.c2
      have rf := R2.out.f
      go_wp2_with fail
      exact bodyPost_ret (v := .tuple #[diskVal 0 0 nilS, .int .i64 2]) (by simp [results, Tryd.results41, go_sem, r0, r1, r2]) rfl ⟨⟨_, by rw [HE.out], by rw [HE.out]; exact stD_zero _ _⟩, HB2.out.all3 (by omega) _ _ _⟩
    · go_wp2_with fail
      refine (HLn.out W2 _ _ Hrd.out.1 Hrd.out.2).mono ?_
      rintro e w5 ⟨rfl, hb5⟩
      have X5 := Lib.hid (X2.out.below hb5)
      have HR5 := Lib.hid (R2.out.below hb5)
      have HO5 := Lib.hid (HO2.out.below hb5)
      have HD5 := Lib.hid (And.intro (HD2.out.1.below hb5) (HD2.out.2.below hb5))
      have HB5 := Lib.hid (bstep HB2.out hb5)
      replace Hws := Lib.hid (show OwnWs w5 (T lo) (.slice pa pl pc) ws from ⟨own_keep Hws.out.row hb5, fun q hq => (Hws.out.dat q hq).keep hb5⟩)
      have hs5 := Nat.le_trans hs2 hb5.size
      have Hk5 := Lib.hid (show w5.cell? ⟨g, lo * 3 + 2, none⟩ = some (.slice pa pl pc) ∧ ∀ j, w5.frozen? ⟨g, j, none⟩ = false from ⟨Below.keeps hb5 _ _ m2, fun j => (hb5.frozen (p := ⟨g, j, none⟩) hgl).trans (mf j)⟩)
      have hgl5 := Nat.lt_of_lt_of_le hgl hb5.size
      clear hb5 X2 R2 HO2 x0 x1 x2 m0 m1 m2 mf HLn HD2 hgl
      by_cases h2 : len < off
      · have HE := Lib.hid (show RS = (dk0, 2) by rw [HRS.out, if_pos (.inr h2)])
        have r0 := HR5.out.c0
        have r1 := HR5.out.c1
        have r2 := HR5.out.c2
        have rf := HR5.out.f
        go_wp2_with fail
        exact bodyPost_ret (v := .tuple #[diskVal 0 0 nilS, .int .i64 2]) (by simp [results, Tryd.results41, go_sem, r0, r1, r2]) rfl ⟨⟨_, by rw [HE.out], by rw [HE.out]; exact stD_zero _ _⟩, HB5.out.all3 (by omega) _ _ _⟩
      · have HE := Lib.hid (show RS = (⟨c, nl, fl.set lo ⟨(atN fl lo).name, (atN fl lo).base, (atN fl lo).pend ++ [⟨off, [], true⟩]⟩⟩, 0) by rw [HRS.out, if_neg (by omega)])
        have hbq : Below w5.heap.size w5 (w5.alloc (.cells (wrC (⟨off, [], true⟩, nilS)).toArray 95)) := (Below.refl _ _).alloc (Nat.le_refl _) _
        have HO6 := Lib.hid (HO5.out.below hbq)
        have HX6 := Lib.hid (And.intro (X5.out.below hbq) (HR5.out.below hbq))
        have HD6 := Lib.hid (And.intro (HD5.out.1.below hbq) (HD5.out.2.below hbq))
        have HB6 := Lib.hid (bstep HB5.out hbq)
        have Hws6 := Lib.hid (show OwnWs (w5.alloc (.cells (wrC (⟨off, [], true⟩, nilS)).toArray 95)) (T lo) (.slice pa pl pc) ws from ⟨own_keep Hws.out.row hbq, fun q hq => (Hws.out.dat q hq).keep hbq⟩)
        have Hrow := Lib.hid (show (w5.alloc (.cells (wrC (⟨off, [], true⟩, nilS)).toArray 95)).ownsRow (T lo) 95 3 (.slice pa pl pc) pl (ws.flatMap wrC) by have := Hws6.out.row; rw [Hwl.out] at this; exact this)
        have HR9 := Lib.hid (Rd.new w5 3 (wrC (⟨off, [], true⟩, nilS)) 95 1 rfl (by decide))
        have H1 := Lib.hid (show ∀ u ∈ wrC ((⟨off, [], true⟩ : Wr), nilS), u.oneCell' = true by
          intro u hu
          simp only [wrC, List.mem_cons, List.not_mem_nil, or_false] at hu
          rcases hu with h | h | h <;> rw [h] <;> rfl)
        have hTw : T lo ≤ (w5.alloc (.cells (wrC (⟨off, [], true⟩, nilS)).toArray 95)).heap.size := Nat.le_trans (HO5.out.mono lo es.length (by omega) (Nat.le_refl _)) HO6.out.top
        have hTw5 : T lo ≤ w5.heap.size := Nat.le_trans (HO5.out.mono lo es.length (by omega) (Nat.le_refl _)) HO5.out.top
        have kk2 := Hk5.out.1
        have kf := Hk5.out.2
        clear HO5 HD5 HB5 Hws
        go_upto_region 8 with (at_builtin; go_must (refine wpList_app (n := pl) (m := 1) rfl (.tmp 41) (.tmp 44) 67 rfl elemWi (T lo) rfl Hrow.out (by rfl) HR9.out H1.out (by unfold maxLen; omega) (by omega) hTw ?_); intro v4 w4 hown4 hgr4 hv4; clear hv4; obtain ⟨a4, c4, e4, _⟩ := own_form hown4; subst e4; have hbk : w4.heap[g]? = (w5.alloc (.cells (wrC (⟨off, [], true⟩, nilS)).toArray 95)).heap[g]? := hgr4.block g (by simp; omega) (by rcases own_ne HO6.out.row Hrow.out (by decide) with e | e; cases e; exact e); have q2 := (World.cell?_of_block (a := ⟨g, lo * 3 + 2, none⟩) hbk).trans (Below.keeps hbq _ _ kk2); have qf := (World.frozen?_of_block (a := ⟨g, lo * 3 + 2, none⟩) hbk).trans ((hbq.frozen (p := ⟨g, lo * 3 + 2, none⟩) hgl5).trans (kf _)); have Hown4 := Lib.hid hown4; have Hgr4 := Lib.hid hgr4; clear hown4 hgr4 hbk)
        rw [show (w5.alloc (.cells #[.int .i64 off, .slice none 0 0, .bool true] 95)) = w5.alloc (.cells (wrC (⟨off, [], true⟩, nilS)).toArray 95) from rfl] at Hgr4
        replace Hgr4 := Lib.hid (show (w5.alloc (.cells (wrC (⟨off, [], true⟩, nilS)).toArray 95)).grownBy w4 (Value.slice pa pl pc).ownBlock from Hgr4.out)
        have hwr := HO6.out.wrote (b0 := w.heap.size) hie rfl (.inr (Nat.le_refl _)) HD6.out.1 HD6.out.2 (by rw [HP.out]; exact Hws6.out) (by rw [HP.out]; exact Hwf.out) (x := ⟨off, [], true⟩) (dv := nilS) (B5 := w.heap.size + 2) (World.ownsRow_nil _ _ _ _) (Nat.le_refl _) (m := pl + 1) (by rw [Hwl.out]) Hown4.out (by rw [HP.out]; exact Hgr4.out)
        rw [HP.out, Hes.out] at hwr
        have hX7 := (HX6.out.1.grown HD6.out.1 Hrow.out (by decide) Hgr4.out).set_ne (p := ⟨g, lo * 3 + 2, none⟩) (by dsimp only; omega) (.slice a4 (pl + 1) c4)
        have hR7 := (HX6.out.2.grown HD6.out.2 Hrow.out (by decide) Hgr4.out).set_ne (p := ⟨g, lo * 3 + 2, none⟩) (by dsimp only; omega) (.slice a4 (pl + 1) c4)
        have hB7 := (Below.grown HB6.out Hgr4.out (by simp; omega) (fun k hk => by
          have h3 := (Hrow.out.lt k hk).1
          have h4 := HO6.out.base
          have h5 := HO6.out.mono 0 lo (by omega) (by omega)
          omega)).setCell (p := ⟨g, lo * 3 + 2, none⟩) (by dsimp only; omega) (.slice a4 (pl + 1) c4)
        have X7 := Lib.hid hX7
        have R7 := Lib.hid hR7
        have HB7 := Lib.hid hB7
        have HSt := Lib.hid hwr.1
        clear hwr hX7 hR7 hB7 HX6 HD6 HB6 Hws6 Hrow HR9 Hown4 Hgr4 HO6 q2 qf hTw
        generalize w4.setCell ⟨g, lo * 3 + 2, none⟩ (.slice a4 (pl + 1) c4) = W7 at *
        have HRd := Lib.hid (show StD w.heap.size (((W7.setCell ⟨w.heap.size + 1, 0, none⟩ (.int .i64 c)).setCell ⟨w.heap.size + 1, 1, none⟩ (.int .i64 nl)).setCell ⟨w.heap.size + 1, 2, none⟩ (.slice (some ⟨g, 0, none⟩) es.length k2)) (diskVal c nl (.slice (some ⟨g, 0, none⟩) es.length k2)) ⟨c, nl, fl.set lo ⟨(atN fl lo).name, (atN fl lo).base, (atN fl lo).pend ++ [⟨off, [], true⟩]⟩⟩ from fun W' h' => ⟨_, rfl, HSt.out W' ((KeepX.all1 (.int .i64 c) (.int .i64 nl) (.slice (some ⟨g, 0, none⟩) es.length k2)).trans (h'.up (Nat.le_add_right _ 2)).x)⟩)
        have x0 := X7.out.c0
        have x1 := X7.out.c1
        have x2 := X7.out.c2
        have r0 := R7.out.c0
        have r1 := R7.out.c1
        have r2 := R7.out.c2
        have rf := R7.out.f
        go_wp2_with fail
        exact bodyPost_ret (v := .tuple #[diskVal c nl (.slice (some ⟨g, 0, none⟩) es.length k2), .int .i64 0]) (by simp [results, Tryd.results41, go_sem, r0, r1, r2]) rfl ⟨⟨_, by rw [HE.out], by rw [HE.out]; exact HRd.out⟩, HB7.out.all3 (by omega) _ _ _⟩
/-- The files' parts, as long as their blocks stay. -/
def KeepI (lo hi : Nat) (W W' : World) : Prop := ∀ b, lo ≤ b → b < hi → W'.heap[b]? = W.heap[b]?
theorem KeepI.trans {lo hi : Nat} {W W' W2 : World} (h : KeepI lo hi W W') (h' : KeepI lo hi W' W2) : KeepI lo hi W W2 := fun b h0 hb => (h' b h0 hb).trans (h b h0 hb)
theorem KeepI.below {lo hi : Nat} {W W' : World} (h : Below W.heap.size W W') (hh : hi ≤ W.heap.size) : KeepI lo hi W W' := fun b _ hb => h.block b (by omega)
theorem KeepI.grown {lo hi : Nat} {W W' : World} {row : Option Nat} (h : W.grownBy W' row) (hh : hi ≤ W.heap.size) (hr : ∀ g, row = some g → g < lo ∨ hi ≤ g) : KeepI lo hi W W' := fun b h0 hb => h.block b (by omega) fun e => by have := hr b e.symm; omega
theorem KeepI.set {lo hi g : Nat} {W : World} (hg : g < lo ∨ hi ≤ g) (i : Nat) (u : Value) : KeepI lo hi W (W.setCell ⟨g, i, none⟩ u) := fun b h0 hb => Below.heap_setCell W ⟨g, i, none⟩ u b (by dsimp only; omega)
theorem KeepI.b {lo hi B : Nat} {W W' : World} (h : KeepB B W W') (hB : B ≤ lo) (hh : hi ≤ W.heap.size) : KeepI lo hi W W' := fun b h0 hb => h.same b (by omega) (by omega)
theorem OwnFs.partsI {W W2 : World} {B : Nat} {v : Value} {es : List FE} {T : Nat → Nat} (h : OwnFs W B v es T es.length) (hk : KeepI (T 0) (T es.length) W W2) (p : FE) (hp : p ∈ es) : RdB W2 p.2.1 p.1.base ∧ RdW W2 p.2.2 p.1.pend := by
  obtain ⟨j, hj, rfl⟩ := List.getElem_of_mem hp
  have h1 := (h.fil j hj).2
  rw [List.getD_eq_getElem?_getD, List.getElem?_eq_getElem hj] at h1
  refine h1 W2 fun b h2 h3 => hk b ?_ ?_
  · have := h.mono 0 j (Nat.zero_le _) (by omega); omega
  · have := h.mono (j + 1) es.length (by omega) (Nat.le_refl _); omega
theorem KeepB.own {B B' : Nat} {W W' : World} {e : TypeId} {sz n : Nat} {v : Value} {xs : List Value} (hk : KeepB B W W') (ho : W.ownsRow B' e sz v n xs) (hB : B ≤ B') : W'.ownsRow B' e sz v n xs := by
  refine ⟨ho.1, ?_⟩
  rcases ho.2 with h' | ⟨g, cap, cur, e1, h2, h3, h4⟩
  · exact .inl h'
  · refine .inr ⟨g, cap, cur, e1, h2, ?_, h4⟩
    rw [hk.same g (by omega) (Array.getElem?_eq_some_iff.1 h3).1]
    exact h3
theorem dropE (es : List FE) (lo : Nat) : (es.take lo ++ es.drop (lo + 1)).map (·.1) = dropN (es.map (·.1)) lo := by unfold dropN; rw [List.map_append, List.map_take, List.map_drop]
set_option maxRecDepth 100000 in
set_option maxHeartbeats 3200000 in
theorem remove_any (d : Dk) (s : List UInt8) (fv : Value) (w : World) (h : RdF w fv d.files) (hL : LiteD d) (hs : s.length ≤ 9223372036854775807) :
    Calls Tryd.prog 65 #[diskVal d.cap d.left fv, .string (strB s)] w (WrRes w.heap.size w (removeD d s)) := by
  obtain ⟨a, cap, rfl, h1, h2, _⟩ := h.shape
  have HBg := Lib.hid (fun W (hW : Below w.heap.size w W) => begin_any d s true _ W (h.below hW) hL hs)
  have HErr := Lib.hid (show begE d s true ≠ 0 → removeD d s = (dk0, begE d s true) from fun h => removeD_no h)
  have Hfl := Lib.hid hL.len
  have HOk := Lib.hid (fun h => removeD_yes (d := d) (s := s) h)
  have Hat0 := Lib.hid (show begE d s true = 0 → lowN d.files s < d.files.length from fun h => (atE_ok h).2.2.2.1)
  clear h hL
  unfold BegRes at HBg
  generalize removeD d s = RS at *
  generalize begE d s true = E at *
  generalize nextL d.left = nl at *
  generalize hn : d.files.length = n at *
  have Hn := Lib.hid hn
  clear hn
  obtain ⟨c, lf, fl⟩ := d
  dsimp only at *
  have HB0 := Lib.hid (show Below w.heap.size w ((w.alloc (.cells #[.int .i64 c, .int .i64 lf, .slice a n cap] 33)).alloc (.cells #[.int .i64 0, .int .i64 0, .slice none 0 0] 33)) from ((Below.refl _ _).alloc (Nat.le_refl _) _).alloc (by simp) _)
  have X := Lib.hid (show BoxD ((w.alloc (.cells #[.int .i64 c, .int .i64 lf, .slice a n cap] 33)).alloc (.cells #[.int .i64 0, .int .i64 0, .slice none 0 0] 33)) w.heap.size c lf (.slice a n cap) from ⟨by simp, by simp, by simp, fun i => by simp⟩)
  have R := Lib.hid (show BoxD ((w.alloc (.cells #[.int .i64 c, .int .i64 lf, .slice a n cap] 33)).alloc (.cells #[.int .i64 0, .int .i64 0, .slice none 0 0] 33)) (w.heap.size + 1) 0 0 (.slice none 0 0) from ⟨by simp, by simp, by simp, fun i => by simp⟩)
  have HD := Lib.hid (twoBlk w (.cells #[.int .i64 c, .int .i64 lf, .slice a n cap] 33) (.cells #[.int .i64 0, .int .i64 0, .slice none 0 0] 33) ⟨_, rfl⟩ ⟨_, rfl⟩)
  have hBB : w.heap.size + 2 ≤ ((w.alloc (.cells #[.int .i64 c, .int .i64 lf, .slice a n cap] 33)).alloc (.cells #[.int .i64 0, .int .i64 0, .slice none 0 0] 33)).heap.size := by simp
  go_enter Tryd.func65, Tryd.ntmps65
  go_upto_region 1 with fail
  generalize (w.alloc (.cells #[.int .i64 c, .int .i64 lf, .slice a n cap] 33)).alloc (.cells #[.int .i64 0, .int .i64 0, .slice none 0 0] 33) = W0 at *
  have x0 := X.out.c0
  have x1 := X.out.c1
  have x2 := X.out.c2
  go_wp2_with fail
  refine (HBg.out W0 HB0.out).mono ?_
  rintro e w1 ⟨hres, hb1⟩
  replace X := Lib.hid (X.out.below hb1)
  replace R := Lib.hid (R.out.below hb1)
  replace HD := Lib.hid (And.intro (HD.out.1.below hb1) (HD.out.2.below hb1))
  have HB1 := Lib.hid (bstep HB0.out hb1)
  have hBB1 := Nat.le_trans hBB hb1.size
  clear x0 x1 x2
  have x0 := X.out.c0
  have x1 := X.out.c1
  have x2 := X.out.c2
  have xf := X.out.f
  rcases hres with ⟨hne, rfl⟩ | ⟨heq, hv, v, rfl, ⟨fv, es, T, rfl, hes, hO⟩⟩
  · have hz1 : (E == 0) = false := beq_eq_false_iff_ne.2 hne
    have hz2 : (E != 0) = true := by rw [bne_iff_ne]; exact hne
    have HEr := Lib.hid (HErr.out hne)
    have R2 := Lib.hid (((R.out.set_ne (p := ⟨w.heap.size, 0, none⟩) (by dsimp only; omega) (.int .i64 0)).set_ne (p := ⟨w.heap.size, 1, none⟩) (by dsimp only; omega) (.int .i64 0)).set_ne (p := ⟨w.heap.size, 2, none⟩) (by dsimp only; omega) nilS)
    have HB2 := Lib.hid (HB1.out.all3 (b := w.heap.size) (Nat.le_refl _) (.int .i64 0) (.int .i64 0) nilS)
    clear hne
    have r0 := R2.out.c0
    have r1 := R2.out.c1
    have r2 := R2.out.c2
    have rf := R2.out.f
    go_wp2_with fail
    exact bodyPost_ret (v := .tuple #[diskVal 0 0 nilS, .int .i64 E]) (by simp [results, Tryd.results65, go_sem, r0, r1, r2]) rfl ⟨⟨_, by rw [HEr.out], by rw [HEr.out]; exact stD_zero _ _⟩, HB2.out.all3 (by omega) _ _ _⟩
  · have hRS := HOk.out heq
    have hlo := Hat0.out heq
    clear HOk HBg Hat0
    generalize lowN fl s = lo at *
    have HE := Lib.hid hRS
    clear hRS
    have hat := hO.row
    obtain ⟨a2, k2, rfl, hk2, hk3, _⟩ := own_form hat
    clear hat
    have HO2 := Lib.hid ((hO.lower (B' := w.heap.size + 2) hBB rfl).all_ne (b := w.heap.size) (by omega) (.int .i64 c) (.int .i64 nl) (.slice a2 es.length k2))
    have X2 := Lib.hid (X.out.all c nl (.slice a2 es.length k2))
    have R2 := Lib.hid (((R.out.set_ne (p := ⟨w.heap.size, 0, none⟩) (by dsimp only; omega) (.int .i64 c)).set_ne (p := ⟨w.heap.size, 1, none⟩) (by dsimp only; omega) (.int .i64 nl)).set_ne (p := ⟨w.heap.size, 2, none⟩) (by dsimp only; omega) (.slice a2 es.length k2))
    have HB2 := Lib.hid (HB1.out.all3 (b := w.heap.size) (Nat.le_refl _) (.int .i64 c) (.int .i64 nl) (.slice a2 es.length k2))
    have HD2 := Lib.hid (And.intro (HD.out.1.all3 w.heap.size (.int .i64 c) (.int .i64 nl) (.slice a2 es.length k2)) (HD.out.2.all3 w.heap.size (.int .i64 c) (.int .i64 nl) (.slice a2 es.length k2)))
    have hs2 : w.heap.size + 2 ≤ (((w1.setCell ⟨w.heap.size, 0, none⟩ (.int .i64 c)).setCell ⟨w.heap.size, 1, none⟩ (.int .i64 nl)).setCell ⟨w.heap.size, 2, none⟩ (.slice a2 es.length k2)).heap.size := by simp; omega
    have Hes := Lib.hid hes
    have Hv := Lib.hid hv
    have Heq := Lib.hid heq
    clear hO hes hv heq X R HB1 HD HErr
    go_upto_region 4 with fail
    change Code.wp _ _ _ _ (((w1.setCell ⟨w.heap.size, 0, none⟩ (.int .i64 c)).setCell ⟨w.heap.size, 1, none⟩ (.int .i64 nl)).setCell ⟨w.heap.size, 2, none⟩ (.slice a2 es.length k2))
    clear x0 x1 x2 xf
    generalize (((w1.setCell ⟨w.heap.size, 0, none⟩ (.int .i64 c)).setCell ⟨w.heap.size, 1, none⟩ (.int .i64 nl)).setCell ⟨w.heap.size, 2, none⟩ (.slice a2 es.length k2)) = W2 at *
    have hie : lo < es.length := by rw [← Hn.out, ← Hes.out, List.length_map] at hlo; exact hlo
    have hel : es.length = n := by rw [← Hn.out, ← Hes.out, List.length_map]
    have hn := Hfl.out
    obtain ⟨p, hp⟩ : ∃ p, es.length = p + 1 := ⟨es.length - 1, by omega⟩
    have hrow0 := HO2.out.row
    rw [hp] at hrow0
    have HDel := Lib.hid (fdel_any (.slice a2 (p + 1) k2) (es.flatMap filC) p lo (w.heap.size + 2) W2 hrow0 hs2 (by omega) (by omega) (HO2.out.one rfl))
    have x2 := X2.out.c2
    have hl63 : (lo : Int) ≤ 1000000 := by omega
    have Hp := Lib.hid hp
    rw [hp] at x2
    clear hel hrow0
    go_wp2_with fail
    refine HDel.out.mono ?_
    rintro e w4 ⟨v4, rfl, ho4, hg4, -⟩
    rw [← hp] at hg4
    have hX4 := X2.out.grown HD2.out.1 HO2.out.row (by decide) hg4
    have hR4 := R2.out.grown HD2.out.2 HO2.out.row (by decide) hg4
    obtain ⟨a4, k4, rfl, _⟩ := own_form ho4
    have X4 := Lib.hid (hX4.set2 (.slice a4 p k4))
    have R4 := Lib.hid (hR4.set_ne (p := ⟨w.heap.size, 2, none⟩) (by dsimp only; omega) (.slice a4 p k4))
    have hbel : Below w.heap.size w w4 := HB2.out.grown hg4 (by omega) (fun k hk => by have := (HO2.out.row.lt k hk).1; omega)
    have HB4 := Lib.hid (hbel.setCell (p := ⟨w.heap.size, 2, none⟩) (Nat.le_refl _) (.slice a4 p k4))
    have hI : KeepI (T 0) (T es.length) W2 w4 := KeepI.grown hg4 HO2.out.top (fun k hk => .inl (HO2.out.low k hk))
    have hrow := ho4
    rw [filC_take, filC_drop, ← List.flatMap_append] at hrow
    have hbs := HO2.out.base
    have htp := HO2.out.top
    have hsz4 := hg4.size
    have HRd := Lib.hid (show StD w.heap.size ((((w4.setCell ⟨w.heap.size, 2, none⟩ (.slice a4 p k4)).setCell ⟨w.heap.size + 1, 0, none⟩ (.int .i64 c)).setCell ⟨w.heap.size + 1, 1, none⟩ (.int .i64 nl)).setCell ⟨w.heap.size + 1, 2, none⟩ (.slice a4 p k4)) (diskVal c nl (.slice a4 p k4)) ⟨c, nl, dropN fl lo⟩ from fun W' h' => ⟨_, rfl, by
      have hk : KeepB (w.heap.size + 2) w4 W' := ((KeepB.set (b0 := w.heap.size) (by omega) 2 (.slice a4 p k4)).trans (KeepB.all3 (b0 := w.heap.size + 1) (by omega) (.int .i64 c) (.int .i64 nl) (.slice a4 p k4))).trans (h'.up (by omega))
      have := rdF_row (hk.own hrow (Nat.le_refl _)) (fun q hq => HO2.out.partsI (hI.trans (KeepI.b hk hbs (by omega))) q (by
        rcases List.mem_append.1 hq with hq | hq
        · exact List.mem_of_mem_take hq
        · exact List.mem_of_mem_drop hq))
      rw [dropE, Hes.out] at this
      exact this⟩)
    have y2 := hX4.c2
    have yf := hX4.f
    clear hrow ho4 hg4 hX4 hR4 hbel hI HO2 X2 R2 HD2 HB2
    have x0 := X4.out.c0
    have x1 := X4.out.c1
    have x2 := X4.out.c2
    have r0 := R4.out.c0
    have r1 := R4.out.c1
    have r2 := R4.out.c2
    have rf := R4.out.f
    go_wp2_with fail
    exact bodyPost_ret (v := .tuple #[diskVal c nl (.slice a4 p k4), .int .i64 0]) (by simp [results, Tryd.results65, go_sem, r0, r1, r2]) rfl ⟨⟨_, by rw [HE.out], by rw [HE.out]; exact HRd.out⟩, HB4.out.all3 (by omega) _ _ _⟩
end Go.Proofs.YtkabcpmnbjllcaaDoor
