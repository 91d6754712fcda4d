/- Rename of the program: the walk. Printed by mkYa.py. -/
import Derived.Test.YtkabcpmnbjllcaaDoorZy
namespace Go.Proofs.YtkabcpmnbjllcaaDoor
open Go.RowKit

theorem renameD_bad {d : Dk} {s t : List UInt8} (h : nameB t = false) : renameD d s t = (dk0, 1) := by unfold renameD; rw [h]; rfl
theorem renameD_no {d : Dk} {s t : List UInt8} (ht : nameB t = true) (h : begE d s true ≠ 0) : renameD d s t = (dk0, begE d s true) := by unfold renameD; rw [ht, if_neg (by simp), if_pos (beg_true h)]; rfl
theorem renameD_yes {d : Dk} {s t : List UInt8} (ht : nameB t = true) (h : begE d s true = 0) : renameD d s t = (⟨d.cap, nextL d.left, if hasN (dropN d.files (lowN d.files s)) t then (dropN d.files (lowN d.files s)).set (lowN (dropN d.files (lowN d.files s)) t) ⟨t, (atN d.files (lowN d.files s)).base, (atN d.files (lowN d.files s)).pend⟩
    else (dropN d.files (lowN d.files s)).take (lowN (dropN d.files (lowN d.files s)) t) ++ ⟨t, (atN d.files (lowN d.files s)).base, (atN d.files (lowN d.files s)).pend⟩ :: (dropN d.files (lowN d.files s)).drop (lowN (dropN d.files (lowN d.files s)) t)⟩, 0) := by
  obtain ⟨hv, _⟩ := atE_ok (show atE d s = 0 from h)
  have h : atE d s = 0 := h
  unfold renameD
  rw [ht, if_neg (by simp), if_neg (by simpa using h)]
  have ha := hv.asc.sublist (dropN_sub d.files (lowN d.files s))
  by_cases hh : hasN (dropN d.files (lowN d.files s)) t = true
  · rw [if_pos hh, addN_old ha (f := ⟨t, (atN d.files (lowN d.files s)).base, (atN d.files (lowN d.files s)).pend⟩) hh]
  · rw [if_neg hh, addN_new (f := ⟨t, (atN d.files (lowN d.files s)).base, (atN d.files (lowN d.files s)).pend⟩) (by simpa using hh)]
theorem BoxF.of_block {W W' : World} {b : Nat} {nm : ByteArray} {bv pv : Value} (h : BoxF W b nm bv pv) (hb : W'.heap[b]? = W.heap[b]?) : BoxF W' b nm bv pv :=
  ⟨(World.cell?_of_block (a := ⟨b, 0, none⟩) hb).trans h.c0, (World.cell?_of_block (a := ⟨b, 1, none⟩) hb).trans h.c1, (World.cell?_of_block (a := ⟨b, 2, none⟩) hb).trans h.c2, fun i => (World.frozen?_of_block (a := ⟨b, i, none⟩) hb).trans (h.f i)⟩
theorem BoxF.new (w : World) (nm : ByteArray) (bv pv : Value) (t : TypeId) : BoxF (w.alloc (.cells #[.string nm, bv, pv] t)) w.heap.size nm bv pv := ⟨by simp, by simp, by simp, fun i => by simp⟩
set_option maxRecDepth 100000 in
set_option maxHeartbeats 6400000 in
theorem rename_any (d : Dk) (s t : List UInt8) (fv : Value) (w : World) (h : RdF w fv d.files) (hL : LiteD d) (hs : s.length ≤ 9223372036854775807) (ht : t.length ≤ 9223372036854775807) :
    Calls Tryd.prog 42 #[diskVal d.cap d.left fv, .string (strB s), .string (strB t)] w (WrRes w.heap.size w (renameD d s t)) := by
  obtain ⟨a, cap, rfl, h1, h2, _⟩ := h.shape
  have HBg := Lib.hid (fun W (hW : Below w.heap.size w W) => begin_any d s true _ W (h.below hW) hL hs)
  have HErr0 := Lib.hid (fun hnt h => renameD_no (d := d) (s := s) (t := t) hnt h)
  have Hfl := Lib.hid hL.len
  have HOk := Lib.hid (fun ht h => renameD_yes (d := d) (s := s) (t := t) ht h)
  have HBad := Lib.hid (fun h => renameD_bad (d := d) (s := s) (t := t) h)
  have Hat0 := Lib.hid (show begE d s true = 0 → lowN d.files s < d.files.length from fun h => (atE_ok h).2.2.2.1)
  have HNt : Hid (∀ W, Calls Tryd.prog 23 #[.string (strB t)] W fun e w' => e = .returned (.bool (nameB t)) ∧ Below W.heap.size W w') := Lib.hid (fun W => vname_any (strB t) W (by rw [strB_size]; exact ht))
  clear h hL
  unfold BegRes at HBg
  generalize renameD d s t = RS at *
  generalize begE d s true = E at *
  generalize nameB t = nb at *
  generalize nextL d.left = nl at *
  generalize hn : d.files.length = n at *
  have Hn := Lib.hid hn
  clear hn
  obtain ⟨c, lf, fl⟩ := d
  dsimp only at *
  have HB0 := Lib.hid (show Below w.heap.size w ((w.alloc (.cells #[.int .i64 c, .int .i64 lf, .slice a n cap] 33)).alloc (.cells #[.int .i64 0, .int .i64 0, .slice none 0 0] 33)) from ((Below.refl _ _).alloc (Nat.le_refl _) _).alloc (by simp) _)
  have X := Lib.hid (show BoxD ((w.alloc (.cells #[.int .i64 c, .int .i64 lf, .slice a n cap] 33)).alloc (.cells #[.int .i64 0, .int .i64 0, .slice none 0 0] 33)) w.heap.size c lf (.slice a n cap) from ⟨by simp, by simp, by simp, fun i => by simp⟩)
  have R := Lib.hid (show BoxD ((w.alloc (.cells #[.int .i64 c, .int .i64 lf, .slice a n cap] 33)).alloc (.cells #[.int .i64 0, .int .i64 0, .slice none 0 0] 33)) (w.heap.size + 1) 0 0 (.slice none 0 0) from ⟨by simp, by simp, by simp, fun i => by simp⟩)
  have HD := Lib.hid (twoBlk w (.cells #[.int .i64 c, .int .i64 lf, .slice a n cap] 33) (.cells #[.int .i64 0, .int .i64 0, .slice none 0 0] 33) ⟨_, rfl⟩ ⟨_, rfl⟩)
  have hBB : w.heap.size + 2 ≤ ((w.alloc (.cells #[.int .i64 c, .int .i64 lf, .slice a n cap] 33)).alloc (.cells #[.int .i64 0, .int .i64 0, .slice none 0 0] 33)).heap.size := by simp
  go_enter Tryd.func42, Tryd.ntmps42
  go_upto_region 1 with fail
  generalize (w.alloc (.cells #[.int .i64 c, .int .i64 lf, .slice a n cap] 33)).alloc (.cells #[.int .i64 0, .int .i64 0, .slice none 0 0] 33) = W0 at *
  have x0 := X.out.c0
  have x1 := X.out.c1
  have x2 := X.out.c2
  go_wp2_with fail
  refine (HNt.out W0).mono ?_
  rintro e Wv ⟨rfl, hbv⟩
  replace X := Lib.hid (X.out.below hbv)
  replace R := Lib.hid (R.out.below hbv)
  replace HD := Lib.hid (And.intro (HD.out.1.below hbv) (HD.out.2.below hbv))
  have HBv := Lib.hid (bstep HB0.out hbv)
  replace hBB := Nat.le_trans hBB hbv.size
  clear x0 x1 x2 hbv
  cases nb
  · have HE := Lib.hid (HBad.out rfl)
    have r0 := R.out.c0
    have r1 := R.out.c1
    have r2 := R.out.c2
    have rf := R.out.f
    go_wp2_with fail
    exact bodyPost_ret (v := .tuple #[diskVal 0 0 nilS, .int .i64 1]) (by simp [results, Tryd.results42, go_sem, r0, r1, r2]) rfl ⟨⟨_, by rw [HE.out], by rw [HE.out]; exact stD_zero _ _⟩, HBv.out.all3 (by omega) _ _ _⟩
  · have HErr := Lib.hid (HErr0.out rfl)
    have x0 := X.out.c0
    have x1 := X.out.c1
    have x2 := X.out.c2
    replace HOk := Lib.hid (HOk.out rfl)
    clear HErr0 HBad
    go_wp2_with fail
    refine (HBg.out Wv HBv.out).mono ?_
    rintro e w1 ⟨hres, hb1⟩
    replace X := Lib.hid (X.out.below hb1)
    replace R := Lib.hid (R.out.below hb1)
    replace HD := Lib.hid (And.intro (HD.out.1.below hb1) (HD.out.2.below hb1))
    have HB1 := Lib.hid (bstep HBv.out hb1)
    have hBB1 := Nat.le_trans hBB hb1.size
    clear x0 x1 x2
    have x0 := X.out.c0
    have x1 := X.out.c1
    have x2 := X.out.c2
    have xf := X.out.f
    rcases hres with ⟨hne, rfl⟩ | ⟨heq, hv, v, rfl, ⟨fv, es, T, rfl, hes, hO⟩⟩
    · have hz1 : (E == 0) = false := beq_eq_false_iff_ne.2 hne
      have hz2 : (E != 0) = true := by rw [bne_iff_ne]; exact hne
      have HEr := Lib.hid (HErr.out hne)
      have R2 := Lib.hid (((R.out.set_ne (p := ⟨w.heap.size, 0, none⟩) (by dsimp only; omega) (.int .i64 0)).set_ne (p := ⟨w.heap.size, 1, none⟩) (by dsimp only; omega) (.int .i64 0)).set_ne (p := ⟨w.heap.size, 2, none⟩) (by dsimp only; omega) nilS)
      have HB2 := Lib.hid (HB1.out.all3 (b := w.heap.size) (Nat.le_refl _) (.int .i64 0) (.int .i64 0) nilS)
      clear hne
      have r0 := R2.out.c0
      have r1 := R2.out.c1
      have r2 := R2.out.c2
      have rf := R2.out.f
      go_wp2_with fail
      exact bodyPost_ret (v := .tuple #[diskVal 0 0 nilS, .int .i64 E]) (by simp [results, Tryd.results42, go_sem, r0, r1, r2]) rfl ⟨⟨_, by rw [HEr.out], by rw [HEr.out]; exact stD_zero _ _⟩, HB2.out.all3 (by omega) _ _ _⟩
    · have hRS := HOk.out heq
      have hlo := Hat0.out heq
      clear HOk HBg Hat0
      have HRS := Lib.hid hRS
      clear hRS
      generalize lowN fl s = lo at *
      have hat := hO.row
      obtain ⟨a2, k2, rfl, hk2, hk3, _⟩ := own_form hat
      clear hat
      have HO2 := Lib.hid ((hO.lower (B' := w.heap.size + 2) hBB rfl).all_ne (b := w.heap.size) (by omega) (.int .i64 c) (.int .i64 nl) (.slice a2 es.length k2))
      have X2 := Lib.hid (X.out.all c nl (.slice a2 es.length k2))
      have R2 := Lib.hid (((R.out.set_ne (p := ⟨w.heap.size, 0, none⟩) (by dsimp only; omega) (.int .i64 c)).set_ne (p := ⟨w.heap.size, 1, none⟩) (by dsimp only; omega) (.int .i64 nl)).set_ne (p := ⟨w.heap.size, 2, none⟩) (by dsimp only; omega) (.slice a2 es.length k2))
      have HB2 := Lib.hid (HB1.out.all3 (b := w.heap.size) (Nat.le_refl _) (.int .i64 c) (.int .i64 nl) (.slice a2 es.length k2))
      have HD2 := Lib.hid (And.intro (HD.out.1.all3 w.heap.size (.int .i64 c) (.int .i64 nl) (.slice a2 es.length k2)) (HD.out.2.all3 w.heap.size (.int .i64 c) (.int .i64 nl) (.slice a2 es.length k2)))
      have hs2 : w.heap.size + 2 ≤ (((w1.setCell ⟨w.heap.size, 0, none⟩ (.int .i64 c)).setCell ⟨w.heap.size, 1, none⟩ (.int .i64 nl)).setCell ⟨w.heap.size, 2, none⟩ (.slice a2 es.length k2)).heap.size := by simp; omega
      have Hes := Lib.hid hes
      have Hv := Lib.hid hv
      have Heq := Lib.hid heq
      clear hO hes hv heq X R HB1 HD HErr
      go_upto_region 6 with fail
      change Code.wp _ _ _ _ (((w1.setCell ⟨w.heap.size, 0, none⟩ (.int .i64 c)).setCell ⟨w.heap.size, 1, none⟩ (.int .i64 nl)).setCell ⟨w.heap.size, 2, none⟩ (.slice a2 es.length k2))
      clear x0 x1 x2 xf
      generalize (((w1.setCell ⟨w.heap.size, 0, none⟩ (.int .i64 c)).setCell ⟨w.heap.size, 1, none⟩ (.int .i64 nl)).setCell ⟨w.heap.size, 2, none⟩ (.slice a2 es.length k2)) = W2 at *
      have hie : lo < es.length := by rw [← Hn.out, ← Hes.out, List.length_map] at hlo; exact hlo
      have hii : (lo : Int) < (es.length : Int) := by omega
      have hn := Hfl.out
      have hel : es.length = n := by rw [← Hn.out, ← Hes.out, List.length_map]
      have hat : atN fl lo = (es.getD lo fe0).1 := by rw [← Hes.out]; exact fe_fst es lo hie
      obtain ⟨g, rfl, hgB, hgl, m0, m1, m2, mf⟩ := HO2.out.at hie rfl
      have hrd := (HO2.out.fil lo hie).1.rd
      generalize hP : es.getD lo fe0 = P0 at *
      have HP := Lib.hid hP
      have HPm := Lib.hid (show P0 ∈ es by rw [← hP]; exact getD_mem es lo fe0 hie)
      clear hP
      obtain ⟨pf0, pu0, pv0⟩ := P0
      dsimp only at hrd hat m0 m1 m2
      subst hat
      obtain ⟨ua, uc, eu, _⟩ := hrd.1.shape0
      obtain ⟨pa, pc, ep, hp1, hp2, _⟩ := hrd.2.shape
      subst eu ep
      clear hrd
      generalize (atN fl lo).base.length = ul at *
      generalize (atN fl lo).pend.length = pl at *
      have x0 := X2.out.c0
      have x1 := X2.out.c1
      have x2 := X2.out.c2
      have hbq : Below W2.heap.size W2 (W2.alloc (.cells #[.string (strB (atN fl lo).name), .slice ua ul uc, .slice pa pl pc] 69)) := (Below.refl _ _).alloc (Nat.le_refl _) _
      go_upto_region 7 with fail
      have F3 := Lib.hid (BoxF.new W2 (strB (atN fl lo).name) (.slice ua ul uc) (.slice pa pl pc) 69)
      have HI3 := Lib.hid (KeepI.below (lo := T 0) hbq HO2.out.top)
      have X3 := Lib.hid (X2.out.below hbq)
      have R3 := Lib.hid (R2.out.below hbq)
      have HD3 := Lib.hid (And.intro (HD2.out.1.below hbq) (HD2.out.2.below hbq))
      have HB3 := Lib.hid (bstep HB2.out hbq)
      have HO3 := Lib.hid (HO2.out.below hbq)
      have hs3 := Nat.le_trans hs2 hbq.size
      have htop2 := HO2.out.top
      have hs3' : W2.heap.size + 1 ≤ (W2.alloc (.cells #[.string (strB (atN fl lo).name), .slice ua ul uc, .slice pa pl pc] 69)).heap.size := by simp
      clear m0 m1 m2 mf x0 x1 x2 hbq X2 R2 HD2 HB2
      generalize W2.alloc (.cells #[.string (strB (atN fl lo).name), .slice ua ul uc, .slice pa pl pc] 69) = W3 at *
      obtain ⟨bl, hbl⟩ : ∃ bl, W2.heap.size = bl := ⟨_, rfl⟩
      rw [hbl] at F3 hgl htop2 hs3' ⊢
      obtain ⟨p, hp⟩ : ∃ p, es.length = p + 1 := ⟨es.length - 1, by omega⟩
      have hrow0 := HO3.out.row
      rw [hp] at hrow0
      have HDel := Lib.hid (fdel_any (.slice (some ⟨g, 0, none⟩) (p + 1) k2) (es.flatMap filC) p lo (w.heap.size + 2) W3 hrow0 hs3 (by omega) (by omega) (HO3.out.one rfl))
      have x2 := X3.out.c2
      have hl63 : (lo : Int) ≤ 1000000 := by omega
      have Hp := Lib.hid hp
      rw [hp] at x2
      have hp1000 : p ≤ 1000 := by omega
      have hloP : lo ≤ p := by omega
      have Hbl := Lib.hid hbl
      clear hel hrow0 hbl
      go_wp2_with fail
      refine HDel.out.mono ?_
      rintro e w4 ⟨v4, rfl, ho4, hg4, hv4⟩
      rw [← hp] at hg4
      have hX4 := X3.out.grown HD3.out.1 HO3.out.row (by decide) hg4
      have hR4 := R3.out.grown HD3.out.2 HO3.out.row (by decide) hg4
      have hD4 := And.intro (HD3.out.1.grown HO3.out.row (by decide) hg4) (HD3.out.2.grown HO3.out.row (by decide) hg4)
      have hF4 := F3.out.of_block (hg4.block bl (by omega) (fun e => by
        injection e with e
        have e : bl = g := e
        omega))
      obtain ⟨a4, k4, rfl, _, _, hx4⟩ := own_form ho4
      have X5 := Lib.hid (hX4.set2 (.slice a4 p k4))
      have R5 := Lib.hid (hR4.set_ne (p := ⟨w.heap.size, 2, none⟩) (by dsimp only; omega) (.slice a4 p k4))
      have F5 := Lib.hid (hF4.set_ne (p := ⟨w.heap.size, 2, none⟩) (by dsimp only; omega) (.slice a4 p k4))
      have hbel : Below w.heap.size w w4 := HB3.out.grown hg4 (by omega) (fun k hk => by have := (HO3.out.row.lt k hk).1; omega)
      have HB5 := Lib.hid (hbel.setCell (p := ⟨w.heap.size, 2, none⟩) (Nat.le_refl _) (.slice a4 p k4))
      have hbs := HO2.out.base
      have HI5 := Lib.hid ((HI3.out.trans (KeepI.grown hg4 (by rw [Hp.out] at htop2 ⊢; omega) (fun k hk => .inl (HO2.out.low k hk)))).trans (KeepI.set (g := w.heap.size) (by omega) 2 (.slice a4 p k4)))
      have hrow := own_set_ne (p := ⟨w.heap.size, 2, none⟩) ho4 (own_above ho4 (by dsimp only; omega)) (.slice a4 p k4)
      rw [filC_take, filC_drop, ← List.flatMap_append] at hrow
      have HRow5 := Lib.hid hrow
      have HD5 := Lib.hid (And.intro (hD4.1.set w.heap.size 2 (.slice a4 p k4)) (hD4.2.set w.heap.size 2 (.slice a4 p k4)))
      have hsz4 := hg4.size
      have y2 := hX4.c2
      have yf := hX4.f
      have hfa : ∀ g', a4 = some ⟨g', 0, none⟩ → g' = g := fun g' e => by
        subst e
        injection hv4
      have Hfa := Lib.hid hfa
      have f0 := hF4.c0
      have ff := hF4.f
      have HHp := Lib.hid (Nat.lt_of_lt_of_le (show w.heap.size < bl by omega) (Nat.le_refl bl))
      have F6 := Lib.hid (F5.out.set0 (nm' := strB t))
      have X6 := Lib.hid (X5.out.set_ne (p := ⟨bl, 0, none⟩) (by dsimp only; omega) (.string (strB t)))
      have R6 := Lib.hid (R5.out.set_ne (p := ⟨bl, 0, none⟩) (by dsimp only; omega) (.string (strB t)))
      have HB6 := Lib.hid (HB5.out.setCell (p := ⟨bl, 0, none⟩) (by dsimp only; omega) (.string (strB t)))
      have HI6 := Lib.hid (HI5.out.trans (KeepI.set (g := bl) (by omega) 0 (.string (strB t))))
      have HRow6 := Lib.hid (own_set_ne (p := ⟨bl, 0, none⟩) HRow5.out (fun e => by
        rw [hv4] at e
        have e : some g = some bl := e
        injection e with e
        omega) (.string (strB t)))
      have HD6 := Lib.hid (And.intro (HD5.out.1.set bl 0 (.string (strB t))) (HD5.out.2.set bl 0 (.string (strB t))))
      clear hrow ho4 hg4 hX4 hR4 hD4 hF4 hbel HI3 X3 R3 F3 HD3 HB3 HO3 hv4 hfa hx4 x2 HI5 X5 R5 F5 HD5 HB5 HRow5
      go_upto_region 9 with fail
      change Code.wp _ _ _ _ ((w4.setCell ⟨w.heap.size, 2, none⟩ (.slice a4 p k4)).setCell ⟨bl, 0, none⟩ (.string (strB t)))
      have hsz6 : W3.heap.size ≤ ((w4.setCell ⟨w.heap.size, 2, none⟩ (.slice a4 p k4)).setCell ⟨bl, 0, none⟩ (.string (strB t))).heap.size := by simp; exact hsz4
      clear y2 yf f0 ff hsz4
      generalize (w4.setCell ⟨w.heap.size, 2, none⟩ (.slice a4 p k4)).setCell ⟨bl, 0, none⟩ (.string (strB t)) = W6 at *
      have hrdF : RdF W6 (.slice a4 p k4) (dropN fl lo) := by
        have := rdF_row HRow6.out (fun q hq => HO2.out.partsI HI6.out q (by
          rcases List.mem_append.1 hq with hq | hq
          · exact List.mem_of_mem_take hq
          · exact List.mem_of_mem_drop hq))
        rw [dropE, Hes.out] at this
        exact this
      have hlen1 := hrdF.len
      have HFi := Lib.hid (find_any c nl (.slice a4 p k4) (dropN fl lo) t W6 hrdF (Hv.out.asc.sublist (dropN_sub fl lo)) (by omega))
      have Hlo2 := Lib.hid (lowN_le (dropN fl lo) t)
      rw [← hlen1] at Hlo2
      have Hhas := Lib.hid (show hasN (dropN fl lo) t = true → lowN (dropN fl lo) t < p from fun hh => by rw [hlen1]; exact ((hasN_iff (Hv.out.asc.sublist (dropN_sub fl lo)) t).1 hh).1)
      have Hfl1 := Lib.hid (show (es.take lo ++ es.drop (lo + 1)).map (·.1) = dropN fl lo by rw [dropE, Hes.out])
      clear hrdF hlen1
      generalize dropN fl lo = fl1 at *
      generalize hes1 : es.take lo ++ es.drop (lo + 1) = es1 at *
      have Hes1 := Lib.hid hes1
      have Hel1 := Lib.hid (show es1.length = p by rw [← hes1, List.length_append, List.length_take, List.length_drop]; omega)
      clear hes1
      generalize lowN fl1 t = k at *
      generalize hasN fl1 t = hb at *
      have x0 := X6.out.c0
      have x1 := X6.out.c1
      have x2 := X6.out.c2
      go_wp2_with fail
      refine HFi.out.mono ?_
      rintro e w7 ⟨rfl, hb7⟩
      have X7 := Lib.hid (X6.out.below hb7)
      have R7 := Lib.hid (R6.out.below hb7)
      have F7 := Lib.hid (F6.out.below hb7)
      have HB7 := Lib.hid (bstep HB6.out hb7)
      have HI7 := Lib.hid (HI6.out.trans (KeepI.below hb7 (by omega)))
      have HRow7 := Lib.hid (own_keep HRow6.out hb7)
      have HD7 := Lib.hid (And.intro (HD6.out.1.below hb7) (HD6.out.2.below hb7))
      have hsz7 := Nat.le_trans hsz6 hb7.size
      clear hb7 X6 R6 F6 HB6 HI6 HRow6 HD6 x0 x1 x2 HFi hsz6
      have x0 := X7.out.c0
      have x1 := X7.out.c1
      have x2 := X7.out.c2
      have f0 := F7.out.c0
      have f1 := F7.out.c1
      have f2 := F7.out.c2
      have hk0 := Hlo2.out
      cases hb
      · have HE := Lib.hid (show RS = (⟨c, nl, fl1.take k ++ ⟨t, (atN fl lo).base, (atN fl lo).pend⟩ :: fl1.drop k⟩, 0) by rw [HRS.out]; rfl)
        have hbq : Below w7.heap.size w7 (w7.alloc (.cells (filC (⟨t, (atN fl lo).base, (atN fl lo).pend⟩, .slice ua ul uc, .slice pa pl pc)).toArray 69)) := (Below.refl _ _).alloc (Nat.le_refl _) _
        have HRow8 := Lib.hid (own_keep HRow7.out hbq)
        have HIns := Lib.hid (fins_any (.slice a4 p k4) (es1.flatMap filC) (filC (⟨t, (atN fl lo).base, (atN fl lo).pend⟩, .slice ua ul uc, .slice pa pl pc)) p k w7.heap.size (w.heap.size + 2) _ HRow8.out (by simp; omega) (by omega) (by omega) (fun u hu => by
          obtain ⟨q, hq, hu⟩ := List.mem_flatMap.1 hu
          have hq' : q ∈ es := by
            rw [← Hes1.out] at hq
            rcases List.mem_append.1 hq with hq | hq
            · exact List.mem_of_mem_take hq
            · exact List.mem_of_mem_drop hq
          exact HO2.out.one rfl u (List.mem_flatMap.2 ⟨q, hq', hu⟩)) (by
            intro u hu
            simp only [filC, List.mem_cons, List.not_mem_nil, or_false] at hu
            rcases hu with h | h | h <;> rw [h] <;> rfl) rfl (heap_alloc_new w7 _) (fun k hk => by have := (HRow7.out.lt k hk).2; omega))
        have X8 := Lib.hid (X7.out.below hbq)
        have R8 := Lib.hid (R7.out.below hbq)
        have HD8 := Lib.hid (And.intro (HD7.out.1.below hbq) (HD7.out.2.below hbq))
        have HB8 := Lib.hid (bstep HB7.out hbq)
        have HI8 := Lib.hid (HI7.out.trans (KeepI.below hbq (by omega)))
        have hs8 : w7.heap.size + 1 ≤ (w7.alloc (.cells (filC (⟨t, (atN fl lo).base, (atN fl lo).pend⟩, .slice ua ul uc, .slice pa pl pc)).toArray 69)).heap.size := by simp
        clear hbq X7 R7 HD7 HB7 HI7
        go_wp2_with fail
        refine HIns.out.mono ?_
        rintro e w9 ⟨v9, rfl, ho9, hg9⟩
        have hX9 := X8.out.grown HD8.out.1 HRow8.out (by decide) hg9
        have hR9 := R8.out.grown HD8.out.2 HRow8.out (by decide) hg9
        obtain ⟨a9, k9, rfl, _⟩ := own_form ho9
        have X9 := Lib.hid (hX9.set2 (.slice a9 (p + 1) k9))
        have R9 := Lib.hid (hR9.set_ne (p := ⟨w.heap.size, 2, none⟩) (by dsimp only; omega) (.slice a9 (p + 1) k9))
        have hbel : Below w.heap.size w w9 := HB8.out.grown hg9 (by omega) (fun k hk => by have := (HRow8.out.lt k hk).1; omega)
        have HB9 := Lib.hid (hbel.setCell (p := ⟨w.heap.size, 2, none⟩) (Nat.le_refl _) (.slice a9 (p + 1) k9))
        have hI9 : KeepI (T 0) (T es.length) W2 w9 := HI8.out.trans (KeepI.grown hg9 (by omega) (fun k hk => .inl (by
          have h9 := hk
          cases ha4 : a4 with
          | none => rw [ha4] at h9; cases h9
          | some x =>
            have hlt := (HRow8.out.lt k hk)
            rcases HRow8.out.2 with ⟨e, _⟩ | ⟨g9, _, _, e, _⟩
            · injection e with e; rw [e] at ha4; cases ha4
            · injection e with e
              have e2 := Hfa.out g9 e
              have e3 : some k = some g9 := by rw [← hk, e]; rfl
              injection e3 with e3
              have := HO2.out.low g rfl
              omega)))
        have hrow := ho9
        rw [filC_take, filC_drop, show (es1.take k).flatMap filC ++ filC (⟨t, (atN fl lo).base, (atN fl lo).pend⟩, .slice ua ul uc, .slice pa pl pc) ++ (es1.drop k).flatMap filC = (es1.take k ++ (⟨t, (atN fl lo).base, (atN fl lo).pend⟩, .slice ua ul uc, .slice pa pl pc) :: es1.drop k).flatMap filC by simp] at hrow
        have hsz9 := hg9.size
        have HRd := Lib.hid (show StD w.heap.size ((((w9.setCell ⟨w.heap.size, 2, none⟩ (.slice a9 (p + 1) k9)).setCell ⟨w.heap.size + 1, 0, none⟩ (.int .i64 c)).setCell ⟨w.heap.size + 1, 1, none⟩ (.int .i64 nl)).setCell ⟨w.heap.size + 1, 2, none⟩ (.slice a9 (p + 1) k9)) (diskVal c nl (.slice a9 (p + 1) k9)) ⟨c, nl, fl1.take k ++ ⟨t, (atN fl lo).base, (atN fl lo).pend⟩ :: fl1.drop k⟩ from fun W' h' => ⟨_, rfl, by
          have hk : KeepB (w.heap.size + 2) w9 W' := ((KeepB.set (b0 := w.heap.size) (by omega) 2 (.slice a9 (p + 1) k9)).trans (KeepB.all3 (b0 := w.heap.size + 1) (by omega) (.int .i64 c) (.int .i64 nl) (.slice a9 (p + 1) k9))).trans (h'.up (by omega))
          have hpt := fun q (hq : q ∈ es) => HO2.out.partsI (hI9.trans (KeepI.b hk hbs (by omega))) q hq
          have hold : ∀ q, q ∈ es1 → q ∈ es := fun q hq => by
            rw [← Hes1.out] at hq
            rcases List.mem_append.1 hq with hq | hq
            · exact List.mem_of_mem_take hq
            · exact List.mem_of_mem_drop hq
          have := rdF_row (hk.own hrow (Nat.le_refl _)) (fun q hq => by
            rcases List.mem_append.1 hq with hq | hq
            · exact hpt q (hold q (List.mem_of_mem_take hq))
            · rcases List.mem_cons.1 hq with hq | hq
              · rw [hq]; exact hpt (atN fl lo, .slice ua ul uc, .slice pa pl pc) HPm.out
              · exact hpt q (hold q (List.mem_of_mem_drop hq)))
          rw [List.map_append, List.map_cons, List.map_take, List.map_drop, Hfl1.out] at this
          exact this⟩)
        have y2 := hX9.c2
        have yf := hX9.f
        clear hrow ho9 hg9 hX9 hR9 hbel hI9 HO2 X8 R8 HD8 HB8 HRow8 HRow7 x0 x1 x2 f0 f1 f2
        have x0 := X9.out.c0
        have x1 := X9.out.c1
        have x2 := X9.out.c2
        have r0 := R9.out.c0
        have r1 := R9.out.c1
        have r2 := R9.out.c2
        have rf := R9.out.f
        go_wp2_with fail
        exact bodyPost_ret (v := .tuple #[diskVal c nl (.slice a9 (p + 1) k9), .int .i64 0]) (by simp [results, Tryd.results42, go_sem, r0, r1, r2]) rfl ⟨⟨_, by rw [HE.out], by rw [HE.out]; exact HRd.out⟩, HB9.out.all3 (by omega) _ _ _⟩
      · have HE := Lib.hid (show RS = (⟨c, nl, fl1.set k ⟨t, (atN fl lo).base, (atN fl lo).pend⟩⟩, 0) by rw [HRS.out]; rfl)
        have hkp := Hhas.out rfl
        obtain ⟨g9, rfl, hg9B, hg9l⟩ := own_some HRow7.out (by omega)
        obtain rfl := Hfa.out g9 rfl
        have hki : (k : Int) < (p : Int) := by omega
        have hS : RdS 3 filC w7 _ es1 := own_rds (fun _ _ => rfl) (by decide) HRow7.out
        obtain ⟨_, _, e, _, _, _, hc⟩ := hS.shape (by decide) fe0
        injection e with e1 e2 e3
        obtain ⟨b9, off9, e4, hc⟩ := hc (by rw [Hel1.out]; omega)
        rw [← e1] at e4
        injection e4 with e4
        injection e4 with e5 e6
        subst e5 e6
        have cc := hc k (by rw [Hel1.out]; exact hkp)
        simp only [Nat.zero_add] at cc
        have j0 : w7.cell? ⟨g9, k * 3, none⟩ = some _ := cc 0 _ rfl
        have j1 : w7.cell? ⟨g9, k * 3 + 1, none⟩ = some _ := cc 1 _ rfl
        have j2 : w7.cell? ⟨g9, k * 3 + 2, none⟩ = some _ := cc 2 _ rfl
        have jf := own_frozen HRow7.out
        have hst := own_set3 filC (fun _ => rfl) HRow7.out k (by rw [Hel1.out]; exact hkp) (⟨t, (atN fl lo).base, (atN fl lo).pend⟩, .slice ua ul uc, .slice pa pl pc) (.string (strB t)) (.slice ua ul uc) (.slice pa pl pc) rfl
        have X8 := Lib.hid (((X7.out.set_ne (p := ⟨g9, k * 3, none⟩) (by dsimp only; omega) (.string (strB t))).set_ne (p := ⟨g9, k * 3 + 1, none⟩) (by dsimp only; omega) (.slice ua ul uc)).set_ne (p := ⟨g9, k * 3 + 2, none⟩) (by dsimp only; omega) (.slice pa pl pc))
        have R8 := Lib.hid (((R7.out.set_ne (p := ⟨g9, k * 3, none⟩) (by dsimp only; omega) (.string (strB t))).set_ne (p := ⟨g9, k * 3 + 1, none⟩) (by dsimp only; omega) (.slice ua ul uc)).set_ne (p := ⟨g9, k * 3 + 2, none⟩) (by dsimp only; omega) (.slice pa pl pc))
        have HB8 := Lib.hid (((HB7.out.setCell (p := ⟨g9, k * 3, none⟩) (by dsimp only; omega) (.string (strB t))).setCell (p := ⟨g9, k * 3 + 1, none⟩) (by dsimp only; omega) (.slice ua ul uc)).setCell (p := ⟨g9, k * 3 + 2, none⟩) (by dsimp only; omega) (.slice pa pl pc))
        have hlow9 := HO2.out.low g9 rfl
        have HI8 := Lib.hid (((HI7.out.trans (KeepI.set (g := g9) (by omega) (k * 3) (.string (strB t)))).trans (KeepI.set (g := g9) (by omega) (k * 3 + 1) (.slice ua ul uc))).trans (KeepI.set (g := g9) (by omega) (k * 3 + 2) (.slice pa pl pc)))
        have Hst := Lib.hid hst.1
        clear hst hS hc cc e1 e2 e3 X7 R7 HB7 HI7 HRow7
        go_upto_region 13 with fail
        change Code.wp _ _ _ _ (((w7.setCell ⟨g9, k * 3, none⟩ (.string (strB t))).setCell ⟨g9, k * 3 + 1, none⟩ (.slice ua ul uc)).setCell ⟨g9, k * 3 + 2, none⟩ (.slice pa pl pc))
        have hsz8 : w7.heap.size ≤ (((w7.setCell ⟨g9, k * 3, none⟩ (.string (strB t))).setCell ⟨g9, k * 3 + 1, none⟩ (.slice ua ul uc)).setCell ⟨g9, k * 3 + 2, none⟩ (.slice pa pl pc)).heap.size := by simp
        clear j0 j1 j2 jf x0 x1 x2 f0 f1 f2
        generalize (((w7.setCell ⟨g9, k * 3, none⟩ (.string (strB t))).setCell ⟨g9, k * 3 + 1, none⟩ (.slice ua ul uc)).setCell ⟨g9, k * 3 + 2, none⟩ (.slice pa pl pc)) = W8 at *
        have HRd := Lib.hid (show StD w.heap.size (((W8.setCell ⟨w.heap.size + 1, 0, none⟩ (.int .i64 c)).setCell ⟨w.heap.size + 1, 1, none⟩ (.int .i64 nl)).setCell ⟨w.heap.size + 1, 2, none⟩ (.slice (some ⟨g9, 0, none⟩) p k4)) (diskVal c nl (.slice (some ⟨g9, 0, none⟩) p k4)) ⟨c, nl, fl1.set k ⟨t, (atN fl lo).base, (atN fl lo).pend⟩⟩ from fun W' h' => ⟨_, rfl, by
          have hk : KeepB (w.heap.size + 2) W8 W' := (KeepB.all3 (b0 := w.heap.size + 1) (by omega) (.int .i64 c) (.int .i64 nl) (.slice (some ⟨g9, 0, none⟩) p k4)).trans (h'.up (by omega))
          have hpt := fun q (hq : q ∈ es) => HO2.out.partsI (HI8.out.trans (KeepI.b hk hbs (by omega))) q hq
          have hold : ∀ q, q ∈ es1 → q ∈ es := fun q hq => by
            rw [← Hes1.out] at hq
            rcases List.mem_append.1 hq with hq | hq
            · exact List.mem_of_mem_take hq
            · exact List.mem_of_mem_drop hq
          have := rdF_row (hk.own Hst.out (Nat.le_refl _)) (fun q hq => by
            rcases List.mem_or_eq_of_mem_set hq with hq | hq
            · exact hpt q (hold q hq)
            · rw [hq]; exact hpt (atN fl lo, .slice ua ul uc, .slice pa pl pc) HPm.out)
          rw [List.map_set, Hfl1.out] at this
          exact this⟩)
        have x0 := X8.out.c0
        have x1 := X8.out.c1
        have x2 := X8.out.c2
        have r0 := R8.out.c0
        have r1 := R8.out.c1
        have r2 := R8.out.c2
        have rf := R8.out.f
        go_wp2_with fail
        exact bodyPost_ret (v := .tuple #[diskVal c nl (.slice (some ⟨g9, 0, none⟩) p k4), .int .i64 0]) (by simp [results, Tryd.results42, go_sem, r0, r1, r2]) rfl ⟨⟨_, by rw [HE.out], by rw [HE.out]; exact HRd.out⟩, HB8.out.all3 (by omega) _ _ _⟩
end Go.Proofs.YtkabcpmnbjllcaaDoor
