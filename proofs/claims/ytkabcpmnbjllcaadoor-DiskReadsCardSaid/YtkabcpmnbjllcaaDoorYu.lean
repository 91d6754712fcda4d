/- Crash of the program: the walk. Printed by mkYu.py. -/
import Derived.Test.YtkabcpmnbjllcaaDoorYt
namespace Go.Proofs.YtkabcpmnbjllcaaDoor
open Go.RowKit

set_option maxRecDepth 100000 in
set_option maxHeartbeats 6400000 in
theorem crash_any (d : Dk) (ks : List Kp) (fv kv : Value) (w : World) (h : RdF w fv d.files) (hL : LiteD d) (hk : RdK w kv ks) (hkl : ks.length ≤ 1000000) :
    Calls Tryd.prog 30 #[diskVal d.cap d.left fv, kv] w fun e w' => ∃ v, e = .returned v ∧ StD w.heap.size w' v (crashD d ks) ∧ Below w.heap.size w w' := by
  obtain ⟨a, cap, rfl, h1, h2, _⟩ := h.shape
  have HV := Lib.hid (fun W (hW : Below w.heap.size w W) => dvalid_any d.cap d.left _ d.files W (h.below hW) hL.fs)
  have HC := Lib.hid (fun W (hW : Below w.heap.size w W) => dclone_any d.cap d.left _ d.files W (h.below hW) hL.fs (by have := hL.len; omega))
  have HY := Lib.hid (fun e => crashD_yes (d := d) (ks := ks) e)
  have HN := Lib.hid (fun e => crashD_no (d := d) (ks := ks) e)
  have HK := Lib.hid hk
  have Hkl := Lib.hid hkl
  have HLF := Lib.hid (fun f (hf : f ∈ d.files) => hL.fil f hf)
  have HSZ := Lib.hid (show validD d = true → ∀ f ∈ d.files, sizedF f = true from fun e f hf => (((validD_iff _).1 e).ok f hf).2)
  have Hfl := Lib.hid hL.len
  obtain ⟨ka, kc, rfl, hk1, hk2, _⟩ := hk.shape
  clear h hL hk
  generalize crashD d ks = RS at *
  have hq : validD d = true ∨ validD d = false := by cases validD d <;> simp
  generalize hn : d.files.length = n at *
  have Hn := Lib.hid hn
  clear hn
  obtain ⟨c, lf, fl⟩ := d
  dsimp only at *
  generalize validD ⟨c, lf, fl⟩ = vd at *
  generalize hkn : ks.length = kn at *
  have Hkn := Lib.hid hkn
  clear hkn
  have HB0 := Lib.hid (show Below w.heap.size w ((w.alloc (.cells #[.int .i64 c, .int .i64 lf, .slice a n cap] 33)).alloc (.cells #[.int .i64 0, .int .i64 0, .slice none 0 0] 33)) from ((Below.refl _ _).alloc (Nat.le_refl _) _).alloc (by simp) _)
  have X := Lib.hid (show BoxD ((w.alloc (.cells #[.int .i64 c, .int .i64 lf, .slice a n cap] 33)).alloc (.cells #[.int .i64 0, .int .i64 0, .slice none 0 0] 33)) w.heap.size c lf (.slice a n cap) from ⟨by simp, by simp, by simp, fun i => by simp⟩)
  have R := Lib.hid (show BoxD ((w.alloc (.cells #[.int .i64 c, .int .i64 lf, .slice a n cap] 33)).alloc (.cells #[.int .i64 0, .int .i64 0, .slice none 0 0] 33)) (w.heap.size + 1) 0 0 (.slice none 0 0) from ⟨by simp, by simp, by simp, fun i => by simp⟩)
  have HD := Lib.hid (twoBlk w (.cells #[.int .i64 c, .int .i64 lf, .slice a n cap] 33) (.cells #[.int .i64 0, .int .i64 0, .slice none 0 0] 33) ⟨_, rfl⟩ ⟨_, rfl⟩)
  have hBB : w.heap.size + 2 ≤ ((w.alloc (.cells #[.int .i64 c, .int .i64 lf, .slice a n cap] 33)).alloc (.cells #[.int .i64 0, .int .i64 0, .slice none 0 0] 33)).heap.size := by simp
  go_enter Tryd.func30, Tryd.ntmps30
  go_upto_region 1 with fail
  generalize (w.alloc (.cells #[.int .i64 c, .int .i64 lf, .slice a n cap] 33)).alloc (.cells #[.int .i64 0, .int .i64 0, .slice none 0 0] 33) = W0 at *
  have x0 := X.out.c0
  have x1 := X.out.c1
  have x2 := X.out.c2
  rcases hq with hq | hq
  · subst hq
    have HY2 := Lib.hid (HY.out rfl)
    have HSZ2 := Lib.hid (HSZ.out rfl)
    clear HY HN HSZ
    go_wp2_with fail
    refine (HV.out W0 HB0.out).mono ?_
    rintro e w1 ⟨rfl, hb1⟩
    replace X := Lib.hid (X.out.below hb1)
    replace R := Lib.hid (R.out.below hb1)
    replace HD := Lib.hid (And.intro (HD.out.1.below hb1) (HD.out.2.below hb1))
    have HB1 := Lib.hid (bstep HB0.out hb1)
    have hBB1 := Nat.le_trans hBB hb1.size
    clear x0 x1 x2 hb1 HB0 hBB
    have x0 := X.out.c0
    have x1 := X.out.c1
    have x2 := X.out.c2
    go_wp2_with fail
    refine (HC.out w1 HB1.out).mono ?_
    rintro e w2 ⟨v, rfl, ⟨fv, es, T, rfl, hes, hO⟩, hb2⟩
    replace X := Lib.hid (X.out.below hb2)
    replace R := Lib.hid (R.out.below hb2)
    replace HD := Lib.hid (And.intro (HD.out.1.below hb2) (HD.out.2.below hb2))
    have HB2 := Lib.hid (bstep HB1.out hb2)
    have hBB2 := Nat.le_trans hBB1 hb2.size
    clear x0 x1 x2
    have x0 := X.out.c0
    have x1 := X.out.c1
    have x2 := X.out.c2
    have xf := X.out.f
    have hat := hO.row
    obtain ⟨a2, k2, rfl, hk2, hk3, _⟩ := own_form hat
    clear hat
    dsimp only at *
    have HO3 := Lib.hid (((hO.lower (B' := w.heap.size + 2) hBB1 rfl).all_ne (b := w.heap.size) (by omega) (.int .i64 c) (.int .i64 lf) (.slice a2 es.length k2)))
    have X3 := Lib.hid (X.out.all c lf (.slice a2 es.length k2))
    have R3 := Lib.hid (((R.out.set_ne (p := ⟨w.heap.size, 0, none⟩) (by dsimp only; omega) (.int .i64 c)).set_ne (p := ⟨w.heap.size, 1, none⟩) (by dsimp only; omega) (.int .i64 lf)).set_ne (p := ⟨w.heap.size, 2, none⟩) (by dsimp only; omega) (.slice a2 es.length k2))
    have HB3 := Lib.hid (HB2.out.all3 (b := w.heap.size) (Nat.le_refl _) (.int .i64 c) (.int .i64 lf) (.slice a2 es.length k2))
    have HD3 := Lib.hid (And.intro (HD.out.1.all3 w.heap.size (.int .i64 c) (.int .i64 lf) (.slice a2 es.length k2)) (HD.out.2.all3 w.heap.size (.int .i64 c) (.int .i64 lf) (.slice a2 es.length k2)))
    have hs3 : w.heap.size + 2 ≤ (((w2.setCell ⟨w.heap.size, 0, none⟩ (.int .i64 c)).setCell ⟨w.heap.size, 1, none⟩ (.int .i64 lf)).setCell ⟨w.heap.size, 2, none⟩ (.slice a2 es.length k2)).heap.size := by simp; omega
    have Hes := Lib.hid hes
    clear hO hes X R HB2 HD hb2 HB1 hBB1 hBB2 HV HC
    go_upto_region 4 with fail
    change Code.wp _ _ _ _ (((w2.setCell ⟨w.heap.size, 0, none⟩ (.int .i64 c)).setCell ⟨w.heap.size, 1, none⟩ (.int .i64 lf)).setCell ⟨w.heap.size, 2, none⟩ (.slice a2 es.length k2))
    clear x0 x1 x2 xf
    generalize (((w2.setCell ⟨w.heap.size, 0, none⟩ (.int .i64 c)).setCell ⟨w.heap.size, 1, none⟩ (.int .i64 lf)).setCell ⟨w.heap.size, 2, none⟩ (.slice a2 es.length k2)) = W2 at *
    have HO4 := Lib.hid (HO3.out.set_ne (b := w.heap.size) (by omega) 1 (.int .i64 (-1)))
    have X4 := Lib.hid (X3.out.set1 (-1))
    have R4 := Lib.hid (R3.out.set_ne (p := ⟨w.heap.size, 1, none⟩) (by dsimp only; omega) (.int .i64 (-1)))
    have HB4 := Lib.hid (HB3.out.setCell (p := ⟨w.heap.size, 1, none⟩) (Nat.le_refl _) (.int .i64 (-1)))
    have HD4 := Lib.hid (And.intro (HD3.out.1.set w.heap.size 1 (.int .i64 (-1))) (HD3.out.2.set w.heap.size 1 (.int .i64 (-1))))
    have hs4 : w.heap.size + 2 ≤ (W2.setCell ⟨w.heap.size, 1, none⟩ (.int .i64 (-1))).heap.size := by simpa using hs3
    have x1 := X3.out.c1
    have xf := X3.out.f
    clear HO3 X3 R3 HB3 HD3 hs3
    go_upto_region 5 with fail
    clear x1 xf
    generalize W2.setCell ⟨w.heap.size, 1, none⟩ (.int .i64 (-1)) = W3 at *
    have HCr := Lib.hid (show CrI W3 W3 (w.heap.size + 2) a2 k2 es T ks [] from ⟨by simpa using HO4.out.row, rfl, (fun _ h => by cases h), fun _ _ _ => rfl⟩)
    have x2 := X4.out.c2
    have hel : es.length ≤ 1000000 := by
      have e1 := congrArg List.length Hes.out
      rw [List.length_map, Hn.out] at e1
      have := Hfl.out
      omega
    go_wp2_with fail
    clear x2
    go_loopw [19] (fun iv W => ∃ news : List FE, iv = .int .i64 (news.length : Int) ∧ news.length ≤ es.length ∧ Hid (CrI W3 W (w.heap.size + 2) a2 k2 es T ks news) ∧ Hid (BoxD W w.heap.size c (-1) (.slice a2 es.length k2)) ∧ Hid (BoxD W (w.heap.size + 1) 0 0 nilS) ∧ Hid (BlkD W w.heap.size ∧ BlkD W (w.heap.size + 1)) ∧ Hid (Below w.heap.size w W) ∧ Hid (W3.heap.size ≤ W.heap.size)) (fun iv _ => es.length - (intOf iv).toNat)
    case atStart => exact ⟨[], rfl, Nat.zero_le _, HCr, X4, R4, HD4, HB4, Lib.hid (Nat.le_refl _)⟩
    case round =>
      obtain ⟨news, rfl, hle, HI, XI, RI, DI, BI, SI⟩ := hrel
      by_cases hlt : news.length < es.length
      · have i1 : (news.length : Int) < (es.length : Int) := by omega
        obtain ⟨g, rfl, hgB, hgl⟩ := own_some HO4.out.row (by omega)
        have hgT := HO4.out.low g rfl
        have htp := HO4.out.top
        obtain ⟨c0, c1, c2, _⟩ := HI.out.at hlt
        have HPt := Lib.hid (fun W (hW : KeepI (T 0) (T es.length) W3 W) => HO4.out.partsI hW (es.getD news.length fe0) (by rw [List.getD_eq_getElem?_getD, List.getElem?_eq_getElem hlt]; exact List.getElem_mem hlt))
        have HFm := Lib.hid (show (es.getD news.length fe0).1 ∈ fl from by rw [← Hes.out]; exact List.mem_map_of_mem (by rw [List.getD_eq_getElem?_getD, List.getElem?_eq_getElem hlt]; exact List.getElem_mem hlt))
        have HNx := Lib.hid (fun W (hW : CrI W3 W (w.heap.size + 2) (some ⟨g, 0, none⟩) k2 es T ks news) v hv => hW.next hlt hgT (v := v) hv)
        generalize es.getD news.length fe0 = p at *
        obtain ⟨fi, bv, pv⟩ := p
        dsimp only at *
        obtain ⟨hbv, hpv⟩ := HPt.out wr HI.out.keep
        obtain ⟨ba, bc, rfl, _⟩ := hbv.shape0
        obtain ⟨pa, pc, rfl, _⟩ := hpv.shape
        clear hbv hpv
        have HLv := Lib.hid (fun k W (hW : KeepI (T 0) (T es.length) W3 W) => left_any fi k _ _ W (HPt.out W hW).1 (HPt.out W hW).2 (HLF.out fi HFm.out) (HSZ2.out fi HFm.out))
        clear HPt HFm
        obtain ⟨nm, base, ws⟩ := fi
        dsimp only at *
        go_upto_region 9 with fail
        have HA4 := Lib.hid (((Below.refl wr.heap.size wr).alloc (Nat.le_refl _) (.cells #[.string (strB nm), .slice ba base.length bc, .slice pa ws.length pc] 69)).alloc (by simp) (.cells #[.string ⟨#[]⟩, .int .i64 0, .int .i64 0] 52))
        have XF := Lib.hid (show BoxF ((wr.alloc (.cells #[.string (strB nm), .slice ba base.length bc, .slice pa ws.length pc] 69)).alloc (.cells #[.string ⟨#[]⟩, .int .i64 0, .int .i64 0] 52)) wr.heap.size (strB nm) (.slice ba base.length bc) (.slice pa ws.length pc) from ⟨by simp, by simp, by simp, fun i => by simp⟩)
        have XK := Lib.hid (show BoxK ((wr.alloc (.cells #[.string (strB nm), .slice ba base.length bc, .slice pa ws.length pc] 69)).alloc (.cells #[.string ⟨#[]⟩, .int .i64 0, .int .i64 0] 52)) (wr.heap.size + 1) ⟨#[]⟩ 0 0 from ⟨by simp, by simp, by simp⟩)
        have HFz := Lib.hid (show ∀ i, ((wr.alloc (.cells #[.string (strB nm), .slice ba base.length bc, .slice pa ws.length pc] 69)).alloc (.cells #[.string ⟨#[]⟩, .int .i64 0, .int .i64 0] 52)).frozen? ⟨wr.heap.size + 1, i, none⟩ = false from fun i => by simp)
        generalize (wr.alloc (.cells #[.string (strB nm), .slice ba base.length bc, .slice pa ws.length pc] 69)).alloc (.cells #[.string ⟨#[]⟩, .int .i64 0, .int .i64 0] 52) = W4 at *
        clear c0 c1 c2
        go_wp2_with fail
        refine (kidx_any _ ks nm wr.heap.size W4 (HK.out.below (bstep BI.out HA4.out)) XF.out.c0 (by rw [Hkn.out]; exact hkl)).mono ?_
        rintro e w5 ⟨hres, hb5⟩
        have HA5 := Lib.hid (bstep HA4.out hb5)
        have XF5 := Lib.hid (XF.out.below hb5)
        have XK5 := Lib.hid (XK.out.below hb5)
        have hbfs : wr.heap.size + 1 < W4.heap.size := World.block_lt_of_cell? W4 _ XK.out.c0
        have HFz5 := Lib.hid (fun i => (hb5.frozen (p := ⟨wr.heap.size + 1, i, none⟩) hbfs).trans (HFz.out i))
        clear hb5 HA4 XF XK HFz
        rcases hres with ⟨i, rfl, hi, hko⟩ | ⟨rfl, hko⟩
        · have HKo := Lib.hid hko
          clear hko
          rw [Hkn.out] at hi
          obtain ⟨kb, ko, rfl, d0, d1, d2⟩ := (HK.out.below (bstep BI.out HA5.out)).at hi
          generalize kpW ks i = k at *
          obtain ⟨kn', kw, kt⟩ := k
          dsimp only at *
          have e0 := XK5.out.c0
          have e1 := XK5.out.c1
          have e2 := XK5.out.c2
          have ef := HFz5.out
          have XK6 := Lib.hid (show BoxK (((w5.setCell ⟨wr.heap.size + 1, 0, none⟩ (.string (strB kn'))).setCell ⟨wr.heap.size + 1, 1, none⟩ (.int .i64 kw)).setCell ⟨wr.heap.size + 1, 2, none⟩ (.int .i64 kt)) (wr.heap.size + 1) (strB kn') kw kt from
            ⟨cell_set_off (cell_set_off (cell_set_same e0 _) (by decide) _) (by decide) _, cell_set_off (cell_set_same (cell_set_off e1 (by decide) _) _) (by decide) _, cell_set_same (cell_set_off (cell_set_off e2 (by decide) _) (by decide) _) _⟩)
          have XF6 := Lib.hid (((XF5.out.set_ne (p := ⟨wr.heap.size + 1, 0, none⟩) (by dsimp only; omega) (.string (strB kn'))).set_ne (p := ⟨wr.heap.size + 1, 1, none⟩) (by dsimp only; omega) (.int .i64 kw)).set_ne (p := ⟨wr.heap.size + 1, 2, none⟩) (by dsimp only; omega) (.int .i64 kt))
          have HA6 := Lib.hid (((HA5.out.setCell (p := ⟨wr.heap.size + 1, 0, none⟩) (Nat.le_add_right _ 1) (.string (strB kn'))).setCell (p := ⟨wr.heap.size + 1, 1, none⟩) (Nat.le_add_right _ 1) (.int .i64 kw)).setCell (p := ⟨wr.heap.size + 1, 2, none⟩) (Nat.le_add_right _ 1) (.int .i64 kt))
          go_upto_region 12 with fail
          generalize (((w5.setCell ⟨wr.heap.size + 1, 0, none⟩ (.string (strB kn'))).setCell ⟨wr.heap.size + 1, 1, none⟩ (.int .i64 kw)).setCell ⟨wr.heap.size + 1, 2, none⟩ (.int .i64 kt)) = W6 at *
          clear d0 d1 d2 e0 e1 e2 ef HA5 XF5 XK5 HFz5
          have HC6 := Lib.hid (HI.out.below HA6.out (by have := SI.out; omega))
          have HW6 := Lib.hid (show CrW w W3 w.heap.size wr.heap.size c (.slice (some ⟨g, 0, none⟩) es.length k2) (strB nm) (.slice ba base.length bc) (.slice pa ws.length pc) (strB kn') (kw) (kt) W6 from ⟨XI.out.below HA6.out, RI.out.below HA6.out, DI.out.1.below HA6.out, DI.out.2.below HA6.out, XF6.out, XK6.out, bstep BI.out HA6.out, Nat.le_trans SI.out HA6.out.size⟩)
          have HL6 := Lib.hid (fun W (hW : KeepI (T 0) (T es.length) W3 W) => HLv.out ⟨kn', kw, kt⟩ W hW)
          rw [HKo.out] at HNx
          have hgr : g < wr.heap.size := by have := SI.out; omega
          change Hid (∀ (W : World), CrI W3 W _ _ _ _ _ _ _ → ∀ v : Value, OwnC W _ v (leftF ⟨nm, base, ws⟩ ⟨kn', kw, kt⟩) → _) at HNx
          change Hid (∀ W, KeepI (T 0) (T es.length) W3 W → Calls _ _ #[.agg #[.string (strB nm), .slice ba base.length bc, .slice pa ws.length pc], .agg #[.string (strB kn'), .int .i64 (kw), .int .i64 (kt)]] W fun e w' => ∃ v', e = .returned v' ∧ OwnC w' W.heap.size v' (leftF ⟨nm, base, ws⟩ ⟨kn', kw, kt⟩) ∧ Below W.heap.size W w') at HL6
          generalize leftF ⟨nm, base, ws⟩ ⟨kn', kw, kt⟩ = bs at *
          clear HLv HI XI RI DI XF6 XK6 HKo
          refine wp_region_inv 12 (fun L f W => CrS w W3 w.heap.size wr.heap.size c g k2 es T ks news (strB nm) (.slice ba base.length bc) (.slice pa ws.length pc) (strB kn') (kw) (kt) bs [(0, .pointer (some ⟨w.heap.size, 2, none⟩)), (1, .slice (some ⟨g, 0, none⟩) es.length k2), (2, .int .i64 (news.length : Int)), (3, .pointer (some ⟨w.heap.size, 2, none⟩)), (4, .slice (some ⟨g, 0, none⟩) es.length k2), (5, .int .i64 (news.length : Int)), (6, .agg #[.string (strB nm), .slice ba base.length bc, .slice pa ws.length pc]), (7, .agg #[.string (strB kn'), .int .i64 (kw), .int .i64 (kt)]), (9, .pointer (some ⟨g, news.length * 3, none⟩)), (10, .pointer (some ⟨g, news.length * 3 + 1, none⟩))] L f W) 48 (by kernel_rfl) (by kernel_rfl) (by rfl) (by kernel_rfl) (fun f => by simp [frm, dstOf, Act.put]; exact rfl) (CrS.start HW6.out HC6.out htp) ?_ ?_
          · refine ⟨?_, ?_, ?_, ?_, ?_, ?_, ?_, ?_, ?_, ?_, ?_, ?_, trivial⟩
            · intro L f w1 h0 hd hI
              have HI1 := Lib.hid hI
              clear hI
              clear hd
              dsimp only
              go_wp2_with fail
              exact ⟨rfl, (fun h => by cases h), fun t ht => by injection ht with ht; subst ht; exact HI1.out.pure (v := .pointer (some ⟨w.heap.size, 2, none⟩)) (by decide) (by decide) (by simp)⟩
            · intro L f w1 h0 hd hI
              have HI1 := Lib.hid hI
              clear hI
              have d0 : f 0 = .pointer (some ⟨w.heap.size, 2, none⟩) := HI1.out.pur (0, .pointer (some ⟨w.heap.size, 2, none⟩)) (by simp) (hd 0 (by kernel_rfl))
              clear hd
              dsimp only
              rw [d0]
              have x2 := HI1.out.wd.x.c2
              go_wp2_with fail
              exact ⟨rfl, (fun h => by cases h), fun t ht => by injection ht with ht; subst ht; exact HI1.out.pure (v := .slice (some ⟨g, 0, none⟩) es.length k2) (by decide) (by decide) (by simp)⟩
            · intro L f w1 h0 hd hI
              have HI1 := Lib.hid hI
              clear hI
              clear hd
              dsimp only
              go_wp2_with fail
              exact ⟨rfl, (fun h => by cases h), fun t ht => by injection ht with ht; subst ht; exact HI1.out.pure (v := .int .i64 (news.length : Int)) (by decide) (by decide) (by simp)⟩
            · intro L f w1 h0 hd hI
              have HI1 := Lib.hid hI
              clear hI
              clear hd
              dsimp only
              go_wp2_with fail
              exact ⟨rfl, (fun h => by cases h), fun t ht => by injection ht with ht; subst ht; exact HI1.out.pure (v := .pointer (some ⟨w.heap.size, 2, none⟩)) (by decide) (by decide) (by simp)⟩
            · intro L f w1 h0 hd hI
              have HI1 := Lib.hid hI
              clear hI
              have d3 : f 3 = .pointer (some ⟨w.heap.size, 2, none⟩) := HI1.out.pur (3, .pointer (some ⟨w.heap.size, 2, none⟩)) (by simp) (hd 3 (by kernel_rfl))
              clear hd
              dsimp only
              rw [d3]
              have x2 := HI1.out.wd.x.c2
              go_wp2_with fail
              exact ⟨rfl, (fun h => by cases h), fun t ht => by injection ht with ht; subst ht; exact HI1.out.pure (v := .slice (some ⟨g, 0, none⟩) es.length k2) (by decide) (by decide) (by simp)⟩
            · intro L f w1 h0 hd hI
              have HI1 := Lib.hid hI
              clear hI
              clear hd
              dsimp only
              go_wp2_with fail
              exact ⟨rfl, (fun h => by cases h), fun t ht => by injection ht with ht; subst ht; exact HI1.out.pure (v := .int .i64 (news.length : Int)) (by decide) (by decide) (by simp)⟩
            · intro L f w1 h0 hd hI
              have HI1 := Lib.hid hI
              clear hI
              clear hd
              dsimp only
              have y0 := HI1.out.wd.xf.c0
              have y1 := HI1.out.wd.xf.c1
              have y2 := HI1.out.wd.xf.c2
              go_wp2_with fail
              exact ⟨rfl, (fun h => by cases h), fun t ht => by injection ht with ht; subst ht; exact HI1.out.pure (v := .agg #[.string (strB nm), .slice ba base.length bc, .slice pa ws.length pc]) (by decide) (by decide) (by simp)⟩
            · intro L f w1 h0 hd hI
              have HI1 := Lib.hid hI
              clear hI
              clear hd
              dsimp only
              have y0 := HI1.out.wd.xk.c0
              have y1 := HI1.out.wd.xk.c1
              have y2 := HI1.out.wd.xk.c2
              go_wp2_with fail
              exact ⟨rfl, (fun h => by cases h), fun t ht => by injection ht with ht; subst ht; exact HI1.out.pure (v := .agg #[.string (strB kn'), .int .i64 (kw), .int .i64 (kt)]) (by decide) (by decide) (by simp)⟩
            · intro L f w1 h0 hd hI
              have HI1 := Lib.hid hI
              clear hI
              have d6 : f 6 = .agg #[.string (strB nm), .slice ba base.length bc, .slice pa ws.length pc] := HI1.out.pur (6, .agg #[.string (strB nm), .slice ba base.length bc, .slice pa ws.length pc]) (by simp) (hd 6 (by kernel_rfl))
              have d7 : f 7 = .agg #[.string (strB kn'), .int .i64 (kw), .int .i64 (kt)] := HI1.out.pur (7, .agg #[.string (strB kn'), .int .i64 (kw), .int .i64 (kt)]) (by simp) (hd 7 (by kernel_rfl))
              clear hd
              dsimp only
              rw [d6]
              rw [d7]
              go_wp2_with fail
              refine (HL6.out w1 (HI1.out.cri (HI1.out.not11 h0)).keep).mono ?_
              rintro e w2 ⟨v2, rfl, ho, hb⟩
              have HI2 := Lib.hid (HI1.out.call h0 ho hb htp hs4 (by simp))
              clear ho hb
              go_wp2_with fail
              exact ⟨rfl, (fun h => by cases h), fun t ht => by injection ht with ht; subst ht; exact HI2.out⟩
            · intro L f w1 h0 hd hI
              have HI1 := Lib.hid hI
              clear hI
              have d1 : f 1 = .slice (some ⟨g, 0, none⟩) es.length k2 := HI1.out.pur (1, .slice (some ⟨g, 0, none⟩) es.length k2) (by simp) (hd 1 (by kernel_rfl))
              have d2 : f 2 = .int .i64 (news.length : Int) := HI1.out.pur (2, .int .i64 (news.length : Int)) (by simp) (hd 2 (by kernel_rfl))
              clear hd
              dsimp only
              rw [d1]
              rw [d2]
              go_wp2_with fail
              exact ⟨rfl, (fun h => by cases h), fun t ht => by injection ht with ht; subst ht; exact HI1.out.pure (v := .pointer (some ⟨g, news.length * 3, none⟩)) (by decide) (by decide) (by simp)⟩
            · intro L f w1 h0 hd hI
              have HI1 := Lib.hid hI
              clear hI
              have d9 : f 9 = .pointer (some ⟨g, news.length * 3, none⟩) := HI1.out.pur (9, .pointer (some ⟨g, news.length * 3, none⟩)) (by simp) (hd 9 (by kernel_rfl))
              clear hd
              dsimp only
              rw [d9]
              go_wp2_with fail
              exact ⟨rfl, (fun h => by cases h), fun t ht => by injection ht with ht; subst ht; exact HI1.out.pure (v := .pointer (some ⟨g, news.length * 3 + 1, none⟩)) (by decide) (by decide) (by simp)⟩
            · intro L f w1 h0 hd hI
              have HI1 := Lib.hid hI
              clear hI
              have d10 : f 10 = .pointer (some ⟨g, news.length * 3 + 1, none⟩) := HI1.out.pur (10, .pointer (some ⟨g, news.length * 3 + 1, none⟩)) (by simp) (hd 10 (by kernel_rfl))
              have h8 := hd 8 (by kernel_rfl)
              obtain ⟨va, vc, vcc, d8, _⟩ := HI1.out.own h0 h8
              have HS := Lib.hid (fun u => HI1.out.store h8 h0 hgB (by omega) hgr (by simp) u)
              obtain ⟨_, y1, _, yf⟩ := (HI1.out.cri h0).at hlt
              clear hd
              dsimp only
              rw [d8] at HS
              rw [d8]
              rw [d10]
              generalize (es.getD news.length fe0).2.1 = oldv at *
              go_wp2_with fail
              exact ⟨rfl, fun _ v => HS.out v, fun t ht => by cases ht⟩
          · intro L f w1 hA hI
            have d4 : f 4 = .slice (some ⟨g, 0, none⟩) es.length k2 := hI.pur (4, .slice (some ⟨g, 0, none⟩) es.length k2) (by simp) (hA 4 (by decide))
            have d5 : f 5 = .int .i64 (news.length : Int) := hI.pur (5, .int .i64 (news.length : Int)) (by simp) (hA 5 (by decide))
            obtain ⟨W7, hW, hc, ho⟩ := hI.crj (hA 11 (by decide))
            have HN7 := Lib.hid (HNx.out W7 hc (f 8) ho)
            rw [← hW] at HN7
            have HW7 := Lib.hid (hI.wd.set (g := g) (by omega) (by omega) (by omega) (by omega) (by omega) (news.length * 3 + 2) nilS)
            obtain ⟨_, _, y2, yf⟩ := hc.at hlt
            replace y2 := cell_set_off y2 (show news.length * 3 + 2 ≠ news.length * 3 + 1 by omega) (f 8)
            have hyf : ∀ j, w1.frozen? ⟨g, j, none⟩ = false := fun j => by rw [hW, ← yf j]; simp
            rw [← hW] at y2
            clear hA hI hW hc ho yf
            generalize (es.getD news.length fe0).2.2 = oldv at *
            rw [d4]
            rw [d5]
            clear d4 d5
            go_wp2_with fail
            exact ⟨⟨news ++ [(crF ks ⟨nm, base, ws⟩, f 8, nilS)], by rw [List.length_append, List.length_singleton]; go_num, by rw [List.length_append, List.length_singleton]; omega, HN7, Lib.hid HW7.out.x, Lib.hid HW7.out.r, Lib.hid ⟨HW7.out.d0, HW7.out.d1⟩, Lib.hid HW7.out.hb, Lib.hid HW7.out.sz⟩, by simp [intOf]; omega⟩
        · have HKo := Lib.hid hko
          clear hko
          have XK6 := Lib.hid (show BoxK w5 (wr.heap.size + 1) (strB []) 0 0 from XK5.out)
          have XF6 := Lib.hid XF5.out
          have HA6 := Lib.hid HA5.out
          clear HA5 XF5 XK5 HFz5
          go_upto_region 12 with fail
          generalize w5 = W6 at *
          have HC6 := Lib.hid (HI.out.below HA6.out (by have := SI.out; omega))
          have HW6 := Lib.hid (show CrW w W3 w.heap.size wr.heap.size c (.slice (some ⟨g, 0, none⟩) es.length k2) (strB nm) (.slice ba base.length bc) (.slice pa ws.length pc) (strB []) (0) (0) W6 from ⟨XI.out.below HA6.out, RI.out.below HA6.out, DI.out.1.below HA6.out, DI.out.2.below HA6.out, XF6.out, XK6.out, bstep BI.out HA6.out, Nat.le_trans SI.out HA6.out.size⟩)
          have HL6 := Lib.hid (fun W (hW : KeepI (T 0) (T es.length) W3 W) => HLv.out ⟨[], 0, 0⟩ W hW)
          rw [HKo.out] at HNx
          have hgr : g < wr.heap.size := by have := SI.out; omega
          change Hid (∀ (W : World), CrI W3 W _ _ _ _ _ _ _ → ∀ v : Value, OwnC W _ v (leftF ⟨nm, base, ws⟩ ⟨[], 0, 0⟩) → _) at HNx
          change Hid (∀ W, KeepI (T 0) (T es.length) W3 W → Calls _ _ #[.agg #[.string (strB nm), .slice ba base.length bc, .slice pa ws.length pc], .agg #[.string (strB []), .int .i64 (0), .int .i64 (0)]] W fun e w' => ∃ v', e = .returned v' ∧ OwnC w' W.heap.size v' (leftF ⟨nm, base, ws⟩ ⟨[], 0, 0⟩) ∧ Below W.heap.size W w') at HL6
          generalize leftF ⟨nm, base, ws⟩ ⟨[], 0, 0⟩ = bs at *
          clear HLv HI XI RI DI XF6 XK6 HKo
          refine wp_region_inv 12 (fun L f W => CrS w W3 w.heap.size wr.heap.size c g k2 es T ks news (strB nm) (.slice ba base.length bc) (.slice pa ws.length pc) (strB []) (0) (0) bs [(0, .pointer (some ⟨w.heap.size, 2, none⟩)), (1, .slice (some ⟨g, 0, none⟩) es.length k2), (2, .int .i64 (news.length : Int)), (3, .pointer (some ⟨w.heap.size, 2, none⟩)), (4, .slice (some ⟨g, 0, none⟩) es.length k2), (5, .int .i64 (news.length : Int)), (6, .agg #[.string (strB nm), .slice ba base.length bc, .slice pa ws.length pc]), (7, .agg #[.string (strB []), .int .i64 (0), .int .i64 (0)]), (9, .pointer (some ⟨g, news.length * 3, none⟩)), (10, .pointer (some ⟨g, news.length * 3 + 1, none⟩))] L f W) 48 (by kernel_rfl) (by kernel_rfl) (by rfl) (by kernel_rfl) (fun f => by simp [frm, dstOf, Act.put]; exact rfl) (CrS.start HW6.out HC6.out htp) ?_ ?_
          · refine ⟨?_, ?_, ?_, ?_, ?_, ?_, ?_, ?_, ?_, ?_, ?_, ?_, trivial⟩
            · intro L f w1 h0 hd hI
              have HI1 := Lib.hid hI
              clear hI
              clear hd
              dsimp only
              go_wp2_with fail
              exact ⟨rfl, (fun h => by cases h), fun t ht => by injection ht with ht; subst ht; exact HI1.out.pure (v := .pointer (some ⟨w.heap.size, 2, none⟩)) (by decide) (by decide) (by simp)⟩
            · intro L f w1 h0 hd hI
              have HI1 := Lib.hid hI
              clear hI
              have d0 : f 0 = .pointer (some ⟨w.heap.size, 2, none⟩) := HI1.out.pur (0, .pointer (some ⟨w.heap.size, 2, none⟩)) (by simp) (hd 0 (by kernel_rfl))
              clear hd
              dsimp only
              rw [d0]
              have x2 := HI1.out.wd.x.c2
              go_wp2_with fail
              exact ⟨rfl, (fun h => by cases h), fun t ht => by injection ht with ht; subst ht; exact HI1.out.pure (v := .slice (some ⟨g, 0, none⟩) es.length k2) (by decide) (by decide) (by simp)⟩
            · intro L f w1 h0 hd hI
              have HI1 := Lib.hid hI
              clear hI
              clear hd
              dsimp only
              go_wp2_with fail
              exact ⟨rfl, (fun h => by cases h), fun t ht => by injection ht with ht; subst ht; exact HI1.out.pure (v := .int .i64 (news.length : Int)) (by decide) (by decide) (by simp)⟩
            · intro L f w1 h0 hd hI
              have HI1 := Lib.hid hI
              clear hI
              clear hd
              dsimp only
              go_wp2_with fail
              exact ⟨rfl, (fun h => by cases h), fun t ht => by injection ht with ht; subst ht; exact HI1.out.pure (v := .pointer (some ⟨w.heap.size, 2, none⟩)) (by decide) (by decide) (by simp)⟩
            · intro L f w1 h0 hd hI
              have HI1 := Lib.hid hI
              clear hI
              have d3 : f 3 = .pointer (some ⟨w.heap.size, 2, none⟩) := HI1.out.pur (3, .pointer (some ⟨w.heap.size, 2, none⟩)) (by simp) (hd 3 (by kernel_rfl))
              clear hd
              dsimp only
              rw [d3]
              have x2 := HI1.out.wd.x.c2
              go_wp2_with fail
              exact ⟨rfl, (fun h => by cases h), fun t ht => by injection ht with ht; subst ht; exact HI1.out.pure (v := .slice (some ⟨g, 0, none⟩) es.length k2) (by decide) (by decide) (by simp)⟩
            · intro L f w1 h0 hd hI
              have HI1 := Lib.hid hI
              clear hI
              clear hd
              dsimp only
              go_wp2_with fail
              exact ⟨rfl, (fun h => by cases h), fun t ht => by injection ht with ht; subst ht; exact HI1.out.pure (v := .int .i64 (news.length : Int)) (by decide) (by decide) (by simp)⟩
            · intro L f w1 h0 hd hI
              have HI1 := Lib.hid hI
              clear hI
              clear hd
              dsimp only
              have y0 := HI1.out.wd.xf.c0
              have y1 := HI1.out.wd.xf.c1
              have y2 := HI1.out.wd.xf.c2
              go_wp2_with fail
              exact ⟨rfl, (fun h => by cases h), fun t ht => by injection ht with ht; subst ht; exact HI1.out.pure (v := .agg #[.string (strB nm), .slice ba base.length bc, .slice pa ws.length pc]) (by decide) (by decide) (by simp)⟩
            · intro L f w1 h0 hd hI
              have HI1 := Lib.hid hI
              clear hI
              clear hd
              dsimp only
              have y0 := HI1.out.wd.xk.c0
              have y1 := HI1.out.wd.xk.c1
              have y2 := HI1.out.wd.xk.c2
              go_wp2_with fail
              exact ⟨rfl, (fun h => by cases h), fun t ht => by injection ht with ht; subst ht; exact HI1.out.pure (v := .agg #[.string (strB []), .int .i64 (0), .int .i64 (0)]) (by decide) (by decide) (by simp)⟩
            · intro L f w1 h0 hd hI
              have HI1 := Lib.hid hI
              clear hI
              have d6 : f 6 = .agg #[.string (strB nm), .slice ba base.length bc, .slice pa ws.length pc] := HI1.out.pur (6, .agg #[.string (strB nm), .slice ba base.length bc, .slice pa ws.length pc]) (by simp) (hd 6 (by kernel_rfl))
              have d7 : f 7 = .agg #[.string (strB []), .int .i64 (0), .int .i64 (0)] := HI1.out.pur (7, .agg #[.string (strB []), .int .i64 (0), .int .i64 (0)]) (by simp) (hd 7 (by kernel_rfl))
              clear hd
              dsimp only
              rw [d6]
              rw [d7]
              go_wp2_with fail
              refine (HL6.out w1 (HI1.out.cri (HI1.out.not11 h0)).keep).mono ?_
              rintro e w2 ⟨v2, rfl, ho, hb⟩
              have HI2 := Lib.hid (HI1.out.call h0 ho hb htp hs4 (by simp))
              clear ho hb
              go_wp2_with fail
              exact ⟨rfl, (fun h => by cases h), fun t ht => by injection ht with ht; subst ht; exact HI2.out⟩
            · intro L f w1 h0 hd hI
              have HI1 := Lib.hid hI
              clear hI
              have d1 : f 1 = .slice (some ⟨g, 0, none⟩) es.length k2 := HI1.out.pur (1, .slice (some ⟨g, 0, none⟩) es.length k2) (by simp) (hd 1 (by kernel_rfl))
              have d2 : f 2 = .int .i64 (news.length : Int) := HI1.out.pur (2, .int .i64 (news.length : Int)) (by simp) (hd 2 (by kernel_rfl))
              clear hd
              dsimp only
              rw [d1]
              rw [d2]
              go_wp2_with fail
              exact ⟨rfl, (fun h => by cases h), fun t ht => by injection ht with ht; subst ht; exact HI1.out.pure (v := .pointer (some ⟨g, news.length * 3, none⟩)) (by decide) (by decide) (by simp)⟩
            · intro L f w1 h0 hd hI
              have HI1 := Lib.hid hI
              clear hI
              have d9 : f 9 = .pointer (some ⟨g, news.length * 3, none⟩) := HI1.out.pur (9, .pointer (some ⟨g, news.length * 3, none⟩)) (by simp) (hd 9 (by kernel_rfl))
              clear hd
              dsimp only
              rw [d9]
              go_wp2_with fail
              exact ⟨rfl, (fun h => by cases h), fun t ht => by injection ht with ht; subst ht; exact HI1.out.pure (v := .pointer (some ⟨g, news.length * 3 + 1, none⟩)) (by decide) (by decide) (by simp)⟩
            · intro L f w1 h0 hd hI
              have HI1 := Lib.hid hI
              clear hI
              have d10 : f 10 = .pointer (some ⟨g, news.length * 3 + 1, none⟩) := HI1.out.pur (10, .pointer (some ⟨g, news.length * 3 + 1, none⟩)) (by simp) (hd 10 (by kernel_rfl))
              have h8 := hd 8 (by kernel_rfl)
              obtain ⟨va, vc, vcc, d8, _⟩ := HI1.out.own h0 h8
              have HS := Lib.hid (fun u => HI1.out.store h8 h0 hgB (by omega) hgr (by simp) u)
              obtain ⟨_, y1, _, yf⟩ := (HI1.out.cri h0).at hlt
              clear hd
              dsimp only
              rw [d8] at HS
              rw [d8]
              rw [d10]
              generalize (es.getD news.length fe0).2.1 = oldv at *
              go_wp2_with fail
              exact ⟨rfl, fun _ v => HS.out v, fun t ht => by cases ht⟩
          · intro L f w1 hA hI
            have d4 : f 4 = .slice (some ⟨g, 0, none⟩) es.length k2 := hI.pur (4, .slice (some ⟨g, 0, none⟩) es.length k2) (by simp) (hA 4 (by decide))
            have d5 : f 5 = .int .i64 (news.length : Int) := hI.pur (5, .int .i64 (news.length : Int)) (by simp) (hA 5 (by decide))
            obtain ⟨W7, hW, hc, ho⟩ := hI.crj (hA 11 (by decide))
            have HN7 := Lib.hid (HNx.out W7 hc (f 8) ho)
            rw [← hW] at HN7
            have HW7 := Lib.hid (hI.wd.set (g := g) (by omega) (by omega) (by omega) (by omega) (by omega) (news.length * 3 + 2) nilS)
            obtain ⟨_, _, y2, yf⟩ := hc.at hlt
            replace y2 := cell_set_off y2 (show news.length * 3 + 2 ≠ news.length * 3 + 1 by omega) (f 8)
            have hyf : ∀ j, w1.frozen? ⟨g, j, none⟩ = false := fun j => by rw [hW, ← yf j]; simp
            rw [← hW] at y2
            clear hA hI hW hc ho yf
            generalize (es.getD news.length fe0).2.2 = oldv at *
            rw [d4]
            rw [d5]
            clear d4 d5
            go_wp2_with fail
            exact ⟨⟨news ++ [(crF ks ⟨nm, base, ws⟩, f 8, nilS)], by rw [List.length_append, List.length_singleton]; go_num, by rw [List.length_append, List.length_singleton]; omega, HN7, Lib.hid HW7.out.x, Lib.hid HW7.out.r, Lib.hid ⟨HW7.out.d0, HW7.out.d1⟩, Lib.hid HW7.out.hb, Lib.hid HW7.out.sz⟩, by simp [intOf]; omega⟩
      · have i1 : ¬ (news.length : Int) < (es.length : Int) := by omega
        have hnl : news.length = es.length := by omega
        have HSt := Lib.hid (HI.out.done (b0 := w.heap.size) hnl DI.out.1 DI.out.2)
        have x0 := XI.out.c0
        have x1 := XI.out.c1
        have x2 := XI.out.c2
        have r0 := RI.out.c0
        have r1 := RI.out.c1
        have r2 := RI.out.c2
        have rf := RI.out.f
        have HRd := Lib.hid (show StD w.heap.size (((wr.setCell ⟨w.heap.size + 1, 0, none⟩ (.int .i64 c)).setCell ⟨w.heap.size + 1, 1, none⟩ (.int .i64 (-1))).setCell ⟨w.heap.size + 1, 2, none⟩ (.slice a2 es.length k2)) (diskVal c (-1) (.slice a2 es.length k2)) ⟨c, -1, fl.map (crF ks)⟩ from fun W' h' => ⟨_, rfl, by
          have := HSt.out W' ((KeepX.all1 (.int .i64 c) (.int .i64 (-1)) (.slice a2 es.length k2)).trans (h'.up (Nat.le_add_right _ 2)).x)
          rw [← Hes.out, List.map_map]
          exact this⟩)
        go_wp2_with fail
        exact bodyPost_ret (v := diskVal c (-1) (.slice a2 es.length k2)) (by simp [results, Tryd.results30, go_sem, r0, r1, r2]) rfl ⟨_, rfl, by rw [HY2.out]; exact HRd.out, BI.out.all3 (by omega) _ _ _⟩
  · subst hq
    have HN2 := Lib.hid (HN.out rfl)
    go_wp2_with fail
    refine (HV.out W0 HB0.out).mono ?_
    rintro e w1 ⟨rfl, hb1⟩
    replace R := Lib.hid (R.out.below hb1)
    have HB1 := Lib.hid (bstep HB0.out hb1)
    clear x0 x1 x2 hb1 HB0 hBB X
    have r0 := R.out.c0
    have r1 := R.out.c1
    have r2 := R.out.c2
    have rf := R.out.f
    go_wp2_with fail
    exact bodyPost_ret (v := diskVal 0 0 nilS) (by simp [results, Tryd.results30, go_sem, r0, r1, r2]) rfl ⟨_, rfl, by rw [HN2.out]; exact stD_zero _ _, HB1.out.all3 (by omega) _ _ _⟩
end Go.Proofs.YtkabcpmnbjllcaaDoor
