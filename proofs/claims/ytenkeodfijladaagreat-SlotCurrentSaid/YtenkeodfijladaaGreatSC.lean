/- Several texts in one, each over the last: Rotate of the reference's slots: the walk. Printed by mkSlr.py. Change of the reference's slots: the walk. Printed by mkSlk.py. given and told of the law of slots: the walks. Printed by mkSli.py. Boxes whose whole block is known: rows of generations and of items do not lie in them. -/
import Derived.Test.YtenkeodfijladaaGreatSB
import Derived.Test.YtenkeodfijladaaGreatSA
import Derived.Test.YtenkeodfijladaaGreatGR
import Derived.Deep.MidRow
import Derived.OneCell
namespace Go.Proofs.YtenkeodfijladaaGreat
open Go.RowKit

theorem elemGr : ElemT Tryz.prog 22 124 14 240 := by
  obtain ⟨i, hi, hz, hs, hb⟩ := info_parts (P := Tryz.prog) (e := 124) (z := genV 0 0 0 0 Sl.nil 0 0) (size := 14) (bytes := 240) (by kernel_rfl)
  exact ⟨Tryz.underlying22, by decide, i, _, hi, hz, hs, hb, rfl⟩
theorem gp_one (x : GP) : ∀ u ∈ gpC x, u.oneCell' = true := by
  intro u hu
  simp only [gpC, List.mem_cons, List.not_mem_nil, or_false] at hu
  rcases hu with h | h | h | h | h | h | h | h | h | h | h | h | h | h <;> rw [h] <;> rfl
theorem gps_one (L : List GP) : ∀ u ∈ L.flatMap gpC, u.oneCell' = true := fun u hu => by
  obtain ⟨x, _, h⟩ := List.mem_flatMap.1 hu
  exact gp_one x u h
theorem two_slo (w : World) (i l : Int) (r : Bool) (a : Option Addr) (n c : Nat) (t : TypeId) : ∃ W, (w.alloc (.cells (sloC i l r a n c) t)).alloc (.cells (sloC 0 0 false none 0 0) t) = W ∧ BoxV W w.heap.size i l r a n c ∧ BoxV W (w.heap.size + 1) 0 0 false none 0 0 ∧ Below w.heap.size w W := by
  refine ⟨_, rfl, (BoxV.new w i l r a n c t).below (below_slo _ 0 0 false none 0 0 t), ?_, bstep (below_slo w i l r a n c t) (below_slo _ 0 0 false none 0 0 t)⟩
  have := BoxV.new (w.alloc (.cells (sloC i l r a n c) t)) 0 0 false none 0 0 t
  rwa [World.size_alloc] at this
theorem BoxV.pts_ne {W : World} {b d : Nat} {i l : Int} {r : Bool} {a : Option Addr} {n c : Nat} (h : BoxV W b i l r a n c) (hp : b ≠ d) (vs : List (Nat × Value)) : BoxV (pts W d vs) b i l r a n c :=
  ⟨(pts_cell (p := ⟨b, 0, none⟩) hp vs W).trans h.c0, (pts_cell (p := ⟨b, 1, none⟩) hp vs W).trans h.c1, (pts_cell (p := ⟨b, 2, none⟩) hp vs W).trans h.c2, (pts_cell (p := ⟨b, 3, none⟩) hp vs W).trans h.c3, fun i => (pts_frozen _ vs W).trans (h.f i)⟩
/-- The row of generations stored. -/
theorem BoxV.set3 {W : World} {b : Nat} {i l : Int} {r : Bool} {a : Option Addr} {n c : Nat} (h : BoxV W b i l r a n c) (a' : Option Addr) (n' c' : Nat) : BoxV (W.setCell ⟨b, 3, none⟩ (.slice a' n' c')) b i l r a' n' c' := by
  have a3 := h.c3
  have ne : ∀ i, i ≠ 3 → ∀ u, W.cell? ⟨b, i, none⟩ = some u → (W.setCell ⟨b, 3, none⟩ (.slice a' n' c')).cell? ⟨b, i, none⟩ = some u := fun i hi u hu => (World.cell?_setCell_other (h := fun e => hi (by injection e with _ e _; exact e.symm)) ..).trans hu
  exact ⟨ne 0 (by decide) _ h.c0, ne 1 (by decide) _ h.c1, ne 2 (by decide) _ h.c2, by simp [go_sem, a3], fun i => by rw [← h.f i]; simp⟩
set_option maxRecDepth 100000 in
set_option maxHeartbeats 8000000 in
theorem rrot_no (i l : Int) (r : Bool) (a : Option Addr) (n c : Nat) (L : List GP) (w : World) (h : RdG w (.slice a n c) L) (hs : ∀ p ∈ L, ∀ j, j < 8 → (p.1.m.st j).length ≤ 10000) (hv : vldSl ⟨i, l, r, gns L⟩ = false) :
    Calls Tryz.prog 55 #[sloV i l r a n c] w (SRes w (rotS ⟨i, l, r, gns L⟩)) := by
  have HSv := Lib.hid (fun W (hb : Below w.heap.size w W) => rsvalid_any i l r a n c L W (h.below hb) hs)
  have HC := Lib.hid (show rotS ⟨i, l, r, gns L⟩ = (slt0, 1) by unfold rotS; rw [hv]; rfl)
  rw [hv] at HSv
  clear h hs hv
  go_enter Tryz.func55, Tryz.ntmps55
  go_upto_region 1 with fail
  change Code.wp _ _ _ _ ((w.alloc (.cells (sloC i l r a n c) 24)).alloc (.cells (sloC 0 0 false none 0 0) 24))
  obtain ⟨W, hW, hbx, hbr, hbw⟩ := two_slo w i l r a n c 24
  rw [hW]
  have HX := Lib.hid hbx
  have HR := Lib.hid hbr
  have HB := Lib.hid hbw
  clear hW hbx hbr hbw
  have k0 := HX.out.c0
  have k1 := HX.out.c1
  have k2 := HX.out.c2
  have k3 := HX.out.c3
  go_wp2_with fail
  refine (HSv.out _ HB.out).mono ?_
  rintro e w1 ⟨rfl, hb⟩
  replace HX := Lib.hid (HX.out.below hb)
  replace HR := Lib.hid (HR.out.below hb)
  replace HB := Lib.hid (bstep HB.out hb)
  clear hb
  clear k0 k1 k2 k3
  have z0 := HR.out.c0
  have z1 := HR.out.c1
  have z2 := HR.out.c2
  have z3 := HR.out.c3
  have zf := HR.out.f
  go_wp2_with fail
  change bodyPost _ _ _ _ _ (pts w1 (w.heap.size + 1) (sloL 0 0 false none 0 0))
  have hby := HR.out.all 0 0 false none 0 0
  have HBz := Lib.hid (pts_below (B := w.heap.size) (b := (w.heap.size + 1)) (by omega) (sloL 0 0 false none 0 0) HB.out)
  generalize pts w1 (w.heap.size + 1) (sloL 0 0 false none 0 0) = V at *
  exact bodyPost_ret (v := .tuple #[sloV 0 0 false none 0 0, .int .i64 1]) (by simp [results, Tryz.results55, go_sem, hby.c0, hby.c1, hby.c2, hby.c3]) rfl (by rw [HC.out]; exact SRes.no HBz.out)
set_option maxRecDepth 100000 in
set_option maxHeartbeats 8000000 in
theorem rrot_full (i l : Int) (r : Bool) (a : Option Addr) (n c : Nat) (L : List GP) (w : World) (h : RdG w (.slice a n c) L) (hs : ∀ p ∈ L, ∀ j, j < 8 → (p.1.m.st j).length ≤ 10000) (hv : vldSl ⟨i, l, r, gns L⟩ = true) (hn8 : ¬ (topG ⟨i, l, r, gns L⟩).num < 8) :
    Calls Tryz.prog 55 #[sloV i l r a n c] w (SRes w (rotS ⟨i, l, r, gns L⟩)) := by
  have HSv := Lib.hid (fun W (hb : Below w.heap.size w W) => rsvalid_any i l r a n c L W (h.below hb) hs)
  have HCr := Lib.hid (fun W (hb : Below w.heap.size w W) => rcanrot_any i l r a n c L W (h.below hb) hs)
  have HC := Lib.hid (show rotS ⟨i, l, r, gns L⟩ = (slt0, 9) by unfold rotS; rw [if_pos hv, if_neg hn8])
  rw [hv] at HSv
  rw [show canS ⟨i, l, r, gns L⟩ = false by unfold canS; rw [hv]; simpa using hn8] at HCr
  clear h hs hv hn8
  go_enter Tryz.func55, Tryz.ntmps55
  go_upto_region 1 with fail
  change Code.wp _ _ _ _ ((w.alloc (.cells (sloC i l r a n c) 24)).alloc (.cells (sloC 0 0 false none 0 0) 24))
  obtain ⟨W, hW, hbx, hbr, hbw⟩ := two_slo w i l r a n c 24
  rw [hW]
  have HX := Lib.hid hbx
  have HR := Lib.hid hbr
  have HB := Lib.hid hbw
  clear hW hbx hbr hbw
  have k0 := HX.out.c0
  have k1 := HX.out.c1
  have k2 := HX.out.c2
  have k3 := HX.out.c3
  go_wp2_with fail
  refine (HSv.out _ HB.out).mono ?_
  rintro e w1 ⟨rfl, hb⟩
  replace HX := Lib.hid (HX.out.below hb)
  replace HR := Lib.hid (HR.out.below hb)
  replace HB := Lib.hid (bstep HB.out hb)
  clear hb
  clear k0 k1 k2 k3
  have k0 := HX.out.c0
  have k1 := HX.out.c1
  have k2 := HX.out.c2
  have k3 := HX.out.c3
  go_wp2_with fail
  refine (HCr.out _ HB.out).mono ?_
  rintro e w2 ⟨rfl, hb⟩
  replace HX := Lib.hid (HX.out.below hb)
  replace HR := Lib.hid (HR.out.below hb)
  replace HB := Lib.hid (bstep HB.out hb)
  clear hb
  clear k0 k1 k2 k3
  have z0 := HR.out.c0
  have z1 := HR.out.c1
  have z2 := HR.out.c2
  have z3 := HR.out.c3
  have zf := HR.out.f
  go_wp2_with fail
  change bodyPost _ _ _ _ _ (pts w2 (w.heap.size + 1) (sloL 0 0 false none 0 0))
  have hby := HR.out.all 0 0 false none 0 0
  have HBz := Lib.hid (pts_below (B := w.heap.size) (b := (w.heap.size + 1)) (by omega) (sloL 0 0 false none 0 0) HB.out)
  generalize pts w2 (w.heap.size + 1) (sloL 0 0 false none 0 0) = V at *
  exact bodyPost_ret (v := .tuple #[sloV 0 0 false none 0 0, .int .i64 9]) (by simp [results, Tryz.results55, go_sem, hby.c0, hby.c1, hby.c2, hby.c3]) rfl (by rw [HC.out]; exact SRes.no HBz.out)
set_option maxRecDepth 100000 in
set_option maxHeartbeats 16000000 in
theorem rrot_yes (i l : Int) (r : Bool) (a : Option Addr) (n c : Nat) (L : List GP) (w : World) (h : RdG w (.slice a n c) L) (hs : ∀ p ∈ L, ∀ j, j < 8 → (p.1.m.st j).length ≤ 10000) (hv : vldSl ⟨i, l, r, gns L⟩ = true) (hn8 : (topG ⟨i, l, r, gns L⟩).num < 8) :
    Calls Tryz.prog 55 #[sloV i l r a n c] w (SRes w (rotS ⟨i, l, r, gns L⟩)) := by
  have HSv := Lib.hid (fun W (hb : Below w.heap.size w W) => rsvalid_any i l r a n c L W (h.below hb) hs)
  have HCr := Lib.hid (fun W (hb : Below w.heap.size w W) => rcanrot_any i l r a n c L W (h.below hb) hs)
  have hV := (vldSl_iff _).1 hv
  obtain ⟨htv, htm, _⟩ := hV.topv
  have hLn : L.length = n := by
    obtain ⟨_, _, e, _⟩ := h.shape
    injection e with _ e _; exact e.symm
  have hl : (gns L).length = n := by rw [gns_len, hLn]
  have hn : 1 ≤ n ∧ n ≤ 8 := by have := hV.len; simp only [hl] at this; exact this
  obtain ⟨j, rfl⟩ : ∃ j, n = j + 1 := ⟨n - 1, by omega⟩
  have hC : rotS ⟨i, l, r, gns L⟩ = (⟨i, l, r, (gns L).take j ++ [{ topG ⟨i, l, r, gns L⟩ with mode := 2 }, fresh ((topG ⟨i, l, r, gns L⟩).num + 1)]⟩, 0) := by
    unfold rotS; rw [if_pos hv, if_pos hn8]
    show ((⟨i, l, r, (gns L).take ((gns L).length - 1) ++ _⟩ : Slt), (0 : Int)) = _
    rw [hl]; rfl
  rw [hv] at HSv
  rw [show canS ⟨i, l, r, gns L⟩ = true by unfold canS; rw [hv]; simpa using hn8] at HCr
  have hmem := pat_mem (l := L) (i := j) (by omega)
  have hnum := htv.num
  have HMp := Lib.hid (h.m _ hmem)
  have HFz := Lib.hid (fun W (hb : Below w.heap.size w W) => rfreeze_any (pat L j).1 (pat L j).2 W ((h.m _ hmem).below hb) (hs _ hmem))
  rw [topG_pat hLn] at hC htv htm hn8 hnum
  rw [show turnG (pat L j).1 1 = (0, { (pat L j).1 with mode := 1 + 1 }) from by unfold turnG; rw [if_pos ((vldG_iff _).2 htv), if_pos htm]] at HFz
  have HMs := Lib.hid (fun p (hp : p ∈ L.take j) => h.m p (List.mem_of_mem_take hp))
  have HPr := Lib.hid (show Rd w 14 (.slice a j c) j ((L.take j).flatMap gpC) from by
    have h0 := RdS.take h.r j (by omega)
    have hlt : (L.take j).length = j := by rw [List.length_take]; omega
    have h1 := h0.2
    rwa [hlt] at h1)
  have HC := Lib.hid hC
  have HGt := Lib.hid (show (gns (L.take j)) = (gns L).take j from gns_take L j)
  have Hlt := Lib.hid (show (L.take j).length = j by rw [List.length_take]; omega)
  have hcap : j ≤ c := by
    obtain ⟨_, _, e, h1, _⟩ := h.shape
    injection e with _ _ e
    rw [e]; omega
  have HR0 := Lib.hid h
  clear hV hLn hl hv hs hmem hC htv h
  obtain ⟨b, off, rfl, hg⟩ := HR0.out.at (show j < j + 1 by omega)
  have HG := Lib.hid hg
  clear hg HR0
  generalize pat L j = p at *
  generalize gns L = GL at *
  generalize L.take j = LT at *
  obtain ⟨⟨num, rev, md, sz, ⟨f, LV, GA⟩⟩, s⟩ := p
  dsimp only at *
  subst htm
  have gto := slice_to (P := Tryz.prog) elemGr (a := some ⟨b, off, none⟩) (n := j + 1) (cap := c) (fun x hx => ⟨b, off, by injection hx with hx; exact hx.symm⟩) j hcap
  go_enter Tryz.func55, Tryz.ntmps55
  go_upto_region 1 with fail
  change Code.wp _ _ _ _ ((w.alloc (.cells (sloC i l r (some ⟨b, off, none⟩) (j + 1) c) 24)).alloc (.cells (sloC 0 0 false none 0 0) 24))
  obtain ⟨W, hW, hbx, hbr, hbw⟩ := two_slo w i l r (some ⟨b, off, none⟩) (j + 1) c 24
  rw [hW]
  have HX := Lib.hid hbx
  have HR := Lib.hid hbr
  have HB := Lib.hid hbw
  clear hW hbx hbr hbw
  have hB0 : w.heap.size + 2 ≤ W.heap.size := by have := HR.out.lt; omega
  have k0 := HX.out.c0
  have k1 := HX.out.c1
  have k2 := HX.out.c2
  have k3 := HX.out.c3
  go_wp2_with fail
  refine (HSv.out _ HB.out).mono ?_
  rintro e w1 ⟨rfl, hb⟩
  replace HX := Lib.hid (HX.out.below hb)
  replace HR := Lib.hid (HR.out.below hb)
  replace HB := Lib.hid (bstep HB.out hb)
  have hB1 := Nat.le_trans hB0 hb.size
  clear hb HSv
  clear k0 k1 k2 k3
  have k0 := HX.out.c0
  have k1 := HX.out.c1
  have k2 := HX.out.c2
  have k3 := HX.out.c3
  go_wp2_with fail
  refine (HCr.out _ HB.out).mono ?_
  rintro e w2 ⟨rfl, hb⟩
  replace HX := Lib.hid (HX.out.below hb)
  replace HR := Lib.hid (HR.out.below hb)
  replace HB := Lib.hid (bstep HB.out hb)
  have hB2 := Nat.le_trans hB1 hb.size
  clear hb HCr
  clear k0 k1 k2 k3
  have j3 : IntKind.i64.wrap (j : Int) = (j : Int) := IntWalk.i64_in _ (by omega)
  have i2 : (j : Int) < ((j + 1 : Nat) : Int) := by omega
  replace HG := Lib.hid (HG.out.below HB.out)
  have k3 := HX.out.c3
  have g0 := HG.out.n0
  have g1 := HG.out.n1
  have g2 := HG.out.n2
  have g3 := HG.out.n3
  have g4 := HG.out.c0
  have g5 := HG.out.c1
  have g6 := HG.out.c2
  have g7 := HG.out.c3
  have g8 := HG.out.c4
  have g9 := HG.out.c5
  have g10 := HG.out.c6
  have g11 := HG.out.c7
  have g12 := HG.out.cl
  have g13 := HG.out.cg
  try dsimp only at g0 g1 g2 g3 g4 g5 g6 g7 g8 g9 g10 g11 g12 g13
  go_wp2_with fail
  refine (HFz.out _ HB.out).mono ?_
  rintro e w3 ⟨⟨t, rfl, hro⟩, hb⟩
  dsimp only at hro ⊢
  clear g0 g1 g2 g3 g4 g5 g6 g7 g8 g9 g10 g11 g12 g13
  clear k3
  have hB3 := Nat.le_trans hB2 hb.size
  replace HX := Lib.hid (HX.out.below hb)
  replace HR := Lib.hid (HR.out.below hb)
  replace HB := Lib.hid (bstep HB.out hb)
  have HRt := Lib.hid hro
  clear hro hb HFz HG
  go_upto_region 7 with fail
  change Code.wp _ _ _ _ (w3.alloc (.cells (genC num rev 2 sz t LV GA) 124))
  have hbq := below_gen w3 num rev 2 sz t LV GA 124
  have XO := Lib.hid (BoxG.new w3 num rev 2 sz t LV GA 124)
  replace HX := Lib.hid (HX.out.below hbq)
  replace HR := Lib.hid (HR.out.below hbq)
  replace HB := Lib.hid (bstep HB.out hbq)
  replace HRt := Lib.hid (HRt.out.keep hbq)
  have hB4 := Nat.le_trans hB3 hbq.size
  clear hbq
  generalize w3.alloc (.cells (genC num rev 2 sz t LV GA) 124) = w4 at *
  generalize w3.heap.size = b4 at *
  have q0 := XO.out.n0
  go_wp2_with fail
  refine (rfresh_nil (num + 1) (by omega) w4).mono ?_
  rintro e w5 ⟨rfl, hb⟩
  clear q0
  have hB5 := Nat.le_trans hB4 hb.size
  replace HX := Lib.hid (HX.out.below hb)
  replace HR := Lib.hid (HR.out.below hb)
  replace HB := Lib.hid (bstep HB.out hb)
  replace HRt := Lib.hid (HRt.out.keep hb)
  replace XO := Lib.hid (XO.out.below hb)
  clear hb
  go_upto_region 8 with fail
  change Code.wp _ _ _ _ (w5.alloc (.cells (genC (num + 1) 0 1 16 Sl.nil 0 0) 124))
  have hbq := below_gen w5 (num + 1) 0 1 16 Sl.nil 0 0 124
  have XF := Lib.hid (BoxG.new w5 (num + 1) 0 1 16 Sl.nil 0 0 124)
  replace HX := Lib.hid (HX.out.below hbq)
  replace HR := Lib.hid (HR.out.below hbq)
  replace HB := Lib.hid (bstep HB.out hbq)
  replace HRt := Lib.hid (HRt.out.keep hbq)
  replace XO := Lib.hid (XO.out.below hbq)
  have hB6 := Nat.le_trans hB5 hbq.size
  clear hbq
  generalize w5.alloc (.cells (genC (num + 1) 0 1 16 Sl.nil 0 0) 124) = w6 at *
  generalize w5.heap.size = b6 at *
  have HPr6 := Lib.hid (HPr.out.below HB.out)
  have HOne := Lib.hid (gps_one LT)
  have HOne2 := Lib.hid (show ∀ u ∈ (gpC (⟨num, rev, 2, sz, ⟨f, LV, GA⟩⟩, t) ++ gpC (fresh (num + 1), Sl.nil)), u.oneCell' = true from fun u hu => by rcases List.mem_append.1 hu with h | h <;> exact gp_one _ u h)
  refine wp_region_inv 12 (fun L f' W => RtS 124 j (LT.flatMap gpC) (gpC (⟨num, rev, 2, sz, ⟨f, LV, GA⟩⟩, t) ++ gpC (fresh (num + 1), Sl.nil)) [(1, .pointer (some ⟨w.heap.size, 3, none⟩)), (2, .slice (some ⟨b, off, none⟩) (j + 1) c), (3, .int .i64 ((j : Int) + 1)), (4, .int .i64 (j : Int)), (5, .slice (some ⟨b, off, none⟩) j c), (7, genV num rev 2 sz t LV GA), (8, genV (num + 1) 0 1 16 Sl.nil 0 0), (11, .pointer (some ⟨w.heap.size, 3, none⟩))] w6.heap.size w6 L f' W) 50 (by kernel_rfl) (by kernel_rfl) (by rfl) (by kernel_rfl) (fun f => by simp [frm, dstOf, Act.put]; exact rfl) (fun f => RtS.start rfl f) ?_ ?_
  · refine ⟨?_, ?_, ?_, ?_, ?_, ?_, ?_, ?_, ?_, ?_, ?_, ?_, trivial⟩
    · intro L f' w7 h0 hd hI
      have HI1 := Lib.hid hI
      clear hI hd
      dsimp only
      go_wp2_with fail
      exact ⟨rfl, (fun h => by cases h), fun t ht => by injection ht with ht; subst ht; exact HI1.out.zero h0 (by simp)⟩
    · intro L f' w7 h0 hd hI
      have HI1 := Lib.hid hI
      clear hI hd
      dsimp only
      go_wp2_with fail
      exact ⟨rfl, (fun h => by cases h), fun t ht => by injection ht with ht; subst ht; exact HI1.out.pure (v := .pointer (some ⟨w.heap.size, 3, none⟩)) (by decide) (by decide) (by decide) (by decide) (by simp)⟩
    · intro L f' w7 h0 hd hI
      have HI1 := Lib.hid hI
      have d1 : f' 1 = .pointer (some ⟨w.heap.size, 3, none⟩) := hI.pur (1, .pointer (some ⟨w.heap.size, 3, none⟩)) (by simp) (hd 1 (by kernel_rfl))
      have z3 := (HX.out.below hI.hb).c3
      clear hI hd
      dsimp only
      rw [d1]
      go_wp2_with fail
      exact ⟨rfl, (fun h => by cases h), fun t ht => by injection ht with ht; subst ht; exact HI1.out.pure (v := .slice (some ⟨b, off, none⟩) (j + 1) c) (by decide) (by decide) (by decide) (by decide) (by simp)⟩
    · intro L f' w7 h0 hd hI
      have HI1 := Lib.hid hI
      clear hI hd
      dsimp only
      go_wp2_with fail
      exact ⟨rfl, (fun h => by cases h), fun t ht => by injection ht with ht; subst ht; exact HI1.out.pure (v := .int .i64 ((j : Int) + 1)) (by decide) (by decide) (by decide) (by decide) (by simp)⟩
    · intro L f' w7 h0 hd hI
      have HI1 := Lib.hid hI
      have d3 : f' 3 = .int .i64 ((j : Int) + 1) := hI.pur (3, .int .i64 ((j : Int) + 1)) (by simp) (hd 3 (by kernel_rfl))
      clear hI hd
      dsimp only
      rw [d3]
      go_wp2_with fail
      exact ⟨rfl, (fun h => by cases h), fun t ht => by injection ht with ht; subst ht; exact HI1.out.pure (v := .int .i64 (j : Int)) (by decide) (by decide) (by decide) (by decide) (by simp)⟩
    · intro L f' w7 h0 hd hI
      have HI1 := Lib.hid hI
      have d2 : f' 2 = .slice (some ⟨b, off, none⟩) (j + 1) c := hI.pur (2, .slice (some ⟨b, off, none⟩) (j + 1) c) (by simp) (hd 2 (by kernel_rfl))
      have d4 : f' 4 = .int .i64 (j : Int) := hI.pur (4, .int .i64 (j : Int)) (by simp) (hd 4 (by kernel_rfl))
      clear hI hd
      dsimp only
      rw [d2]
      rw [d4]
      go_wp2_with fail
      exact ⟨rfl, (fun h => by cases h), fun t ht => by injection ht with ht; subst ht; exact HI1.out.pure (v := .slice (some ⟨b, off, none⟩) j c) (by decide) (by decide) (by decide) (by decide) (by simp)⟩
    · intro L f' w7 h0 hd hI
      have HI1 := Lib.hid hI
      have d5 : f' 5 = .slice (some ⟨b, off, none⟩) j c := hI.pur (5, .slice (some ⟨b, off, none⟩) j c) (by simp) (hd 5 (by kernel_rfl))
      obtain ⟨bz, e0, hown, hk⟩ := hI.app1 (hd 0 (by kernel_rfl)) h0 (by simp)
      have hrd := HPr6.out.below hI.hb
      have hsz := hI.sz
      have HK := Lib.hid hk
      clear hI hd hk
      dsimp only
      rw [d5, e0]
      refine wpList_app rfl (.tmp 37) (.tmp 42) 22 rfl elemGr w6.heap.size rfl hown rfl hrd HOne.out (by unfold maxLen; omega) (by omega) hsz ?_
      intro v' w8 hown' hgr' _
      rw [Nat.zero_add, List.nil_append] at hown'
      have HQ := Lib.hid (HK.out _ _ hown' hgr')
      exact ⟨rfl, (fun h => by cases h), fun t ht => by injection ht with ht; subst ht; exact HQ.out⟩
    · intro L f' w7 h0 hd hI
      have HI1 := Lib.hid hI
      have zo := XO.out.below hI.hb
      have g0 := zo.n0
      have g1 := zo.n1
      have g2 := zo.n2
      have g3 := zo.n3
      have g4 := zo.c0
      have g5 := zo.c1
      have g6 := zo.c2
      have g7 := zo.c3
      have g8 := zo.c4
      have g9 := zo.c5
      have g10 := zo.c6
      have g11 := zo.c7
      have g12 := zo.cl
      have g13 := zo.cg
      clear zo
      clear hI hd
      dsimp only
      go_wp2_with fail
      exact ⟨rfl, (fun h => by cases h), fun t ht => by injection ht with ht; subst ht; exact HI1.out.pure (v := genV num rev 2 sz t LV GA) (by decide) (by decide) (by decide) (by decide) (by simp)⟩
    · intro L f' w7 h0 hd hI
      have HI1 := Lib.hid hI
      have zo := XF.out.below hI.hb
      have g0 := zo.n0
      have g1 := zo.n1
      have g2 := zo.n2
      have g3 := zo.n3
      have g4 := zo.c0
      have g5 := zo.c1
      have g6 := zo.c2
      have g7 := zo.c3
      have g8 := zo.c4
      have g9 := zo.c5
      have g10 := zo.c6
      have g11 := zo.c7
      have g12 := zo.cl
      have g13 := zo.cg
      clear zo
      clear hI hd
      dsimp only
      go_wp2_with fail
      exact ⟨rfl, (fun h => by cases h), fun t ht => by injection ht with ht; subst ht; exact HI1.out.pure (v := genV (num + 1) 0 1 16 Sl.nil 0 0) (by decide) (by decide) (by decide) (by decide) (by simp)⟩
    · intro L f' w7 h0 hd hI
      have HI1 := Lib.hid hI
      have d7 : f' 7 = genV num rev 2 sz t LV GA := hI.pur (7, genV num rev 2 sz t LV GA) (by simp) (hd 7 (by kernel_rfl))
      have d8 : f' 8 = genV (num + 1) 0 1 16 Sl.nil 0 0 := hI.pur (8, genV (num + 1) 0 1 16 Sl.nil 0 0) (by simp) (hd 8 (by kernel_rfl))
      clear hI hd
      dsimp only
      rw [d7, d8]
      go_wp2_with fail
      exact ⟨rfl, (fun h => by cases h), fun t ht => by injection ht with ht; subst ht; exact HI1.out.two h0 rfl (by simp)⟩
    · intro L f' w7 h0 hd hI
      have HI1 := Lib.hid hI
      obtain ⟨ra, rc, kz, e6, hown, e9, hrd, hk⟩ := hI.app2 (hd 6 (by kernel_rfl)) (hd 9 (by kernel_rfl)) h0 (by simp)
      have hsz := hI.sz
      have HK := Lib.hid hk
      clear hI hd hk
      dsimp only
      rw [e6, e9]
      refine wpList_app rfl (.tmp 43) (.tmp 46) 22 rfl elemGr w6.heap.size rfl hown rfl hrd HOne2.out (by unfold maxLen; omega) (by omega) hsz ?_
      intro v' w8 hown' hgr' _
      have HQ := Lib.hid (HK.out _ _ hown' hgr')
      exact ⟨rfl, (fun h => by cases h), fun t ht => by injection ht with ht; subst ht; exact HQ.out⟩
    · intro L f' w7 h0 hd hI
      have HI1 := Lib.hid hI
      clear hI hd
      dsimp only
      go_wp2_with fail
      exact ⟨rfl, (fun h => by cases h), fun t ht => by injection ht with ht; subst ht; exact HI1.out.pure (v := .pointer (some ⟨w.heap.size, 3, none⟩)) (by decide) (by decide) (by decide) (by decide) (by simp)⟩
  · intro L f' w7 hA hI
    obtain ⟨ra, rc, e10, hown⟩ := hI.a10 (hA 10 (by decide))
    have d11 : f' 11 = .pointer (some ⟨w.heap.size, 3, none⟩) := hI.pur (11, .pointer (some ⟨w.heap.size, 3, none⟩)) (by simp) (hA 11 (by decide))
    have Hb7 := Lib.hid hI.hb
    have hsz := hI.sz
    have HOw := Lib.hid hown
    clear hI hA hown
    try dsimp only
    rw [e10, d11]
    replace HX := Lib.hid (HX.out.below Hb7.out)
    replace HR := Lib.hid (HR.out.below Hb7.out)
    replace HB := Lib.hid (bstep HB.out Hb7.out)
    replace HRt := Lib.hid (HRt.out.keep Hb7.out)
    have z3 := HX.out.c3
    have zf := HX.out.f
    go_upto_region 9 with fail
    clear z3 zf
    have HX8 := Lib.hid (show BoxV (pts w7 w.heap.size [(3, .slice ra (j + 2) rc)]) w.heap.size i l r ra (j + 2) rc from HX.out.set3 ra (j + 2) rc)
    have HR8 := Lib.hid (HR.out.pts_ne (d := w.heap.size) (by omega) [(3, .slice ra (j + 2) rc)])
    have HB8 := Lib.hid (pts_below (B := w.heap.size) (b := w.heap.size) (Nat.le_refl _) [(3, .slice ra (j + 2) rc)] HB.out)
    have HO8 := Lib.hid (pts_own (b := w.heap.size) (by omega) HOw.out [(3, .slice ra (j + 2) rc)])
    have HM8 := Lib.hid (show ∀ p ∈ LT, RdM (pts w7 w.heap.size [(3, .slice ra (j + 2) rc)]) p.2 p.1.m.st from fun p hp => (HMs.out p hp).below HB8.out)
    have HT8 := Lib.hid (HRt.out.pts (b := w.heap.size) (by omega) [(3, .slice ra (j + 2) rc)])
    change Code.wp _ _ _ _ (pts w7 w.heap.size [(3, .slice ra (j + 2) rc)])
    generalize pts w7 w.heap.size [(3, .slice ra (j + 2) rc)] = w8 at *
    have k0 := HX8.out.c0
    have k1 := HX8.out.c1
    have k2 := HX8.out.c2
    have k3 := HX8.out.c3
    have z0 := HR8.out.c0
    have z1 := HR8.out.c1
    have z2 := HR8.out.c2
    have z3 := HR8.out.c3
    have zf := HR8.out.f
    go_wp2_with fail
    change bodyPost _ _ _ _ _ (pts w8 (w.heap.size + 1) (sloL i l r ra (j + 2) rc))
    have HGz := Lib.hid (show RdG (pts w8 (w.heap.size + 1) (sloL i l r ra (j + 2) rc)) (.slice ra (j + 2) rc) (LT ++ [(⟨num, rev, 2, sz, ⟨f, LV, GA⟩⟩, t), (fresh (num + 1), Sl.nil)]) from own_rdG (B := w6.heap.size) (T := 124) (by
      rw [List.flatMap_append, show [((⟨num, rev, 2, sz, ⟨f, LV, GA⟩⟩ : Gn), t), (fresh (num + 1), Sl.nil)].flatMap gpC = (gpC (⟨num, rev, 2, sz, ⟨f, LV, GA⟩⟩, t) ++ gpC (fresh (num + 1), Sl.nil)) from rfl]
      exact pts_own (b := w.heap.size + 1) (by omega) HO8.out _) (by rw [List.length_append, Hlt.out]; rfl) (fun p hp => by
      rcases List.mem_append.1 hp with hp | hp
      · exact (HMs.out p hp).below (pts_below (B := w.heap.size) (b := w.heap.size + 1) (by omega) (sloL i l r ra (j + 2) rc) HB8.out)
      · simp only [List.mem_cons, List.not_mem_nil, or_false] at hp
        rcases hp with rfl | rfl
        · exact (HT8.out.pts (b := w.heap.size + 1) (by omega) (sloL i l r ra (j + 2) rc)).rd HMp.out (pts_below (B := w.heap.size) (b := w.heap.size + 1) (by omega) (sloL i l r ra (j + 2) rc) HB8.out)
        · exact rdM_nil _))
    have hby := HR8.out.all i l r ra (j + 2) rc
    have HBz := Lib.hid (pts_below (B := w.heap.size) (b := (w.heap.size + 1)) (by omega) (sloL i l r ra (j + 2) rc) HB8.out)
    generalize pts w8 (w.heap.size + 1) (sloL i l r ra (j + 2) rc) = V at *
    exact bodyPost_ret (v := .tuple #[sloV i l r ra (j + 2) rc, .int .i64 0]) (by simp [results, Tryz.results55, go_sem, hby.c0, hby.c1, hby.c2, hby.c3]) rfl (by rw [HC.out]; exact ⟨⟨ra, j + 2, rc, LT ++ [(⟨num, rev, 2, sz, ⟨f, LV, GA⟩⟩, t), (fresh (num + 1), Sl.nil)], rfl, HGz.out, by rw [gns_append, HGt.out]; rfl⟩, HBz.out⟩)
theorem rrot_any (i l : Int) (r : Bool) (a : Option Addr) (n c : Nat) (L : List GP) (w : World) (h : RdG w (.slice a n c) L) (hs : ∀ p ∈ L, ∀ j, j < 8 → (p.1.m.st j).length ≤ 10000) : Calls Tryz.prog 55 #[sloV i l r a n c] w (SRes w (rotS ⟨i, l, r, gns L⟩)) := by
  cases hv : vldSl ⟨i, l, r, gns L⟩
  · exact rrot_no i l r a n c L w h hs hv
  · by_cases hn8 : (topG ⟨i, l, r, gns L⟩).num < 8
    · exact rrot_yes i l r a n c L w h hs hv hn8
    · exact rrot_full i l r a n c L w h hs hv hn8
end Go.Proofs.YtenkeodfijladaaGreat

namespace Go.Proofs.YtenkeodfijladaaGreat
open Go.RowKit

theorem three_slo (w : World) (i l : Int) (r : Bool) (a : Option Addr) (n c : Nat) (y : GP) (t u : TypeId) : ∃ W, ((w.alloc (.cells (sloC i l r a n c) t)).alloc (.cells (genC y.1.num y.1.rev y.1.mode y.1.size y.2 y.1.m.live y.1.m.garb) u)).alloc (.cells (sloC 0 0 false none 0 0) t) = W ∧ BoxV W w.heap.size i l r a n c ∧ BoxG W (w.heap.size + 1) y.1.num y.1.rev y.1.mode y.1.size y.2 y.1.m.live y.1.m.garb ∧ BoxV W (w.heap.size + 2) 0 0 false none 0 0 ∧ Below w.heap.size w W := by
  have h1 := BoxV.new w i l r a n c t
  have b1 := below_slo w i l r a n c t
  generalize hw1 : w.alloc (.cells (sloC i l r a n c) t) = w1 at *
  have e1 : w1.heap.size = w.heap.size + 1 := by rw [← hw1, World.size_alloc]
  have h2 := BoxG.new w1 y.1.num y.1.rev y.1.mode y.1.size y.2 y.1.m.live y.1.m.garb u
  have b2 := below_gen w1 y.1.num y.1.rev y.1.mode y.1.size y.2 y.1.m.live y.1.m.garb u
  generalize hw2 : w1.alloc (.cells (genC y.1.num y.1.rev y.1.mode y.1.size y.2 y.1.m.live y.1.m.garb) u) = w2 at *
  have e2 : w2.heap.size = w.heap.size + 2 := by rw [← hw2, World.size_alloc, e1]
  have h3 := BoxV.new w2 0 0 false none 0 0 t
  have b3 := below_slo w2 0 0 false none 0 0 t
  rw [e1] at h2
  rw [e2] at h3
  exact ⟨_, rfl, (h1.below b2).below b3, h2.below b3, h3, bstep (bstep b1 b2) b3⟩
theorem setCells_pts (b : Nat) : ∀ (vs : List Value) (o : Nat) (W : World), W.setCells b o vs = pts W b (offL o vs)
  | [], _, _ => rfl
  | v :: r, o, W => setCells_pts b r (o + 1) _
theorem there_of {W : World} {b o n : Nat} (hc : ∀ j, j < n → (W.cell? ⟨b, o + j, none⟩).isSome = true) (hf : ∀ i, W.frozen? ⟨b, i, none⟩ = false) : W.there b o n := fun j hj => ⟨hc j hj, hf _⟩
theorem GAt.there {W : World} {g o : Nat} {p : GP} (h : GAt W g o p) (hf : ∀ i, W.frozen? ⟨g, i, none⟩ = false) : W.there g o 14 := fun j hj => by
  refine ⟨?_, hf _⟩
  rcases (show j = 0 ∨ j = 1 ∨ j = 2 ∨ j = 3 ∨ j = 4 ∨ j = 5 ∨ j = 6 ∨ j = 7 ∨ j = 8 ∨ j = 9 ∨ j = 10 ∨ j = 11 ∨ j = 12 ∨ j = 13 by omega) with e | e | e | e | e | e | e | e | e | e | e | e | e | e <;> subst e
  · rw [Nat.add_zero, h.n0]; rfl
  · rw [h.n1]; rfl
  · rw [h.n2]; rfl
  · rw [h.n3]; rfl
  · rw [h.c0]; rfl
  · rw [h.c1]; rfl
  · rw [h.c2]; rfl
  · rw [h.c3]; rfl
  · rw [h.c4]; rfl
  · rw [h.c5]; rfl
  · rw [h.c6]; rfl
  · rw [h.c7]; rfl
  · rw [h.cl]; rfl
  · rw [h.cg]; rfl
theorem info14r : (Tryz.prog.info? 124).map (·.size) = some 14 := by kernel_rfl
theorem info14p : (Tryz.prog.info? 58).map (·.size) = some 14 := by kernel_rfl
theorem genC_all (num rev md sz : Int) (s : Sl) (LV GA : Int) : (genC num rev md sz s LV GA).all (·.oneCell') = true := all_oneCell_toArray (gp_one (⟨num, rev, md, sz, ⟨fun _ => [], LV, GA⟩⟩, s))
/-- A whole generation stored into a row. -/
theorem store_gp (W : World) (g o : Nat) (num rev md sz : Int) (s : Sl) (LV GA : Int) : W.setCells g o (genC num rev md sz s LV GA).toList = pts W g (gpL o num rev md sz s LV GA) := setCells_pts g _ o W
set_option maxRecDepth 100000 in
set_option maxHeartbeats 8000000 in
theorem rchg_no (i l : Int) (r : Bool) (a : Option Addr) (n c : Nat) (L : List GP) (w : World) (h : RdG w (.slice a n c) L) (hs : ∀ p ∈ L, ∀ j, j < 8 → (p.1.m.st j).length ≤ 10000) (y : GP) (hy : RdM w y.2 y.1.m.st) (hyl : ∀ j, j < 8 → (y.1.m.st j).length ≤ 10000) (hv : vldSl ⟨i, l, r, gns L⟩ = false) :
    Calls Tryz.prog 54 #[sloV i l r a n c, genV y.1.num y.1.rev y.1.mode y.1.size y.2 y.1.m.live y.1.m.garb] w (SRes w (chgS ⟨i, l, r, gns L⟩ y.1)) := by
  have HSv := Lib.hid (fun W (hb : Below w.heap.size w W) => rsvalid_any i l r a n c L W (h.below hb) hs)
  have HC := Lib.hid (show chgS ⟨i, l, r, gns L⟩ y.1 = (slt0, 1) by unfold chgS; rw [hv]; rfl)
  rw [hv] at HSv
  clear h hs hv hy hyl
  go_enter Tryz.func54, Tryz.ntmps54
  go_upto_region 1 with fail
  change Code.wp _ _ _ _ (((w.alloc (.cells (sloC i l r a n c) 24)).alloc (.cells (genC y.1.num y.1.rev y.1.mode y.1.size y.2 y.1.m.live y.1.m.garb) 124)).alloc (.cells (sloC 0 0 false none 0 0) 24))
  obtain ⟨W, hW, hbx, hbg, hbr, hbw⟩ := three_slo w i l r a n c y 24 124
  rw [hW]
  have HX := Lib.hid hbx
  have HG := Lib.hid hbg
  have HR := Lib.hid hbr
  have HB := Lib.hid hbw
  clear hW hbx hbg hbr hbw
  have k0 := HX.out.c0
  have k1 := HX.out.c1
  have k2 := HX.out.c2
  have k3 := HX.out.c3
  go_wp2_with fail
  refine (HSv.out _ HB.out).mono ?_
  rintro e w1 ⟨rfl, hb⟩
  replace HX := Lib.hid (HX.out.below hb)
  replace HR := Lib.hid (HR.out.below hb)
  replace HB := Lib.hid (bstep HB.out hb)
  clear hb
  clear k0 k1 k2 k3
  have z0 := HR.out.c0
  have z1 := HR.out.c1
  have z2 := HR.out.c2
  have z3 := HR.out.c3
  have zf := HR.out.f
  go_wp2_with fail
  change bodyPost _ _ _ _ _ (pts w1 (w.heap.size + 2) (sloL 0 0 false none 0 0))
  have hby := HR.out.all 0 0 false none 0 0
  have HBz := Lib.hid (pts_below (B := w.heap.size) (b := (w.heap.size + 2)) (by omega) (sloL 0 0 false none 0 0) HB.out)
  generalize pts w1 (w.heap.size + 2) (sloL 0 0 false none 0 0) = V at *
  exact bodyPost_ret (v := .tuple #[sloV 0 0 false none 0 0, .int .i64 1]) (by simp [results, Tryz.results54, go_sem, hby.c0, hby.c1, hby.c2, hby.c3]) rfl (by rw [HC.out]; exact SRes.no HBz.out)
set_option maxRecDepth 100000 in
set_option maxHeartbeats 16000000 in
theorem rchg_yes (i l : Int) (r : Bool) (a : Option Addr) (n c : Nat) (L : List GP) (w : World) (h : RdG w (.slice a n c) L) (hs : ∀ p ∈ L, ∀ j, j < 8 → (p.1.m.st j).length ≤ 10000) (y : GP) (hy : RdM w y.2 y.1.m.st) (hyl : ∀ j, j < 8 → (y.1.m.st j).length ≤ 10000) (hv : vldSl ⟨i, l, r, gns L⟩ = true) :
    Calls Tryz.prog 54 #[sloV i l r a n c, genV y.1.num y.1.rev y.1.mode y.1.size y.2 y.1.m.live y.1.m.garb] w (SRes w (chgS ⟨i, l, r, gns L⟩ y.1)) := by
  have HSv := Lib.hid (fun W (hb : Below w.heap.size w W) => rsvalid_any i l r a n c L W (h.below hb) hs)
  have hV := (vldSl_iff _).1 hv
  have hLn : L.length = n := by
    obtain ⟨_, _, e, _⟩ := h.shape
    injection e with _ e _; exact e.symm
  have hl : (gns L).length = n := by rw [gns_len, hLn]
  have hn : 1 ≤ n ∧ n ≤ 8 := by have := hV.len; simp only [hl] at this; exact this
  have HC := Lib.hid (show chgS ⟨i, l, r, gns L⟩ y.1 = (if metK L y.1.num n = true then (if vldSl ⟨i, l, r, gns (putP L y)⟩ = true then (⟨i, l, r, gns (putP L y)⟩, 0) else (slt0, 1)) else (slt0, 6)) by
    unfold chgS; rw [if_pos hv, metK_all L y.1.num n hLn.symm, putP_gns])
  rw [hv] at HSv
  have HPm := Lib.hid (show ∀ W, Below w.heap.size w W → ∀ p ∈ putP L y, RdM W p.2 p.1.m.st from fun W hb p hp => by
    rcases putP_mem hp with hp | rfl
    · exact (h.m p hp).below hb
    · exact hy.below hb)
  have HPl := Lib.hid (show ∀ p ∈ putP L y, ∀ j, j < 8 → (p.1.m.st j).length ≤ 10000 from fun p hp => by
    rcases putP_mem hp with hp | rfl
    · exact hs p hp
    · exact hyl)
  have HPn := Lib.hid (show n = (putP L y).length by rw [putP_len, hLn])
  have HK0 := Lib.hid (putK_zero L y)
  have HKa := Lib.hid (putK_all L y n hLn.symm)
  have HKl := Lib.hid (fun k => show n = (putK L y k).length by rw [putK_len, hLn])
  have HKp := Lib.hid (fun k (hk : k < n) => putK_at (L := L) (k := k) (by omega) y)
  have HKs := Lib.hid (fun k (hk : k < n) => show ((pat L k).1.num = y.1.num → putK L y (k + 1) = (putK L y k).set k y) ∧ ((pat L k).1.num ≠ y.1.num → putK L y (k + 1) = putK L y k) from ⟨fun e => by rw [putK_succ (by omega), if_pos e], fun e => putK_same (by omega) y e⟩)
  have HMs := Lib.hid (fun k (hk : k < n) => metK_succ (L := L) (k := k) (by omega) y.1.num)
  have HM0 := Lib.hid (show metK L y.1.num 0 = false from rfl)
  have HRw := Lib.hid (fun W (hb : Below w.heap.size w W) => show Rd W 14 (.slice a n c) n (L.flatMap gpC) from by
    have h1 := (RdS.below h.r hb).2
    rwa [hLn] at h1)
  have HOne := Lib.hid (gps_one L)
  clear h hs hv hV hLn hl hy hyl
  obtain ⟨⟨num, rev, md, sz, ⟨f, LV, GA⟩⟩, s⟩ := y
  dsimp only at *
  go_enter Tryz.func54, Tryz.ntmps54
  go_upto_region 1 with fail
  change Code.wp _ _ _ _ (((w.alloc (.cells (sloC i l r a n c) 24)).alloc (.cells (genC num rev md sz s LV GA) 124)).alloc (.cells (sloC 0 0 false none 0 0) 24))
  obtain ⟨W, hW, hbx, hbg, hbr, hbw⟩ := three_slo w i l r a n c (⟨num, rev, md, sz, ⟨f, LV, GA⟩⟩, s) 24 124
  rw [hW]
  have HX := Lib.hid hbx
  have HG := Lib.hid hbg
  have HR := Lib.hid hbr
  have HB := Lib.hid hbw
  clear hW hbx hbg hbr hbw
  have hB0 : w.heap.size + 3 ≤ W.heap.size := by have := HR.out.lt; omega
  dsimp only at HG
  have k0 := HX.out.c0
  have k1 := HX.out.c1
  have k2 := HX.out.c2
  have k3 := HX.out.c3
  go_wp2_with fail
  refine (HSv.out _ HB.out).mono ?_
  rintro e w1 ⟨rfl, hb⟩
  replace HX := Lib.hid (HX.out.below hb)
  replace HG := Lib.hid (HG.out.below hb)
  replace HR := Lib.hid (HR.out.below hb)
  replace HB := Lib.hid (bstep HB.out hb)
  have hB1 := Nat.le_trans hB0 hb.size
  clear hb HSv
  clear k0 k1 k2 k3
  have k3 := HX.out.c3
  obtain ⟨w2, hw2⟩ : ∃ w2, w1.alloc (.cells #[] 124) = w2 := ⟨_, rfl⟩
  have hO0 := World.ownsRow_made (e := 124) (size := 14) w1 #[] 0 (Nat.le_refl w1.heap.size) (by decide) rfl
  have hba : Below w1.heap.size w1 w2 := hw2 ▸ (Below.refl w1.heap.size w1).alloc (Nat.le_refl _) (.cells #[] 124)
  rw [hw2] at hO0
  have hHB2 := bstep HB.out hba
  replace k3 := (HX.out.below hba).c3
  go_wp2_with (at_builtin; go_must (refine wpList_app rfl (.tmp 12) (.tmp 14) 22 rfl elemGr w1.heap.size rfl hO0 rfl (HRw.out w2 hHB2) HOne.out (by unfold maxLen; omega) (by omega) hba.size ?_; intro v3 w3 hown3 hgr3 hv3; clear hv3; rw [Nat.zero_add, List.nil_append] at hown3; obtain ⟨ra, rc, rfl, _⟩ := own_form hown3; have hb3 := own_below hba hO0 hba.size hgr3; replace k3 := (HX.out.below hb3).c3; have kf := (HX.out.below hb3).f))
  obtain ⟨g, rfl, hgB, hgl⟩ := rowG_some hown3 (by omega)
  have HX4 := Lib.hid (show BoxV (pts w3 w.heap.size [(3, .slice (some ⟨g, 0, none⟩) n rc)]) w.heap.size i l r (some ⟨g, 0, none⟩) n rc from (HX.out.below hb3).set3 (some ⟨g, 0, none⟩) n rc)
  have HG4 := Lib.hid ((HG.out.below hb3).pts_ne (c := w.heap.size) (by omega) [(3, .slice (some ⟨g, 0, none⟩) n rc)])
  have HR4 := Lib.hid ((HR.out.below hb3).pts_ne (d := w.heap.size) (by omega) [(3, .slice (some ⟨g, 0, none⟩) n rc)])
  have HB4 := Lib.hid (pts_below (B := w.heap.size) (b := w.heap.size) (Nat.le_refl _) [(3, .slice (some ⟨g, 0, none⟩) n rc)] (bstep HB.out hb3))
  have HO4 := Lib.hid (pts_own (b := w.heap.size) (by omega) hown3 [(3, .slice (some ⟨g, 0, none⟩) n rc)])
  have hg9 : w.heap.size + 3 ≤ g := by omega
  clear HX HG HR HB hb3 hown3 hgr3 hO0 hba hHB2 HRw HOne k3 kf hw2 hgl
  change Code.wp _ _ _ _ (pts w3 w.heap.size [(3, .slice (some ⟨g, 0, none⟩) n rc)])
  generalize (pts w3 w.heap.size [(3, .slice (some ⟨g, 0, none⟩) n rc)]) = w4 at *
  rw [← HK0.out] at HO4
  go_loopw [6, 7] (fun fv iv V => ∃ (k : Nat) (m : Bool), iv = .int .i64 (k : Int) ∧ fv = .bool m ∧ k ≤ n ∧ Hid (m = metK L num k) ∧ Hid (V.ownsRow w1.heap.size 124 14 (.slice (some ⟨g, 0, none⟩) n rc) n ((putK L (((⟨num, rev, md, sz, ⟨f, LV, GA⟩⟩ : Gn), s) : GP) k).flatMap gpC)) ∧ Hid (BoxV V w.heap.size i l r (some ⟨g, 0, none⟩) n rc) ∧ Hid (BoxG V (w.heap.size + 1) num rev md sz s LV GA) ∧ Hid (BoxV V (w.heap.size + 2) 0 0 false none 0 0) ∧ Hid (Below w.heap.size w V)) (fun _ iv _ => n - (intOf iv).toNat)
  case atStart => exact ⟨0, false, rfl, rfl, Nat.zero_le _, Lib.hid HM0.out.symm, HO4, HX4, HG4, HR4, HB4⟩
  case round =>
    obtain ⟨k, m, rfl, rfl, hk, Hm, HO, HX, HG, HR, HB⟩ := hrel
    clear HX4 HG4 HR4 HB4 HO4
    have k3 := HX.out.c3
    by_cases hlt : k < n
    · have i1 : (k : Int) < (n : Int) := by omega
      have hat := rowG_at HO.out (HKl.out k) hlt
      rw [HKp.out k hlt] at hat
      have q0 := HG.out.n0
      have hKs := HKs.out k hlt
      have hMs := HMs.out k hlt
      have HKk := Lib.hid (show k < (putK L (((⟨num, rev, md, sz, ⟨f, LV, GA⟩⟩ : Gn), s) : GP) k).length by rw [← HKl.out k]; exact hlt)
      by_cases hnum : (pat L k).1.num = num
      · have HM1 := Lib.hid (show true = metK L num (k + 1) by rw [hMs, decide_eq_true hnum, Bool.or_true])
        have HKe := Lib.hid (hKs.1 hnum)
        clear hKs hMs
        have c0 := hat.n0
        rw [hnum] at c0
        go_upto_region 8 with fail
        replace k3 := cell_by k3
        replace c0 := cell_by c0
        replace q0 := cell_by q0
        refine wp_region_below (by kernel_rfl) (by kernel_rfl) ?_
        repeat (go_big_quiet_step (fail))
        refine wpQuiet_nil ?_
        intro _ hw'
        obtain ⟨q, hw'⟩ := hw'
        subst hw'
        have hat := hat.below q.h
        replace HO := Lib.hid (own_keep HO.out q.h)
        replace HX := Lib.hid (HX.out.below q.h)
        replace HG := Lib.hid (HG.out.below q.h)
        replace HR := Lib.hid (HR.out.below q.h)
        replace HB := Lib.hid (bstep HB.out q.h)
        clear k3 c0 q0
        generalize q.w' = v0 at *
        clear q
        have hst := own_set14 HO.out k HKk.out (((⟨num, rev, md, sz, ⟨f, LV, GA⟩⟩ : Gn), s) : GP)
        rw [← HKe.out] at hst
        have HO1 := Lib.hid hst.1
        have HG1 := Lib.hid (HG.out.grownR hst.2 (by omega))
        have HX1 := Lib.hid (HX.out.grownR hst.2 (by omega))
        have HR1 := Lib.hid (HR.out.grownR hst.2 (by omega))
        have HB1 := Lib.hid (pts_below (B := w.heap.size) (b := g) (by omega) (gpL (k * 14) num rev md sz s LV GA) HB.out)
        have hfr := rowG_frozen HO.out
        have k3 := HX.out.c3
        clear hst
        have HTh := Lib.hid (hat.there hfr)
        clear hat hfr
        have u0 := HG.out.n0
        have u1 := HG.out.n1
        have u2 := HG.out.n2
        have u3 := HG.out.n3
        have u4 := HG.out.c0
        have u5 := HG.out.c1
        have u6 := HG.out.c2
        have u7 := HG.out.c3
        have u8 := HG.out.c4
        have u9 := HG.out.c5
        have u10 := HG.out.c6
        have u11 := HG.out.c7
        have u12 := HG.out.cl
        have u13 := HG.out.cg
        go_wp2_with ((with_reducible refine wpList_store_mid ?_ 124 (.tmp 37) (.tmp 36) ?_ g (k * 14) (genC num rev md sz s LV GA) ?_ ?_ ?_ ?_ ?_ ?_); rfl; rfl; rfl; rfl; exact HTh.out; exact info14r; exact genC_all _ _ _ _ _ _ _; rw [store_gp])
        exact ⟨⟨k + 1, true, by go_num, rfl, by omega, HM1, HO1, HX1, HG1, HR1, HB1⟩, by simp [intOf]; omega⟩
      · have HM1 := Lib.hid (show m = metK L num (k + 1) by rw [hMs, decide_eq_false hnum, Bool.or_false]; exact Hm.out)
        have HO1 := HO
        rw [← hKs.2 hnum] at HO1
        have c0 := hat.n0
        have hne : ((pat L k).1.num == num) = false := by simp [hnum]
        clear hat hKs hMs
        generalize (pat L k).1.num = pn at *
        go_upto_region 8 with fail
        replace k3 := cell_by k3
        replace c0 := cell_by c0
        replace q0 := cell_by q0
        refine wp_region_below (by kernel_rfl) (by kernel_rfl) ?_
        repeat (go_big_quiet_step (fail))
        refine wpQuiet_nil ?_
        intro _ hw'
        obtain ⟨q, hw'⟩ := hw'
        subst hw'
        replace HO1 := Lib.hid (own_keep HO1.out q.h)
        replace HX := Lib.hid (HX.out.below q.h)
        replace HG := Lib.hid (HG.out.below q.h)
        replace HR := Lib.hid (HR.out.below q.h)
        replace HB := Lib.hid (bstep HB.out q.h)
        clear k3 c0 q0
        generalize q.w' = v0 at *
        clear q
        go_wp2_with fail
        exact ⟨⟨k + 1, m, by go_num, rfl, by omega, HM1, HO1, HX, HG, HR, HB⟩, by simp [intOf]; omega⟩
    · have i1 : ¬ (k : Int) < (n : Int) := by omega
      obtain rfl : k = n := by omega
      rw [HKa.out] at HO
      have hm := Hm.out
      rw [← hm] at HC
      clear hm Hm HKs HMs HKp HKl HK0 HM0 hlt hk HKa
      cases m
      · have HC0 := Lib.hid (HC.out.trans (if_neg (by decide)))
        clear HC
        have z0 := HR.out.c0
        have z1 := HR.out.c1
        have z2 := HR.out.c2
        have z3 := HR.out.c3
        have zf := HR.out.f
        go_wp2_with fail
        change bodyPost _ _ _ _ _ (pts wr (w.heap.size + 2) (sloL 0 0 false none 0 0))
        have hby := HR.out.all 0 0 false none 0 0
        have HBz := Lib.hid (pts_below (B := w.heap.size) (b := (w.heap.size + 2)) (by omega) (sloL 0 0 false none 0 0) HB.out)
        generalize pts wr (w.heap.size + 2) (sloL 0 0 false none 0 0) = V at *
        exact bodyPost_ret (v := .tuple #[sloV 0 0 false none 0 0, .int .i64 6]) (by simp [results, Tryz.results54, go_sem, hby.c0, hby.c1, hby.c2, hby.c3]) rfl (by rw [HC0.out]; exact SRes.no HBz.out)
      · have HC0 := HC.out.trans (if_pos rfl)
        have HRd := Lib.hid (own_rdG HO.out HPn.out (HPm.out wr HB.out))
        have HVn := Lib.hid (rsvalid_any i l r (some ⟨g, 0, none⟩) k rc (putP L (((⟨num, rev, md, sz, ⟨f, LV, GA⟩⟩ : Gn), s) : GP)) wr HRd.out HPl.out)
        have HOz := HO
        clear HC HO
        have k0 := HX.out.c0
        have k1 := HX.out.c1
        have k2 := HX.out.c2
        cases hvn : vldSl ⟨i, l, r, gns (putP L (((⟨num, rev, md, sz, ⟨f, LV, GA⟩⟩ : Gn), s) : GP))⟩
        · rw [hvn] at HVn HC0
          have HC := Lib.hid (HC0.trans (if_neg (by decide)))
          clear HC0 hvn
          go_wp2_with fail
          refine HVn.out.mono ?_
          rintro e v1 ⟨rfl, hb⟩
          replace HR := Lib.hid (HR.out.below hb)
          replace HB := Lib.hid (bstep HB.out hb)
          clear hb k0 k1 k2 k3 HVn HRd HX HG
          have z0 := HR.out.c0
          have z1 := HR.out.c1
          have z2 := HR.out.c2
          have z3 := HR.out.c3
          have zf := HR.out.f
          go_wp2_with fail
          change bodyPost _ _ _ _ _ (pts v1 (w.heap.size + 2) (sloL 0 0 false none 0 0))
          have hby := HR.out.all 0 0 false none 0 0
          have HBz := Lib.hid (pts_below (B := w.heap.size) (b := (w.heap.size + 2)) (by omega) (sloL 0 0 false none 0 0) HB.out)
          generalize pts v1 (w.heap.size + 2) (sloL 0 0 false none 0 0) = V at *
          exact bodyPost_ret (v := .tuple #[sloV 0 0 false none 0 0, .int .i64 1]) (by simp [results, Tryz.results54, go_sem, hby.c0, hby.c1, hby.c2, hby.c3]) rfl (by rw [HC.out]; exact SRes.no HBz.out)
        · rw [hvn] at HVn HC0
          have HC := Lib.hid (HC0.trans (if_pos rfl))
          clear HC0 hvn
          go_wp2_with fail
          refine HVn.out.mono ?_
          rintro e v1 ⟨rfl, hb⟩
          replace HX := Lib.hid (HX.out.below hb)
          replace HR := Lib.hid (HR.out.below hb)
          replace HB := Lib.hid (bstep HB.out hb)
          replace HOz := Lib.hid (own_keep HOz.out hb)
          clear hb k0 k1 k2 k3 HVn HG
          have k0 := HX.out.c0
          have k1 := HX.out.c1
          have k2 := HX.out.c2
          have k3 := HX.out.c3
          have z0 := HR.out.c0
          have z1 := HR.out.c1
          have z2 := HR.out.c2
          have z3 := HR.out.c3
          have zf := HR.out.f
          go_wp2_with fail
          change bodyPost _ _ _ _ _ (pts v1 (w.heap.size + 2) (sloL i l r (some ⟨g, 0, none⟩) k rc))
          have HRz := Lib.hid (show RdG (pts v1 (w.heap.size + 2) (sloL i l r (some ⟨g, 0, none⟩) k rc)) (.slice (some ⟨g, 0, none⟩) k rc) (putP L (((⟨num, rev, md, sz, ⟨f, LV, GA⟩⟩ : Gn), s) : GP)) from own_rdG (pts_own (b := w.heap.size + 2) (by omega) HOz.out _) HPn.out (HPm.out _ (pts_below (B := w.heap.size) (b := w.heap.size + 2) (by omega) (sloL i l r (some ⟨g, 0, none⟩) k rc) HB.out)))
          have hby := HR.out.all i l r (some ⟨g, 0, none⟩) k rc
          have HBz := Lib.hid (pts_below (B := w.heap.size) (b := (w.heap.size + 2)) (by omega) (sloL i l r (some ⟨g, 0, none⟩) k rc) HB.out)
          generalize pts v1 (w.heap.size + 2) (sloL i l r (some ⟨g, 0, none⟩) k rc) = V at *
          exact bodyPost_ret (v := .tuple #[sloV i l r (some ⟨g, 0, none⟩) k rc, .int .i64 0]) (by simp [results, Tryz.results54, go_sem, hby.c0, hby.c1, hby.c2, hby.c3]) rfl (by rw [HC.out]; exact ⟨⟨_, k, rc, putP L (((⟨num, rev, md, sz, ⟨f, LV, GA⟩⟩ : Gn), s) : GP), rfl, HRz.out, rfl⟩, HBz.out⟩)
end Go.Proofs.YtenkeodfijladaaGreat

namespace Go.Proofs.YtenkeodfijladaaGreat
open Go.RowKit

theorem elemGp : ElemT Tryz.prog 39 58 14 240 := by
  obtain ⟨i, hi, hz, hs, hb⟩ := info_parts (P := Tryz.prog) (e := 58) (z := genV 0 0 0 0 Sl.nil 0 0) (size := 14) (bytes := 240) (by kernel_rfl)
  exact ⟨Tryz.underlying39, by decide, i, _, hi, hz, hs, hb, rfl⟩
theorem two_slo2 (w : World) (i l : Int) (r : Bool) (a : Option Addr) (n c : Nat) (t u : TypeId) : ∃ W, (w.alloc (.cells (sloC i l r a n c) t)).alloc (.cells (sloC 0 0 false none 0 0) u) = W ∧ BoxV W w.heap.size i l r a n c ∧ BoxV W (w.heap.size + 1) 0 0 false none 0 0 ∧ Below w.heap.size w W ∧ W.heap.size = w.heap.size + 2 := by
  refine ⟨_, rfl, (BoxV.new w i l r a n c t).below (below_slo _ 0 0 false none 0 0 u), ?_, bstep (below_slo w i l r a n c t) (below_slo _ 0 0 false none 0 0 u), by simp [World.size_alloc]⟩
  have := BoxV.new (w.alloc (.cells (sloC i l r a n c) t)) 0 0 false none 0 0 u
  rwa [World.size_alloc] at this
def genR (x : GP) : Sta := ⟨fun v w => ∃ j, v = .slice (some ⟨j, 0, none⟩) 1 1 ∧ Rd w 14 (.slice (some ⟨j, 0, none⟩) 1 1) 1 (gpC x), fun _ _ _ hb ⟨j, h1, h2⟩ => ⟨j, h1, h2.below hb⟩⟩
theorem flat_snoc (L : List GP) (k : Nat) (hk : k < L.length) : (L.take (k + 1)).flatMap gpC = (L.take k).flatMap gpC ++ gpC (pat L k) := by
  rw [List.take_add_one, List.getElem?_eq_getElem hk, List.flatMap_append]
  unfold pat
  rw [List.getD_eq_getElem?_getD, List.getElem?_eq_getElem hk]
  simp
theorem ownT_ne {W : World} {B b : Nat} {e : TypeId} {sz n : Nat} {v : Value} {xs : List Value} (h : W.ownsRow B e sz v n xs) (hb : b < B) : some b ≠ v.ownBlock := fun e => by
  have := (h.lt b e.symm).1; omega
theorem BoxV.grownT {W W' : World} {b : Nat} {row : Option Nat} {i l : Int} {r : Bool} {a : Option Addr} {n c : Nat} (h : BoxV W b i l r a n c) (hg : W.grownBy W' row) (hne : some b ≠ row) : BoxV W' b i l r a n c := by
  have k : ∀ i u, W.cell? ⟨b, i, none⟩ = some u → W'.cell? ⟨b, i, none⟩ = some u := fun i u hu => hg.cell hu hne
  refine ⟨k _ _ h.c0, k _ _ h.c1, k _ _ h.c2, k _ _ h.c3, fun i => ?_⟩
  have e := hg.block b h.lt hne
  rw [← h.f i]; unfold World.frozen?; rw [e]
set_option maxRecDepth 100000 in
set_option maxHeartbeats 8000000 in
theorem sgiven_any (i l : Int) (r : Bool) (a : Option Addr) (n c : Nat) (L : List GP) (w : World) (h : RdG w (.slice a n c) L) (hn : n ≤ 1000000) :
    Calls Tryz.prog 15 #[sloV i l r a n c] w fun e w' => (∃ a' c', e = .returned (sloV i l r a' n c') ∧ RdG w' (.slice a' n c') L) ∧ Below w.heap.size w w' := by
  have hLn : L.length = n := by
    obtain ⟨_, _, e, _⟩ := h.shape
    injection e with _ e _; exact e.symm
  have HR := Lib.hid h
  have HMm := Lib.hid (show ∀ k, k < n → pat L k ∈ L from fun k hk => pat_mem (by omega))
  have HFl := Lib.hid (show ∀ k, k < n → (L.take (k + 1)).flatMap gpC = (L.take k).flatMap gpC ++ gpC (pat L k) from fun k hk => flat_snoc L k (by omega))
  have HTn := Lib.hid (show L.take n = L from List.take_of_length_le (by omega))
  have HLn := Lib.hid hLn
  have hcap : n ≤ 9223372036854775807 := by omega
  clear h hLn
  go_enter Tryz.func15, Tryz.ntmps15
  go_upto_region 1 with fail
  change Code.wp _ _ _ _ ((w.alloc (.cells (sloC i l r a n c) 24)).alloc (.cells (sloC 0 0 false none 0 0) 41))
  obtain ⟨W0, hW0, hbx, hbr, hbw, hsz0⟩ := two_slo2 w i l r a n c 24 41
  rw [hW0]
  clear hW0
  have k0 := hbx.c0
  have k1 := hbx.c1
  have k2 := hbx.c2
  have HX0 := Lib.hid hbx
  have HR0 := Lib.hid hbr
  have HB0 := Lib.hid hbw
  have hsz := hsz0
  clear hbx hbr hbw hsz0
  go_upto_region 2 with fail
  clear k0 k1 k2
  change Code.wp _ _ _ _ (W0.alloc (.cells (sloC i l r none 0 0) 41))
  have hbq := below_slo W0 i l r none 0 0 41
  have HO := Lib.hid (BoxV.new W0 i l r none 0 0 41)
  have HX := Lib.hid (HX0.out.below hbq)
  have HRs := Lib.hid (HR0.out.below hbq)
  have HB := Lib.hid (bstep HB0.out hbq)
  clear hbq HX0 HR0 HB0
  generalize W0.alloc (.cells (sloC i l r none 0 0) 41) = W1 at *
  rw [hsz] at HO
  clear hsz
  clear W0
  have hlo := HO.out.lt
  have k3 := HX.out.c3
  go_wp2_with fail
  clear k3
  go_loopw [16] (fun iv V => ∃ (k : Nat) (a' : Option Addr) (c' : Nat), iv = .int .i64 (k : Int) ∧ k ≤ n ∧ Hid (V.ownsRow W1.heap.size 58 14 (.slice a' k c') k ((L.take k).flatMap gpC)) ∧ Hid (BoxV V (w.heap.size + 2) i l r a' k c') ∧ Hid (BoxV V (w.heap.size + 1) 0 0 false none 0 0) ∧ Hid (Below w.heap.size w V) ∧ Hid (W1.heap.size ≤ V.heap.size)) (fun iv _ => n - (intOf iv).toNat)
  case atStart => exact ⟨0, none, 0, rfl, Nat.zero_le _, Lib.hid (World.ownsRow_nil _ _ _ _), HO, HRs, HB, Lib.hid (Nat.le_refl _)⟩
  case round =>
    clear HO HRs HB HX
    obtain ⟨k, a', c', rfl, hk, HOw, HO, HRs, HB, HSz⟩ := hrel
    by_cases hlt : k < n
    · have i1 : (k : Int) < (n : Int) := by omega
      have hR := HR.out.below HB.out
      obtain ⟨b, off, rfl, hg⟩ := hR.at hlt
      have hfl := HFl.out k hlt
      clear hR
      generalize pat L k = p at *
      obtain ⟨⟨num, rev, md, sz, ⟨fs, LV, GA⟩⟩, s⟩ := p
      try dsimp only at hfl
      obtain ⟨g0, g1, g2, g3, g4, g5, g6, g7, g8, g9, g10, g11, g12, g13⟩ := hg
      try dsimp only at g0 g1 g2 g3 g4 g5 g6 g7 g8 g9 g10 g11 g12 g13
      go_upto_region 5 with fail
      clear g0 g1 g2 g3 g4 g5 g6 g7 g8 g9 g10 g11 g12 g13
      change Code.wp _ _ _ _ (wr.alloc (.cells (genC num rev md sz s LV GA) 124))
      have hbq := below_gen wr num rev md sz s LV GA 124
      have HG := Lib.hid (BoxG.new wr num rev md sz s LV GA 124)
      replace HOw := Lib.hid (own_keep HOw.out hbq)
      replace HO := Lib.hid (HO.out.below hbq)
      replace HRs := Lib.hid (HRs.out.below hbq)
      replace HB := Lib.hid (bstep HB.out hbq)
      replace HSz := Lib.hid (Nat.le_trans HSz.out hbq.size)
      clear hbq
      generalize wr.alloc (.cells (genC num rev md sz s LV GA) 124) = v0 at *
      generalize wr.heap.size = bg at *
      have HFl2 := Lib.hid hfl
      have HOne := Lib.hid (gp_one ((⟨num, rev, md, sz, ⟨fs, LV, GA⟩⟩ : Gn), s))
      clear hfl
      refine wp_region_rel [eqS (.pointer (some ⟨w.heap.size + 2, 3, none⟩)), eqS (.slice a' k c'), eqS (genV num rev md sz s LV GA), eqS (genV num rev md sz s LV GA), genR ((⟨num, rev, md, sz, ⟨fs, LV, GA⟩⟩ : Gn), s)] [] 29 (by kernel_rfl) (by kernel_rfl) (by rfl) (by kernel_rfl) (fun f => by simp [frm, dstOf, Act.put]; exact rfl) ?_ ?_
      · refine ⟨?_, ?_, ?_, ?_, ?_, trivial⟩
        · intro f w1 hb hd
          clear hd
          dsimp only
          go_wp2_with fail
          exact ⟨rfl, Below.refl _ _, fun t ht => by injection ht with ht; subst ht; exact ⟨rfl, fun h => by simp at h⟩⟩
        · intro f w1 hb hd
          have d0 : f 0 = (.pointer (some ⟨w.heap.size + 2, 3, none⟩)) := hd 0 (by kernel_rfl)
          clear hd
          dsimp only
          rw [d0]
          have q3 := (HO.out.below hb).c3
          go_wp2_with fail
          exact ⟨rfl, Below.refl _ _, fun t ht => by injection ht with ht; subst ht; exact ⟨rfl, fun h => by simp at h⟩⟩
        · intro f w1 hb hd
          clear hd
          dsimp only
          have zo := HG.out.below hb
          have q0 := zo.n0
          have q1 := zo.n1
          have q2 := zo.n2
          have q3 := zo.n3
          have q4 := zo.c0
          have q5 := zo.c1
          have q6 := zo.c2
          have q7 := zo.c3
          have q8 := zo.c4
          have q9 := zo.c5
          have q10 := zo.c6
          have q11 := zo.c7
          have q12 := zo.cl
          have q13 := zo.cg
          clear zo
          go_wp2_with fail
          exact ⟨rfl, Below.refl _ _, fun t ht => by injection ht with ht; subst ht; exact ⟨rfl, fun h => by simp at h⟩⟩
        · intro f w1 hb hd
          have d2 : f 2 = (genV num rev md sz s LV GA) := hd 2 (by kernel_rfl)
          clear hd
          dsimp only
          rw [d2]
          go_wp2_with fail
          refine (sgen_any num rev md sz s LV GA w1).mono ?_
          rintro e w9 ⟨rfl, hb9⟩
          go_wp2_with fail
          exact ⟨rfl, hb9, fun t ht => by injection ht with ht; subst ht; exact ⟨rfl, fun h => by simp at h⟩⟩
        · intro f w1 hb hd
          have d3 : f 3 = (genV num rev md sz s LV GA) := hd 3 (by kernel_rfl)
          clear hd
          dsimp only
          rw [d3]
          have hnw := Lib.hid (Rd.newK' w1.heap.size w1 rfl 14 (gpC ((⟨num, rev, md, sz, ⟨fs, LV, GA⟩⟩ : Gn), s)) 58 1 rfl (by decide))
          have hbn := Lib.hid ((Below.refl w1.heap.size w1).alloc (Nat.le_refl _) (.cells (gpC ((⟨num, rev, md, sz, ⟨fs, LV, GA⟩⟩ : Gn), s)).toArray 58))
          go_wp2_with fail
          refine ⟨rfl, ?_, ?_⟩
          · exact hbn.out
          · intro t ht
            injection ht with ht
            subst ht
            refine ⟨⟨_, rfl, ?_⟩, fun h => by simp at h⟩
            exact hnw.out
      · intro f' w5 hb hd hff
        clear hff
        have d1 : f' 1 = .slice a' k c' := hd 1 (show 1 < 5 by decide)
        obtain ⟨j4, d4, hr4⟩ := show ∃ j, f' 4 = .slice (some ⟨j, 0, none⟩) 1 1 ∧ Rd w5 14 (.slice (some ⟨j, 0, none⟩) 1 1) 1 (gpC ((⟨num, rev, md, sz, ⟨fs, LV, GA⟩⟩ : Gn), s)) from hd 4 (show 4 < 5 by decide)
        try dsimp only
        rw [d1, d4]
        clear hd d1 d4
        generalize f' 0 = z0
        generalize f' 2 = z2
        generalize f' 3 = z3
        clear f'
        have hown5 := own_keep HOw.out hb
        have hsz5 := Nat.le_trans HSz.out hb.size
        have hbx5 := HO.out.below hb
        have hrx5 := HRs.out.below hb
        have hbb5 := bstep HB.out hb
        refine wpList_app rfl (.tmp 21) (.tmp 24) 39 rfl elemGp W1.heap.size rfl hown5 rfl hr4 HOne.out (by unfold maxLen; omega) (by omega) hsz5 ?_
        intro v8 w8 hown8 hgr8 _
        obtain ⟨ra, rc, rfl, _⟩ := own_form hown8
        rw [← HFl2.out] at hown8
        have hbo8 := hbx5.grownT hgr8 (ownT_ne hown5 hlo)
        have hbr8 := hrx5.grownT hgr8 (ownT_ne hown5 (show w.heap.size + 1 < W1.heap.size by omega))
        have hbb8 := hbb5.trans ((own_below (Below.refl W1.heap.size w5) hown5 hsz5 hgr8).mono (show w.heap.size ≤ W1.heap.size by omega))
        have hsz8 := Nat.le_trans hsz5 hgr8.size
        have q3 := hbo8.c3
        have qf := hbo8.f
        go_wp2_with fail
        exact ⟨⟨k + 1, ra, rc, by go_num, by omega, Lib.hid (pts_own (b := w.heap.size + 2) hlo hown8 [(3, .slice ra (k + 1) rc)]), Lib.hid (hbo8.set3 ra (k + 1) rc), Lib.hid (hbr8.pts_ne (d := w.heap.size + 2) (by omega) [(3, .slice ra (k + 1) rc)]), Lib.hid (pts_below (B := w.heap.size) (b := w.heap.size + 2) (by omega) [(3, .slice ra (k + 1) rc)] hbb8), Lib.hid (show W1.heap.size ≤ (pts w8 (w.heap.size + 2) [(3, .slice ra (k + 1) rc)]).heap.size by rw [pts_size]; exact hsz8)⟩, by simp [intOf]; omega⟩
    · have i1 : ¬ (k : Int) < (n : Int) := by omega
      obtain rfl : k = n := by omega
      rw [HTn.out] at HOw
      have k0 := HO.out.c0
      have k1 := HO.out.c1
      have k2 := HO.out.c2
      have k3 := HO.out.c3
      have hlo1 : w.heap.size + 1 < W1.heap.size := by omega
      have z0 := HRs.out.c0
      have z1 := HRs.out.c1
      have z2 := HRs.out.c2
      have z3 := HRs.out.c3
      have zf := HRs.out.f
      go_wp2_with fail
      change bodyPost _ _ _ _ _ (pts wr (w.heap.size + 1) (sloL i l r a' k c'))
      have HRz := Lib.hid (show RdG (pts wr (w.heap.size + 1) (sloL i l r a' k c')) (.slice a' k c') L from own_rdG (pts_own (b := w.heap.size + 1) (by omega) HOw.out _) HLn.out.symm (fun p hp => (HR.out.m p hp).below (pts_below (B := w.heap.size) (b := w.heap.size + 1) (by omega) (sloL i l r a' k c') HB.out)))
      have hby := HRs.out.all i l r a' k c'
      have HBz := Lib.hid (pts_below (B := w.heap.size) (b := (w.heap.size + 1)) (by omega) (sloL i l r a' k c') HB.out)
      generalize pts wr (w.heap.size + 1) (sloL i l r a' k c') = V at *
      exact bodyPost_ret (v := sloV i l r a' k c') (by simp [results, Tryz.results15, go_sem, hby.c0, hby.c1, hby.c2, hby.c3]) rfl (⟨⟨a', c', rfl, HRz.out⟩, HBz.out⟩)
end Go.Proofs.YtenkeodfijladaaGreat

namespace Go.Proofs.YtenkeodfijladaaGreat
open Go.RowKit

/-- The whole block b: its cells and its type. -/
def BlkE (W : World) (b : Nat) (cs : Array Value) (t : TypeId) : Prop := W.heap[b]? = some (.cells cs t (0, 0))
section
variable {W W' : World} {b : Nat} {cs : Array Value} {t : TypeId}
theorem BlkE.lt (h : BlkE W b cs t) : b < W.heap.size := (Array.getElem?_eq_some_iff.1 h).1
theorem BlkE.below (h : BlkE W b cs t) (hb : Below W.heap.size W W') : BlkE W' b cs t := by
  unfold BlkE
  rw [hb.block b h.lt]; exact h
theorem BlkE.new (W : World) (cs : Array Value) (t : TypeId) : BlkE (W.alloc (.cells cs t)) W.heap.size cs t := heap_alloc_new W _
theorem BlkE.cell_eq (h : BlkE W b cs t) (i : Nat) : W.cell? ⟨b, i, none⟩ = cs[i]? := by
  have h : W.heap[b]? = some (.cells cs t (0, 0)) := h
  simp [World.cell?, h]
theorem BlkE.cell (h : BlkE W b cs t) {i : Nat} {u : Value} (hu : cs[i]? = some u) : W.cell? ⟨b, i, none⟩ = some u := (h.cell_eq i).trans hu
theorem BlkE.frozen (h : BlkE W b cs t) (i : Nat) : W.frozen? ⟨b, i, none⟩ = false := by
  have h : W.heap[b]? = some (.cells cs t (0, 0)) := h
  unfold World.frozen?
  rw [h]
  simp
theorem BlkE.set (h : BlkE W b cs t) (i : Nat) (u : Value) : BlkE (W.setCell ⟨b, i, none⟩ u) b (cs.setIfInBounds i u) t := by
  have hl := h.lt
  have hk := (Array.getElem?_eq_some_iff.1 h).2
  show (W.heap.modify b _)[b]? = _
  rw [Array.getElem?_eq_getElem (by rw [Array.size_modify]; exact hl), Array.getElem_modify_self, hk]
  rfl
theorem BlkE.sets : ∀ (vs : List (Nat × Value)) {W : World} {cs : Array Value}, BlkE W b cs t → BlkE (pts W b vs) b (vs.foldl (fun cs p => cs.setIfInBounds p.1 p.2) cs) t
  | [], _, _, h => h
  | (i, u) :: r, _, _, h => BlkE.sets r (h.set i u)
theorem BlkE.pts_ne {c : Nat} (hne : b ≠ c) : ∀ (vs : List (Nat × Value)) {W : World}, BlkE W b cs t → BlkE (pts W c vs) b cs t
  | [], _, h => h
  | (i, u) :: r, W, h => BlkE.pts_ne hne r (show (W.setCell ⟨c, i, none⟩ u).heap[b]? = _ by rw [Below.heap_setCell W ⟨c, i, none⟩ u b hne]; exact h)
theorem BlkE.grown {row : Option Nat} (h : BlkE W b cs t) (hg : W.grownBy W' row) (hne : some b ≠ row) : BlkE W' b cs t := by
  unfold BlkE
  rw [hg.block b h.lt hne]; exact h
/-- A row some of whose cells do not lie in the block, wherever it began there. -/
def Alien (cs : Array Value) (xs : List Value) : Prop := ∀ off : Nat, ∃ (j : Nat) (u : Value), xs[j]? = some u ∧ cs[off + j]? ≠ some u
theorem rd_alien {sz n : Nat} {v : Value} {xs : List Value} (hr : Rd W sz v n xs) (h : BlkE W b cs t) (ha : 0 < xs.length → Alien cs xs) (vs : List (Nat × Value)) : Rd (pts W b vs) sz v n xs := by
  obtain ⟨h0, a, cap, e, h1, h2, h3, h4⟩ := hr
  refine ⟨h0, a, cap, e, h1, h2, h3, fun hp => ?_⟩
  obtain ⟨b', off, e2, hc⟩ := h4 hp
  refine ⟨b', off, e2, fun j u hj => ?_⟩
  have hne : b' ≠ b := by
    rintro rfl
    obtain ⟨j', u', h5, h6⟩ := ha hp off
    have h7 := hc j' u' h5
    rw [h.cell_eq] at h7
    exact h6 h7
  exact (pts_cell (p := ⟨b', off + j, none⟩) hne vs W).trans (hc j u hj)
end
/-! ### A slot in its block -/
section
variable {W W' : World} {b : Nat} {t : TypeId} {i l : Int} {r : Bool} {a : Option Addr} {n c : Nat}
theorem BlkE.slo (h : BlkE W b (sloC i l r a n c) t) : BoxV W b i l r a n c := ⟨h.cell rfl, h.cell rfl, h.cell rfl, h.cell rfl, h.frozen⟩
theorem BlkE.sloAll (h : BlkE W b (sloC i l r a n c) t) (i' l' : Int) (r' : Bool) (a' : Option Addr) (n' c' : Nat) : BlkE (pts W b (sloL i' l' r' a' n' c')) b (sloC i' l' r' a' n' c') t :=
  (((h.set 0 (.int .i64 i')).set 1 (.int .i64 l')).set 2 (.bool r')).set 3 (.slice a' n' c')
theorem alien_gp (i l : Int) (r : Bool) (a : Option Addr) (n c : Nat) (L : List GP) (hp : 0 < (L.flatMap gpC).length) : Alien (sloC i l r a n c) (L.flatMap gpC) := fun off => by
  match L, hp with
  | p :: q, _ =>
    match off with
    | 0 => exact ⟨2, .int .i64 p.1.mode, rfl, fun h => by cases h⟩
    | 1 => exact ⟨1, .int .i64 p.1.rev, rfl, fun h => by cases h⟩
    | 2 => exact ⟨0, .int .i64 p.1.num, rfl, fun h => by cases h⟩
    | 3 => exact ⟨0, .int .i64 p.1.num, rfl, fun h => by cases h⟩
    | k + 4 => exact ⟨0, .int .i64 p.1.num, rfl, fun h => by
        rw [Array.getElem?_eq_none (by show 4 ≤ k + 4 + 0; omega)] at h; cases h⟩
theorem alien_it (i l : Int) (r : Bool) (a : Option Addr) (n c : Nat) (L : List It) (hp : 0 < (itsC L).length) : Alien (sloC i l r a n c) (itsC L) := fun off => by
  match L, hp with
  | p :: q, _ =>
    match off with
    | 0 => exact ⟨0, .int .u64 p.key, rfl, fun h => by cases h⟩
    | 1 => exact ⟨0, .int .u64 p.key, rfl, fun h => by cases h⟩
    | 2 => exact ⟨0, .int .u64 p.key, rfl, fun h => by cases h⟩
    | 3 => exact ⟨0, .int .u64 p.key, rfl, fun h => by cases h⟩
    | k + 4 => exact ⟨0, .int .u64 p.key, rfl, fun h => by
        rw [Array.getElem?_eq_none (by show 4 ≤ k + 4 + 0; omega)] at h; cases h⟩
theorem alien_itg (n r md z : Int) (s : Sl) (l g : Int) (L : List It) (hp : 0 < (itsC L).length) : Alien (genC n r md z s l g) (itsC L) := fun off => by
  match L, hp with
  | p :: q, _ =>
    refine ⟨0, .int .u64 p.key, rfl, fun h => ?_⟩
    match off with
    | 0 => cases h
    | 1 => cases h
    | 2 => cases h
    | 3 => cases h
    | 4 => cases h
    | 5 => cases h
    | 6 => cases h
    | 7 => cases h
    | 8 => cases h
    | 9 => cases h
    | 10 => cases h
    | 11 => cases h
    | 12 => cases h
    | 13 => cases h
    | k + 14 => rw [Array.getElem?_eq_none (by show 14 ≤ k + 14 + 0; omega)] at h; cases h
theorem RdM.slo {s : Sl} {f : Nat → List It} (h : RdM W s f) (hb : BlkE W b (sloC i l r a n c) t) (vs : List (Nat × Value)) : RdM (pts W b vs) s f := fun j hj =>
  rd_rdT (n := (f j).length) (rd_alien (rdT_rd (h j hj)) hb (fun hp => alien_it _ _ _ _ _ _ _ hp) vs)
theorem RdG.slo {v : Value} {L : List GP} (h : RdG W v L) (hb : BlkE W b (sloC i l r a n c) t) (vs : List (Nat × Value)) : RdG (pts W b vs) v L :=
  ⟨⟨h.r.1, rd_alien h.r.2 hb (fun hp => alien_gp _ _ _ _ _ _ _ hp) vs⟩, fun p hp => (h.m p hp).slo hb vs⟩
theorem RdM.gen {s : Sl} {f : Nat → List It} {n' r' md z : Int} {s' : Sl} {l' g : Int} (h : RdM W s f) (hb : BlkE W b (genC n' r' md z s' l' g) t) (vs : List (Nat × Value)) : RdM (pts W b vs) s f := fun j hj =>
  rd_rdT (n := (f j).length) (rd_alien (rdT_rd (h j hj)) hb (fun hp => alien_itg _ _ _ _ _ _ _ _ hp) vs)
end
/-! ### A generation in its block -/
section
variable {W W' : World} {b : Nat} {t : TypeId} {n r md z : Int} {s : Sl} {l g : Int}
theorem BlkE.gen (h : BlkE W b (genC n r md z s l g) t) : BoxG W b n r md z s l g := by
  refine ⟨h.cell rfl, h.cell rfl, h.cell rfl, h.cell rfl, fun j hj => ?_, h.cell rfl, h.cell rfl, h.frozen⟩
  rcases lt8 hj with e | e | e | e | e | e | e | e <;> subst e <;> exact h.cell rfl
theorem BlkE.genAll (h : BlkE W b (genC n r md z s l g) t) (n' r' md' z' : Int) (s' : Sl) (l' g' : Int) : BlkE (pts W b (genL n' r' md' z' s' l' g')) b (genC n' r' md' z' s' l' g') t :=
  by
    have h1 := BlkE.sets (genL n' r' md' z' s' l' g') h
    have e : (genL n' r' md' z' s' l' g').foldl (fun cs p => cs.setIfInBounds p.1 p.2) (genC n r md z s l g) = genC n' r' md' z' s' l' g' := by
      simp only [List.foldl_cons, List.foldl_nil, List.setIfInBounds_toArray, List.set_cons_zero, List.set_cons_succ]
    rw [e] at h1
    exact h1
end
/-! ### What operations leave: a generation and its error; a generation; a generation's box; a slot and its error; a slot -/
def tupR (c a b md z : Int) (f : Nat → List It) (L G : Int) : Sta := ⟨fun v w => ∃ s, v = .tuple #[genV a b md z s L G, .int .i64 c] ∧ RdM w s f, fun _ _ _ hb ⟨s, h1, h2⟩ => ⟨s, h1, h2.below hb⟩⟩
def genRd (a b md z : Int) (f : Nat → List It) (L G : Int) : Sta := ⟨fun v w => ∃ s, v = genV a b md z s L G ∧ RdM w s f, fun _ _ _ hb ⟨s, h1, h2⟩ => ⟨s, h1, h2.below hb⟩⟩
def boxGB (t : TypeId) (B : Nat) : Sta := ⟨fun v w => ∃ b, v = .pointer (some ⟨b, 0, none⟩) ∧ B ≤ b ∧ BlkE w b (genC 0 0 0 0 Sl.nil 0 0) t, fun _ _ _ hb ⟨b, h1, h2, h3⟩ => ⟨b, h1, h2, h3.below hb⟩⟩
def needR (L : List Nd) : Sta := ⟨fun v w => ∃ a n c es, v = .slice a n c ∧ RdN w (.slice a n c) es ∧ es.map (·.1) = L, fun _ _ _ hb ⟨a, n, c, es, h1, h2, h3⟩ => ⟨a, n, c, es, h1, h2.below hb, h3⟩⟩
end Go.Proofs.YtenkeodfijladaaGreat
