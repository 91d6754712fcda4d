/- A part of the walk. -/
import Derived.Test.YtcgfilmmokmdjaaGreatQAQ
import Derived.Test.YtcgfilmmokmdjaaGreatQAN
import Derived.Deep.MidRow
import Derived.Test.YtcgfilmmokmdjaaGreatQAM
import Derived.OneCell
set_option linter.all false
set_option maxRecDepth 100000
set_option maxHeartbeats 32000000
namespace Go.Proofs.YtcgfilmmokmdjaaGreat
open Go.RowKit
theorem zCx : xe Tryz.prog 29 113 14 240 := by
 obtain ⟨i, hi, hz, hs, hb⟩ := info_parts (P := Tryz.prog) (e := 113) (z := ze 0 0 0 0 Sl.nil 0 0) (size := 14) (bytes := 240) (by kernel_rfl);exact ⟨Tryz.underlying29, by decide, i, _, hi, hz, hs, hb, rfl⟩
theorem zCM (x : GP) : ∀ u ∈ gpC x, u.oneCell' = true := by
 intro u hu;simp only [gpC, List.mem_cons, List.not_mem_nil, or_false] at hu;rcases hu with h | h | h | h | h | h | h | h | h | h | h | h | h | h <;> rw [h] <;> rfl
theorem zCp (L : List GP) : ∀ u ∈ L.flatMap gpC, u.oneCell' = true := fun u hu => by
 obtain ⟨x, _, h⟩ := List.mem_flatMap.1 hu;exact zCM x u h
theorem zAH (w : World) (i l : Int) (r : Bool) (a : Option Addr) (n c : Nat) (t : TypeId) : ∃ W, (w.alloc (.cells (zS i l r a n c) t)).alloc (.cells (zS 0 0 false none 0 0) t) = W ∧ BoxV W w.heap.size i l r a n c ∧ BoxV W (w.heap.size + 1) 0 0 false none 0 0 ∧ Below w.heap.size w W := by
 refine ⟨_, rfl, (BoxV.new w i l r a n c t).below (zP _ 0 0 false none 0 0 t), ?_, zA (zP w i l r a n c t) (zP _ 0 0 false none 0 0 t)⟩;have := BoxV.new (w.alloc (.cells (zS i l r a n c) t)) 0 0 false none 0 0 t
 rwa [World.size_alloc] at this
theorem BoxV.pts_ne {W : World} {b d : Nat} {i l : Int} {r : Bool} {a : Option Addr} {n c : Nat} (h : BoxV W b i l r a n c) (hp : b ≠ d) (vs : List (Nat × Value)) : BoxV (pts W d vs) b i l r a n c :=
 ⟨(zw (p := ⟨b, 0, none⟩) hp vs W).trans h.c0, (zw (p := ⟨b, 1, none⟩) hp vs W).trans h.c1, (zw (p := ⟨b, 2, none⟩) hp vs W).trans h.c2, (zw (p := ⟨b, 3, none⟩) hp vs W).trans h.c3, fun i => (xF _ vs W).trans (h.f i)⟩
theorem BoxV.set3 {W : World} {b : Nat} {i l : Int} {r : Bool} {a : Option Addr} {n c : Nat} (h : BoxV W b i l r a n c) (a' : Option Addr) (n' c' : Nat) : BoxV (W.setCell ⟨b, 3, none⟩ (.slice a' n' c')) b i l r a' n' c' := by
 have a3 := h.c3;have ne : ∀ i, i ≠ 3 → ∀ u, W.cell? ⟨b, i, none⟩ = some u → (W.setCell ⟨b, 3, none⟩ (.slice a' n' c')).cell? ⟨b, i, none⟩ = some u := fun i hi u hu => (World.cell?_setCell_other (h := fun e => hi (by injection e with _ e _; exact e.symm)) ..).trans hu
 exact ⟨ne 0 (by decide) _ h.c0, ne 1 (by decide) _ h.c1, ne 2 (by decide) _ h.c2, by simp [go_sem, a3], fun i => by rw [← h.f i]; simp⟩
theorem zJe (i l : Int) (r : Bool) (a : Option Addr) (n c : Nat) (L : List GP) (w : World) (h : RdG w (.slice a n c) L) (hs : ∀ p ∈ L, ∀ j, j < 8 → (p.1.m.st j).length ≤ 10000) (hv : zg ⟨i, l, r, gns L⟩ = false) :
  Calls Tryz.prog 45 #[zhq i l r a n c] w (SRes w (wm ⟨i, l, r, gns L⟩)) := by
 have HSv := zh (fun W (hb : Below w.heap.size w W) => xC i l r a n c L W (h.below hb) hs);have HC := zh (show wm ⟨i, l, r, gns L⟩ = (wS, 1) by unfold wm; rw [hv]; rfl);rw [hv] at HSv;clear h hs hv
 go_enter Tryz.func45, Tryz.ntmps45
 go_upto_region 1 with fail;change Code.wp _ _ _ _ ((w.alloc (.cells (zS i l r a n c) 31)).alloc (.cells (zS 0 0 false none 0 0) 31));obtain ⟨W, hW, hbx, hbr, hbw⟩ := zAH w i l r a n c 31;rw [hW];have HX := zh hbx;have HR := zh hbr;have HB := zh hbw;clear hW hbx hbr hbw;obtain ⟨k0, k1, k2, k3⟩ := HX.out.q;go_wp2_with fail;refine (HSv.out _ HB.out).mono ?_;rintro e w1 ⟨rfl, hb⟩;replace HX := zh (HX.out.below hb);replace HR := zh (HR.out.below hb);replace HB := zh (zA HB.out hb);clear hb;clear k0 k1 k2 k3;obtain ⟨z0, z1, z2, z3⟩ := HR.out.q;have zf := HR.out.f;go_wp2_with fail;change bodyPost _ _ _ _ _ (pts w1 (w.heap.size + 1) (zU 0 0 false none 0 0));have hby := HR.out.all 0 0 false none 0 0;have HBz := zh (zD (B := w.heap.size) (b := (w.heap.size + 1)) (by omega) (zU 0 0 false none 0 0) HB.out);generalize pts w1 (w.heap.size + 1) (zU 0 0 false none 0 0) = V at *
 exact bodyPost_ret (v := .tuple #[zhq 0 0 false none 0 0, .int .i64 1]) (by simp [results, Tryz.results45, go_sem, hby.c0, hby.c1, hby.c2, hby.c3]) rfl (by rw [HC.out]; exact SRes.no HBz.out)
theorem zGd (i l : Int) (r : Bool) (a : Option Addr) (n c : Nat) (L : List GP) (w : World) (h : RdG w (.slice a n c) L) (hs : ∀ p ∈ L, ∀ j, j < 8 → (p.1.m.st j).length ≤ 10000) (hv : zg ⟨i, l, r, gns L⟩ = true) (hn8 : ¬ (zY ⟨i, l, r, gns L⟩).num < 8) :
  Calls Tryz.prog 45 #[zhq i l r a n c] w (SRes w (wm ⟨i, l, r, gns L⟩)) := by
 have HSv := zh (fun W (hb : Below w.heap.size w W) => xC i l r a n c L W (h.below hb) hs);have HCr := zh (fun W (hb : Below w.heap.size w W) => k4 i l r a n c L W (h.below hb) hs);have HC := zh (show wm ⟨i, l, r, gns L⟩ = (wS, 9) by unfold wm; rw [if_pos hv, if_neg hn8]);rw [hv] at HSv;rw [show wZ ⟨i, l, r, gns L⟩ = false by unfold wZ; rw [hv]; simpa using hn8] at HCr;clear h hs hv hn8
 go_enter Tryz.func45, Tryz.ntmps45
 go_upto_region 1 with fail;change Code.wp _ _ _ _ ((w.alloc (.cells (zS i l r a n c) 31)).alloc (.cells (zS 0 0 false none 0 0) 31));obtain ⟨W, hW, hbx, hbr, hbw⟩ := zAH w i l r a n c 31;rw [hW];have HX := zh hbx;have HR := zh hbr;have HB := zh hbw;clear hW hbx hbr hbw;obtain ⟨k0, k1, k2, k3⟩ := HX.out.q;go_wp2_with fail;refine (HSv.out _ HB.out).mono ?_;rintro e w1 ⟨rfl, hb⟩;replace HX := zh (HX.out.below hb);replace HR := zh (HR.out.below hb);replace HB := zh (zA HB.out hb);clear hb;clear k0 k1 k2 k3;obtain ⟨k0, k1, k2, k3⟩ := HX.out.q;go_wp2_with fail;refine (HCr.out _ HB.out).mono ?_;rintro e w2 ⟨rfl, hb⟩;replace HX := zh (HX.out.below hb);replace HR := zh (HR.out.below hb);replace HB := zh (zA HB.out hb);clear hb;clear k0 k1 k2 k3;obtain ⟨z0, z1, z2, z3⟩ := HR.out.q;have zf := HR.out.f;go_wp2_with fail;change bodyPost _ _ _ _ _ (pts w2 (w.heap.size + 1) (zU 0 0 false none 0 0))
 have hby := HR.out.all 0 0 false none 0 0;have HBz := zh (zD (B := w.heap.size) (b := (w.heap.size + 1)) (by omega) (zU 0 0 false none 0 0) HB.out);generalize pts w2 (w.heap.size + 1) (zU 0 0 false none 0 0) = V at *;exact bodyPost_ret (v := .tuple #[zhq 0 0 false none 0 0, .int .i64 9]) (by simp [results, Tryz.results45, go_sem, hby.c0, hby.c1, hby.c2, hby.c3]) rfl (by rw [HC.out]; exact SRes.no HBz.out)
theorem zJM (i l : Int) (r : Bool) (a : Option Addr) (n c : Nat) (L : List GP) (w : World) (h : RdG w (.slice a n c) L) (hs : ∀ p ∈ L, ∀ j, j < 8 → (p.1.m.st j).length ≤ 10000) (hv : zg ⟨i, l, r, gns L⟩ = true) (hn8 : (zY ⟨i, l, r, gns L⟩).num < 8) :
  Calls Tryz.prog 45 #[zhq i l r a n c] w (SRes w (wm ⟨i, l, r, gns L⟩)) := by
 have HSv := zh (fun W (hb : Below w.heap.size w W) => xC i l r a n c L W (h.below hb) hs);have HCr := zh (fun W (hb : Below w.heap.size w W) => k4 i l r a n c L W (h.below hb) hs);have hV := (zT _).1 hv;obtain ⟨htv, htm, _⟩ := hV.topv;have hLn : L.length = n := by
  obtain ⟨_, _, e, _⟩ := h.shape;injection e with _ e _; exact e.symm
 have hl : (gns L).length = n := by rw [zz, hLn]
 have hn : 1 ≤ n ∧ n ≤ 8 := by have := hV.len; simp only [hl] at this; exact this
 obtain ⟨j, rfl⟩ : ∃ j, n = j + 1 := ⟨n - 1, by omega⟩
 have hC : wm ⟨i, l, r, gns L⟩ = (⟨i, l, r, (gns L).take j ++ [{ zY ⟨i, l, r, gns L⟩ with mode := 2 }, fresh ((zY ⟨i, l, r, gns L⟩).num + 1)]⟩, 0) := by
  unfold wm; rw [if_pos hv, if_pos hn8]
  show ((⟨i, l, r, (gns L).take ((gns L).length - 1) ++ _⟩ : Slt), (0 : Int)) = _
  rw [hl]; rfl
 rw [hv] at HSv;rw [show wZ ⟨i, l, r, gns L⟩ = true by unfold wZ; rw [hv]; simpa using hn8] at HCr;have hmem := xI (l := L) (i := j) (by omega);have hnum := htv.num;have HMp := zh (h.m _ hmem);have HFz := zh (fun W (hb : Below w.heap.size w W) => zEB (pat L j).1 (pat L j).2 W ((h.m _ hmem).below hb) (hs _ hmem));rw [vz hLn] at hC htv htm hn8 hnum;rw [show wO (pat L j).1 1 = (0, { (pat L j).1 with mode := 1 + 1 }) from by unfold wO; rw [if_pos ((yD _).2 htv), if_pos htm]] at HFz;have HMs := zh (fun p (hp : p ∈ L.take j) => h.m p (List.mem_of_mem_take hp))
 have HPr := zh (show Rd w 14 (.slice a j c) j ((L.take j).flatMap gpC) from by
  have h0 := RdS.take h.r j (by omega)
  have hlt : (L.take j).length = j := by rw [List.length_take]; omega
  have h1 := h0.2
  rwa [hlt] at h1)
 have HC := zh hC;have HGt := zh (show (gns (L.take j)) = (gns L).take j from zHW L j);have Hlt := zh (show (L.take j).length = j by rw [List.length_take]; omega);have hcap : j ≤ c := by
  obtain ⟨_, _, e, h1, _⟩ := h.shape;injection e with _ _ e;rw [e]; omega
 have HR0 := zh h;clear hV hLn hl hv hs hmem hC htv h;obtain ⟨b, off, rfl, hg⟩ := HR0.out.at (show j < j + 1 by omega);have HG := zh hg;clear hg HR0;generalize pat L j = p at *;generalize gns L = GL at *;generalize L.take j = LT at *;obtain ⟨⟨num, rev, md, sz, ⟨f, LV, GA⟩⟩, s⟩ := p;dsimp only at *;subst htm;have gto := yU (P := Tryz.prog) zCx (a := some ⟨b, off, none⟩) (n := j + 1) (cap := c) (fun x hx => ⟨b, off, by injection hx with hx; exact hx.symm⟩) j hcap
 go_enter Tryz.func45, Tryz.ntmps45
 go_upto_region 1 with fail;change Code.wp _ _ _ _ ((w.alloc (.cells (zS i l r (some ⟨b, off, none⟩) (j + 1) c) 31)).alloc (.cells (zS 0 0 false none 0 0) 31));obtain ⟨W, hW, hbx, hbr, hbw⟩ := zAH w i l r (some ⟨b, off, none⟩) (j + 1) c 31;rw [hW];have HX := zh hbx;have HR := zh hbr;have HB := zh hbw;clear hW hbx hbr hbw;have hB0 : w.heap.size + 2 ≤ W.heap.size := by have := HR.out.lt; omega
 obtain ⟨k0, k1, k2, k3⟩ := HX.out.q;go_wp2_with fail;refine (HSv.out _ HB.out).mono ?_;rintro e w1 ⟨rfl, hb⟩;replace HX := zh (HX.out.below hb);replace HR := zh (HR.out.below hb);replace HB := zh (zA HB.out hb);have hB1 := Nat.le_trans hB0 hb.size;clear hb HSv;clear k0 k1 k2 k3;obtain ⟨k0, k1, k2, k3⟩ := HX.out.q;go_wp2_with fail;refine (HCr.out _ HB.out).mono ?_;rintro e w2 ⟨rfl, hb⟩;replace HX := zh (HX.out.below hb);replace HR := zh (HR.out.below hb);replace HB := zh (zA HB.out hb);have hB2 := Nat.le_trans hB1 hb.size;clear hb HCr;clear k0 k1 k2 k3;have j3 : IntKind.i64.wrap (j : Int) = (j : Int) := IntWalk.i64_in _ (by omega);have i2 : (j : Int) < ((j + 1 : Nat) : Int) := by omega
 replace HG := zh (HG.out.below HB.out);have k3 := HX.out.c3;obtain ⟨g0, g1, g2, g3, g4, g5, g6, g7, g8, g9, g10, g11, g12, g13⟩ := HG.out.q
 try dsimp only at g0 g1 g2 g3 g4 g5 g6 g7 g8 g9 g10 g11 g12 g13
 go_wp2_with fail;refine (HFz.out _ HB.out).mono ?_;rintro e w3 ⟨⟨t, rfl, hro⟩, hb⟩;dsimp only at hro ⊢;clear g0 g1 g2 g3 g4 g5 g6 g7 g8 g9 g10 g11 g12 g13;clear k3;have hB3 := Nat.le_trans hB2 hb.size;replace HX := zh (HX.out.below hb);replace HR := zh (HR.out.below hb);replace HB := zh (zA HB.out hb);have HRt := zh hro;clear hro hb HFz HG;go_upto_region 7 with fail;change Code.wp _ _ _ _ (w3.alloc (.cells (zX num rev 2 sz t LV GA) 113));have hbq := zZ w3 num rev 2 sz t LV GA 113;have XO := zh (BoxG.new w3 num rev 2 sz t LV GA 113);replace HX := zh (HX.out.below hbq);replace HR := zh (HR.out.below hbq);replace HB := zh (zA HB.out hbq);replace HRt := zh (HRt.out.keep hbq);have hB4 := Nat.le_trans hB3 hbq.size;clear hbq;generalize w3.alloc (.cells (zX num rev 2 sz t LV GA) 113) = w4 at *;generalize w3.heap.size = b4 at *;have q0 := XO.out.n0;go_wp2_with fail
 refine (zA5 (num + 1) (by omega) w4).mono ?_;rintro e w5 ⟨rfl, hb⟩;clear q0;have hB5 := Nat.le_trans hB4 hb.size;replace HX := zh (HX.out.below hb);replace HR := zh (HR.out.below hb);replace HB := zh (zA HB.out hb);replace HRt := zh (HRt.out.keep hb);replace XO := zh (XO.out.below hb);clear hb;go_upto_region 8 with fail;change Code.wp _ _ _ _ (w5.alloc (.cells (zX (num + 1) 0 1 16 Sl.nil 0 0) 113));have hbq := zZ w5 (num + 1) 0 1 16 Sl.nil 0 0 113;have XF := zh (BoxG.new w5 (num + 1) 0 1 16 Sl.nil 0 0 113);replace HX := zh (HX.out.below hbq);replace HR := zh (HR.out.below hbq);replace HB := zh (zA HB.out hbq);replace HRt := zh (HRt.out.keep hbq);replace XO := zh (XO.out.below hbq);have hB6 := Nat.le_trans hB5 hbq.size;clear hbq;generalize w5.alloc (.cells (zX (num + 1) 0 1 16 Sl.nil 0 0) 113) = w6 at *;generalize w5.heap.size = b6 at *;have HPr6 := zh (HPr.out.below HB.out)
 have HOne := zh (zCp LT);have HOne2 := zh (show ∀ u ∈ (gpC (⟨num, rev, 2, sz, ⟨f, LV, GA⟩⟩, t) ++ gpC (fresh (num + 1), Sl.nil)), u.oneCell' = true from fun u hu => by rcases List.mem_append.1 hu with h | h <;> exact zCM _ u h);refine t6 12 (fun L f' W => RtS 113 j (LT.flatMap gpC) (gpC (⟨num, rev, 2, sz, ⟨f, LV, GA⟩⟩, t) ++ gpC (fresh (num + 1), Sl.nil)) [(1, .pointer (some ⟨w.heap.size, 3, none⟩)), (2, .slice (some ⟨b, off, none⟩) (j + 1) c), (3, .int .i64 ((j : Int) + 1)), (4, .int .i64 (j : Int)), (5, .slice (some ⟨b, off, none⟩) j c), (7, ze num rev 2 sz t LV GA), (8, ze (num + 1) 0 1 16 Sl.nil 0 0), (11, .pointer (some ⟨w.heap.size, 3, none⟩))] w6.heap.size w6 L f' W) 50 (by kernel_rfl) (by kernel_rfl) (by rfl) (by kernel_rfl) (fun f => by simp [frm, zN, Act.put]; exact rfl) (fun f => RtS.start rfl f) ?_ ?_
 ·
  refine ⟨?_, ?_, ?_, ?_, ?_, ?_, ?_, ?_, ?_, ?_, ?_, ?_, trivial⟩
  ·
   intro L f' w7 h0 hd hI;have HI1 := zh hI;clear hI hd;dsimp only;go_wp2_with fail;exact ⟨rfl, (fun h => by cases h), fun t ht => by injection ht with ht; subst ht; exact HI1.out.zero h0 (by simp)⟩
  ·
   intro L f' w7 h0 hd hI;have HI1 := zh hI;clear hI hd;dsimp only;go_wp2_with fail;exact ⟨rfl, (fun h => by cases h), fun t ht => by injection ht with ht; subst ht; exact HI1.out.pure (v := .pointer (some ⟨w.heap.size, 3, none⟩)) (by decide) (by decide) (by decide) (by decide) (by simp)⟩
  ·
   intro L f' w7 h0 hd hI;have HI1 := zh hI;have d1 : f' 1 = .pointer (some ⟨w.heap.size, 3, none⟩) := hI.pur (1, .pointer (some ⟨w.heap.size, 3, none⟩)) (by simp) (hd 1 (by kernel_rfl));have z3 := (HX.out.below hI.hb).c3;clear hI hd;dsimp only;rw [d1];go_wp2_with fail;exact ⟨rfl, (fun h => by cases h), fun t ht => by injection ht with ht; subst ht; exact HI1.out.pure (v := .slice (some ⟨b, off, none⟩) (j + 1) c) (by decide) (by decide) (by decide) (by decide) (by simp)⟩
  ·
   intro L f' w7 h0 hd hI;have HI1 := zh hI;clear hI hd;dsimp only;go_wp2_with fail;exact ⟨rfl, (fun h => by cases h), fun t ht => by injection ht with ht; subst ht; exact HI1.out.pure (v := .int .i64 ((j : Int) + 1)) (by decide) (by decide) (by decide) (by decide) (by simp)⟩
  ·
   intro L f' w7 h0 hd hI;have HI1 := zh hI;have d3 : f' 3 = .int .i64 ((j : Int) + 1) := hI.pur (3, .int .i64 ((j : Int) + 1)) (by simp) (hd 3 (by kernel_rfl));clear hI hd;dsimp only;rw [d3];go_wp2_with fail;exact ⟨rfl, (fun h => by cases h), fun t ht => by injection ht with ht; subst ht; exact HI1.out.pure (v := .int .i64 (j : Int)) (by decide) (by decide) (by decide) (by decide) (by simp)⟩
  ·
   intro L f' w7 h0 hd hI;have HI1 := zh hI;have d2 : f' 2 = .slice (some ⟨b, off, none⟩) (j + 1) c := hI.pur (2, .slice (some ⟨b, off, none⟩) (j + 1) c) (by simp) (hd 2 (by kernel_rfl));have d4 : f' 4 = .int .i64 (j : Int) := hI.pur (4, .int .i64 (j : Int)) (by simp) (hd 4 (by kernel_rfl));clear hI hd;dsimp only;rw [d2];rw [d4];go_wp2_with fail;exact ⟨rfl, (fun h => by cases h), fun t ht => by injection ht with ht; subst ht; exact HI1.out.pure (v := .slice (some ⟨b, off, none⟩) j c) (by decide) (by decide) (by decide) (by decide) (by simp)⟩
  ·
   intro L f' w7 h0 hd hI;have HI1 := zh hI;have d5 : f' 5 = .slice (some ⟨b, off, none⟩) j c := hI.pur (5, .slice (some ⟨b, off, none⟩) j c) (by simp) (hd 5 (by kernel_rfl));obtain ⟨bz, e0, hown, hk⟩ := hI.app1 (hd 0 (by kernel_rfl)) h0 (by simp);have hrd := HPr6.out.below hI.hb;have hsz := hI.sz;have HK := zh hk;clear hI hd hk;dsimp only;rw [d5, e0];refine za rfl (.tmp 37) (.tmp 42) 29 rfl zCx w6.heap.size rfl hown rfl hrd HOne.out (by unfold maxLen; omega) (by omega) hsz ?_;intro v' w8 hown' hgr' _;rw [Nat.zero_add, List.nil_append] at hown';have HQ := zh (HK.out _ _ hown' hgr');exact ⟨rfl, (fun h => by cases h), fun t ht => by injection ht with ht; subst ht; exact HQ.out⟩
  ·
   intro L f' w7 h0 hd hI;have HI1 := zh hI;have zo := XO.out.below hI.hb;obtain ⟨g0, g1, g2, g3, g4, g5, g6, g7, g8, g9, g10, g11, g12, g13⟩ := zo.q;clear zo;clear hI hd;dsimp only;go_wp2_with fail;exact ⟨rfl, (fun h => by cases h), fun t ht => by injection ht with ht; subst ht; exact HI1.out.pure (v := ze num rev 2 sz t LV GA) (by decide) (by decide) (by decide) (by decide) (by simp)⟩
  ·
   intro L f' w7 h0 hd hI;have HI1 := zh hI;have zo := XF.out.below hI.hb;obtain ⟨g0, g1, g2, g3, g4, g5, g6, g7, g8, g9, g10, g11, g12, g13⟩ := zo.q;clear zo;clear hI hd;dsimp only;go_wp2_with fail;exact ⟨rfl, (fun h => by cases h), fun t ht => by injection ht with ht; subst ht; exact HI1.out.pure (v := ze (num + 1) 0 1 16 Sl.nil 0 0) (by decide) (by decide) (by decide) (by decide) (by simp)⟩
  ·
   intro L f' w7 h0 hd hI;have HI1 := zh hI;have d7 : f' 7 = ze num rev 2 sz t LV GA := hI.pur (7, ze num rev 2 sz t LV GA) (by simp) (hd 7 (by kernel_rfl));have d8 : f' 8 = ze (num + 1) 0 1 16 Sl.nil 0 0 := hI.pur (8, ze (num + 1) 0 1 16 Sl.nil 0 0) (by simp) (hd 8 (by kernel_rfl));clear hI hd;dsimp only;rw [d7, d8];go_wp2_with fail;exact ⟨rfl, (fun h => by cases h), fun t ht => by injection ht with ht; subst ht; exact HI1.out.two h0 rfl (by simp)⟩
  ·
   intro L f' w7 h0 hd hI;have HI1 := zh hI;obtain ⟨ra, rc, kz, e6, hown, e9, hrd, hk⟩ := hI.app2 (hd 6 (by kernel_rfl)) (hd 9 (by kernel_rfl)) h0 (by simp);have hsz := hI.sz;have HK := zh hk;clear hI hd hk;dsimp only;rw [e6, e9];refine za rfl (.tmp 43) (.tmp 46) 29 rfl zCx w6.heap.size rfl hown rfl hrd HOne2.out (by unfold maxLen; omega) (by omega) hsz ?_;intro v' w8 hown' hgr' _;have HQ := zh (HK.out _ _ hown' hgr');exact ⟨rfl, (fun h => by cases h), fun t ht => by injection ht with ht; subst ht; exact HQ.out⟩
  intro L f' w7 h0 hd hI;have HI1 := zh hI;clear hI hd;dsimp only;go_wp2_with fail;exact ⟨rfl, (fun h => by cases h), fun t ht => by injection ht with ht; subst ht; exact HI1.out.pure (v := .pointer (some ⟨w.heap.size, 3, none⟩)) (by decide) (by decide) (by decide) (by decide) (by simp)⟩
 intro L f' w7 hA hI;obtain ⟨ra, rc, e10, hown⟩ := hI.a10 (hA 10 (by decide));have d11 : f' 11 = .pointer (some ⟨w.heap.size, 3, none⟩) := hI.pur (11, .pointer (some ⟨w.heap.size, 3, none⟩)) (by simp) (hA 11 (by decide));have Hb7 := zh hI.hb;have hsz := hI.sz;have HOw := zh hown;clear hI hA hown
 try dsimp only
 rw [e10, d11];replace HX := zh (HX.out.below Hb7.out);replace HR := zh (HR.out.below Hb7.out);replace HB := zh (zA HB.out Hb7.out);replace HRt := zh (HRt.out.keep Hb7.out);have z3 := HX.out.c3;have zf := HX.out.f;go_upto_region 9 with fail;clear z3 zf;have HX8 := zh (show BoxV (pts w7 w.heap.size [(3, .slice ra (j + 2) rc)]) w.heap.size i l r ra (j + 2) rc from HX.out.set3 ra (j + 2) rc);have HR8 := zh (HR.out.pts_ne (d := w.heap.size) (by omega) [(3, .slice ra (j + 2) rc)]);have HB8 := zh (zD (B := w.heap.size) (b := w.heap.size) (Nat.le_refl _) [(3, .slice ra (j + 2) rc)] HB.out);have HO8 := zh (vB (b := w.heap.size) (by omega) HOw.out [(3, .slice ra (j + 2) rc)]);have HM8 := zh (show ∀ p ∈ LT, RdM (pts w7 w.heap.size [(3, .slice ra (j + 2) rc)]) p.2 p.1.m.st from fun p hp => (HMs.out p hp).below HB8.out)
 have HT8 := zh (HRt.out.pts (b := w.heap.size) (by omega) [(3, .slice ra (j + 2) rc)]);change Code.wp _ _ _ _ (pts w7 w.heap.size [(3, .slice ra (j + 2) rc)]);generalize pts w7 w.heap.size [(3, .slice ra (j + 2) rc)] = w8 at *;obtain ⟨k0, k1, k2, k3⟩ := HX8.out.q;obtain ⟨z0, z1, z2, z3⟩ := HR8.out.q;have zf := HR8.out.f;go_wp2_with fail;change bodyPost _ _ _ _ _ (pts w8 (w.heap.size + 1) (zU i l r ra (j + 2) rc))
 have HGz := zh (show RdG (pts w8 (w.heap.size + 1) (zU i l r ra (j + 2) rc)) (.slice ra (j + 2) rc) (LT ++ [(⟨num, rev, 2, sz, ⟨f, LV, GA⟩⟩, t), (fresh (num + 1), Sl.nil)]) from kB (B := w6.heap.size) (T := 113) (by
  rw [List.flatMap_append, show [((⟨num, rev, 2, sz, ⟨f, LV, GA⟩⟩ : Gn), t), (fresh (num + 1), Sl.nil)].flatMap gpC = (gpC (⟨num, rev, 2, sz, ⟨f, LV, GA⟩⟩, t) ++ gpC (fresh (num + 1), Sl.nil)) from rfl]
  exact vB (b := w.heap.size + 1) (by omega) HO8.out _) (by rw [List.length_append, Hlt.out]; rfl) (fun p hp => by
  rcases List.mem_append.1 hp with hp | hp
  ·
   exact (HMs.out p hp).below (zD (B := w.heap.size) (b := w.heap.size + 1) (by omega) (zU i l r ra (j + 2) rc) HB8.out)
  simp only [List.mem_cons, List.not_mem_nil, or_false] at hp
  rcases hp with rfl | rfl
  ·
   exact (HT8.out.pts (b := w.heap.size + 1) (by omega) (zU i l r ra (j + 2) rc)).rd HMp.out (zD (B := w.heap.size) (b := w.heap.size + 1) (by omega) (zU i l r ra (j + 2) rc) HB8.out)
  exact zAE _))
 have hby := HR8.out.all i l r ra (j + 2) rc;have HBz := zh (zD (B := w.heap.size) (b := (w.heap.size + 1)) (by omega) (zU i l r ra (j + 2) rc) HB8.out);generalize pts w8 (w.heap.size + 1) (zU i l r ra (j + 2) rc) = V at *;exact bodyPost_ret (v := .tuple #[zhq i l r ra (j + 2) rc, .int .i64 0]) (by simp [results, Tryz.results45, go_sem, hby.c0, hby.c1, hby.c2, hby.c3]) rfl (by rw [HC.out]; exact ⟨⟨ra, j + 2, rc, LT ++ [(⟨num, rev, 2, sz, ⟨f, LV, GA⟩⟩, t), (fresh (num + 1), Sl.nil)], rfl, HGz.out, by rw [zFL, HGt.out]; rfl⟩, HBz.out⟩)
theorem zEG (i l : Int) (r : Bool) (a : Option Addr) (n c : Nat) (L : List GP) (w : World) (h : RdG w (.slice a n c) L) (hs : ∀ p ∈ L, ∀ j, j < 8 → (p.1.m.st j).length ≤ 10000) : Calls Tryz.prog 45 #[zhq i l r a n c] w (SRes w (wm ⟨i, l, r, gns L⟩)) := by
 cases hv : zg ⟨i, l, r, gns L⟩
 ·
  exact zJe i l r a n c L w h hs hv
 by_cases hn8 : (zY ⟨i, l, r, gns L⟩).num < 8
 ·
  exact zJM i l r a n c L w h hs hv hn8
 exact zGd i l r a n c L w h hs hv hn8
theorem tZ (w : World) (i l : Int) (r : Bool) (a : Option Addr) (n c : Nat) (y : GP) (t u : TypeId) : ∃ W, ((w.alloc (.cells (zS i l r a n c) t)).alloc (.cells (zX y.1.num y.1.rev y.1.mode y.1.size y.2 y.1.m.live y.1.m.garb) u)).alloc (.cells (zS 0 0 false none 0 0) t) = W ∧ BoxV W w.heap.size i l r a n c ∧ BoxG W (w.heap.size + 1) y.1.num y.1.rev y.1.mode y.1.size y.2 y.1.m.live y.1.m.garb ∧ BoxV W (w.heap.size + 2) 0 0 false none 0 0 ∧ Below w.heap.size w W := by
 have h1 := BoxV.new w i l r a n c t;have b1 := zP w i l r a n c t;generalize hw1 : w.alloc (.cells (zS i l r a n c) t) = w1 at *;have e1 : w1.heap.size = w.heap.size + 1 := by rw [← hw1, World.size_alloc]
 have h2 := BoxG.new w1 y.1.num y.1.rev y.1.mode y.1.size y.2 y.1.m.live y.1.m.garb u;have b2 := zZ w1 y.1.num y.1.rev y.1.mode y.1.size y.2 y.1.m.live y.1.m.garb u;generalize hw2 : w1.alloc (.cells (zX y.1.num y.1.rev y.1.mode y.1.size y.2 y.1.m.live y.1.m.garb) u) = w2 at *;have e2 : w2.heap.size = w.heap.size + 2 := by rw [← hw2, World.size_alloc, e1]
 have h3 := BoxV.new w2 0 0 false none 0 0 t;have b3 := zP w2 0 0 false none 0 0 t;rw [e1] at h2;rw [e2] at h3;exact ⟨_, rfl, (h1.below b2).below b3, h2.below b3, h3, zA (zA b1 b2) b3⟩
theorem qu (b : Nat) : ∀ (vs : List Value) (o : Nat) (W : World), W.setCells b o vs = pts W b (zIO o vs)
 | [], _, _ => rfl
 | v :: r, o, W => qu b r (o + 1) _
theorem GAt.there {W : World} {g o : Nat} {p : GP} (h : GAt W g o p) (hf : ∀ i, W.frozen? ⟨g, i, none⟩ = false) : W.there g o 14 := fun j hj => by
 refine ⟨?_, hf _⟩;rcases (show j = 0 ∨ j = 1 ∨ j = 2 ∨ j = 3 ∨ j = 4 ∨ j = 5 ∨ j = 6 ∨ j = 7 ∨ j = 8 ∨ j = 9 ∨ j = 10 ∨ j = 11 ∨ j = 12 ∨ j = 13 by omega) with e | e | e | e | e | e | e | e | e | e | e | e | e | e <;> subst e
 ·
  rw [Nat.add_zero, h.n0]; rfl
 ·
  rw [h.n1]; rfl
 ·
  rw [h.n2]; rfl
 ·
  rw [h.n3]; rfl
 ·
  rw [h.c0]; rfl
 ·
  rw [h.c1]; rfl
 ·
  rw [h.c2]; rfl
 ·
  rw [h.c3]; rfl
 ·
  rw [h.c4]; rfl
 ·
  rw [h.c5]; rfl
 ·
  rw [h.c6]; rfl
 ·
  rw [h.c7]; rfl
 ·
  rw [h.cl]; rfl
 rw [h.cg]; rfl
theorem zKT : (Tryz.prog.info? 113).map (·.size) = some 14 := by kernel_rfl
theorem zFg : (Tryz.prog.info? 38).map (·.size) = some 14 := by kernel_rfl
theorem zBL (num rev md sz : Int) (s : Sl) (LV GA : Int) : (zX num rev md sz s LV GA).all (·.oneCell') = true := all_oneCell_toArray (zCM (⟨num, rev, md, sz, ⟨fun _ => [], LV, GA⟩⟩, s))
theorem zA8 (W : World) (g o : Nat) (num rev md sz : Int) (s : Sl) (LV GA : Int) : W.setCells g o (zX num rev md sz s LV GA).toList = pts W g (gpL o num rev md sz s LV GA) := qu g _ o W
theorem zKG (i l : Int) (r : Bool) (a : Option Addr) (n c : Nat) (L : List GP) (w : World) (h : RdG w (.slice a n c) L) (hs : ∀ p ∈ L, ∀ j, j < 8 → (p.1.m.st j).length ≤ 10000) (y : GP) (hy : RdM w y.2 y.1.m.st) (hyl : ∀ j, j < 8 → (y.1.m.st j).length ≤ 10000) (hv : zg ⟨i, l, r, gns L⟩ = false) :
  Calls Tryz.prog 44 #[zhq i l r a n c, ze y.1.num y.1.rev y.1.mode y.1.size y.2 y.1.m.live y.1.m.garb] w (SRes w (yb ⟨i, l, r, gns L⟩ y.1)) := by
 have HSv := zh (fun W (hb : Below w.heap.size w W) => xC i l r a n c L W (h.below hb) hs);have HC := zh (show yb ⟨i, l, r, gns L⟩ y.1 = (wS, 1) by unfold yb; rw [hv]; rfl);rw [hv] at HSv;clear h hs hv hy hyl
 go_enter Tryz.func44, Tryz.ntmps44
 go_upto_region 1 with fail;change Code.wp _ _ _ _ (((w.alloc (.cells (zS i l r a n c) 31)).alloc (.cells (zX y.1.num y.1.rev y.1.mode y.1.size y.2 y.1.m.live y.1.m.garb) 113)).alloc (.cells (zS 0 0 false none 0 0) 31));obtain ⟨W, hW, hbx, hbg, hbr, hbw⟩ := tZ w i l r a n c y 31 113;rw [hW];have HX := zh hbx;have HG := zh hbg;have HR := zh hbr;have HB := zh hbw;clear hW hbx hbg hbr hbw;obtain ⟨k0, k1, k2, k3⟩ := HX.out.q;go_wp2_with fail;refine (HSv.out _ HB.out).mono ?_;rintro e w1 ⟨rfl, hb⟩;replace HX := zh (HX.out.below hb);replace HR := zh (HR.out.below hb);replace HB := zh (zA HB.out hb);clear hb;clear k0 k1 k2 k3;obtain ⟨z0, z1, z2, z3⟩ := HR.out.q;have zf := HR.out.f;go_wp2_with fail;change bodyPost _ _ _ _ _ (pts w1 (w.heap.size + 2) (zU 0 0 false none 0 0));have hby := HR.out.all 0 0 false none 0 0
 have HBz := zh (zD (B := w.heap.size) (b := (w.heap.size + 2)) (by omega) (zU 0 0 false none 0 0) HB.out);generalize pts w1 (w.heap.size + 2) (zU 0 0 false none 0 0) = V at *;exact bodyPost_ret (v := .tuple #[zhq 0 0 false none 0 0, .int .i64 1]) (by simp [results, Tryz.results44, go_sem, hby.c0, hby.c1, hby.c2, hby.c3]) rfl (by rw [HC.out]; exact SRes.no HBz.out)
theorem zH7 (i l : Int) (r : Bool) (a : Option Addr) (n c : Nat) (L : List GP) (w : World) (h : RdG w (.slice a n c) L) (hs : ∀ p ∈ L, ∀ j, j < 8 → (p.1.m.st j).length ≤ 10000) (y : GP) (hy : RdM w y.2 y.1.m.st) (hyl : ∀ j, j < 8 → (y.1.m.st j).length ≤ 10000) (hv : zg ⟨i, l, r, gns L⟩ = true) :
  Calls Tryz.prog 44 #[zhq i l r a n c, ze y.1.num y.1.rev y.1.mode y.1.size y.2 y.1.m.live y.1.m.garb] w (SRes w (yb ⟨i, l, r, gns L⟩ y.1)) := by
 have HSv := zh (fun W (hb : Below w.heap.size w W) => xC i l r a n c L W (h.below hb) hs);have hV := (zT _).1 hv;have hLn : L.length = n := by
  obtain ⟨_, _, e, _⟩ := h.shape;injection e with _ e _; exact e.symm
 have hl : (gns L).length = n := by rw [zz, hLn]
 have hn : 1 ≤ n ∧ n ≤ 8 := by have := hV.len; simp only [hl] at this; exact this
 have HC := zh (show yb ⟨i, l, r, gns L⟩ y.1 = (if qP L y.1.num n = true then (if zg ⟨i, l, r, gns (uv L y)⟩ = true then (⟨i, l, r, gns (uv L y)⟩, 0) else (wS, 1)) else (wS, 6)) by
  unfold yb; rw [if_pos hv, zEL L y.1.num n hLn.symm, zJS])
 rw [hv] at HSv
 have HPm := zh (show ∀ W, Below w.heap.size w W → ∀ p ∈ uv L y, RdM W p.2 p.1.m.st from fun W hb p hp => by
  rcases zEJ hp with hp | rfl
  ·
   exact (h.m p hp).below hb
  exact hy.below hb)
 have HPl := zh (show ∀ p ∈ uv L y, ∀ j, j < 8 → (p.1.m.st j).length ≤ 10000 from fun p hp => by
  rcases zEJ hp with hp | rfl
  ·
   exact hs p hp
  exact hyl)
 have HPn := zh (show n = (uv L y).length by rw [uq, hLn]);have HK0 := zh (zGN L y);have HKa := zh (zIo L y n hLn.symm);have HKl := zh (fun k => show n = (vR L y k).length by rw [zD8, hLn]);have HKp := zh (fun k (hk : k < n) => zFm (L := L) (k := k) (by omega) y);have HKs := zh (fun k (hk : k < n) => show ((pat L k).1.num = y.1.num → vR L y (k + 1) = (vR L y k).set k y) ∧ ((pat L k).1.num ≠ y.1.num → vR L y (k + 1) = vR L y k) from ⟨fun e => by rw [zBw (by omega), if_pos e], fun e => zG3 (by omega) y e⟩);have HMs := zh (fun k (hk : k < n) => zGW (L := L) (k := k) (by omega) y.1.num);have HM0 := zh (show qP L y.1.num 0 = false from rfl)
 have HRw := zh (fun W (hb : Below w.heap.size w W) => show Rd W 14 (.slice a n c) n (L.flatMap gpC) from by
  have h1 := (RdS.below h.r hb).2
  rwa [hLn] at h1)
 have HOne := zh (zCp L);clear h hs hv hV hLn hl hy hyl;obtain ⟨⟨num, rev, md, sz, ⟨f, LV, GA⟩⟩, s⟩ := y;dsimp only at *
 go_enter Tryz.func44, Tryz.ntmps44
 go_upto_region 1 with fail;change Code.wp _ _ _ _ (((w.alloc (.cells (zS i l r a n c) 31)).alloc (.cells (zX num rev md sz s LV GA) 113)).alloc (.cells (zS 0 0 false none 0 0) 31));obtain ⟨W, hW, hbx, hbg, hbr, hbw⟩ := tZ w i l r a n c (⟨num, rev, md, sz, ⟨f, LV, GA⟩⟩, s) 31 113;rw [hW];have HX := zh hbx;have HG := zh hbg;have HR := zh hbr;have HB := zh hbw;clear hW hbx hbg hbr hbw;have hB0 : w.heap.size + 3 ≤ W.heap.size := by have := HR.out.lt; omega
 dsimp only at HG;obtain ⟨k0, k1, k2, k3⟩ := HX.out.q;go_wp2_with fail;refine (HSv.out _ HB.out).mono ?_;rintro e w1 ⟨rfl, hb⟩;replace HX := zh (HX.out.below hb);replace HG := zh (HG.out.below hb);replace HR := zh (HR.out.below hb);replace HB := zh (zA HB.out hb);have hB1 := Nat.le_trans hB0 hb.size;clear hb HSv;clear k0 k1 k2 k3;have k3 := HX.out.c3;obtain ⟨w2, hw2⟩ : ∃ w2, w1.alloc (.cells #[] 113) = w2 := ⟨_, rfl⟩
 have hO0 := World.ownsRow_made (e := 113) (size := 14) w1 #[] 0 (Nat.le_refl w1.heap.size) (by decide) rfl;have hba : Below w1.heap.size w1 w2 := hw2 ▸ (Below.refl w1.heap.size w1).alloc (Nat.le_refl _) (.cells #[] 113);rw [hw2] at hO0;have hHB2 := zA HB.out hba;replace k3 := (HX.out.below hba).c3;go_wp2_with (at_builtin; go_must (refine za rfl (.tmp 12) (.tmp 14) 29 rfl zCx w1.heap.size rfl hO0 rfl (HRw.out w2 hHB2) HOne.out (by unfold maxLen; omega) (by omega) hba.size ?_; intro v3 w3 hown3 hgr3 hv3; clear hv3; rw [Nat.zero_add, List.nil_append] at hown3; obtain ⟨ra, rc, rfl, _⟩ := zJ hown3; have hb3 := zK hba hO0 hba.size hgr3; replace k3 := (HX.out.below hb3).c3; have kf := (HX.out.below hb3).f));obtain ⟨g, rfl, hgB, hgl⟩ := tJ hown3 (by omega)
 have HX4 := zh (show BoxV (pts w3 w.heap.size [(3, .slice (some ⟨g, 0, none⟩) n rc)]) w.heap.size i l r (some ⟨g, 0, none⟩) n rc from (HX.out.below hb3).set3 (some ⟨g, 0, none⟩) n rc);have HG4 := zh ((HG.out.below hb3).pts_ne (c := w.heap.size) (by omega) [(3, .slice (some ⟨g, 0, none⟩) n rc)]);have HR4 := zh ((HR.out.below hb3).pts_ne (d := w.heap.size) (by omega) [(3, .slice (some ⟨g, 0, none⟩) n rc)]);have HB4 := zh (zD (B := w.heap.size) (b := w.heap.size) (Nat.le_refl _) [(3, .slice (some ⟨g, 0, none⟩) n rc)] (zA HB.out hb3));have HO4 := zh (vB (b := w.heap.size) (by omega) hown3 [(3, .slice (some ⟨g, 0, none⟩) n rc)]);have hg9 : w.heap.size + 3 ≤ g := by omega
 clear HX HG HR HB hb3 hown3 hgr3 hO0 hba hHB2 HRw HOne k3 kf hw2 hgl;change Code.wp _ _ _ _ (pts w3 w.heap.size [(3, .slice (some ⟨g, 0, none⟩) n rc)]);generalize (pts w3 w.heap.size [(3, .slice (some ⟨g, 0, none⟩) n rc)]) = w4 at *;rw [← HK0.out] at HO4
 go_loopw [6, 7] (fun fv iv V => ∃ (k : Nat) (m : Bool), iv = .int .i64 (k : Int) ∧ fv = .bool m ∧ k ≤ n ∧ Hid (m = qP L num k) ∧ Hid (V.ownsRow w1.heap.size 113 14 (.slice (some ⟨g, 0, none⟩) n rc) n ((vR L (((⟨num, rev, md, sz, ⟨f, LV, GA⟩⟩ : Gn), s) : GP) k).flatMap gpC)) ∧ Hid (BoxV V w.heap.size i l r (some ⟨g, 0, none⟩) n rc) ∧ Hid (BoxG V (w.heap.size + 1) num rev md sz s LV GA) ∧ Hid (BoxV V (w.heap.size + 2) 0 0 false none 0 0) ∧ Hid (Below w.heap.size w V)) (fun _ iv _ => n - (intOf iv).toNat)
 case atStart => exact ⟨0, false, rfl, rfl, Nat.zero_le _, zh HM0.out.symm, HO4, HX4, HG4, HR4, HB4⟩
 obtain ⟨k, m, rfl, rfl, hk, Hm, HO, HX, HG, HR, HB⟩ := hrel;clear HX4 HG4 HR4 HB4 HO4;have k3 := HX.out.c3
 by_cases hlt : k < n
 ·
  have i1 : (k : Int) < (n : Int) := by omega
  have hat := zCg HO.out (HKl.out k) hlt;rw [HKp.out k hlt] at hat;have q0 := HG.out.n0;have hKs := HKs.out k hlt;have hMs := HMs.out k hlt;have HKk := zh (show k < (vR L (((⟨num, rev, md, sz, ⟨f, LV, GA⟩⟩ : Gn), s) : GP) k).length by rw [← HKl.out k]; exact hlt)
  by_cases hnum : (pat L k).1.num = num
  ·
   have HM1 := zh (show true = qP L num (k + 1) by rw [hMs, decide_eq_true hnum, Bool.or_true]);have HKe := zh (hKs.1 hnum);clear hKs hMs;have c0 := hat.n0;rw [hnum] at c0;go_upto_region 8 with fail;replace k3 := zC k3;replace c0 := zC c0;replace q0 := zC q0;refine zB (by kernel_rfl) (by kernel_rfl) ?_
   repeat (go_big_quiet_step (fail))
   refine wpQuiet_nil ?_;intro _ hw';obtain ⟨q, hw'⟩ := hw';subst hw';have hat := hat.below q.h;replace HO := zh (zH HO.out q.h);replace HX := zh (HX.out.below q.h);replace HG := zh (HG.out.below q.h);replace HR := zh (HR.out.below q.h);replace HB := zh (zA HB.out q.h);clear k3 c0 q0;generalize q.w' = v0 at *;clear q;have hst := kL HO.out k HKk.out (((⟨num, rev, md, sz, ⟨f, LV, GA⟩⟩ : Gn), s) : GP);rw [← HKe.out] at hst;have HO1 := zh hst.1;have HG1 := zh (HG.out.grownR hst.2 (by omega));have HX1 := zh (HX.out.grownR hst.2 (by omega));have HR1 := zh (HR.out.grownR hst.2 (by omega));have HB1 := zh (zD (B := w.heap.size) (b := g) (by omega) (gpL (k * 14) num rev md sz s LV GA) HB.out);have hfr := wg HO.out;have k3 := HX.out.c3;clear hst;have HTh := zh (hat.there hfr);clear hat hfr;obtain ⟨u0, u1, u2, u3, u4, u5, u6, u7, u8, u9, u10, u11, u12, u13⟩ := HG.out.q
   go_wp2_with ((with_reducible refine wpList_store_mid ?_ 113 (.tmp 37) (.tmp 36) ?_ g (k * 14) (zX num rev md sz s LV GA) ?_ ?_ ?_ ?_ ?_ ?_); rfl; rfl; rfl; rfl; exact HTh.out; exact zKT; exact zBL _ _ _ _ _ _ _; rw [zA8]);exact ⟨⟨k + 1, true, by go_num, rfl, by omega, HM1, HO1, HX1, HG1, HR1, HB1⟩, by simp [intOf]; omega⟩
  have HM1 := zh (show m = qP L num (k + 1) by rw [hMs, decide_eq_false hnum, Bool.or_false]; exact Hm.out);have HO1 := HO;rw [← hKs.2 hnum] at HO1;have c0 := hat.n0;have hne : ((pat L k).1.num == num) = false := by simp [hnum]
  clear hat hKs hMs;generalize (pat L k).1.num = pn at *;go_upto_region 8 with fail;replace k3 := zC k3;replace c0 := zC c0;replace q0 := zC q0;refine zB (by kernel_rfl) (by kernel_rfl) ?_
  repeat (go_big_quiet_step (fail))
  refine wpQuiet_nil ?_;intro _ hw';obtain ⟨q, hw'⟩ := hw';subst hw';replace HO1 := zh (zH HO1.out q.h);replace HX := zh (HX.out.below q.h);replace HG := zh (HG.out.below q.h);replace HR := zh (HR.out.below q.h);replace HB := zh (zA HB.out q.h);clear k3 c0 q0;generalize q.w' = v0 at *;clear q;go_wp2_with fail;exact ⟨⟨k + 1, m, by go_num, rfl, by omega, HM1, HO1, HX, HG, HR, HB⟩, by simp [intOf]; omega⟩
 have i1 : ¬ (k : Int) < (n : Int) := by omega
 obtain rfl : k = n := by omega
 rw [HKa.out] at HO;have hm := Hm.out;rw [← hm] at HC;clear hm Hm HKs HMs HKp HKl HK0 HM0 hlt hk HKa
 cases m
 ·
  have HC0 := zh (HC.out.trans (if_neg (by decide)));clear HC;obtain ⟨z0, z1, z2, z3⟩ := HR.out.q;have zf := HR.out.f;go_wp2_with fail;change bodyPost _ _ _ _ _ (pts wr (w.heap.size + 2) (zU 0 0 false none 0 0));have hby := HR.out.all 0 0 false none 0 0;have HBz := zh (zD (B := w.heap.size) (b := (w.heap.size + 2)) (by omega) (zU 0 0 false none 0 0) HB.out);generalize pts wr (w.heap.size + 2) (zU 0 0 false none 0 0) = V at *;exact bodyPost_ret (v := .tuple #[zhq 0 0 false none 0 0, .int .i64 6]) (by simp [results, Tryz.results44, go_sem, hby.c0, hby.c1, hby.c2, hby.c3]) rfl (by rw [HC0.out]; exact SRes.no HBz.out)
 have HC0 := HC.out.trans (if_pos rfl);have HRd := zh (kB HO.out HPn.out (HPm.out wr HB.out));have HVn := zh (xC i l r (some ⟨g, 0, none⟩) k rc (uv L (((⟨num, rev, md, sz, ⟨f, LV, GA⟩⟩ : Gn), s) : GP)) wr HRd.out HPl.out);have HOz := HO;clear HC HO;have k0 := HX.out.c0;have k1 := HX.out.c1;have k2 := HX.out.c2
 cases hvn : zg ⟨i, l, r, gns (uv L (((⟨num, rev, md, sz, ⟨f, LV, GA⟩⟩ : Gn), s) : GP))⟩
 ·
  rw [hvn] at HVn HC0;have HC := zh (HC0.trans (if_neg (by decide)));clear HC0 hvn;go_wp2_with fail;refine HVn.out.mono ?_;rintro e v1 ⟨rfl, hb⟩;replace HR := zh (HR.out.below hb);replace HB := zh (zA HB.out hb);clear hb k0 k1 k2 k3 HVn HRd HX HG;obtain ⟨z0, z1, z2, z3⟩ := HR.out.q;have zf := HR.out.f;go_wp2_with fail;change bodyPost _ _ _ _ _ (pts v1 (w.heap.size + 2) (zU 0 0 false none 0 0));have hby := HR.out.all 0 0 false none 0 0;have HBz := zh (zD (B := w.heap.size) (b := (w.heap.size + 2)) (by omega) (zU 0 0 false none 0 0) HB.out);generalize pts v1 (w.heap.size + 2) (zU 0 0 false none 0 0) = V at *;exact bodyPost_ret (v := .tuple #[zhq 0 0 false none 0 0, .int .i64 1]) (by simp [results, Tryz.results44, go_sem, hby.c0, hby.c1, hby.c2, hby.c3]) rfl (by rw [HC.out]; exact SRes.no HBz.out)
 rw [hvn] at HVn HC0;have HC := zh (HC0.trans (if_pos rfl));clear HC0 hvn;go_wp2_with fail;refine HVn.out.mono ?_;rintro e v1 ⟨rfl, hb⟩;replace HX := zh (HX.out.below hb);replace HR := zh (HR.out.below hb);replace HB := zh (zA HB.out hb);replace HOz := zh (zH HOz.out hb);clear hb k0 k1 k2 k3 HVn HG;obtain ⟨k0, k1, k2, k3⟩ := HX.out.q;obtain ⟨z0, z1, z2, z3⟩ := HR.out.q;have zf := HR.out.f;go_wp2_with fail;change bodyPost _ _ _ _ _ (pts v1 (w.heap.size + 2) (zU i l r (some ⟨g, 0, none⟩) k rc));have HRz := zh (show RdG (pts v1 (w.heap.size + 2) (zU i l r (some ⟨g, 0, none⟩) k rc)) (.slice (some ⟨g, 0, none⟩) k rc) (uv L (((⟨num, rev, md, sz, ⟨f, LV, GA⟩⟩ : Gn), s) : GP)) from kB (vB (b := w.heap.size + 2) (by omega) HOz.out _) HPn.out (HPm.out _ (zD (B := w.heap.size) (b := w.heap.size + 2) (by omega) (zU i l r (some ⟨g, 0, none⟩) k rc) HB.out)))
 have hby := HR.out.all i l r (some ⟨g, 0, none⟩) k rc;have HBz := zh (zD (B := w.heap.size) (b := (w.heap.size + 2)) (by omega) (zU i l r (some ⟨g, 0, none⟩) k rc) HB.out);generalize pts v1 (w.heap.size + 2) (zU i l r (some ⟨g, 0, none⟩) k rc) = V at *;exact bodyPost_ret (v := .tuple #[zhq i l r (some ⟨g, 0, none⟩) k rc, .int .i64 0]) (by simp [results, Tryz.results44, go_sem, hby.c0, hby.c1, hby.c2, hby.c3]) rfl (by rw [HC.out]; exact ⟨⟨_, k, rc, uv L (((⟨num, rev, md, sz, ⟨f, LV, GA⟩⟩ : Gn), s) : GP), rfl, HRz.out, rfl⟩, HBz.out⟩)
theorem zI2 : xe Tryz.prog 25 38 14 240 := by
 obtain ⟨i, hi, hz, hs, hb⟩ := info_parts (P := Tryz.prog) (e := 38) (z := ze 0 0 0 0 Sl.nil 0 0) (size := 14) (bytes := 240) (by kernel_rfl);exact ⟨Tryz.underlying25, by decide, i, _, hi, hz, hs, hb, rfl⟩
theorem zHs (w : World) (i l : Int) (r : Bool) (a : Option Addr) (n c : Nat) (t u : TypeId) : ∃ W, (w.alloc (.cells (zS i l r a n c) t)).alloc (.cells (zS 0 0 false none 0 0) u) = W ∧ BoxV W w.heap.size i l r a n c ∧ BoxV W (w.heap.size + 1) 0 0 false none 0 0 ∧ Below w.heap.size w W ∧ W.heap.size = w.heap.size + 2 := by
 refine ⟨_, rfl, (BoxV.new w i l r a n c t).below (zP _ 0 0 false none 0 0 u), ?_, zA (zP w i l r a n c t) (zP _ 0 0 false none 0 0 u), by simp [World.size_alloc]⟩;have := BoxV.new (w.alloc (.cells (zS i l r a n c) t)) 0 0 false none 0 0 u
 rwa [World.size_alloc] at this
def zLp (x : GP) : Sta := ⟨fun v w => ∃ j, v = .slice (some ⟨j, 0, none⟩) 1 1 ∧ Rd w 14 (.slice (some ⟨j, 0, none⟩) 1 1) 1 (gpC x), fun _ _ _ hb ⟨j, h1, h2⟩ => ⟨j, h1, h2.below hb⟩⟩
theorem zGz (L : List GP) (k : Nat) (hk : k < L.length) : (L.take (k + 1)).flatMap gpC = (L.take k).flatMap gpC ++ gpC (pat L k) := by
 rw [List.take_add_one, List.getElem?_eq_getElem hk, List.flatMap_append];unfold pat;rw [List.getD_eq_getElem?_getD, List.getElem?_eq_getElem hk];simp
theorem zFd {W : World} {B b : Nat} {e : TypeId} {sz n : Nat} {v : Value} {xs : List Value} (h : W.ownsRow B e sz v n xs) (hb : b < B) : some b ≠ v.ownBlock := fun e => by
 have := (h.lt b e.symm).1; omega
theorem BoxV.grownT {W W' : World} {b : Nat} {row : Option Nat} {i l : Int} {r : Bool} {a : Option Addr} {n c : Nat} (h : BoxV W b i l r a n c) (hg : W.grownBy W' row) (hne : some b ≠ row) : BoxV W' b i l r a n c := by
 have k : ∀ i u, W.cell? ⟨b, i, none⟩ = some u → W'.cell? ⟨b, i, none⟩ = some u := fun i u hu => hg.cell hu hne
 refine ⟨k _ _ h.c0, k _ _ h.c1, k _ _ h.c2, k _ _ h.c3, fun i => ?_⟩;have e := hg.block b h.lt hne;rw [← h.f i]; unfold World.frozen?; rw [e]
end Go.Proofs.YtcgfilmmokmdjaaGreat
namespace Go.Proofs.YtcgfilmmokmdjaaGreat
open Go.RowKit
def BlkE (W : World) (b : Nat) (cs : Array Value) (t : TypeId) : Prop := W.heap[b]? = some (.cells cs t (0, 0))
section
variable {W W' : World} {b : Nat} {cs : Array Value} {t : TypeId}
theorem BlkE.lt (h : BlkE W b cs t) : b < W.heap.size := (Array.getElem?_eq_some_iff.1 h).1
theorem BlkE.below (h : BlkE W b cs t) (hb : Below W.heap.size W W') : BlkE W' b cs t := by
 unfold BlkE;rw [hb.block b h.lt]; exact h
theorem BlkE.new (W : World) (cs : Array Value) (t : TypeId) : BlkE (W.alloc (.cells cs t)) W.heap.size cs t := heap_alloc_new W _
theorem BlkE.cell_eq (h : BlkE W b cs t) (i : Nat) : W.cell? ⟨b, i, none⟩ = cs[i]? := by
 have h : W.heap[b]? = some (.cells cs t (0, 0)) := h;simp [World.cell?, h]
theorem BlkE.cell (h : BlkE W b cs t) {i : Nat} {u : Value} (hu : cs[i]? = some u) : W.cell? ⟨b, i, none⟩ = some u := (h.cell_eq i).trans hu
theorem BlkE.frozen (h : BlkE W b cs t) (i : Nat) : W.frozen? ⟨b, i, none⟩ = false := by
 have h : W.heap[b]? = some (.cells cs t (0, 0)) := h;unfold World.frozen?;rw [h];simp
theorem BlkE.set (h : BlkE W b cs t) (i : Nat) (u : Value) : BlkE (W.setCell ⟨b, i, none⟩ u) b (cs.setIfInBounds i u) t := by
 have hl := h.lt;have hk := (Array.getElem?_eq_some_iff.1 h).2
 show (W.heap.modify b _)[b]? = _
 rw [Array.getElem?_eq_getElem (by rw [Array.size_modify]; exact hl), Array.getElem_modify_self, hk]
 rfl
theorem BlkE.sets : ∀ (vs : List (Nat × Value)) {W : World} {cs : Array Value}, BlkE W b cs t → BlkE (pts W b vs) b (vs.foldl (fun cs p => cs.setIfInBounds p.1 p.2) cs) t
 | [], _, _, h => h
 | (i, u) :: r, _, _, h => BlkE.sets r (h.set i u)
theorem BlkE.pts_ne {c : Nat} (hne : b ≠ c) : ∀ (vs : List (Nat × Value)) {W : World}, BlkE W b cs t → BlkE (pts W c vs) b cs t
 | [], _, h => h
 | (i, u) :: r, W, h => BlkE.pts_ne hne r (show (W.setCell ⟨c, i, none⟩ u).heap[b]? = _ by rw [Below.heap_setCell W ⟨c, i, none⟩ u b hne]; exact h)
theorem BlkE.grown {row : Option Nat} (h : BlkE W b cs t) (hg : W.grownBy W' row) (hne : some b ≠ row) : BlkE W' b cs t := by
 unfold BlkE;rw [hg.block b h.lt hne]; exact h
def zF3 (cs : Array Value) (xs : List Value) : Prop := ∀ off : Nat, ∃ (j : Nat) (u : Value), xs[j]? = some u ∧ cs[off + j]? ≠ some u
theorem zAr {sz n : Nat} {v : Value} {xs : List Value} (hr : Rd W sz v n xs) (h : BlkE W b cs t) (ha : 0 < xs.length → zF3 cs xs) (vs : List (Nat × Value)) : Rd (pts W b vs) sz v n xs := by
 obtain ⟨h0, a, cap, e, h1, h2, h3, h4⟩ := hr;refine ⟨h0, a, cap, e, h1, h2, h3, fun hp => ?_⟩;obtain ⟨b', off, e2, hc⟩ := h4 hp;refine ⟨b', off, e2, fun j u hj => ?_⟩;have hne : b' ≠ b := by
  rintro rfl;obtain ⟨j', u', h5, h6⟩ := ha hp off;have h7 := hc j' u' h5;rw [h.cell_eq] at h7;exact h6 h7
 exact (zw (p := ⟨b', off + j, none⟩) hne vs W).trans (hc j u hj)
end
/-! ### A slot in its block -/
section
variable {W W' : World} {b : Nat} {t : TypeId} {i l : Int} {r : Bool} {a : Option Addr} {n c : Nat}
theorem BlkE.slo (h : BlkE W b (zS i l r a n c) t) : BoxV W b i l r a n c := ⟨h.cell rfl, h.cell rfl, h.cell rfl, h.cell rfl, h.frozen⟩
theorem BlkE.sloAll (h : BlkE W b (zS i l r a n c) t) (i' l' : Int) (r' : Bool) (a' : Option Addr) (n' c' : Nat) : BlkE (pts W b (zU i' l' r' a' n' c')) b (zS i' l' r' a' n' c') t :=
 (((h.set 0 (.int .i64 i')).set 1 (.int .i64 l')).set 2 (.bool r')).set 3 (.slice a' n' c')
theorem zIA (i l : Int) (r : Bool) (a : Option Addr) (n c : Nat) (L : List GP) (hp : 0 < (L.flatMap gpC).length) : zF3 (zS i l r a n c) (L.flatMap gpC) := fun off => by
 match L, hp with
 | p :: q, _ =>
  match off with
  | 0 => exact ⟨2, .int .i64 p.1.mode, rfl, fun h => by cases h⟩
  | 1 => exact ⟨1, .int .i64 p.1.rev, rfl, fun h => by cases h⟩
  | 2 => exact ⟨0, .int .i64 p.1.num, rfl, fun h => by cases h⟩
  | 3 => exact ⟨0, .int .i64 p.1.num, rfl, fun h => by cases h⟩
  | k + 4 => exact ⟨0, .int .i64 p.1.num, rfl, fun h => by
    rw [Array.getElem?_eq_none (by show 4 ≤ k + 4 + 0; omega)] at h; cases h⟩
theorem zI0 (i l : Int) (r : Bool) (a : Option Addr) (n c : Nat) (L : List It) (hp : 0 < (zL L).length) : zF3 (zS i l r a n c) (zL L) := fun off => by
 match L, hp with
 | p :: q, _ =>
  match off with
  | 0 => exact ⟨0, .int .u64 p.key, rfl, fun h => by cases h⟩
  | 1 => exact ⟨0, .int .u64 p.key, rfl, fun h => by cases h⟩
  | 2 => exact ⟨0, .int .u64 p.key, rfl, fun h => by cases h⟩
  | 3 => exact ⟨0, .int .u64 p.key, rfl, fun h => by cases h⟩
  | k + 4 => exact ⟨0, .int .u64 p.key, rfl, fun h => by
    rw [Array.getElem?_eq_none (by show 4 ≤ k + 4 + 0; omega)] at h; cases h⟩
theorem zHP (n r md z : Int) (s : Sl) (l g : Int) (L : List It) (hp : 0 < (zL L).length) : zF3 (zX n r md z s l g) (zL L) := fun off => by
 match L, hp with
 | p :: q, _ =>
  refine ⟨0, .int .u64 p.key, rfl, fun h => ?_⟩
  match off with
  | 0 => cases h
  | 1 => cases h
  | 2 => cases h
  | 3 => cases h
  | 4 => cases h
  | 5 => cases h
  | 6 => cases h
  | 7 => cases h
  | 8 => cases h
  | 9 => cases h
  | 10 => cases h
  | 11 => cases h
  | 12 => cases h
  | 13 => cases h
  | k + 14 => rw [Array.getElem?_eq_none (by show 14 ≤ k + 14 + 0; omega)] at h; cases h
theorem RdM.slo {s : Sl} {f : Nat → List It} (h : RdM W s f) (hb : BlkE W b (zS i l r a n c) t) (vs : List (Nat × Value)) : RdM (pts W b vs) s f := fun j hj =>
 yS (n := (f j).length) (zAr (uo (h j hj)) hb (fun hp => zI0 _ _ _ _ _ _ _ hp) vs)
theorem RdG.slo {v : Value} {L : List GP} (h : RdG W v L) (hb : BlkE W b (zS i l r a n c) t) (vs : List (Nat × Value)) : RdG (pts W b vs) v L :=
 ⟨⟨h.r.1, zAr h.r.2 hb (fun hp => zIA _ _ _ _ _ _ _ hp) vs⟩, fun p hp => (h.m p hp).slo hb vs⟩
theorem RdM.gen {s : Sl} {f : Nat → List It} {n' r' md z : Int} {s' : Sl} {l' g : Int} (h : RdM W s f) (hb : BlkE W b (zX n' r' md z s' l' g) t) (vs : List (Nat × Value)) : RdM (pts W b vs) s f := fun j hj =>
 yS (n := (f j).length) (zAr (uo (h j hj)) hb (fun hp => zHP _ _ _ _ _ _ _ _ hp) vs)
end
/-! ### A generation in its block -/
section
variable {W W' : World} {b : Nat} {t : TypeId} {n r md z : Int} {s : Sl} {l g : Int}
theorem BlkE.gen (h : BlkE W b (zX n r md z s l g) t) : BoxG W b n r md z s l g := by
 refine ⟨h.cell rfl, h.cell rfl, h.cell rfl, h.cell rfl, fun j hj => ?_, h.cell rfl, h.cell rfl, h.frozen⟩;rcases lt8 hj with e | e | e | e | e | e | e | e <;> subst e <;> exact h.cell rfl
theorem BlkE.genAll (h : BlkE W b (zX n r md z s l g) t) (n' r' md' z' : Int) (s' : Sl) (l' g' : Int) : BlkE (pts W b (zO n' r' md' z' s' l' g')) b (zX n' r' md' z' s' l' g') t :=
 by
  have h1 := BlkE.sets (zO n' r' md' z' s' l' g') h;have e : (zO n' r' md' z' s' l' g').foldl (fun cs p => cs.setIfInBounds p.1 p.2) (zX n r md z s l g) = zX n' r' md' z' s' l' g' := by
   simp only [List.foldl_cons, List.foldl_nil, List.setIfInBounds_toArray, List.set_cons_zero, List.set_cons_succ]
  rw [e] at h1;exact h1
end
/-! ### What operations leave: a generation and its error; a generation; a generation's box; a slot and its error; a slot -/
def zLW (c a b md z : Int) (f : Nat → List It) (L G : Int) : Sta := ⟨fun v w => ∃ s, v = .tuple #[ze a b md z s L G, .int .i64 c] ∧ RdM w s f, fun _ _ _ hb ⟨s, h1, h2⟩ => ⟨s, h1, h2.below hb⟩⟩
def zLX (a b md z : Int) (f : Nat → List It) (L G : Int) : Sta := ⟨fun v w => ∃ s, v = ze a b md z s L G ∧ RdM w s f, fun _ _ _ hb ⟨s, h1, h2⟩ => ⟨s, h1, h2.below hb⟩⟩
def zLU (t : TypeId) (B : Nat) : Sta := ⟨fun v w => ∃ b, v = .pointer (some ⟨b, 0, none⟩) ∧ B ≤ b ∧ BlkE w b (zX 0 0 0 0 Sl.nil 0 0) t, fun _ _ _ hb ⟨b, h1, h2, h3⟩ => ⟨b, h1, h2, h3.below hb⟩⟩
def zLO (L : List Nd) : Sta := ⟨fun v w => ∃ a n c es, v = .slice a n c ∧ RdN w (.slice a n c) es ∧ es.map (·.1) = L, fun _ _ _ hb ⟨a, n, c, es, h1, h2, h3⟩ => ⟨a, n, c, es, h1, h2.below hb, h3⟩⟩
end Go.Proofs.YtcgfilmmokmdjaaGreat
