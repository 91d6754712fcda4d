/- A part of the walk. -/
import Derived.Test.YtcgfilmmokmdjaaGreatQAJ
import Derived.Test.YtcgfilmmokmdjaaGreatQAM
set_option linter.all false
set_option maxRecDepth 100000
set_option maxHeartbeats 32000000
namespace Go.Proofs.YtcgfilmmokmdjaaGreat
open Go.RowKit
theorem zKz (l : List Nd) : szL l ≤ l.length * 4127 := by
 induction l with
 | nil => exact Nat.zero_le _
 | cons x r ih =>
  have := xg x.data.length;rw [wG, List.length_cons, Nat.succ_mul];omega
theorem zA3 {es : List (Nd × Value)} {i : Nat} (h : i < es.length) : (es.map (·.1)).take (i + 1) = (es.map (·.1)).take i ++ [(yZ es i).1] := by
 rw [List.take_add_one, List.getElem?_map, List.getElem?_eq_getElem h];unfold yZ;rw [List.getD_eq_getElem?_getD, List.getElem?_eq_getElem h]
 rfl
theorem un (l : List Nd) : zAB l = true ↔ ∀ x ∈ l, x.ok := by
 unfold zAB;rw [List.all_eq_true];exact ⟨fun h x hx => of_decide_eq_true (h x hx), fun h x hx => decide_eq_true (h x hx)⟩
theorem zII (g : Gn) (s : Sl) (v : Value) (es : List (Nd × Value)) (K : Nat) (w : World) (h : RdM w s g.m.st) (hs : ∀ i, i < 8 → (g.m.st i).length ≤ K) (hr : RdN w v es) (hK : K + es.length ≤ 9000) (hdl : ∀ p ∈ es, p.1.data.length ≤ 1000000) :
  Calls Tryz.prog 43 #[ze g.num g.rev g.mode g.size s g.m.live g.m.garb, v] w (GOO w s g.m.st (xM g (es.map (·.1)))) := by
 obtain ⟨va, vc, rfl, hv1, hv2⟩ := hr.shape;have hs9 : ∀ i, i < 8 → (g.m.st i).length ≤ 10000 := fun i hi => Nat.le_trans (hs i hi) (by omega)
 have HV := zh (fun W (hb : Below w.heap.size w W) => vU g s W (h.below hb) hs9);have HRn := zh hr;have HRm := zh h;have HR0 := zh (show ∀ W, OldOwn W w.heap.size s g.m.st Sl.nil gn0.m.st from fun W => OldOwn.nil W _ _ _);have HG := zh (show xM g (es.map (·.1)) = if wJ g = true ∧ zAB (es.map (·.1)) = true then (if g.mode = 1 then (if g.size + (szL (es.map (·.1)) : Int) ≤ 1048576 then (0, zV g (es.map (·.1))) else (9, gn0)) else (12, gn0)) else (1, gn0) from rfl);have HSz := zh (show wJ g = true → 16 ≤ g.size ∧ g.size ≤ 1048576 from fun hv => ⟨((yD g).1 hv).size.1, ((yD g).1 hv).size.2.1⟩);have HLn := zh (fun i (hi : i ≤ es.length) => xx ((es.map (·.1)).take i) g hs);have HMem := zh (fun i (hi : i < es.length) => hdl _ (vH hi));have HTk := zh (fun i (hi : i < es.length) => @zA3 es i hi)
 have HAll := zh (show ∀ i, i ≤ es.length → szL ((es.map (·.1)).take i) ≤ 9000 * 4127 from fun i hi => by
  have h1 := zKz ((es.map (·.1)).take i)
  have h2 : ((es.map (·.1)).take i).length ≤ 9000 := by rw [List.length_take]; omega
  have := Nat.mul_le_mul_right 4127 h2
  omega)
 have HOkI := zh (un (es.map (·.1)));have HOkM := zh (show ∀ i, i < es.length → (yZ es i).1 ∈ es.map (·.1) from fun i hi => List.mem_map_of_mem (vH hi));have HFull := zh (show (es.map (·.1)).take es.length = es.map (·.1) from List.take_of_length_le (by rw [List.length_map]; omega))
 have HOkA := zh (show (∀ j, j < es.length → (yZ es j).1.ok) → ∀ x ∈ es.map (·.1), x.ok from fun hh x hx => by
  obtain ⟨p, hp, rfl⟩ := List.mem_map.1 hx
  obtain ⟨j, hj, rfl⟩ := List.getElem_of_mem hp
  have := hh j hj
  unfold yZ at this
  rw [List.getD_eq_getElem?_getD, List.getElem?_eq_getElem hj] at this
  exact this)
 clear hr h hs hs9 hdl;generalize hN : es.map (·.1) = N at *;generalize hnn : es.length = n at *;have Hnn := zh hnn;clear hnn hN;obtain ⟨gn, rv, md, z, ⟨f, L, G⟩⟩ := g;generalize hgg : (⟨gn, rv, md, z, ⟨f, L, G⟩⟩ : Gn) = g at *;have Hgg := zh hgg;obtain ⟨W, hW, hbx, hbr, hbw⟩ := vW w gn rv md z s L G 113;have HX := zh hbx;have HR := zh hbr;have HB := zh hbw;clear hbx hbr hbw;generalize xM g N = TG at *;generalize wJ g = vb at *;subst hgg;dsimp only at *
 go_enter Tryz.func43, Tryz.ntmps43
 go_upto_region 1 with fail;change Code.wp _ _ _ _ ((w.alloc (.cells (zX gn rv md z s L G) 113)).alloc (.cells (zX 0 0 0 0 Sl.nil 0 0) 113));rw [hW];clear hW;obtain ⟨x0, x1, x2, x3, x4, x5, x6, x7, x8, x9, x10, x11, x12, x13⟩ := HX.out.q;go_wp2_with fail;refine (HV.out _ HB.out).mono ?_;rintro e w1 ⟨rfl, hb1⟩;have HX1 := zh (HX.out.below hb1);have HR1 := zh (HR.out.below hb1);have HB1 := zh (zA HB.out hb1);have hlr : w.heap.size + 1 < W.heap.size := HR.out.lt;clear x0 x1 x2 x3 x4 x5 x6 x7 x8 x9 x10 x11 x12 x13;clear hb1 HX HR HB HV
 cases vb
 ·
  have HPR := zh (show TG = (1, gn0) by rw [HG.out, if_neg (fun h => by cases h.1)]);obtain ⟨r0, r1, r2, r3, r4, r5, r6, r7, r8, r9, r10, r11, r12, r13⟩ := HR1.out.q;have rf := HR1.out.f;go_wp2_with fail;change bodyPost _ _ _ _ _ (pts w1 (w.heap.size + 1) (zO 0 0 0 0 Sl.nil 0 0));have hby := HR1.out.all 0 0 0 0 Sl.nil 0 0;have HBz := zh (zD (B := w.heap.size) (b := (w.heap.size + 1)) (by omega) (zO 0 0 0 0 Sl.nil 0 0) HB1.out);have hrd := HR0.out (pts w1 (w.heap.size + 1) (zO 0 0 0 0 Sl.nil 0 0));rw [HPR.out];generalize pts w1 (w.heap.size + 1) (zO 0 0 0 0 Sl.nil 0 0) = V at *;exact bodyPost_ret (v := .tuple #[ze 0 0 0 0 Sl.nil 0 0, .int .i64 1]) (by simp [results, Tryz.results43, go_sem, hby.n0, hby.n1, hby.n2, hby.n3, hby.c0, hby.c1, hby.c2, hby.c3, hby.c4, hby.c5, hby.c6, hby.c7, hby.cl, hby.cg]) rfl ⟨⟨_, rfl, hrd⟩, HBz.out⟩
 obtain ⟨hz1, hz2⟩ := HSz.out rfl;obtain ⟨x0, x1, x2, x3, x4, x5, x6, x7, x8, x9, x10, x11, x12, x13⟩ := HX1.out.q;go_wp2_with fail
 go_loopw [6, 7] (fun sv iv W => ∃ i : Nat, iv = .int .i64 (i : Int) ∧ sv = .int .i64 (z + (szL (N.take i) : Int)) ∧ i ≤ n ∧ Hid (∀ j, j < i → (yZ es j).1.ok) ∧ Hid (BoxG W w.heap.size gn rv md z s L G) ∧ Hid (BoxG W (w.heap.size + 1) 0 0 0 0 Sl.nil 0 0) ∧ Hid (Below w.heap.size w W)) (fun _ iv _ => n - (intOf iv).toNat)
 case atStart => exact ⟨0, rfl, by simp [szL], Nat.zero_le _, zh (fun j hj => by omega), HX1, HR1, HB1⟩
 obtain ⟨i, rfl, rfl, hi, HOi, HXi, HRi, HBi⟩ := hrel;clear HX1 HR1 HB1;have hal := HAll.out i hi
 by_cases hlt : i < n
 ·
  obtain ⟨b, off, rfl, hdat, c0, c1, c2, c3⟩ := (HRn.out.below HBi.out).at hlt;have hxm := HMem.out i hlt;have HTi := zh (HTk.out i hlt);have HOm := zh (HOkM.out i hlt)
  have HOs := zh (show (yZ es i).1.ok → ∀ j, j < i + 1 → (yZ es j).1.ok from fun ho j hj => by
   by_cases e : j = i
   ·
    subst e; exact ho
   exact HOi.out j (by omega))
  have hal2 := HAll.out (i + 1) hlt;generalize yZ es i = X at c0 c1 c2 c3 hdat hxm HTi HOm HOs;obtain ⟨x, xv⟩ := X;dsimp only at c0 c1 c2 c3 hdat hxm HTi HOm HOs;obtain ⟨xa, xc, rfl, hx1, hx2⟩ := hdat.shape0;have HVn := zh (fun W => zCV x xa xc W);have HSn := zh (fun W => zBd x.data.length W hxm);rw [HTi.out, zL2] at hal2;have i1 : (i : Int) < (n : Int) := by omega
  clear hdat
  by_cases hok : x.ok
  ·
   rw [decide_eq_true hok] at HVn;go_wp2_with fail;refine (HVn.out _).mono ?_;rintro e w2 ⟨rfl, hb2⟩;have c3' := hb2.keeps' c3;have HX2 := zh (HXi.out.below hb2);have HR2 := zh (HRi.out.below hb2);have HB2 := zh (zA HBi.out hb2);clear hb2 c0 c1 c2 c3 HXi HRi HBi;generalize hm : x.data.length = m at *;have Hm := zh hm;clear hm;go_wp2_with fail;refine (HSn.out _).mono ?_;rintro e w3 ⟨rfl, rfl⟩;go_wp2_with fail
   go_roundw
   case rel => exact ⟨i + 1, by go_num, by rw [HTi.out, zL2, Hm.out, Int.natCast_add, Int.add_assoc], by omega, zh (HOs.out hok), HX2, HR2, HB2⟩
   case measure => simp [intOf]; omega
  have HPR := zh (show TG = (1, gn0) by rw [HG.out, if_neg (fun h => hok (HOkI.out.1 h.2 x HOm.out))]);rw [decide_eq_false hok] at HVn;go_wp2_with fail;refine (HVn.out _).mono ?_;rintro e w2 ⟨rfl, hb2⟩;have HX2 := zh (HXi.out.below hb2);have HR2 := zh (HRi.out.below hb2);have HB2 := zh (zA HBi.out hb2);clear hb2 c0 c1 c2 c3 HXi HRi HBi;obtain ⟨r0, r1, r2, r3, r4, r5, r6, r7, r8, r9, r10, r11, r12, r13⟩ := HR2.out.q;have rf := HR2.out.f;go_wp2_with fail;change bodyPost _ _ _ _ _ (pts w2 (w.heap.size + 1) (zO 0 0 0 0 Sl.nil 0 0));have hby := HR2.out.all 0 0 0 0 Sl.nil 0 0;have HBz := zh (zD (B := w.heap.size) (b := (w.heap.size + 1)) (by omega) (zO 0 0 0 0 Sl.nil 0 0) HB2.out);have hrd := HR0.out (pts w2 (w.heap.size + 1) (zO 0 0 0 0 Sl.nil 0 0));rw [HPR.out];generalize pts w2 (w.heap.size + 1) (zO 0 0 0 0 Sl.nil 0 0) = V at *
  exact bodyPost_ret (v := .tuple #[ze 0 0 0 0 Sl.nil 0 0, .int .i64 1]) (by simp [results, Tryz.results43, go_sem, hby.n0, hby.n1, hby.n2, hby.n3, hby.c0, hby.c1, hby.c2, hby.c3, hby.c4, hby.c5, hby.c6, hby.c7, hby.cl, hby.cg]) rfl ⟨⟨_, rfl, hrd⟩, HBz.out⟩
 have hin : i = n := by omega
 have HOn := zh (show ∀ j, j < n → (yZ es j).1.ok from hin ▸ HOi.out);clear HOi;rw [hin, HFull.out] at hal;rw [hin, HFull.out];clear hin hi;have hokl : zAB N = true := HOkI.out.2 (HOkA.out HOn.out);have HG2 := zh (show TG = (if md = 1 then (if z + (szL N : Int) ≤ 1048576 then (0, zV ⟨gn, rv, md, z, ⟨f, L, G⟩⟩ N) else (9, gn0)) else (12, gn0)) by rw [HG.out, if_pos ⟨trivial, hokl⟩]);clear HG hokl
 by_cases hmd : md = 1
 ·
  have e1 : (md == 1) = true := by rw [hmd]; rfl
  by_cases hfit : z + (szL N : Int) ≤ 1048576
  ·
   have HPR := zh (show TG = (0, zV ⟨gn, rv, md, z, ⟨f, L, G⟩⟩ N) by rw [HG2.out, if_pos hmd, if_pos hfit]);have e2 : decide (1048576 < z + (szL N : Int)) = false := by simp; omega
   clear HG2;have hmds := hmd;subst hmd;obtain ⟨g0, hg0⟩ : ∃ g0 : Gn, (⟨gn, rv, 1, z, ⟨f, L, G⟩⟩ : Gn) = g0 := ⟨_, rfl⟩
   have HLn0 := zh (show ∀ i, i ≤ n → ∀ j, j < 8 → ((zV g0 (N.take i)).m.st j).length ≤ 9000 from fun i hi j hj => by
    have h1 := HLn.out i hi j hj
    have h2 : (N.take i).length ≤ n := by rw [List.length_take]; omega
    rw [← hg0]; omega)
   have HSt0 := zh (show ∀ i, i < n → zV g0 (N.take (i + 1)) = yM (zV g0 (N.take i)) (yZ es i).1 from fun i hi => by rw [HTk.out i hi, k8]);have HZz := zh (show ∀ i, i ≤ n → (zV g0 (N.take i)).size = z + (szL (N.take i) : Int) from fun i _ => by rw [wk, ← hg0]);have HPR0 := zh (show TG = (0, zV g0 N) from by rw [← hg0]; exact HPR.out);have Hst := zh (show zV g0 (N.take 0) = ⟨gn, rv, 1, z, ⟨f, L, G⟩⟩ from by rw [← hg0]; rfl);have HNum := zh (show (zV g0 N).num = gn ∧ (zV g0 N).rev = rv ∧ (zV g0 N).mode = 1 from by rw [← hg0]; exact qD N _);have HOkn := zh (show ∀ i, i < n → (yZ es i).1.ok from HOn.out);clear HPR HLn HTk hg0 HOkI HOkA HOkM HMem HOn;obtain ⟨x0, x1, x2, x3, x4, x5, x6, x7, x8, x9, x10, x11, x12, x13⟩ := HXi.out.q;go_wp2_with fail
   go_loopw [8] (fun iv W => ∃ (i : Nat) (si : Sl), iv = .int .i64 (i : Int) ∧ i ≤ n ∧ Hid (BoxG W w.heap.size gn rv 1 (zV g0 (N.take i)).size si (zV g0 (N.take i)).m.live (zV g0 (N.take i)).m.garb) ∧ Hid (OldOwn W (w.heap.size + 2) s f si (zV g0 (N.take i)).m.st) ∧ Hid (BoxG W (w.heap.size + 1) 0 0 0 0 Sl.nil 0 0) ∧ Hid (Below w.heap.size w W)) (fun iv _ => n - (intOf iv).toNat)
   case atStart => exact ⟨0, s, rfl, Nat.zero_le _, by rw [Hst.out]; exact HXi, by rw [Hst.out]; exact zh (OldOwn.refl _ _ _ _), HRi, HBi⟩
   obtain ⟨i, si, rfl, hi, HXj, HOj, HRj, HBj⟩ := hrel;clear HXi HRi HBi;rename_i wr0
   by_cases hlt : i < n
   ·
    have i1 : (i : Int) < (n : Int) := by omega
    obtain ⟨b, off, rfl, hdat, c0, c1, c2, c3⟩ := (HRn.out.below HBj.out).at hlt;have hal2 := HAll.out i hi;have HLi := zh (HLn0.out i hi);have HSi := zh (HSt0.out i hlt);have hZi := HZz.out i hi;have hok := HOkn.out i hlt;have HRs := zh (HOj.out.rd HRm.out HBj.out);generalize yZ es i = X at c0 c1 c2 c3 hdat HSi hok;obtain ⟨x, xv⟩ := X;dsimp only at c0 c1 c2 c3 hdat HSi hok;obtain ⟨xa, xc, rfl, hx1, hx2⟩ := hdat.shape0;have hxm : x.data.length ≤ 4096 := hok.1;have HSn := zh (fun W => zBd x.data.length W (Nat.le_trans hxm (by decide)));clear hdat hok;have hxz := xg x.data.length;obtain ⟨W1, hW1⟩ : ∃ W1, wr.alloc (.cells (ndC x (.slice xa x.data.length xc)) 56) = W1 := ⟨_, rfl⟩
    have hbn := ut wr x (.slice xa x.data.length xc);have hdn := BoxD.new wr x (.slice xa x.data.length xc);rw [hW1] at hbn hdn;have HD := zh hdn;have HBn := zh hbn;clear hbn hdn;have HXk := zh (HXj.out.below HBn.out);have HRk := zh (HRj.out.below HBn.out);have HRsk := zh (HRs.out.below HBn.out);have HBk := zh (zA HBj.out HBn.out);have hwr := HRj.out.lt;have hws := HBn.out.size;go_upto_region 18 with fail;clear hW1 c0 c1 c2 c3 HXj HRj HBj HRs;obtain ⟨d0, d1, d2, d3⟩ := HD.out.q;generalize hm : x.data.length = m at *;have Hm := zh hm;clear hm;go_wp2_with fail;refine (HSn.out _).mono ?_;rintro e w3 ⟨rfl, rfl⟩;generalize hgi : zV g0 (N.take i) = gi at *;clear hgi;obtain ⟨an, ar, am, az, ⟨af, aL, aG⟩⟩ := gi;dsimp only at *;clear x0 x1 x2 x3 x4 x5 x6 x7 x8 x9 x10 x11 x12 x13;have x4 := HXk.out.c0;have x5 := HXk.out.c1;have x6 := HXk.out.c2;have x7 := HXk.out.c3;have x8 := HXk.out.c4
    have x9 := HXk.out.c5;have x10 := HXk.out.c6;have x11 := HXk.out.c7;have x12 := HXk.out.cl;have x13 := HXk.out.cg;have x3 := HXk.out.n3;have xf := HXk.out.f;have hz3 : 0 ≤ az ∧ az ≤ 50000000 := by omega
    obtain ⟨hz4, hz5⟩ := hz3;clear hZi hal2
    cases hdl : x.del
    ·
     rw [hdl] at d2;have HP := zh (zIp si ⟨af, aL, aG⟩ ⟨(x.key : Int), (x.ck : Int), az, (m : Int)⟩ W1 HRsk.out HLi.out)
     have HSi2 := zh (show zV g0 (N.take (i + 1)) = ⟨an, ar, am, az + (szN m : Nat), wB ⟨af, aL, aG⟩ ⟨(x.key : Int), (x.ck : Int), az, (m : Int)⟩⟩ by
      rw [HSi.out]; unfold yM itA; rw [hdl, Hm.out]; rfl)
     clear HSi;generalize wB ⟨af, aL, aG⟩ ⟨(x.key : Int), (x.ck : Int), az, (m : Int)⟩ = M4 at *;obtain ⟨bf, bL, bG⟩ := M4;dsimp only at HP;go_wp2_with fail;refine (HP.out).mono ?_;rintro e w5 ⟨⟨s4, rfl, ho⟩, hb4⟩;have HO5 := zh (HOj.out.step ho (zA HBn.out hb4) (by omega));have HX5 := zh (HXk.out.below hb4);have HR5 := zh (HRk.out.below hb4);have HB5 := zh (zA HBk.out hb4);clear x3 x4 x5 x6 x7 x8 x9 x10 x11 x12 x13 xf;clear d0 d1 d2 d3 HXk HRk HBk HRsk HD HOj;have x4 := HX5.out.c0;have x5 := HX5.out.c1;have x6 := HX5.out.c2;have x7 := HX5.out.c3;have x8 := HX5.out.c4;have x9 := HX5.out.c5;have x10 := HX5.out.c6;have x11 := HX5.out.c7;have x12 := HX5.out.cl;have x13 := HX5.out.cg;have x3 := HX5.out.n3;have xf := HX5.out.f;go_upto_region 22 with fail;change Code.wp _ _ _ _ (pts w5 w.heap.size (yd s4 bL bG));have HX6 := zh (HX5.out.map s4 bL bG)
     have HR6 := zh (HR5.out.pts_ne (show w.heap.size + 1 ≠ w.heap.size by omega) (yd s4 bL bG));have HB6 := zh (zD (B := w.heap.size) (b := w.heap.size) (Nat.le_refl _) (yd s4 bL bG) HB5.out);have HO6 := zh (HO5.out.pts (show w.heap.size < w.heap.size + 2 by omega) (yd s4 bL bG));generalize pts w5 w.heap.size (yd s4 bL bG) = w6 at *;clear HX5 HR5 HB5 HO5 x3 x4 x5 x6 x7 x8 x9 x10 x11 x12 x13 xf;have x3 := HX6.out.n3;have xf := HX6.out.f;go_upto_region 16 with fail;change Code.wp _ _ _ _ (pts w6 w.heap.size [(3, .int .i64 (az + (szN m : Nat)))]);have HX7 := zh (HX6.out.num3 (az + (szN m : Nat)));have HR7 := zh (HR6.out.pts_ne (show w.heap.size + 1 ≠ w.heap.size by omega) [(3, .int .i64 (az + (szN m : Nat)))]);have HB7 := zh (zD (B := w.heap.size) (b := w.heap.size) (Nat.le_refl _) [(3, .int .i64 (az + (szN m : Nat)))] HB6.out)
     have HO7 := zh (HO6.out.pts (show w.heap.size < w.heap.size + 2 by omega) [(3, .int .i64 (az + (szN m : Nat)))]);generalize pts w6 w.heap.size [(3, .int .i64 (az + (szN m : Nat)))] = w7 at *;clear HX6 HR6 HB6 HO6 x3 xf;go_wp2_with fail
     go_roundw
     case rel =>
      refine ⟨i + 1, s4, by go_num, by omega, ?_, ?_, HR7, HB7⟩
      ·
       rw [HSi2.out]; exact HX7
      rw [HSi2.out]; exact HO7
     case measure => simp [intOf]; omega
    rw [hdl] at d2;have HP := zh (zDQ si ⟨af, aL, aG⟩ (x.key : Int) W1 HRsk.out HLi.out)
    have HSi2 := zh (show zV g0 (N.take (i + 1)) = ⟨an, ar, am, az + (szN m : Nat), yh (yF ⟨af, aL, aG⟩ (x.key : Int)) (szN m : Nat)⟩ by
     rw [HSi.out]; unfold yM; rw [hdl, Hm.out]; rfl)
    have HLd := zh (fun j hj => Nat.le_trans (tV ⟨af, aL, aG⟩ (x.key : Int) HLi.out j hj) (show 9000 ≤ 10000 by decide));clear HSi;generalize yF ⟨af, aL, aG⟩ (x.key : Int) = M3 at *;obtain ⟨df, dL, dG⟩ := M3;dsimp only at HP;go_wp2_with fail;refine (HP.out).mono ?_;rintro e w4 ⟨⟨s4, rfl, ho⟩, hb4⟩;have HWs := zh (zDO s4 ⟨df, dL, dG⟩ (szN m : Nat) w4 (ho.rd HRsk.out hb4) HLd.out);have HWt := zh (vw ⟨df, dL, dG⟩ (szN m : Nat));have HO4 := zh (HOj.out.step ho (zA HBn.out hb4) (by omega));clear ho;generalize yh ⟨df, dL, dG⟩ (szN m : Nat) = M4 at *;obtain ⟨bf, bL, bG⟩ := M4;dsimp only at HWs HWt;go_wp2_with fail;refine (HWs.out).mono ?_;rintro e w5 ⟨rfl, hb5⟩;replace hb4 := zA hb4 hb5;have HO5 := zh ((HO4.out.keep hb5).eqM (fun i _ => congrFun HWt.out i));have HX5 := zh (HXk.out.below hb4);have HR5 := zh (HRk.out.below hb4);have HB5 := zh (zA HBk.out hb4)
    clear x3 x4 x5 x6 x7 x8 x9 x10 x11 x12 x13 xf;clear d0 d1 d2 d3 HXk HRk HBk HRsk HD HOj;have x4 := HX5.out.c0;have x5 := HX5.out.c1;have x6 := HX5.out.c2;have x7 := HX5.out.c3;have x8 := HX5.out.c4;have x9 := HX5.out.c5;have x10 := HX5.out.c6;have x11 := HX5.out.c7;have x12 := HX5.out.cl;have x13 := HX5.out.cg;have x3 := HX5.out.n3;have xf := HX5.out.f;go_upto_region 22 with fail;change Code.wp _ _ _ _ (pts w5 w.heap.size (yd s4 bL bG));have HX6 := zh (HX5.out.map s4 bL bG);have HR6 := zh (HR5.out.pts_ne (show w.heap.size + 1 ≠ w.heap.size by omega) (yd s4 bL bG));have HB6 := zh (zD (B := w.heap.size) (b := w.heap.size) (Nat.le_refl _) (yd s4 bL bG) HB5.out);have HO6 := zh (HO5.out.pts (show w.heap.size < w.heap.size + 2 by omega) (yd s4 bL bG));generalize pts w5 w.heap.size (yd s4 bL bG) = w6 at *;clear HX5 HR5 HB5 HO5 x3 x4 x5 x6 x7 x8 x9 x10 x11 x12 x13 xf;have x3 := HX6.out.n3
    have xf := HX6.out.f;go_upto_region 16 with fail;change Code.wp _ _ _ _ (pts w6 w.heap.size [(3, .int .i64 (az + (szN m : Nat)))]);have HX7 := zh (HX6.out.num3 (az + (szN m : Nat)));have HR7 := zh (HR6.out.pts_ne (show w.heap.size + 1 ≠ w.heap.size by omega) [(3, .int .i64 (az + (szN m : Nat)))]);have HB7 := zh (zD (B := w.heap.size) (b := w.heap.size) (Nat.le_refl _) [(3, .int .i64 (az + (szN m : Nat)))] HB6.out);have HO7 := zh (HO6.out.pts (show w.heap.size < w.heap.size + 2 by omega) [(3, .int .i64 (az + (szN m : Nat)))]);generalize pts w6 w.heap.size [(3, .int .i64 (az + (szN m : Nat)))] = w7 at *;clear HX6 HR6 HB6 HO6 x3 xf;go_wp2_with fail
    go_roundw
    case rel =>
     refine ⟨i + 1, s4, by go_num, by omega, ?_, ?_, HR7, HB7⟩
     ·
      rw [HSi2.out]; exact HX7
     rw [HSi2.out]; exact HO7
    case measure => simp [intOf]; omega
   have hin : i = n := by omega
   rw [hin, HFull.out] at HXj HOj;rw [hin];clear hin hi;obtain ⟨hn1, hn2, hn3⟩ := HNum.out;generalize hgA : zV g0 N = gA at *;obtain ⟨an, ar, am, az, ⟨af, aL, aG⟩⟩ := gA;dsimp only at HXj HOj hn1 hn2 hn3 HPR0;subst hn1 hn2 hn3;clear hgA;obtain ⟨x0, x1, x2, x3, x4, x5, x6, x7, x8, x9, x10, x11, x12, x13⟩ := HXj.out.q;obtain ⟨r0, r1, r2, r3, r4, r5, r6, r7, r8, r9, r10, r11, r12, r13⟩ := HRj.out.q;have rf := HRj.out.f;go_wp2_with fail;change bodyPost _ _ _ _ _ (pts wr (w.heap.size + 1) (zO an ar 1 az si aL aG));have hby := HRj.out.all an ar 1 az si aL aG;have HBz := zh (zD (B := w.heap.size) (b := (w.heap.size + 1)) (by omega) (zO an ar 1 az si aL aG) HBj.out);have hrd := (HOj.out.pts (show w.heap.size + 1 < w.heap.size + 2 by omega) (zO an ar 1 az si aL aG)).mono (show w.heap.size ≤ w.heap.size + 2 by omega);rw [HPR0.out]
   generalize pts wr (w.heap.size + 1) (zO an ar 1 az si aL aG) = V at *;exact bodyPost_ret (v := .tuple #[ze an ar 1 az si aL aG, .int .i64 0]) (by simp [results, Tryz.results43, go_sem, hby.n0, hby.n1, hby.n2, hby.n3, hby.c0, hby.c1, hby.c2, hby.c3, hby.c4, hby.c5, hby.c6, hby.c7, hby.cl, hby.cg]) rfl ⟨⟨_, rfl, hrd⟩, HBz.out⟩
  have HPR := zh (show TG = (9, gn0) by rw [HG2.out, if_pos hmd, if_neg hfit]);have e2 : decide (1048576 < z + (szL N : Int)) = true := by simp; omega
  clear HG2;obtain ⟨x0, x1, x2, x3, x4, x5, x6, x7, x8, x9, x10, x11, x12, x13⟩ := HXi.out.q;obtain ⟨r0, r1, r2, r3, r4, r5, r6, r7, r8, r9, r10, r11, r12, r13⟩ := HRi.out.q;have rf := HRi.out.f;go_wp2_with fail;change bodyPost _ _ _ _ _ (pts wr (w.heap.size + 1) (zO 0 0 0 0 Sl.nil 0 0));have hby := HRi.out.all 0 0 0 0 Sl.nil 0 0;have HBz := zh (zD (B := w.heap.size) (b := (w.heap.size + 1)) (by omega) (zO 0 0 0 0 Sl.nil 0 0) HBi.out);have hrd := HR0.out (pts wr (w.heap.size + 1) (zO 0 0 0 0 Sl.nil 0 0));rw [HPR.out];generalize pts wr (w.heap.size + 1) (zO 0 0 0 0 Sl.nil 0 0) = V at *;exact bodyPost_ret (v := .tuple #[ze 0 0 0 0 Sl.nil 0 0, .int .i64 9]) (by simp [results, Tryz.results43, go_sem, hby.n0, hby.n1, hby.n2, hby.n3, hby.c0, hby.c1, hby.c2, hby.c3, hby.c4, hby.c5, hby.c6, hby.c7, hby.cl, hby.cg]) rfl ⟨⟨_, rfl, hrd⟩, HBz.out⟩
 have HPR := zh (show TG = (12, gn0) by rw [HG2.out, if_neg hmd]);have e1 : (md == 1) = false := beq_eq_false_iff_ne.2 hmd;clear HG2;obtain ⟨x0, x1, x2, x3, x4, x5, x6, x7, x8, x9, x10, x11, x12, x13⟩ := HXi.out.q;obtain ⟨r0, r1, r2, r3, r4, r5, r6, r7, r8, r9, r10, r11, r12, r13⟩ := HRi.out.q;have rf := HRi.out.f;go_wp2_with fail;change bodyPost _ _ _ _ _ (pts wr (w.heap.size + 1) (zO 0 0 0 0 Sl.nil 0 0));have hby := HRi.out.all 0 0 0 0 Sl.nil 0 0;have HBz := zh (zD (B := w.heap.size) (b := (w.heap.size + 1)) (by omega) (zO 0 0 0 0 Sl.nil 0 0) HBi.out);have hrd := HR0.out (pts wr (w.heap.size + 1) (zO 0 0 0 0 Sl.nil 0 0));rw [HPR.out];generalize pts wr (w.heap.size + 1) (zO 0 0 0 0 Sl.nil 0 0) = V at *
 exact bodyPost_ret (v := .tuple #[ze 0 0 0 0 Sl.nil 0 0, .int .i64 12]) (by simp [results, Tryz.results43, go_sem, hby.n0, hby.n1, hby.n2, hby.n3, hby.c0, hby.c1, hby.c2, hby.c3, hby.c4, hby.c5, hby.c6, hby.c7, hby.cl, hby.cg]) rfl ⟨⟨_, rfl, hrd⟩, HBz.out⟩
end Go.Proofs.YtcgfilmmokmdjaaGreat
