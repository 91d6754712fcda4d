/- A part of the walk. -/
import Derived.Test.YtcgfilmmokmdjaaGreatQAI
import Derived.Test.YtcgfilmmokmdjaaGreatHj
set_option maxRecDepth 100000
set_option maxHeartbeats 32000000
namespace Go.Proofs.YtcgfilmmokmdjaaGreat
open Go.RowKit
theorem zLV (l : List Nd) : g_ l ≤ l.length * 4127 := by
 induction l with
 | nil => exact au _
 | cons x r ih =>
  have := xx x.data.length;rw [wu, aY, c_];omega
theorem Xm {es : List (Nd × Value)} {i : Nat} (h : i < es.length) : (es.map (·.1)).take (i + 1) = (es.map (·.1)).take i ++ [(xb es i).1] := by
 rw [cU, b8, aB h];unfold xb;rw [ax, aB h]
 rfl
theorem tJ (l : List Nd) : Ec l = true ↔ ∀ x ∈ l, x.ok := by
 unfold Ec;rw [dA];exact ⟨fun h x hx => a_ (h x hx), fun h x hx => aF (h x hx)⟩
theorem zIp (g : Gn) (s : Sl) (v : Value) (es : List (Nd × Value)) (K : Nat) (w : World) (h : fp w s g.m.st) (hs : ∀ i, i < 8 → (g.m.st i).length ≤ K) (hr : mK w v es) (hK : K + es.length ≤ 9000) (iw : ∀ p ∈ es, p.1.data.length ≤ 1000000) :
  Calls Tryz.prog 43 #[za g.num g.rev g.mode g.size s g.m.live g.m.dR, v] w (Lw w s g.m.st (yt g (es.map (·.1)))) := by
 obtain ⟨va, vc, rfl, ry, oG⟩ := hr.shape;have CG : ∀ i, i < 8 → (g.m.st i).length ≤ 10000 := fun i hi => ak (hs i hi) (by omega)
 have HV := zh (fun W (hb : Below w.heap.size w W) => vr g s W (h.below hb) CG);have jP := zh hr;have H7 := zh h;have jO := zh (show ∀ W, eL W w.heap.size s g.m.st Sl.nil fT.m.st from fun W => eL.nil W _ _ _);have HG := zh (show yt g (es.map (·.1)) = if wB g = true ∧ Ec (es.map (·.1)) = true then (if g.mode = 1 then (if g.size + (g_ (es.map (·.1)) : Int) ≤ 1048576 then (0, zb g (es.map (·.1))) else (9, fT)) else (12, fT)) else (1, fT) from rfl);have iz := zh (show wB g = true → 16 ≤ g.size ∧ g.size ≤ 1048576 from fun hv => ⟨((yD g).1 hv).size.1, ((yD g).1 hv).size.2.1⟩);have iM := zh (fun i (hi : i ≤ es.length) => wL ((es.map (·.1)).take i) g hs);have rB := zh (fun i (hi : i < es.length) => iw _ (uM hi));have H8 := zh (fun i (hi : i < es.length) => @Xm es i hi)
 have ny := zh (show ∀ i, i ≤ es.length → g_ ((es.map (·.1)).take i) ≤ 9000 * 4127 from fun i hi => by
  have h1 := zLV ((es.map (·.1)).take i)
  have h2 : ((es.map (·.1)).take i).length ≤ 9000 := by rw [ay]; omega
  have := aX 4127 h2
  omega)
 have H9 := zh (tJ (es.map (·.1)));have LA := zh (show ∀ i, i < es.length → (xb es i).1 ∈ es.map (·.1) from fun i hi => cV (uM hi));have lR := zh (show (es.map (·.1)).take es.length = es.map (·.1) from aS (by rw [aI]; omega))
 have LB := zh (show (∀ j, j < es.length → (xb es j).1.ok) → ∀ x ∈ es.map (·.1), x.ok from fun hh x hx => by
  obtain ⟨p, hp, rfl⟩ := List.mem_map.1 hx
  obtain ⟨j, hj, rfl⟩ := b_ hp
  have := hh j hj
  unfold xb at this
  rw [ax, aB hj] at this
  exact this)
 clear hr h hs CG iw;generalize hN : es.map (·.1) = N at *;generalize hnn : es.length = n at *;have Rr := zh hnn;clear hnn hN;obtain ⟨gn, rv, md, z, ⟨f, L, G⟩⟩ := g;generalize nN : (⟨gn, rv, md, z, ⟨f, L, G⟩⟩ : Gn) = g at *;have Rs := zh nN;obtain ⟨W, hW, fa, f_, fu⟩ := wU w gn rv md z s L G 113;have HX := zh fa;have HR := zh f_;have HB := zh fu;clear fa f_ fu;generalize yt g N = TG at *;generalize wB g = vb at *;subst nN;dsimp only at *
 go_enter Tryz.func43, Tryz.ntmps43
 go_upto_region 1 with fail;change Code.wp _ _ _ _ ((w.alloc (.cells (zW gn rv md z s L G) 113)).alloc (.cells (zW 0 0 0 0 Sl.nil 0 0) 113));rw [hW];clear hW;obtain ⟨x0, x1, x2, x3, x4, x5, x6, x7, x8, x9, fI, fJ, fG, fH⟩ := HX.out.q;go_wp2_with fail;refine (HV.out _ HB.out).mono ?_;rintro e w1 ⟨rfl, dW⟩;have fk := zh (HX.out.below dW);have eY := zh (HR.out.below dW);have eO := zh (zA HB.out dW);have hlr : w.heap.size + 1 < W.heap.size := HR.out.lt;clear x0 x1 x2 x3 x4 x5 x6 x7 x8 x9 fI fJ fG fH;clear dW HX HR HB HV
 cases vb
 ·
  have iR := zh (show TG = (1, fT) by rw [HG.out, ah (fun h => by cases h.1)]);obtain ⟨r0, r1, r2, r3, r4, r5, r6, r7, r8, r9, lK, lq, l6, mO⟩ := eY.out.q;have rf := eY.out.f;go_wp2_with fail;change bodyPost _ _ _ _ _ (pts w1 (w.heap.size + 1) (zL 0 0 0 0 Sl.nil 0 0));have hby := eY.out.all 0 0 0 0 Sl.nil 0 0;have ea := zh (zD (B := w.heap.size) (b := (w.heap.size + 1)) (by omega) (zL 0 0 0 0 Sl.nil 0 0) eO.out);have gw := jO.out (pts w1 (w.heap.size + 1) (zL 0 0 0 0 Sl.nil 0 0));rw [iR.out];generalize pts w1 (w.heap.size + 1) (zL 0 0 0 0 Sl.nil 0 0) = V at *;exact aw (v := .tuple #[za 0 0 0 0 Sl.nil 0 0, .int .i64 1]) (by simp [results, Tryz.results43, go_sem, hby.q]) rfl ⟨⟨_, rfl, gw⟩, ea.out⟩
 obtain ⟨mf, gV⟩ := iz.out rfl;obtain ⟨x0, x1, x2, x3, x4, x5, x6, x7, x8, x9, fI, fJ, fG, fH⟩ := fk.out.q;go_wp2_with fail
 go_loopw [6, 7] (fun sv iv W => ∃ i : Nat, iv = .int .i64 (i : Int) ∧ sv = .int .i64 (z + (g_ (N.take i) : Int)) ∧ i ≤ n ∧ Hid (∀ j, j < i → (xb es j).1.ok) ∧ Hid (eu W w.heap.size gn rv md z s L G) ∧ Hid (eu W (w.heap.size + 1) 0 0 0 0 Sl.nil 0 0) ∧ Hid (Below w.heap.size w W)) (fun _ iv _ => n - (intOf iv).toNat)
 case atStart => exact ⟨0, rfl, by simp [g_], au _, zh (fun j hj => by omega), fk, eY, eO⟩
 obtain ⟨i, rfl, rfl, hi, pP, mV, iX, iA⟩ := eT;clear fk eY eO;have W5 := ny.out i hi
 by_cases hlt : i < n
 ·
  obtain ⟨b, off, rfl, jr, c0, c1, c2, c3⟩ := (jP.out.below iA.out).at hlt;have H_ := rB.out i hlt;have JN := zh (H8.out i hlt);have Rt := zh (LA.out i hlt)
  have sQ := zh (show (xb es i).1.ok → ∀ j, j < i + 1 → (xb es j).1.ok from fun ho j hj => by
   by_cases e : j = i
   ·
    subst e; exact ho
   exact pP.out j (by omega))
  have Ia := ny.out (i + 1) hlt;generalize xb es i = X at c0 c1 c2 c3 jr H_ JN Rt sQ;obtain ⟨x, xv⟩ := X;dsimp only at c0 c1 c2 c3 jr H_ JN Rt sQ;obtain ⟨xa, xc, rfl, hx1, hx2⟩ := jr.gq;have Dj := zh (fun W => zC6 x xa xc W);have Ib := zh (fun W => UN x.data.length W H_);rw [JN.out, kY] at Ia;have i1 : (i : Int) < (n : Int) := by omega
  clear jr
  by_cases hok : x.ok
  ·
   rw [aF hok] at Dj;go_wp2_with fail;refine (Dj.out _).mono ?_;rintro e w2 ⟨rfl, ez⟩;have c3' := ez.keeps' c3;have fQ := zh (mV.out.below ez);have fU := zh (iX.out.below ez);have eN := zh (zA iA.out ez);clear ez c0 c1 c2 c3 mV iX iA;generalize hm : x.data.length = m at *;have Hm := zh hm;clear hm;go_wp2_with fail;refine (Ib.out _).mono ?_;rintro e w3 ⟨rfl, rfl⟩;go_wp2_with fail
   go_roundw
   case rel => exact ⟨i + 1, by go_num, by rw [JN.out, kY, Hm.out, cT, Int.add_assoc], by omega, zh (sQ.out hok), fQ, fU, eN⟩
   case measure => simp [intOf]; omega
  have iR := zh (show TG = (1, fT) by rw [HG.out, ah (fun h => hok (H9.out.1 h.2 x Rt.out))]);rw [aD hok] at Dj;go_wp2_with fail;refine (Dj.out _).mono ?_;rintro e w2 ⟨rfl, ez⟩;have fQ := zh (mV.out.below ez);have fU := zh (iX.out.below ez);have eN := zh (zA iA.out ez);clear ez c0 c1 c2 c3 mV iX iA;obtain ⟨r0, r1, r2, r3, r4, r5, r6, r7, r8, r9, lK, lq, l6, mO⟩ := fU.out.q;have rf := fU.out.f;go_wp2_with fail;change bodyPost _ _ _ _ _ (pts w2 (w.heap.size + 1) (zL 0 0 0 0 Sl.nil 0 0));have hby := fU.out.all 0 0 0 0 Sl.nil 0 0;have ea := zh (zD (B := w.heap.size) (b := (w.heap.size + 1)) (by omega) (zL 0 0 0 0 Sl.nil 0 0) eN.out);have gw := jO.out (pts w2 (w.heap.size + 1) (zL 0 0 0 0 Sl.nil 0 0));rw [iR.out];generalize pts w2 (w.heap.size + 1) (zL 0 0 0 0 Sl.nil 0 0) = V at *
  exact aw (v := .tuple #[za 0 0 0 0 Sl.nil 0 0, .int .i64 1]) (by simp [results, Tryz.results43, go_sem, hby.q]) rfl ⟨⟨_, rfl, gw⟩, ea.out⟩
 have hin : i = n := by omega
 have CH := zh (show ∀ j, j < n → (xb es j).1.ok from hin ▸ pP.out);clear pP;rw [hin, lR.out] at W5;rw [hin, lR.out];clear hin hi;have LC : Ec N = true := H9.out.2 (LB.out CH.out);have iE := zh (show TG = (if md = 1 then (if z + (g_ N : Int) ≤ 1048576 then (0, zb ⟨gn, rv, md, z, ⟨f, L, G⟩⟩ N) else (9, fT)) else (12, fT)) by rw [HG.out, ag ⟨trivial, LC⟩]);clear HG LC
 by_cases mT : md = 1
 ·
  have e1 : (md == 1) = true := by rw [mT]; rfl
  by_cases hfit : z + (g_ N : Int) ≤ 1048576
  ·
   have iR := zh (show TG = (0, zb ⟨gn, rv, md, z, ⟨f, L, G⟩⟩ N) by rw [iE.out, ag mT, ag hfit]);have e2 : decide (1048576 < z + (g_ N : Int)) = false := by simp; omega
   clear iE;have ae6 := mT;subst mT;obtain ⟨g0, sj⟩ : ∃ g0 : Gn, (⟨gn, rv, 1, z, ⟨f, L, G⟩⟩ : Gn) = g0 := ⟨_, rfl⟩
   have EY := zh (show ∀ i, i ≤ n → ∀ j, j < 8 → ((zb g0 (N.take i)).m.st j).length ≤ 9000 from fun i hi j hj => by
    have h1 := iM.out i hi j hj
    have h2 : (N.take i).length ≤ n := by rw [ay]; omega
    rw [← sj]; omega)
   have Ic := zh (show ∀ i, i < n → zb g0 (N.take (i + 1)) = yT (zb g0 (N.take i)) (xb es i).1 from fun i hi => by rw [H8.out i hi, tY]);have Ru := zh (show ∀ i, i ≤ n → (zb g0 (N.take i)).size = z + (g_ (N.take i) : Int) from fun i _ => by rw [wP, ← sj]);have oW := zh (show TG = (0, zb g0 N) from by rw [← sj]; exact iR.out);have LD := zh (show zb g0 (N.take 0) = ⟨gn, rv, 1, z, ⟨f, L, G⟩⟩ from by rw [← sj]; rfl);have Ie := zh (show (zb g0 N).num = gn ∧ (zb g0 N).rev = rv ∧ (zb g0 N).mode = 1 from by rw [← sj]; exact uc N _);have Rv := zh (show ∀ i, i < n → (xb es i).1.ok from CH.out);clear iR iM H8 sj H9 LB LA rB CH;obtain ⟨x0, x1, x2, x3, x4, x5, x6, x7, x8, x9, fI, fJ, fG, fH⟩ := mV.out.q;go_wp2_with fail
   go_loopw [8] (fun iv W => ∃ (i : Nat) (si : Sl), iv = .int .i64 (i : Int) ∧ i ≤ n ∧ Hid (eu W w.heap.size gn rv 1 (zb g0 (N.take i)).size si (zb g0 (N.take i)).m.live (zb g0 (N.take i)).m.dR) ∧ Hid (eL W (w.heap.size + 2) s f si (zb g0 (N.take i)).m.st) ∧ Hid (eu W (w.heap.size + 1) 0 0 0 0 Sl.nil 0 0) ∧ Hid (Below w.heap.size w W)) (fun iv _ => n - (intOf iv).toNat)
   case atStart => exact ⟨0, s, rfl, au _, by rw [LD.out]; exact mV, by rw [LD.out]; exact zh (eL.refl _ _ _ _), iX, iA⟩
   obtain ⟨i, si, rfl, hi, Bq, Af, B4, nA⟩ := eT;clear mV iX iA;rename_i wr0
   by_cases hlt : i < n
   ·
    have i1 : (i : Int) < (n : Int) := by omega
    obtain ⟨b, off, rfl, jr, c0, c1, c2, c3⟩ := (jP.out.below nA.out).at hlt;have Ia := ny.out i hi;have Bl := zh (EY.out i hi);have nz := zh (Ic.out i hlt);have N9 := Ru.out i hi;have hok := Rv.out i hlt;have lN := zh (Af.out.rd H7.out nA.out);generalize xb es i = X at c0 c1 c2 c3 jr nz hok;obtain ⟨x, xv⟩ := X;dsimp only at c0 c1 c2 c3 jr nz hok;obtain ⟨xa, xc, rfl, hx1, hx2⟩ := jr.gq;have H_ : x.data.length ≤ 4096 := hok.1;have Ib := zh (fun W => UN x.data.length W (ak H_ (by decide)));clear jr hok;have hxz := xx x.data.length;obtain ⟨W1, Ct⟩ : ∃ W1, wr.alloc (.cells (Li x (.slice xa x.data.length xc)) 56) = W1 := ⟨_, rfl⟩
    have jg := Rb wr x (.slice xa x.data.length xc);have n5 := AK.new wr x (.slice xa x.data.length xc);rw [Ct] at jg n5;have HD := zh n5;have gI := zh jg;clear jg n5;have jU := zh (Bq.out.below gI.out);have pK := zh (B4.out.below gI.out);have oZ := zh (lN.out.below gI.out);have oH := zh (zA nA.out gI.out);have hwr := B4.out.lt;have hws := gI.out.size;go_upto_region 18 with fail;clear Ct c0 c1 c2 c3 Bq B4 nA lN;obtain ⟨d0, d1, d2, d3⟩ := HD.out.q;generalize hm : x.data.length = m at *;have Hm := zh hm;clear hm;go_wp2_with fail;refine (Ib.out _).mono ?_;rintro e w3 ⟨rfl, rfl⟩;generalize Rw : zb g0 (N.take i) = gi at *;clear Rw;obtain ⟨an, ar, am, az, ⟨af, aL, aG⟩⟩ := gi;dsimp only at *;clear x0 x1 x2 x3 x4 x5 x6 x7 x8 x9 fI fJ fG fH;have x4 := jU.out.c0;have x5 := jU.out.c1;have x6 := jU.out.c2;have x7 := jU.out.c3;have x8 := jU.out.c4;have x9 := jU.out.c5;have fI := jU.out.c6
    have fJ := jU.out.c7;have fG := jU.out.cl;have fH := jU.out.cg;have x3 := jU.out.n3;have xf := jU.out.f;have D5 : 0 ≤ az ∧ az ≤ 50000000 := by omega
    obtain ⟨Rx, FO⟩ := D5;clear N9 Ia
    cases iw : x.del
    ·
     rw [iw] at d2;have HP := zh (zJN si ⟨af, aL, aG⟩ ⟨(x.key : Int), (x.ck : Int), az, (m : Int)⟩ W1 oZ.out Bl.out)
     have od := zh (show zb g0 (N.take (i + 1)) = ⟨an, ar, am, az + (eG m : Nat), wQ ⟨af, aL, aG⟩ ⟨(x.key : Int), (x.ck : Int), az, (m : Int)⟩⟩ by
      rw [nz.out]; unfold yT Bj; rw [iw, Hm.out]; rfl)
     clear nz;generalize wQ ⟨af, aL, aG⟩ ⟨(x.key : Int), (x.ck : Int), az, (m : Int)⟩ = M4 at *;obtain ⟨bf, bL, bG⟩ := M4;dsimp only at HP;go_wp2_with fail;refine (HP.out).mono ?_;rintro e w5 ⟨⟨s4, rfl, ho⟩, hb4⟩;have jE := zh (Af.out.step ho (zA gI.out hb4) (by omega));have fh := zh (jU.out.below hb4);have jV := zh (pK.out.below hb4);have gj := zh (zA oH.out hb4);clear x3 x4 x5 x6 x7 x8 x9 fI fJ fG fH xf;clear d0 d1 d2 d3 jU pK oH oZ HD Af;have x4 := fh.out.c0;have x5 := fh.out.c1;have x6 := fh.out.c2;have x7 := fh.out.c3;have x8 := fh.out.c4;have x9 := fh.out.c5;have fI := fh.out.c6;have fJ := fh.out.c7;have fG := fh.out.cl;have fH := fh.out.cg;have x3 := fh.out.n3;have xf := fh.out.f;go_upto_region 22 with fail;change Code.wp _ _ _ _ (pts w5 w.heap.size (yp s4 bL bG));have ia := zh (fh.out.map s4 bL bG)
     have AV := zh (jV.out.ek (show w.heap.size + 1 ≠ w.heap.size by omega) (yp s4 bL bG));have jG := zh (zD (B := w.heap.size) (b := w.heap.size) (ai _) (yp s4 bL bG) gj.out);have mh := zh (jE.out.pts (show w.heap.size < w.heap.size + 2 by omega) (yp s4 bL bG));generalize pts w5 w.heap.size (yp s4 bL bG) = w6 at *;clear fh jV gj jE x3 x4 x5 x6 x7 x8 x9 fI fJ fG fH xf;have x3 := ia.out.n3;have xf := ia.out.f;go_upto_region 16 with fail;change Code.wp _ _ _ _ (pts w6 w.heap.size [(3, .int .i64 (az + (eG m : Nat)))]);have iG := zh (ia.out.EO (az + (eG m : Nat)));have Ig := zh (AV.out.ek (show w.heap.size + 1 ≠ w.heap.size by omega) [(3, .int .i64 (az + (eG m : Nat)))]);have BV := zh (zD (B := w.heap.size) (b := w.heap.size) (ai _) [(3, .int .i64 (az + (eG m : Nat)))] jG.out);have Bf := zh (mh.out.pts (show w.heap.size < w.heap.size + 2 by omega) [(3, .int .i64 (az + (eG m : Nat)))])
     generalize pts w6 w.heap.size [(3, .int .i64 (az + (eG m : Nat)))] = w7 at *;clear ia AV jG mh x3 xf;go_wp2_with fail
     go_roundw
     case rel =>
      refine ⟨i + 1, s4, by go_num, by omega, ?_, ?_, Ig, BV⟩
      ·
       rw [od.out]; exact iG
      rw [od.out]; exact Bf
     case measure => simp [intOf]; omega
    rw [iw] at d2;have HP := zh (Xa si ⟨af, aL, aG⟩ (x.key : Int) W1 oZ.out Bl.out)
    have od := zh (show zb g0 (N.take (i + 1)) = ⟨an, ar, am, az + (eG m : Nat), xA (yJ ⟨af, aL, aG⟩ (x.key : Int)) (eG m : Nat)⟩ by
     rw [nz.out]; unfold yT; rw [iw, Hm.out]; rfl)
    have Ry := zh (fun j hj => ak (qD ⟨af, aL, aG⟩ (x.key : Int) Bl.out j hj) (show 9000 ≤ 10000 by decide));clear nz;generalize yJ ⟨af, aL, aG⟩ (x.key : Int) = M3 at *;obtain ⟨df, dL, dG⟩ := M3;dsimp only at HP;go_wp2_with fail;refine (HP.out).mono ?_;rintro e w4 ⟨⟨s4, rfl, ho⟩, hb4⟩;have Eh := zh (zDr s4 ⟨df, dL, dG⟩ (eG m : Nat) w4 (ho.rd oZ.out hb4) Ry.out);have Xn := zh (uI ⟨df, dL, dG⟩ (eG m : Nat));have iy := zh (Af.out.step ho (zA gI.out hb4) (by omega));clear ho;generalize xA ⟨df, dL, dG⟩ (eG m : Nat) = M4 at *;obtain ⟨bf, bL, bG⟩ := M4;dsimp only at Eh Xn;go_wp2_with fail;refine (Eh.out).mono ?_;rintro e w5 ⟨rfl, iU⟩;replace hb4 := zA hb4 iU;have jE := zh ((iy.out.keep iU).Lv (fun i _ => congrFun Xn.out i));have fh := zh (jU.out.below hb4);have jV := zh (pK.out.below hb4);have gj := zh (zA oH.out hb4);clear x3 x4 x5 x6 x7 x8 x9 fI fJ fG fH xf;clear d0 d1 d2 d3 jU pK oH oZ HD Af
    have x4 := fh.out.c0;have x5 := fh.out.c1;have x6 := fh.out.c2;have x7 := fh.out.c3;have x8 := fh.out.c4;have x9 := fh.out.c5;have fI := fh.out.c6;have fJ := fh.out.c7;have fG := fh.out.cl;have fH := fh.out.cg;have x3 := fh.out.n3;have xf := fh.out.f;go_upto_region 22 with fail;change Code.wp _ _ _ _ (pts w5 w.heap.size (yp s4 bL bG));have ia := zh (fh.out.map s4 bL bG);have AV := zh (jV.out.ek (show w.heap.size + 1 ≠ w.heap.size by omega) (yp s4 bL bG));have jG := zh (zD (B := w.heap.size) (b := w.heap.size) (ai _) (yp s4 bL bG) gj.out);have mh := zh (jE.out.pts (show w.heap.size < w.heap.size + 2 by omega) (yp s4 bL bG));generalize pts w5 w.heap.size (yp s4 bL bG) = w6 at *;clear fh jV gj jE x3 x4 x5 x6 x7 x8 x9 fI fJ fG fH xf;have x3 := ia.out.n3;have xf := ia.out.f;go_upto_region 16 with fail;change Code.wp _ _ _ _ (pts w6 w.heap.size [(3, .int .i64 (az + (eG m : Nat)))])
    have iG := zh (ia.out.EO (az + (eG m : Nat)));have Ig := zh (AV.out.ek (show w.heap.size + 1 ≠ w.heap.size by omega) [(3, .int .i64 (az + (eG m : Nat)))]);have BV := zh (zD (B := w.heap.size) (b := w.heap.size) (ai _) [(3, .int .i64 (az + (eG m : Nat)))] jG.out);have Bf := zh (mh.out.pts (show w.heap.size < w.heap.size + 2 by omega) [(3, .int .i64 (az + (eG m : Nat)))]);generalize pts w6 w.heap.size [(3, .int .i64 (az + (eG m : Nat)))] = w7 at *;clear ia AV jG mh x3 xf;go_wp2_with fail
    go_roundw
    case rel =>
     refine ⟨i + 1, s4, by go_num, by omega, ?_, ?_, Ig, BV⟩
     ·
      rw [od.out]; exact iG
     rw [od.out]; exact Bf
    case measure => simp [intOf]; omega
   have hin : i = n := by omega
   rw [hin, lR.out] at Bq Af;rw [hin];clear hin hi;obtain ⟨Ag, lI, D9⟩ := Ie.out;generalize Rz : zb g0 N = gA at *;obtain ⟨an, ar, am, az, ⟨af, aL, aG⟩⟩ := gA;dsimp only at Bq Af Ag lI D9 oW;subst Ag lI D9;clear Rz;obtain ⟨x0, x1, x2, x3, x4, x5, x6, x7, x8, x9, fI, fJ, fG, fH⟩ := Bq.out.q;obtain ⟨r0, r1, r2, r3, r4, r5, r6, r7, r8, r9, lK, lq, l6, mO⟩ := B4.out.q;have rf := B4.out.f;go_wp2_with fail;change bodyPost _ _ _ _ _ (pts wr (w.heap.size + 1) (zL an ar 1 az si aL aG));have hby := B4.out.all an ar 1 az si aL aG;have ea := zh (zD (B := w.heap.size) (b := (w.heap.size + 1)) (by omega) (zL an ar 1 az si aL aG) nA.out);have gw := (Af.out.pts (show w.heap.size + 1 < w.heap.size + 2 by omega) (zL an ar 1 az si aL aG)).mono (show w.heap.size ≤ w.heap.size + 2 by omega);rw [oW.out];generalize pts wr (w.heap.size + 1) (zL an ar 1 az si aL aG) = V at *
   exact aw (v := .tuple #[za an ar 1 az si aL aG, .int .i64 0]) (by simp [results, Tryz.results43, go_sem, hby.q]) rfl ⟨⟨_, rfl, gw⟩, ea.out⟩
  have iR := zh (show TG = (9, fT) by rw [iE.out, ag mT, ah hfit]);have e2 : decide (1048576 < z + (g_ N : Int)) = true := by simp; omega
  clear iE;obtain ⟨x0, x1, x2, x3, x4, x5, x6, x7, x8, x9, fI, fJ, fG, fH⟩ := mV.out.q;obtain ⟨r0, r1, r2, r3, r4, r5, r6, r7, r8, r9, lK, lq, l6, mO⟩ := iX.out.q;have rf := iX.out.f;go_wp2_with fail;change bodyPost _ _ _ _ _ (pts wr (w.heap.size + 1) (zL 0 0 0 0 Sl.nil 0 0));have hby := iX.out.all 0 0 0 0 Sl.nil 0 0;have ea := zh (zD (B := w.heap.size) (b := (w.heap.size + 1)) (by omega) (zL 0 0 0 0 Sl.nil 0 0) iA.out);have gw := jO.out (pts wr (w.heap.size + 1) (zL 0 0 0 0 Sl.nil 0 0));rw [iR.out];generalize pts wr (w.heap.size + 1) (zL 0 0 0 0 Sl.nil 0 0) = V at *;exact aw (v := .tuple #[za 0 0 0 0 Sl.nil 0 0, .int .i64 9]) (by simp [results, Tryz.results43, go_sem, hby.q]) rfl ⟨⟨_, rfl, gw⟩, ea.out⟩
 have iR := zh (show TG = (12, fT) by rw [iE.out, ah mT]);have e1 : (md == 1) = false := beq_eq_false_iff_ne.2 mT;clear iE;obtain ⟨x0, x1, x2, x3, x4, x5, x6, x7, x8, x9, fI, fJ, fG, fH⟩ := mV.out.q;obtain ⟨r0, r1, r2, r3, r4, r5, r6, r7, r8, r9, lK, lq, l6, mO⟩ := iX.out.q;have rf := iX.out.f;go_wp2_with fail;change bodyPost _ _ _ _ _ (pts wr (w.heap.size + 1) (zL 0 0 0 0 Sl.nil 0 0));have hby := iX.out.all 0 0 0 0 Sl.nil 0 0;have ea := zh (zD (B := w.heap.size) (b := (w.heap.size + 1)) (by omega) (zL 0 0 0 0 Sl.nil 0 0) iA.out);have gw := jO.out (pts wr (w.heap.size + 1) (zL 0 0 0 0 Sl.nil 0 0));rw [iR.out];generalize pts wr (w.heap.size + 1) (zL 0 0 0 0 Sl.nil 0 0) = V at *;exact aw (v := .tuple #[za 0 0 0 0 Sl.nil 0 0, .int .i64 12]) (by simp [results, Tryz.results43, go_sem, hby.q]) rfl ⟨⟨_, rfl, gw⟩, ea.out⟩
end Go.Proofs.YtcgfilmmokmdjaaGreat
