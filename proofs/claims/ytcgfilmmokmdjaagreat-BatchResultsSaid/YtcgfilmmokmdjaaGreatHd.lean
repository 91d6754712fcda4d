/- A part of the walk. -/
import Derived.Test.YtcgfilmmokmdjaaGreatQAI
import Derived.Test.YtcgfilmmokmdjaaGreatHj
set_option linter.all false
set_option maxRecDepth 100000
set_option maxHeartbeats 32000000
namespace Go.Proofs.YtcgfilmmokmdjaaGreat
open Go.RowKit
theorem zLV (l : List Nd) : ic l ≤ l.length * 4127 := by
 induction l with
 | nil => exact au _
 | cons x r ih =>
  have := xx x.data.length;rw [wu, aX, dm];omega
theorem W7 {es : List (Nd × Value)} {i : Nat} (h : i < es.length) : (es.map (·.1)).take (i + 1) = (es.map (·.1)).take i ++ [(xb es i).1] := by
 rw [cV, cm, aB h];unfold xb;rw [ax, aB h]
 rfl
theorem tJ (l : List Nd) : D8 l = true ↔ ∀ x ∈ l, x.ok := by
 unfold D8;rw [dE];exact ⟨fun h x hx => aY (h x hx), fun h x hx => aF (h x hx)⟩
theorem zIp (g : Gn) (s : Sl) (v : Value) (es : List (Nd × Value)) (K : Nat) (w : World) (h : fw w s g.m.st) (hs : ∀ i, i < 8 → (g.m.st i).length ≤ K) (hr : mL w v es) (hK : K + es.length ≤ 9000) (iz : ∀ p ∈ es, p.1.data.length ≤ 1000000) :
  Calls Tryz.prog 43 #[za g.num g.rev g.mode g.size s g.m.live g.m.dW, v] w (K9 w s g.m.st (yt g (es.map (·.1)))) := by
 obtain ⟨va, vc, rfl, rB, hv2⟩ := hr.shape;have Cz : ∀ i, i < 8 → (g.m.st i).length ≤ 10000 := fun i hi => ak (hs i hi) (by omega)
 have HV := zh (fun W (hb : Below w.heap.size w W) => vr g s W (h.below hb) Cz);have jP := zh hr;have G9 := zh h;have jO := zh (show ∀ W, eO W w.heap.size s g.m.st Sl.nil fW.m.st from fun W => eO.nil W _ _ _);have HG := zh (show yt g (es.map (·.1)) = if wB g = true ∧ D8 (es.map (·.1)) = true then (if g.mode = 1 then (if g.size + (ic (es.map (·.1)) : Int) ≤ 1048576 then (0, zb g (es.map (·.1))) else (9, fW)) else (12, fW)) else (1, fW) from rfl);have iC := zh (show wB g = true → 16 ≤ g.size ∧ g.size ≤ 1048576 from fun hv => ⟨((yD g).1 hv).size.1, ((yD g).1 hv).size.2.1⟩);have iN := zh (fun i (hi : i ≤ es.length) => wL ((es.map (·.1)).take i) g hs);have rD := zh (fun i (hi : i < es.length) => iz _ (uM hi));have G_ := zh (fun i (hi : i < es.length) => @W7 es i hi)
 have nA := zh (show ∀ i, i ≤ es.length → ic ((es.map (·.1)).take i) ≤ 9000 * 4127 from fun i hi => by
  have h1 := zLV ((es.map (·.1)).take i)
  have h2 : ((es.map (·.1)).take i).length ≤ 9000 := by rw [ay]; omega
  have := aW 4127 h2
  omega)
 have Hd := zh (tJ (es.map (·.1)));have Ld := zh (show ∀ i, i < es.length → (xb es i).1 ∈ es.map (·.1) from fun i hi => cZ (uM hi));have lU := zh (show (es.map (·.1)).take es.length = es.map (·.1) from aR (by rw [aI]; omega))
 have Le := zh (show (∀ j, j < es.length → (xb es j).1.ok) → ∀ x ∈ es.map (·.1), x.ok from fun hh x hx => by
  obtain ⟨p, hp, rfl⟩ := List.mem_map.1 hx
  obtain ⟨j, hj, rfl⟩ := b8 hp
  have := hh j hj
  unfold xb at this
  rw [ax, aB hj] at this
  exact this)
 clear hr h hs Cz iz;generalize hN : es.map (·.1) = N at *;generalize hnn : es.length = n at *;have QZ := zh hnn;clear hnn hN;obtain ⟨gn, rv, md, z, ⟨f, L, G⟩⟩ := g;generalize nP : (⟨gn, rv, md, z, ⟨f, L, G⟩⟩ : Gn) = g at *;have Q0 := zh nP;obtain ⟨W, hW, fc, hbr, fB⟩ := wU w gn rv md z s L G 113;have HX := zh fc;have HR := zh hbr;have HB := zh fB;clear fc hbr fB;generalize yt g N = TG at *;generalize wB g = vb at *;subst nP;dsimp only at *
 go_enter Tryz.func43, Tryz.ntmps43
 go_upto_region 1 with fail;change Code.wp _ _ _ _ ((w.alloc (.cells (zW gn rv md z s L G) 113)).alloc (.cells (zW 0 0 0 0 Sl.nil 0 0) 113));rw [hW];clear hW;obtain ⟨x0, x1, x2, x3, x4, x5, x6, x7, x8, x9, fM, fN, fK, fL⟩ := HX.out.q;go_wp2_with fail;refine (HV.out _ HB.out).mono ?_;rintro e w1 ⟨rfl, hb1⟩;have fp := zh (HX.out.below hb1);have eY := zh (HR.out.below hb1);have eQ := zh (zA HB.out hb1);have hlr : w.heap.size + 1 < W.heap.size := HR.out.lt;clear x0 x1 x2 x3 x4 x5 x6 x7 x8 x9 fM fN fK fL;clear hb1 HX HR HB HV
 cases vb
 ·
  have iT := zh (show TG = (1, fW) by rw [HG.out, ah (fun h => by cases h.1)]);obtain ⟨r0, r1, r2, r3, r4, r5, r6, r7, r8, r9, lM, lr, l7, mP⟩ := eY.out.q;have rf := eY.out.f;go_wp2_with fail;change bodyPost _ _ _ _ _ (pts w1 (w.heap.size + 1) (zL 0 0 0 0 Sl.nil 0 0));have hby := eY.out.all 0 0 0 0 Sl.nil 0 0;have ek := zh (zD (B := w.heap.size) (b := (w.heap.size + 1)) (by omega) (zL 0 0 0 0 Sl.nil 0 0) eQ.out);have gB := jO.out (pts w1 (w.heap.size + 1) (zL 0 0 0 0 Sl.nil 0 0));rw [iT.out];generalize pts w1 (w.heap.size + 1) (zL 0 0 0 0 Sl.nil 0 0) = V at *;exact aw (v := .tuple #[za 0 0 0 0 Sl.nil 0 0, .int .i64 1]) (by simp [results, Tryz.results43, go_sem, hby.q]) rfl ⟨⟨_, rfl, gB⟩, ek.out⟩
 obtain ⟨hz1, hz2⟩ := iC.out rfl;obtain ⟨x0, x1, x2, x3, x4, x5, x6, x7, x8, x9, fM, fN, fK, fL⟩ := fp.out.q;go_wp2_with fail
 go_loopw [6, 7] (fun sv iv W => ∃ i : Nat, iv = .int .i64 (i : Int) ∧ sv = .int .i64 (z + (ic (N.take i) : Int)) ∧ i ≤ n ∧ Hid (∀ j, j < i → (xb es j).1.ok) ∧ Hid (eA W w.heap.size gn rv md z s L G) ∧ Hid (eA W (w.heap.size + 1) 0 0 0 0 Sl.nil 0 0) ∧ Hid (Below w.heap.size w W)) (fun _ iv _ => n - (intOf iv).toNat)
 case atStart => exact ⟨0, rfl, by simp [ic], au _, zh (fun j hj => by omega), fp, eY, eQ⟩
 obtain ⟨i, rfl, rfl, hi, pV, mX, iX, iD⟩ := hrel;clear fp eY eQ;have WI := nA.out i hi
 by_cases hlt : i < n
 ·
  obtain ⟨b, off, rfl, jr, c0, c1, c2, c3⟩ := (jP.out.below iD.out).at hlt;have Hj := rD.out i hlt;have Jw := zh (G_.out i hlt);have Q5 := zh (Ld.out i hlt)
  have sP := zh (show (xb es i).1.ok → ∀ j, j < i + 1 → (xb es j).1.ok from fun ho j hj => by
   by_cases e : j = i
   ·
    subst e; exact ho
   exact pV.out j (by omega))
  have Hl := nA.out (i + 1) hlt;generalize xb es i = X at c0 c1 c2 c3 jr Hj Jw Q5 sP;obtain ⟨x, xv⟩ := X;dsimp only at c0 c1 c2 c3 jr Hj Jw Q5 sP;obtain ⟨xa, xc, rfl, hx1, hx2⟩ := jr.gw;have Dc := zh (fun W => zC6 x xa xc W);have Hs := zh (fun W => Uw x.data.length W Hj);rw [Jw.out, kY] at Hl;have i1 : (i : Int) < (n : Int) := by omega
  clear jr
  by_cases hok : x.ok
  ·
   rw [aF hok] at Dc;go_wp2_with fail;refine (Dc.out _).mono ?_;rintro e w2 ⟨rfl, hb2⟩;have c3' := hb2.keeps' c3;have fU := zh (mX.out.below hb2);have fZ := zh (iX.out.below hb2);have eP := zh (zA iD.out hb2);clear hb2 c0 c1 c2 c3 mX iX iD;generalize hm : x.data.length = m at *;have Hm := zh hm;clear hm;go_wp2_with fail;refine (Hs.out _).mono ?_;rintro e w3 ⟨rfl, rfl⟩;go_wp2_with fail
   go_roundw
   case rel => exact ⟨i + 1, by go_num, by rw [Jw.out, kY, Hm.out, cU, Int.add_assoc], by omega, zh (sP.out hok), fU, fZ, eP⟩
   case measure => simp [intOf]; omega
  have iT := zh (show TG = (1, fW) by rw [HG.out, ah (fun h => hok (Hd.out.1 h.2 x Q5.out))]);rw [aD hok] at Dc;go_wp2_with fail;refine (Dc.out _).mono ?_;rintro e w2 ⟨rfl, hb2⟩;have fU := zh (mX.out.below hb2);have fZ := zh (iX.out.below hb2);have eP := zh (zA iD.out hb2);clear hb2 c0 c1 c2 c3 mX iX iD;obtain ⟨r0, r1, r2, r3, r4, r5, r6, r7, r8, r9, lM, lr, l7, mP⟩ := fZ.out.q;have rf := fZ.out.f;go_wp2_with fail;change bodyPost _ _ _ _ _ (pts w2 (w.heap.size + 1) (zL 0 0 0 0 Sl.nil 0 0));have hby := fZ.out.all 0 0 0 0 Sl.nil 0 0;have ek := zh (zD (B := w.heap.size) (b := (w.heap.size + 1)) (by omega) (zL 0 0 0 0 Sl.nil 0 0) eP.out);have gB := jO.out (pts w2 (w.heap.size + 1) (zL 0 0 0 0 Sl.nil 0 0));rw [iT.out];generalize pts w2 (w.heap.size + 1) (zL 0 0 0 0 Sl.nil 0 0) = V at *
  exact aw (v := .tuple #[za 0 0 0 0 Sl.nil 0 0, .int .i64 1]) (by simp [results, Tryz.results43, go_sem, hby.q]) rfl ⟨⟨_, rfl, gB⟩, ek.out⟩
 have hin : i = n := by omega
 have CA := zh (show ∀ j, j < n → (xb es j).1.ok from hin ▸ pV.out);clear pV;rw [hin, lU.out] at WI;rw [hin, lU.out];clear hin hi;have Lf : D8 N = true := Hd.out.2 (Le.out CA.out);have iG := zh (show TG = (if md = 1 then (if z + (ic N : Int) ≤ 1048576 then (0, zb ⟨gn, rv, md, z, ⟨f, L, G⟩⟩ N) else (9, fW)) else (12, fW)) by rw [HG.out, ag ⟨trivial, Lf⟩]);clear HG Lf
 by_cases mV : md = 1
 ·
  have e1 : (md == 1) = true := by rw [mV]; rfl
  by_cases hfit : z + (ic N : Int) ≤ 1048576
  ·
   have iT := zh (show TG = (0, zb ⟨gn, rv, md, z, ⟨f, L, G⟩⟩ N) by rw [iG.out, ag mV, ag hfit]);have e2 : decide (1048576 < z + (ic N : Int)) = false := by simp; omega
   clear iG;have aeC := mV;subst mV;obtain ⟨g0, hg0⟩ : ∃ g0 : Gn, (⟨gn, rv, 1, z, ⟨f, L, G⟩⟩ : Gn) = g0 := ⟨_, rfl⟩
   have EP := zh (show ∀ i, i ≤ n → ∀ j, j < 8 → ((zb g0 (N.take i)).m.st j).length ≤ 9000 from fun i hi j hj => by
    have h1 := iN.out i hi j hj
    have h2 : (N.take i).length ≤ n := by rw [ay]; omega
    rw [← hg0]; omega)
   have Hu := zh (show ∀ i, i < n → zb g0 (N.take (i + 1)) = yT (zb g0 (N.take i)) (xb es i).1 from fun i hi => by rw [G_.out i hi, tY]);have Q6 := zh (show ∀ i, i ≤ n → (zb g0 (N.take i)).size = z + (ic (N.take i) : Int) from fun i _ => by rw [wP, ← hg0]);have o6 := zh (show TG = (0, zb g0 N) from by rw [← hg0]; exact iT.out);have Lg := zh (show zb g0 (N.take 0) = ⟨gn, rv, 1, z, ⟨f, L, G⟩⟩ from by rw [← hg0]; rfl);have Hx := zh (show (zb g0 N).num = gn ∧ (zb g0 N).rev = rv ∧ (zb g0 N).mode = 1 from by rw [← hg0]; exact uc N _);have Q7 := zh (show ∀ i, i < n → (xb es i).1.ok from CA.out);clear iT iN G_ hg0 Hd Le Ld rD CA;obtain ⟨x0, x1, x2, x3, x4, x5, x6, x7, x8, x9, fM, fN, fK, fL⟩ := mX.out.q;go_wp2_with fail
   go_loopw [8] (fun iv W => ∃ (i : Nat) (si : Sl), iv = .int .i64 (i : Int) ∧ i ≤ n ∧ Hid (eA W w.heap.size gn rv 1 (zb g0 (N.take i)).size si (zb g0 (N.take i)).m.live (zb g0 (N.take i)).m.dW) ∧ Hid (eO W (w.heap.size + 2) s f si (zb g0 (N.take i)).m.st) ∧ Hid (eA W (w.heap.size + 1) 0 0 0 0 Sl.nil 0 0) ∧ Hid (Below w.heap.size w W)) (fun iv _ => n - (intOf iv).toNat)
   case atStart => exact ⟨0, s, rfl, au _, by rw [Lg.out]; exact mX, by rw [Lg.out]; exact zh (eO.refl _ _ _ _), iX, iD⟩
   obtain ⟨i, si, rfl, hi, Bq, Ad, BX, nC⟩ := hrel;clear mX iX iD;rename_i wr0
   by_cases hlt : i < n
   ·
    have i1 : (i : Int) < (n : Int) := by omega
    obtain ⟨b, off, rfl, jr, c0, c1, c2, c3⟩ := (jP.out.below nC.out).at hlt;have Hl := nA.out i hi;have Bj := zh (EP.out i hi);have nB := zh (Hu.out i hlt);have NN := Q6.out i hi;have hok := Q7.out i hlt;have lR := zh (Ad.out.rd G9.out nC.out);generalize xb es i = X at c0 c1 c2 c3 jr nB hok;obtain ⟨x, xv⟩ := X;dsimp only at c0 c1 c2 c3 jr nB hok;obtain ⟨xa, xc, rfl, hx1, hx2⟩ := jr.gw;have Hj : x.data.length ≤ 4096 := hok.1;have Hs := zh (fun W => Uw x.data.length W (ak Hj (by decide)));clear jr hok;have hxz := xx x.data.length;obtain ⟨W1, hW1⟩ : ∃ W1, wr.alloc (.cells (KX x (.slice xa x.data.length xc)) 56) = W1 := ⟨_, rfl⟩
    have jg := QM wr x (.slice xa x.data.length xc);have od := AK.new wr x (.slice xa x.data.length xc);rw [hW1] at jg od;have HD := zh od;have gN := zh jg;clear jg od;have jU := zh (Bq.out.below gN.out);have pP := zh (BX.out.below gN.out);have o7 := zh (lR.out.below gN.out);have oK := zh (zA nC.out gN.out);have hwr := BX.out.lt;have hws := gN.out.size;go_upto_region 18 with fail;clear hW1 c0 c1 c2 c3 Bq BX nC lR;obtain ⟨d0, d1, d2, d3⟩ := HD.out.q;generalize hm : x.data.length = m at *;have Hm := zh hm;clear hm;go_wp2_with fail;refine (Hs.out _).mono ?_;rintro e w3 ⟨rfl, rfl⟩;generalize Q8 : zb g0 (N.take i) = gi at *;clear Q8;obtain ⟨an, ar, am, az, ⟨af, aL, aG⟩⟩ := gi;dsimp only at *;clear x0 x1 x2 x3 x4 x5 x6 x7 x8 x9 fM fN fK fL;have x4 := jU.out.c0;have x5 := jU.out.c1;have x6 := jU.out.c2;have x7 := jU.out.c3;have x8 := jU.out.c4;have x9 := jU.out.c5;have fM := jU.out.c6
    have fN := jU.out.c7;have fK := jU.out.cl;have fL := jU.out.cg;have x3 := jU.out.n3;have xf := jU.out.f;have hz3 : 0 ≤ az ∧ az ≤ 50000000 := by omega
    obtain ⟨Q9, FH⟩ := hz3;clear NN Hl
    cases iz : x.del
    ·
     rw [iz] at d2;have HP := zh (zJN si ⟨af, aL, aG⟩ ⟨(x.key : Int), (x.ck : Int), az, (m : Int)⟩ W1 o7.out Bj.out)
     have oz := zh (show zb g0 (N.take (i + 1)) = ⟨an, ar, am, az + (eM m : Nat), wQ ⟨af, aL, aG⟩ ⟨(x.key : Int), (x.ck : Int), az, (m : Int)⟩⟩ by
      rw [nB.out]; unfold yT Bh; rw [iz, Hm.out]; rfl)
     clear nB;generalize wQ ⟨af, aL, aG⟩ ⟨(x.key : Int), (x.ck : Int), az, (m : Int)⟩ = M4 at *;obtain ⟨bf, bL, bG⟩ := M4;dsimp only at HP;go_wp2_with fail;refine (HP.out).mono ?_;rintro e w5 ⟨⟨s4, rfl, ho⟩, hb4⟩;have jE := zh (Ad.out.step ho (zA gN.out hb4) (by omega));have fk := zh (jU.out.below hb4);have jV := zh (pP.out.below hb4);have gp := zh (zA oK.out hb4);clear x3 x4 x5 x6 x7 x8 x9 fM fN fK fL xf;clear d0 d1 d2 d3 jU pP oK o7 HD Ad;have x4 := fk.out.c0;have x5 := fk.out.c1;have x6 := fk.out.c2;have x7 := fk.out.c3;have x8 := fk.out.c4;have x9 := fk.out.c5;have fM := fk.out.c6;have fN := fk.out.c7;have fK := fk.out.cl;have fL := fk.out.cg;have x3 := fk.out.n3;have xf := fk.out.f;go_upto_region 22 with fail;change Code.wp _ _ _ _ (pts w5 w.heap.size (yp s4 bL bG));have ik := zh (fk.out.map s4 bL bG)
     have AV := zh (jV.out.eu (show w.heap.size + 1 ≠ w.heap.size by omega) (yp s4 bL bG));have jG := zh (zD (B := w.heap.size) (b := w.heap.size) (ai _) (yp s4 bL bG) gp.out);have mo := zh (jE.out.pts (show w.heap.size < w.heap.size + 2 by omega) (yp s4 bL bG));generalize pts w5 w.heap.size (yp s4 bL bG) = w6 at *;clear fk jV gp jE x3 x4 x5 x6 x7 x8 x9 fM fN fK fL xf;have x3 := ik.out.n3;have xf := ik.out.f;go_upto_region 16 with fail;change Code.wp _ _ _ _ (pts w6 w.heap.size [(3, .int .i64 (az + (eM m : Nat)))]);have iH := zh (ik.out.EI (az + (eM m : Nat)));have H3 := zh (AV.out.eu (show w.heap.size + 1 ≠ w.heap.size by omega) [(3, .int .i64 (az + (eM m : Nat)))]);have BU := zh (zD (B := w.heap.size) (b := w.heap.size) (ai _) [(3, .int .i64 (az + (eM m : Nat)))] jG.out);have Be := zh (mo.out.pts (show w.heap.size < w.heap.size + 2 by omega) [(3, .int .i64 (az + (eM m : Nat)))])
     generalize pts w6 w.heap.size [(3, .int .i64 (az + (eM m : Nat)))] = w7 at *;clear ik AV jG mo x3 xf;go_wp2_with fail
     go_roundw
     case rel =>
      refine ⟨i + 1, s4, by go_num, by omega, ?_, ?_, H3, BU⟩
      ·
       rw [oz.out]; exact iH
      rw [oz.out]; exact Be
     case measure => simp [intOf]; omega
    rw [iz] at d2;have HP := zh (WO si ⟨af, aL, aG⟩ (x.key : Int) W1 o7.out Bj.out)
    have oz := zh (show zb g0 (N.take (i + 1)) = ⟨an, ar, am, az + (eM m : Nat), xA (yJ ⟨af, aL, aG⟩ (x.key : Int)) (eM m : Nat)⟩ by
     rw [nB.out]; unfold yT; rw [iz, Hm.out]; rfl)
    have Q_ := zh (fun j hj => ak (qD ⟨af, aL, aG⟩ (x.key : Int) Bj.out j hj) (show 9000 ≤ 10000 by decide));clear nB;generalize yJ ⟨af, aL, aG⟩ (x.key : Int) = M3 at *;obtain ⟨df, dL, dG⟩ := M3;dsimp only at HP;go_wp2_with fail;refine (HP.out).mono ?_;rintro e w4 ⟨⟨s4, rfl, ho⟩, hb4⟩;have Ed := zh (zDr s4 ⟨df, dL, dG⟩ (eM m : Nat) w4 (ho.rd o7.out hb4) Q_.out);have W8 := zh (uI ⟨df, dL, dG⟩ (eM m : Nat));have iB := zh (Ad.out.step ho (zA gN.out hb4) (by omega));clear ho;generalize xA ⟨df, dL, dG⟩ (eM m : Nat) = M4 at *;obtain ⟨bf, bL, bG⟩ := M4;dsimp only at Ed W8;go_wp2_with fail;refine (Ed.out).mono ?_;rintro e w5 ⟨rfl, hb5⟩;replace hb4 := zA hb4 hb5;have jE := zh ((iB.out.keep hb5).K8 (fun i _ => congrFun W8.out i));have fk := zh (jU.out.below hb4);have jV := zh (pP.out.below hb4);have gp := zh (zA oK.out hb4);clear x3 x4 x5 x6 x7 x8 x9 fM fN fK fL xf
    clear d0 d1 d2 d3 jU pP oK o7 HD Ad;have x4 := fk.out.c0;have x5 := fk.out.c1;have x6 := fk.out.c2;have x7 := fk.out.c3;have x8 := fk.out.c4;have x9 := fk.out.c5;have fM := fk.out.c6;have fN := fk.out.c7;have fK := fk.out.cl;have fL := fk.out.cg;have x3 := fk.out.n3;have xf := fk.out.f;go_upto_region 22 with fail;change Code.wp _ _ _ _ (pts w5 w.heap.size (yp s4 bL bG));have ik := zh (fk.out.map s4 bL bG);have AV := zh (jV.out.eu (show w.heap.size + 1 ≠ w.heap.size by omega) (yp s4 bL bG));have jG := zh (zD (B := w.heap.size) (b := w.heap.size) (ai _) (yp s4 bL bG) gp.out);have mo := zh (jE.out.pts (show w.heap.size < w.heap.size + 2 by omega) (yp s4 bL bG));generalize pts w5 w.heap.size (yp s4 bL bG) = w6 at *;clear fk jV gp jE x3 x4 x5 x6 x7 x8 x9 fM fN fK fL xf;have x3 := ik.out.n3;have xf := ik.out.f;go_upto_region 16 with fail
    change Code.wp _ _ _ _ (pts w6 w.heap.size [(3, .int .i64 (az + (eM m : Nat)))]);have iH := zh (ik.out.EI (az + (eM m : Nat)));have H3 := zh (AV.out.eu (show w.heap.size + 1 ≠ w.heap.size by omega) [(3, .int .i64 (az + (eM m : Nat)))]);have BU := zh (zD (B := w.heap.size) (b := w.heap.size) (ai _) [(3, .int .i64 (az + (eM m : Nat)))] jG.out);have Be := zh (mo.out.pts (show w.heap.size < w.heap.size + 2 by omega) [(3, .int .i64 (az + (eM m : Nat)))]);generalize pts w6 w.heap.size [(3, .int .i64 (az + (eM m : Nat)))] = w7 at *;clear ik AV jG mo x3 xf;go_wp2_with fail
    go_roundw
    case rel =>
     refine ⟨i + 1, s4, by go_num, by omega, ?_, ?_, H3, BU⟩
     ·
      rw [oz.out]; exact iH
     rw [oz.out]; exact Be
    case measure => simp [intOf]; omega
   have hin : i = n := by omega
   rw [hin, lU.out] at Bq Ad;rw [hin];clear hin hi;obtain ⟨Ae, lK, D5⟩ := Hx.out;generalize Ra : zb g0 N = gA at *;obtain ⟨an, ar, am, az, ⟨af, aL, aG⟩⟩ := gA;dsimp only at Bq Ad Ae lK D5 o6;subst Ae lK D5;clear Ra;obtain ⟨x0, x1, x2, x3, x4, x5, x6, x7, x8, x9, fM, fN, fK, fL⟩ := Bq.out.q;obtain ⟨r0, r1, r2, r3, r4, r5, r6, r7, r8, r9, lM, lr, l7, mP⟩ := BX.out.q;have rf := BX.out.f;go_wp2_with fail;change bodyPost _ _ _ _ _ (pts wr (w.heap.size + 1) (zL an ar 1 az si aL aG));have hby := BX.out.all an ar 1 az si aL aG;have ek := zh (zD (B := w.heap.size) (b := (w.heap.size + 1)) (by omega) (zL an ar 1 az si aL aG) nC.out);have gB := (Ad.out.pts (show w.heap.size + 1 < w.heap.size + 2 by omega) (zL an ar 1 az si aL aG)).mono (show w.heap.size ≤ w.heap.size + 2 by omega);rw [o6.out];generalize pts wr (w.heap.size + 1) (zL an ar 1 az si aL aG) = V at *
   exact aw (v := .tuple #[za an ar 1 az si aL aG, .int .i64 0]) (by simp [results, Tryz.results43, go_sem, hby.q]) rfl ⟨⟨_, rfl, gB⟩, ek.out⟩
  have iT := zh (show TG = (9, fW) by rw [iG.out, ag mV, ah hfit]);have e2 : decide (1048576 < z + (ic N : Int)) = true := by simp; omega
  clear iG;obtain ⟨x0, x1, x2, x3, x4, x5, x6, x7, x8, x9, fM, fN, fK, fL⟩ := mX.out.q;obtain ⟨r0, r1, r2, r3, r4, r5, r6, r7, r8, r9, lM, lr, l7, mP⟩ := iX.out.q;have rf := iX.out.f;go_wp2_with fail;change bodyPost _ _ _ _ _ (pts wr (w.heap.size + 1) (zL 0 0 0 0 Sl.nil 0 0));have hby := iX.out.all 0 0 0 0 Sl.nil 0 0;have ek := zh (zD (B := w.heap.size) (b := (w.heap.size + 1)) (by omega) (zL 0 0 0 0 Sl.nil 0 0) iD.out);have gB := jO.out (pts wr (w.heap.size + 1) (zL 0 0 0 0 Sl.nil 0 0));rw [iT.out];generalize pts wr (w.heap.size + 1) (zL 0 0 0 0 Sl.nil 0 0) = V at *;exact aw (v := .tuple #[za 0 0 0 0 Sl.nil 0 0, .int .i64 9]) (by simp [results, Tryz.results43, go_sem, hby.q]) rfl ⟨⟨_, rfl, gB⟩, ek.out⟩
 have iT := zh (show TG = (12, fW) by rw [iG.out, ah mV]);have e1 : (md == 1) = false := beq_eq_false_iff_ne.2 mV;clear iG;obtain ⟨x0, x1, x2, x3, x4, x5, x6, x7, x8, x9, fM, fN, fK, fL⟩ := mX.out.q;obtain ⟨r0, r1, r2, r3, r4, r5, r6, r7, r8, r9, lM, lr, l7, mP⟩ := iX.out.q;have rf := iX.out.f;go_wp2_with fail;change bodyPost _ _ _ _ _ (pts wr (w.heap.size + 1) (zL 0 0 0 0 Sl.nil 0 0));have hby := iX.out.all 0 0 0 0 Sl.nil 0 0;have ek := zh (zD (B := w.heap.size) (b := (w.heap.size + 1)) (by omega) (zL 0 0 0 0 Sl.nil 0 0) iD.out);have gB := jO.out (pts wr (w.heap.size + 1) (zL 0 0 0 0 Sl.nil 0 0));rw [iT.out];generalize pts wr (w.heap.size + 1) (zL 0 0 0 0 Sl.nil 0 0) = V at *;exact aw (v := .tuple #[za 0 0 0 0 Sl.nil 0 0, .int .i64 12]) (by simp [results, Tryz.results43, go_sem, hby.q]) rfl ⟨⟨_, rfl, gB⟩, ek.out⟩
end Go.Proofs.YtcgfilmmokmdjaaGreat
