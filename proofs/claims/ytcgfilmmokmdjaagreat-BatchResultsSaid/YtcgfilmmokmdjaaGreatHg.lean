/- A part of the walk. -/
import Derived.Test.YtcgfilmmokmdjaaGreatHd
import Derived.Test.YtcgfilmmokmdjaaGreatQAG
import Derived.Test.YtcgfilmmokmdjaaGreatMp
set_option maxRecDepth 100000
set_option maxHeartbeats 32000000
namespace Go.Proofs.YtcgfilmmokmdjaaGreat
open Go.RowKit
theorem zF0 (l r : List Nd) : g_ (l ++ r) = g_ l + g_ r := by
 induction l with
 | nil => simp [g_]
 | cons x l ih => rw [List.cons_append, wu, wu, ih, cM]
theorem zI6 (l : List Nd) (k : Nat) : g_ (l.take k) ≤ g_ l := by
 have h := zF0 (l.take k) (l.drop k);rw [bM] at h;omega
theorem zB8 (x : Nd) (a : Option Addr) (cap : Nat) (w : World) : Calls Tryz.prog 52 #[Ra x (.slice a x.data.length cap)] w fun e w' => e = .returned (.bool (decide x.ok)) ∧ Below w.heap.size w w' := by
 obtain ⟨k, c, d, l⟩ := x;dsimp only;have HB := zh (show Below w.heap.size w (w.alloc (.cells #[.int .u64 (k : Int), .int .u32 (c : Int), .bool d, .slice a l.length cap] 56)) from (aj _ _).alloc (ai _) _)
 have HO := zh (show decide (Nd.ok ⟨k, c, d, l⟩) = (decide ((l.length : Int) ≤ 4096) && !(d && decide (0 < (l.length : Int)))) by
  unfold Nd.ok
  dsimp only
  have e : (l = []) ↔ ¬ 0 < l.length := by rw [← List.length_eq_zero_iff]; omega
  cases d
  ·
   simp only [Bool.false_and, Bool.not_false, Bool.and_true, reduceCtorEq, false_imp_iff, and_true]
   exact decide_eq_decide.2 (by omega)
  simp only [cE, forall_const, e]
  rw [dh, aU, aM, aU, Bool.not_eq_true', decide_eq_false_iff_not]
  omega)
 generalize decide (Nd.ok ⟨k, c, d, l⟩) = ob at *;generalize l.length = n at *
 go_enter Tryz.func52, Tryz.ntmps52
 by_cases h1 : (n : Int) ≤ 4096
 ·
  have d1 : decide ((n : Int) ≤ 4096) = true := aF h1
  cases d
  ·
   go_wp2_with fail;go_ret;exact ⟨zE (by rw [HO.out, d1]; rfl), HB.out⟩
  by_cases h2 : 0 < (n : Int)
  ·
   have d2 : decide (0 < (n : Int)) = true := aF h2;go_wp2_with fail;go_ret;have h3 : 0 < n := by omega
   exact ⟨zE (by rw [HO.out, d1, d2]; simp [h3]), HB.out⟩
  have d2 : decide (0 < (n : Int)) = false := aD h2;go_wp2_with fail;go_ret;have h3 : ¬ 0 < n := by omega
  exact ⟨zE (by rw [HO.out, d1, d2]; simp [h3]), HB.out⟩
 have d1 : decide ((n : Int) ≤ 4096) = false := aD h1;go_wp2_with fail;go_ret;exact ⟨zE (by rw [HO.out, d1]; rfl), HB.out⟩
theorem zJW (x : Nd) (a : Option Addr) (cap : Nat) (w : World) : Calls Tryz.prog 51 #[Ra x (.slice a x.data.length cap)] w fun e w' => e = .returned (.bool (!decide x.ok)) ∧ Below w.heap.size w w' := by
 have HV := zh (fun W => zB8 x a cap W);obtain ⟨W0, eR⟩ : ∃ W0, w.alloc (.cells (Li x (.slice a x.data.length cap)) 56) = W0 := ⟨_, rfl⟩
 have jg := Rb w x (.slice a x.data.length cap);have n5 := AK.new w x (.slice a x.data.length cap);rw [eR] at jg n5;have HD := zh n5;have HB := zh jg;clear jg n5;generalize decide x.ok = ob at *;generalize x.data.length = m at *
 go_enter Tryz.func51, Tryz.ntmps51
 go_upto_region 1 with fail;clear eR;obtain ⟨d0, d1, d2, d3⟩ := HD.out.q;go_wp2_with fail;refine (HV.out _).mono ?_;rintro e w1 ⟨rfl, hb⟩;have eO := zh (zA HB.out hb);clear hb;go_wp2_with fail;go_ret;exact ⟨rfl, eO.out⟩
theorem zI7 (v : Value) (es : List (Nd × Value)) (w : World) (h : mK w v es) :
  Calls Tryz.prog 90 #[v, .func (.func 51) #[] #[]] w fun e w' => (∃ k : Int, e = .returned (.int .i64 k) ∧ decide (0 ≤ k) = !okLB (es.map (·.1))) ∧ Below w.heap.size w w' := by
 obtain ⟨a, cap, rfl, h1, h2⟩ := h.shape
 have HT := zh (show (∀ j, j < es.length → decide (xb es j).1.ok = true) → Ec (es.map (·.1)) = true from fun hh => (tJ _).2 (fun x hx => by
  obtain ⟨p, hp, rfl⟩ := List.mem_map.1 hx
  obtain ⟨j, hj, rfl⟩ := b_ hp
  have := a_ (hh j hj)
  unfold xb at this
  rw [ax, aB hj] at this
  exact this))
 have HF := zh (show ∀ j, j < es.length → decide (xb es j).1.ok = false → Ec (es.map (·.1)) = false from fun j hj hf => by
  rw [Bool.eq_false_iff]
  intro ht
  exact cC hf ((tJ _).1 ht _ (cV (uM hj))))
 have hm := BL h1 h2;generalize hn : es.length = n at *;have Hr := zh h;clear h h1 h2 hn
 go_enter Tryz.func90, Tryz.ntmps90
 go_wp2_with fail
 go_loopw [8] (fun i wr => ∃ k : Nat, k ≤ n ∧ i = .int .i64 (k : Int) ∧ (∀ j, j < k → decide (xb es j).1.ok = true) ∧ Below w.heap.size w wr) (fun i _ => n - (intOf i).toNat)
 case atStart => exact ⟨0, au _, rfl, fun j hj => absurd hj (by omega), aj _ _⟩
 obtain ⟨k, hk, rfl, hok, hb⟩ := eT;have lG := zh hok;have Hb := zh hb;have hB := hb.size;clear hok hb
 by_cases hlt : k < n
 ·
  have hr := Hr.out.below Hb.out;obtain ⟨b, off, rfl, jr, c0, c1, c2, c3⟩ := hr.at hlt;have sK := zh (HF.out k hlt)
  have sQ := zh (show decide (xb es k).1.ok = true → ∀ j, j < k + 1 → decide (xb es j).1.ok = true from fun ho j hj => by
   by_cases e : j = k
   ·
    subst e; exact ho
   exact lG.out j (by omega))
  generalize xb es k = X at c0 c1 c2 c3 jr sK sQ;obtain ⟨x, xv⟩ := X;dsimp only at c0 c1 c2 c3 jr sK sQ;obtain ⟨xa, xc, rfl, hx1, hx2⟩ := jr.gq;have HV := zh fun w => zJW x xa xc w
  clear jr;generalize x.data.length = xm at *;generalize decide x.ok = ob at *;clear hr;go_wp2_with fail;refine (HV.out _).mono ?_; rintro e w1 ⟨rfl, dW⟩;have lS := zh (zA Hb.out dW)
  cases ob
  ·
   clear dW;go_wp2_with fail;go_ret;refine ⟨⟨k, rfl, ?_⟩, lS.out⟩;rw [sK.out (by trivial)]; simp
  clear dW;go_wp2_with fail;exact ⟨⟨k + 1, by omega, by go_num, sQ.out (by trivial), lS.out⟩, by simp [intOf]; omega⟩
 obtain rfl : k = n := by omega
 go_wp2_with fail;go_ret;refine ⟨⟨-1, rfl, ?_⟩, Hb.out⟩;rw [HT.out lG.out]; rfl
theorem zG7 (v : Value) (es : List (Nd × Value)) (w : World) (h : mK w v es) :
  Calls Tryz.prog 50 #[v, .func (.func 51) #[] #[]] w fun e w' => e = .returned (.bool (!okLB (es.map (·.1)))) ∧ Below w.heap.size w w' := by
 have HA := zh (zI7 v es w h);obtain ⟨a, cap, rfl, h1, h2⟩ := h.shape;clear h h1 h2
 go_enter Tryz.func50, Tryz.ntmps50
 go_wp2_with fail;refine HA.out.mono ?_; rintro e w1 ⟨⟨k, rfl, hk⟩, dW⟩;have Hk := zh hk;have lS := zh dW;clear hk dW;go_wp2_with fail;go_ret;exact ⟨zE Hk.out, lS.out⟩
theorem Xp (g : Gn) (s : Sl) (v : Value) (es : List (Nd × Value)) (K : Nat) (w : World) (h : fp w s g.m.st) (hs : ∀ i, i < 8 → (g.m.st i).length ≤ K) (hr : mK w v es) (hK : K + es.length ≤ 9000) :
  Calls Tryz.prog 12 #[za g.num g.rev g.mode g.size s g.m.live g.m.dR, v] w (Hx w (yt g (es.map (·.1)))) := by
 obtain ⟨va, vc, rfl, ry, oG⟩ := hr.shape;have CG : ∀ i, i < 8 → (g.m.st i).length ≤ 10000 := fun i hi => ak (hs i hi) (by omega)
 have HV := zh (fun W (hb : Below w.heap.size w W) => vW g s W (h.below hb) CG);have Xq := zh (fun W (hb : Below w.heap.size w W) => zG7 _ es W (hr.below hb));have jP := zh hr;have H7 := zh h;have jO := zh (show ∀ W, eS W w.heap.size Sl.nil fT.m.st from fun W => eS.nil W _);have HG := zh (show yt g (es.map (·.1)) = if wB g = true ∧ Ec (es.map (·.1)) = true then (if g.mode = 1 then (if g.size + (g_ (es.map (·.1)) : Int) ≤ 1048576 then (0, zb g (es.map (·.1))) else (9, fT)) else (12, fT)) else (1, fT) from rfl);have iz := zh (show wB g = true → 16 ≤ g.size ∧ g.size ≤ 1048576 from fun hv => ⟨((yD g).1 hv).size.1, ((yD g).1 hv).size.2.1⟩);have iM := zh (fun i (hi : i ≤ es.length) => wL ((es.map (·.1)).take i) g hs);have H8 := zh (fun i (hi : i < es.length) => @Xm es i hi);have ny := zh (show ∀ i, g_ ((es.map (·.1)).take i) ≤ g_ (es.map (·.1)) from fun i => zI6 _ i)
 have lR := zh (show (es.map (·.1)).take es.length = es.map (·.1) from aS (by rw [aI]; omega));have pQ := zh (show Ec (es.map (·.1)) = true → ∀ i, i < es.length → (xb es i).1.ok from fun hh i hi => (tJ _).1 hh _ (cV (uM hi)));clear hr h hs CG;generalize hN : es.map (·.1) = N at *;generalize hnn : es.length = n at *;have Rr := zh hnn;clear hnn hN;obtain ⟨gn, rv, md, z, ⟨f, L, G⟩⟩ := g;generalize nN : (⟨gn, rv, md, z, ⟨f, L, G⟩⟩ : Gn) = g at *;have Rs := zh nN;obtain ⟨W, hW, fa, f_, fu⟩ := wU w gn rv md z s L G 38;have HX := zh fa;have HR := zh f_;have HB := zh fu;clear fa f_ fu;generalize yt g N = TG at *;generalize wB g = vb at *;generalize Ec N = ob at *;subst nN;dsimp only at *
 go_enter Tryz.func12, Tryz.ntmps12
 go_upto_region 1 with fail;change Code.wp _ _ _ _ ((w.alloc (.cells (zW gn rv md z s L G) 38)).alloc (.cells (zW 0 0 0 0 Sl.nil 0 0) 38));rw [hW];clear hW;obtain ⟨x0, x1, x2, x3, x4, x5, x6, x7, x8, x9, fI, fJ, fG, fH⟩ := HX.out.q;go_wp2_with fail;refine (HV.out _ HB.out).mono ?_;rintro e w1 ⟨rfl, dW⟩;have fk := zh (HX.out.below dW);have eY := zh (HR.out.below dW);have eO := zh (zA HB.out dW);have hlr : w.heap.size + 1 < W.heap.size := HR.out.lt;clear x0 x1 x2 x3 x4 x5 x6 x7 x8 x9 fI fJ fG fH;clear dW HX HR HB HV
 cases vb
 ·
  have iR := zh (show TG = (1, fT) by rw [HG.out, ah (fun h => by cases h.1)]);obtain ⟨r0, r1, r2, r3, r4, r5, r6, r7, r8, r9, lK, lq, l6, mO⟩ := eY.out.q;have rf := eY.out.f;go_wp2_with fail;change bodyPost _ _ _ _ _ (pts w1 (w.heap.size + 1) (zL 0 0 0 0 Sl.nil 0 0));have hby := eY.out.all 0 0 0 0 Sl.nil 0 0;have ea := zh (zD (B := w.heap.size) (b := (w.heap.size + 1)) (by omega) (zL 0 0 0 0 Sl.nil 0 0) eO.out);have gw := jO.out (pts w1 (w.heap.size + 1) (zL 0 0 0 0 Sl.nil 0 0));rw [iR.out];generalize pts w1 (w.heap.size + 1) (zL 0 0 0 0 Sl.nil 0 0) = V at *;exact aw (v := .tuple #[za 0 0 0 0 Sl.nil 0 0, .int .i64 1]) (by simp [results, Tryz.results12, go_sem, hby.q]) rfl ⟨⟨_, rfl, gw⟩, ea.out⟩
 obtain ⟨mf, gV⟩ := iz.out rfl;go_wp2_with fail;refine (Xq.out _ eO.out).mono ?_;rintro e w2 ⟨rfl, ez⟩;have fQ := zh (fk.out.below ez);have fU := zh (eY.out.below ez);have eN := zh (zA eO.out ez);clear ez fk eY eO Xq
 cases ob
 ·
  have iR := zh (show TG = (1, fT) by rw [HG.out, ah (fun h => by cases h.2)]);obtain ⟨r0, r1, r2, r3, r4, r5, r6, r7, r8, r9, lK, lq, l6, mO⟩ := fU.out.q;have rf := fU.out.f;go_wp2_with fail;change bodyPost _ _ _ _ _ (pts w2 (w.heap.size + 1) (zL 0 0 0 0 Sl.nil 0 0));have hby := fU.out.all 0 0 0 0 Sl.nil 0 0;have ea := zh (zD (B := w.heap.size) (b := (w.heap.size + 1)) (by omega) (zL 0 0 0 0 Sl.nil 0 0) eN.out);have gw := jO.out (pts w2 (w.heap.size + 1) (zL 0 0 0 0 Sl.nil 0 0));rw [iR.out];generalize pts w2 (w.heap.size + 1) (zL 0 0 0 0 Sl.nil 0 0) = V at *;exact aw (v := .tuple #[za 0 0 0 0 Sl.nil 0 0, .int .i64 1]) (by simp [results, Tryz.results12, go_sem, hby.q]) rfl ⟨⟨_, rfl, gw⟩, ea.out⟩
 have iE := zh (show TG = (if md = 1 then (if z + (g_ N : Int) ≤ 1048576 then (0, zb ⟨gn, rv, md, z, ⟨f, L, G⟩⟩ N) else (9, fT)) else (12, fT)) by rw [HG.out, ag ⟨by trivial, by trivial⟩]);have CH := zh (pQ.out rfl);clear HG pQ
 by_cases mT : md = 1
 ·
  have e1 : (md == 1) = true := by rw [mT]; rfl
  have Xr := zh (show z + (g_ N : Int) ≤ 1048576 → TG = (0, zb ⟨gn, rv, md, z, ⟨f, L, G⟩⟩ N) from fun hf => by rw [iE.out, ag mT, ag hf]);have sR := zh (show ¬ z + (g_ N : Int) ≤ 1048576 → TG = (9, fT) from fun hf => by rw [iE.out, ag mT, ah hf]);clear iE;subst mT;clear e1;obtain ⟨g0, sj⟩ : ∃ g0 : Gn, (⟨gn, rv, 1, z, ⟨f, L, G⟩⟩ : Gn) = g0 := ⟨_, rfl⟩
  have EY := zh (show ∀ i, i ≤ n → ∀ j, j < 8 → ((zb g0 (N.take i)).m.st j).length ≤ 9000 from fun i hi j hj => by
   have h1 := iM.out i hi j hj
   have h2 : (N.take i).length ≤ n := by rw [ay]; omega
   rw [← sj]; omega)
  have Ic := zh (show ∀ i, i < n → zb g0 (N.take (i + 1)) = yT (zb g0 (N.take i)) (xb es i).1 from fun i hi => by rw [H8.out i hi, tY]);have Ru := zh (show ∀ i, i ≤ n → (zb g0 (N.take i)).size = z + (g_ (N.take i) : Int) from fun i _ => by rw [wP, ← sj]);have HTz := zh (show ∀ i, i < n → g_ (N.take (i + 1)) = g_ (N.take i) + eG (xb es i).1.data.length from fun i hi => by rw [H8.out i hi, kY]);rw [sj] at Xr;have LD := zh (show zb g0 (N.take 0) = ⟨gn, rv, 1, z, ⟨f, L, G⟩⟩ from by rw [← sj]; rfl);have Ie := zh (show (zb g0 N).num = gn ∧ (zb g0 N).rev = rv ∧ (zb g0 N).mode = 1 from by rw [← sj]; exact uc N _);have CJ : z + (g_ (N.take 0) : Int) ≤ 1048576 := by rw [List.take_zero, WO]; omega
  clear iM H8 sj;obtain ⟨x0, x1, x2, x3, x4, x5, x6, x7, x8, x9, fI, fJ, fG, fH⟩ := fQ.out.q;go_wp2_with fail
  go_loopw [23] (fun iv W => ∃ (i : Nat) (si : Sl), iv = .int .i64 (i : Int) ∧ i ≤ n ∧ Hid (z + (g_ (N.take i) : Int) ≤ 1048576) ∧ Hid (eu W w.heap.size gn rv 1 (zb g0 (N.take i)).size si (zb g0 (N.take i)).m.live (zb g0 (N.take i)).m.dR) ∧ Hid (eL W (w.heap.size + 2) s f si (zb g0 (N.take i)).m.st) ∧ Hid (eu W (w.heap.size + 1) 0 0 0 0 Sl.nil 0 0) ∧ Hid (Below w.heap.size w W)) (fun iv _ => n - (intOf iv).toNat)
  case atStart => exact ⟨0, s, rfl, au _, zh CJ, by rw [LD.out]; exact fQ, by rw [LD.out]; exact zh (eL.refl _ _ _ _), fU, eN⟩
  obtain ⟨i, si, rfl, hi, EZ, Bq, Af, B4, nA⟩ := eT;clear fQ fU eN CJ
  by_cases hlt : i < n
  ·
   have i1 : (i : Int) < (n : Int) := by omega
   obtain ⟨b, off, rfl, jr, c0, c1, c2, c3⟩ := (jP.out.below nA.out).at hlt;have Bl := zh (EY.out i hi);have nz := zh (Ic.out i hlt);have N9 := Ru.out i hi;have N_ := HTz.out i hlt;have Xt := ny.out (i + 1);have hok := CH.out i hlt;have lN := zh (Af.out.rd H7.out nA.out);generalize xb es i = X at c0 c1 c2 c3 jr nz hok N_;obtain ⟨x, xv⟩ := X;dsimp only at c0 c1 c2 c3 jr nz hok N_;obtain ⟨xa, xc, rfl, hx1, hx2⟩ := jr.gq;have H_ : x.data.length ≤ 4096 := hok.1;have Ib := zh (fun W => t8 x.data.length W (ak H_ (by decide)));clear jr hok;have hxz := xx x.data.length;obtain ⟨W1, Ct⟩ : ∃ W1, wr.alloc (.cells (Li x (.slice xa x.data.length xc)) 56) = W1 := ⟨_, rfl⟩
   have jg := Rb wr x (.slice xa x.data.length xc);have n5 := AK.new wr x (.slice xa x.data.length xc);rw [Ct] at jg n5;have HD := zh n5;have gI := zh jg;clear jg n5;have jU := zh (Bq.out.below gI.out);have pK := zh (B4.out.below gI.out);have oZ := zh (lN.out.below gI.out);have oH := zh (zA nA.out gI.out);have hwr := B4.out.lt;have hws := gI.out.size;go_upto_region 8 with fail;clear Ct c0 c1 c2 c3 Bq B4 nA lN;obtain ⟨d0, d1, d2, d3⟩ := HD.out.q;generalize hm : x.data.length = m at *;have Hm := zh hm;clear hm;go_wp2_with fail;refine (Ib.out _).mono ?_;rintro e w3 ⟨rfl, rfl⟩;generalize Rw : zb g0 (N.take i) = gi at *;clear Rw;obtain ⟨an, ar, am, az, ⟨af, aL, aG⟩⟩ := gi;dsimp only at *;have HZ := zh N9;have HT := zh N_;have HA := zh Xt;have RB := EZ.out;clear x0 x1 x2 x3 x4 x5 x6 x7 x8 x9 fI fJ fG fH;have x4 := jU.out.c0;have x5 := jU.out.c1;have x6 := jU.out.c2;have x7 := jU.out.c3
   have x8 := jU.out.c4;have x9 := jU.out.c5;have fI := jU.out.c6;have fJ := jU.out.c7;have fG := jU.out.cl;have fH := jU.out.cg;have x3 := jU.out.n3;have xf := jU.out.f;have D5 : 0 ≤ az ∧ az ≤ 1048576 := by omega
   obtain ⟨Rx, FO⟩ := D5;clear N9 N_ Xt RB
   by_cases sH : 1048576 - az < (eG m : Int)
   ·
    have e5 : decide (1048576 - az < (eG m : Int)) = true := aF sH;have iR := zh (sR.out (by have := HZ.out; have := HT.out; have := HA.out; omega));obtain ⟨r0, r1, r2, r3, r4, r5, r6, r7, r8, r9, lK, lq, l6, mO⟩ := pK.out.q;have rf := pK.out.f;go_wp2_with fail;change bodyPost _ _ _ _ _ (pts W1 (w.heap.size + 1) (zL 0 0 0 0 Sl.nil 0 0));have hby := pK.out.all 0 0 0 0 Sl.nil 0 0;have ea := zh (zD (B := w.heap.size) (b := (w.heap.size + 1)) (by omega) (zL 0 0 0 0 Sl.nil 0 0) oH.out);have gw := jO.out (pts W1 (w.heap.size + 1) (zL 0 0 0 0 Sl.nil 0 0));rw [iR.out];generalize pts W1 (w.heap.size + 1) (zL 0 0 0 0 Sl.nil 0 0) = V at *;exact aw (v := .tuple #[za 0 0 0 0 Sl.nil 0 0, .int .i64 9]) (by simp [results, Tryz.results12, go_sem, hby.q]) rfl ⟨⟨_, rfl, gw⟩, ea.out⟩
   have e5 : decide (1048576 - az < (eG m : Int)) = false := aD sH;have Bp := zh (show z + (g_ (N.take (i + 1)) : Int) ≤ 1048576 by have := HZ.out; have := HT.out; omega);clear HZ HT HA sH
   cases iw : x.del
   ·
    rw [iw] at d2;have HP := zh (zJ0 si ⟨af, aL, aG⟩ ⟨(x.key : Int), (x.ck : Int), az, (m : Int)⟩ W1 oZ.out (fun j hj => ak (Bl.out j hj) (by omega)))
    have od := zh (show zb g0 (N.take (i + 1)) = ⟨an, ar, am, az + (eG m : Nat), wQ ⟨af, aL, aG⟩ ⟨(x.key : Int), (x.ck : Int), az, (m : Int)⟩⟩ by
     rw [nz.out]; unfold yT Bj; rw [iw, Hm.out]; rfl)
    clear nz;generalize wQ ⟨af, aL, aG⟩ ⟨(x.key : Int), (x.ck : Int), az, (m : Int)⟩ = M4 at *;obtain ⟨bf, bL, bG⟩ := M4;dsimp only at HP;go_wp2_with fail;refine (HP.out).mono ?_;rintro e w5 ⟨⟨s4, rfl, ho⟩, hb4⟩;have jE := zh (show eL w5 (w.heap.size + 2) s f s4 bf from .inr (ho.mono (by omega)));have fh := zh (jU.out.below hb4);have jV := zh (pK.out.below hb4);have gj := zh (zA oH.out hb4);clear x3 x4 x5 x6 x7 x8 x9 fI fJ fG fH xf;clear d0 d1 d2 d3 jU pK oH oZ HD Af;have x4 := fh.out.c0;have x5 := fh.out.c1;have x6 := fh.out.c2;have x7 := fh.out.c3;have x8 := fh.out.c4;have x9 := fh.out.c5;have fI := fh.out.c6;have fJ := fh.out.c7;have fG := fh.out.cl;have fH := fh.out.cg;have x3 := fh.out.n3;have xf := fh.out.f;go_upto_region 14 with fail;change Code.wp _ _ _ _ (pts w5 w.heap.size (yp s4 bL bG));have ia := zh (fh.out.map s4 bL bG)
    have AV := zh (jV.out.ek (show w.heap.size + 1 ≠ w.heap.size by omega) (yp s4 bL bG));have jG := zh (zD (B := w.heap.size) (b := w.heap.size) (ai _) (yp s4 bL bG) gj.out);have mh := zh (jE.out.pts (show w.heap.size < w.heap.size + 2 by omega) (yp s4 bL bG));generalize pts w5 w.heap.size (yp s4 bL bG) = w6 at *;clear fh jV gj jE x3 x4 x5 x6 x7 x8 x9 fI fJ fG fH xf;have x3 := ia.out.n3;have xf := ia.out.f;go_upto_region 15 with fail;change Code.wp _ _ _ _ (pts w6 w.heap.size [(3, .int .i64 (az + (eG m : Nat)))]);have iG := zh (ia.out.EO (az + (eG m : Nat)));have Ig := zh (AV.out.ek (show w.heap.size + 1 ≠ w.heap.size by omega) [(3, .int .i64 (az + (eG m : Nat)))]);have BV := zh (zD (B := w.heap.size) (b := w.heap.size) (ai _) [(3, .int .i64 (az + (eG m : Nat)))] jG.out);have Bf := zh (mh.out.pts (show w.heap.size < w.heap.size + 2 by omega) [(3, .int .i64 (az + (eG m : Nat)))])
    generalize pts w6 w.heap.size [(3, .int .i64 (az + (eG m : Nat)))] = w7 at *;clear ia AV jG mh x3 xf;go_wp2_with fail
    go_roundw
    case rel =>
     refine ⟨i + 1, s4, by go_num, by omega, Bp, ?_, ?_, Ig, BV⟩
     ·
      rw [od.out]; exact iG
     rw [od.out]; exact Bf
    case measure => simp [intOf]; omega
   rw [iw] at d2;have HP := zh (Wm si ⟨af, aL, aG⟩ (x.key : Int) W1 oZ.out (fun j hj => ak (Bl.out j hj) (by omega)))
   have od := zh (show zb g0 (N.take (i + 1)) = ⟨an, ar, am, az + (eG m : Nat), xA (yJ ⟨af, aL, aG⟩ (x.key : Int)) (eG m : Nat)⟩ by
    rw [nz.out]; unfold yT; rw [iw, Hm.out]; rfl)
   have Ry := zh (fun j hj => ak (qD ⟨af, aL, aG⟩ (x.key : Int) Bl.out j hj) (show 9000 ≤ 10000 by decide));clear nz;generalize yJ ⟨af, aL, aG⟩ (x.key : Int) = M3 at *;obtain ⟨df, dL, dG⟩ := M3;dsimp only at HP;go_wp2_with fail;refine (HP.out).mono ?_;rintro e w4 ⟨⟨s5, rfl, ho⟩, hb4⟩;have Eh := zh (vT s5 ⟨df, dL, dG⟩ (eG m : Nat) w4 ho.rd Ry.out);have iD := hb4.size;clear ho;generalize xA ⟨df, dL, dG⟩ (eG m : Nat) = M4 at *;obtain ⟨bf, bL, bG⟩ := M4;dsimp only at Eh;go_wp2_with fail;refine (Eh.out).mono ?_;rintro e w5 ⟨⟨s4, rfl, ho⟩, iU⟩;replace hb4 := zA hb4 iU;have jE := zh (show eL w5 (w.heap.size + 2) s f s4 bf from .inr (ho.mono (by omega)));have fh := zh (jU.out.below hb4);have jV := zh (pK.out.below hb4);have gj := zh (zA oH.out hb4);clear x3 x4 x5 x6 x7 x8 x9 fI fJ fG fH xf;clear d0 d1 d2 d3 jU pK oH oZ HD Af;have x4 := fh.out.c0;have x5 := fh.out.c1;have x6 := fh.out.c2
   have x7 := fh.out.c3;have x8 := fh.out.c4;have x9 := fh.out.c5;have fI := fh.out.c6;have fJ := fh.out.c7;have fG := fh.out.cl;have fH := fh.out.cg;have x3 := fh.out.n3;have xf := fh.out.f;go_upto_region 14 with fail;change Code.wp _ _ _ _ (pts w5 w.heap.size (yp s4 bL bG));have ia := zh (fh.out.map s4 bL bG);have AV := zh (jV.out.ek (show w.heap.size + 1 ≠ w.heap.size by omega) (yp s4 bL bG));have jG := zh (zD (B := w.heap.size) (b := w.heap.size) (ai _) (yp s4 bL bG) gj.out);have mh := zh (jE.out.pts (show w.heap.size < w.heap.size + 2 by omega) (yp s4 bL bG));generalize pts w5 w.heap.size (yp s4 bL bG) = w6 at *;clear fh jV gj jE x3 x4 x5 x6 x7 x8 x9 fI fJ fG fH xf;have x3 := ia.out.n3;have xf := ia.out.f;go_upto_region 15 with fail;change Code.wp _ _ _ _ (pts w6 w.heap.size [(3, .int .i64 (az + (eG m : Nat)))]);have iG := zh (ia.out.EO (az + (eG m : Nat)))
   have Ig := zh (AV.out.ek (show w.heap.size + 1 ≠ w.heap.size by omega) [(3, .int .i64 (az + (eG m : Nat)))]);have BV := zh (zD (B := w.heap.size) (b := w.heap.size) (ai _) [(3, .int .i64 (az + (eG m : Nat)))] jG.out);have Bf := zh (mh.out.pts (show w.heap.size < w.heap.size + 2 by omega) [(3, .int .i64 (az + (eG m : Nat)))]);generalize pts w6 w.heap.size [(3, .int .i64 (az + (eG m : Nat)))] = w7 at *;clear ia AV jG mh x3 xf;go_wp2_with fail
   go_roundw
   case rel =>
    refine ⟨i + 1, s4, by go_num, by omega, Bp, ?_, ?_, Ig, BV⟩
    ·
     rw [od.out]; exact iG
    rw [od.out]; exact Bf
   case measure => simp [intOf]; omega
  have hin : i = n := by omega
  rw [hin, lR.out] at Bq Af EZ;rw [hin];have iR := zh (Xr.out EZ.out);have lN := zh (Af.out.rd H7.out nA.out)
  have Xu := zh (show ∀ j, j < 8 → ((zb g0 N).m.st j).length ≤ 10000 from fun j hj => by
   have := EY.out n (ai _) j hj
   rw [lR.out] at this
   omega)
  clear hin hi;obtain ⟨Ag, lI, D9⟩ := Ie.out;generalize Rz : zb g0 N = gA at *;obtain ⟨an, ar, am, az, ⟨af, aL, aG⟩⟩ := gA;dsimp only at Bq Af Ag lI D9 iR lN Xu;subst Ag lI D9;clear Rz;have Eh := zh (vT si ⟨af, aL, aG⟩ 0 wr lN.out Xu.out);rw [vj] at Eh;dsimp only at Eh;have aff := B4.out.lt;obtain ⟨x4, x5, x6, x7, x8, x9, fI, fJ, fG, fH⟩ := Bq.out.q;have xf := Bq.out.f;go_wp2_with fail;refine (Eh.out).mono ?_;rintro e w3 ⟨⟨s3, rfl, oP⟩, eU⟩;have gJ := zh (Bq.out.below eU);have me := zh (B4.out.below eU);have fS := zh (zA nA.out eU);have lz := zh (oP.mono (show w.heap.size + 2 ≤ wr.heap.size by omega));clear eU oP Bq B4 nA Af Eh lN xf x4 x5 x6 x7 x8 x9 fI fJ fG fH;obtain ⟨x4, x5, x6, x7, x8, x9, fI, fJ, fG, fH⟩ := gJ.out.q;have xf := gJ.out.f;go_upto_region 17 with fail;change Code.wp _ _ _ _ (pts w3 w.heap.size (yp s3 aL aG));have gZ := zh (gJ.out.map s3 aL aG)
  have jF := zh (me.out.ek (show w.heap.size + 1 ≠ w.heap.size by omega) (yp s3 aL aG));have fM := zh (zD (B := w.heap.size) (b := w.heap.size) (ai _) (yp s3 aL aG) fS.out);have iy := zh (lz.out.pts (show w.heap.size < w.heap.size + 2 by omega) (yp s3 aL aG));generalize pts w3 w.heap.size (yp s3 aL aG) = w4 at *;clear gJ me fS lz xf x4 x5 x6 x7 x8 x9 fI fJ fG fH;obtain ⟨x0, x1, x2, x3, x4, x5, x6, x7, x8, x9, fI, fJ, fG, fH⟩ := gZ.out.q;obtain ⟨r0, r1, r2, r3, r4, r5, r6, r7, r8, r9, lK, lq, l6, mO⟩ := jF.out.q;have rf := jF.out.f;go_wp2_with fail;change bodyPost _ _ _ _ _ (pts w4 (w.heap.size + 1) (zL an ar 1 az s3 aL aG));have hby := jF.out.all an ar 1 az s3 aL aG;have ea := zh (zD (B := w.heap.size) (b := (w.heap.size + 1)) (by omega) (zL an ar 1 az s3 aL aG) fM.out)
  have gw := (iy.out.pts (show w.heap.size + 1 < w.heap.size + 2 by omega) (zL an ar 1 az s3 aL aG)).mono (show w.heap.size ≤ w.heap.size + 2 by omega);rw [iR.out];generalize pts w4 (w.heap.size + 1) (zL an ar 1 az s3 aL aG) = V at *;exact aw (v := .tuple #[za an ar 1 az s3 aL aG, .int .i64 0]) (by simp [results, Tryz.results12, go_sem, hby.q]) rfl ⟨⟨_, rfl, gw⟩, ea.out⟩
 have iR := zh (show TG = (12, fT) by rw [iE.out, ah mT]);have e1 : (md == 1) = false := beq_eq_false_iff_ne.2 mT;clear iE;obtain ⟨x0, x1, x2, x3, x4, x5, x6, x7, x8, x9, fI, fJ, fG, fH⟩ := fQ.out.q;obtain ⟨r0, r1, r2, r3, r4, r5, r6, r7, r8, r9, lK, lq, l6, mO⟩ := fU.out.q;have rf := fU.out.f;go_wp2_with fail;change bodyPost _ _ _ _ _ (pts w2 (w.heap.size + 1) (zL 0 0 0 0 Sl.nil 0 0));have hby := fU.out.all 0 0 0 0 Sl.nil 0 0;have ea := zh (zD (B := w.heap.size) (b := (w.heap.size + 1)) (by omega) (zL 0 0 0 0 Sl.nil 0 0) eN.out);have gw := jO.out (pts w2 (w.heap.size + 1) (zL 0 0 0 0 Sl.nil 0 0));rw [iR.out];generalize pts w2 (w.heap.size + 1) (zL 0 0 0 0 Sl.nil 0 0) = V at *;exact aw (v := .tuple #[za 0 0 0 0 Sl.nil 0 0, .int .i64 12]) (by simp [results, Tryz.results12, go_sem, hby.q]) rfl ⟨⟨_, rfl, gw⟩, ea.out⟩
end Go.Proofs.YtcgfilmmokmdjaaGreat
