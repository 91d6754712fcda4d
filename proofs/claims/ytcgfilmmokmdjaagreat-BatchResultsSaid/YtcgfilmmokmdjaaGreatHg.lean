/- A part of the walk. -/
import Derived.Test.YtcgfilmmokmdjaaGreatHd
import Derived.Test.YtcgfilmmokmdjaaGreatQAG
import Derived.Test.YtcgfilmmokmdjaaGreatMp
set_option linter.all false
set_option maxRecDepth 100000
set_option maxHeartbeats 32000000
namespace Go.Proofs.YtcgfilmmokmdjaaGreat
open Go.RowKit
theorem zF0 (l r : List Nd) : ic (l ++ r) = ic l + ic r := by
 induction l with
 | nil => simp [ic]
 | cons x l ih => rw [List.cons_append, wu, wu, ih, cN]
theorem zI6 (l : List Nd) (k : Nat) : ic (l.take k) ≤ ic l := by
 have h := zF0 (l.take k) (l.drop k);rw [bJ] at h;omega
theorem zB8 (x : Nd) (a : Option Addr) (cap : Nat) (w : World) : Calls Tryz.prog 52 #[QL x (.slice a x.data.length cap)] w fun e w' => e = .returned (.bool (decide x.ok)) ∧ Below w.heap.size w w' := by
 obtain ⟨k, c, d, l⟩ := x;dsimp only;have HB := zh (show Below w.heap.size w (w.alloc (.cells #[.int .u64 (k : Int), .int .u32 (c : Int), .bool d, .slice a l.length cap] 56)) from (aj _ _).alloc (ai _) _)
 have HO := zh (show decide (Nd.ok ⟨k, c, d, l⟩) = (decide ((l.length : Int) ≤ 4096) && !(d && decide (0 < (l.length : Int)))) by
  unfold Nd.ok
  dsimp only
  have e : (l = []) ↔ ¬ 0 < l.length := by rw [← List.length_eq_zero_iff]; omega
  cases d
  ·
   simp only [Bool.false_and, Bool.not_false, Bool.and_true, reduceCtorEq, false_imp_iff, and_true]
   exact decide_eq_decide.2 (by omega)
  simp only [cG, forall_const, e]
  rw [dw, aT, aM, aT, Bool.not_eq_true', decide_eq_false_iff_not]
  omega)
 generalize decide (Nd.ok ⟨k, c, d, l⟩) = ob at *;generalize l.length = n at *
 go_enter Tryz.func52, Tryz.ntmps52
 by_cases h1 : (n : Int) ≤ 4096
 ·
  have d1 : decide ((n : Int) ≤ 4096) = true := aF h1
  cases d
  ·
   go_wp2_with fail;go_ret;exact ⟨zE (by rw [HO.out, d1]; rfl), HB.out⟩
  by_cases h2 : 0 < (n : Int)
  ·
   have d2 : decide (0 < (n : Int)) = true := aF h2;go_wp2_with fail;go_ret;have h3 : 0 < n := by omega
   exact ⟨zE (by rw [HO.out, d1, d2]; simp [h3]), HB.out⟩
  have d2 : decide (0 < (n : Int)) = false := aD h2;go_wp2_with fail;go_ret;have h3 : ¬ 0 < n := by omega
  exact ⟨zE (by rw [HO.out, d1, d2]; simp [h3]), HB.out⟩
 have d1 : decide ((n : Int) ≤ 4096) = false := aD h1;go_wp2_with fail;go_ret;exact ⟨zE (by rw [HO.out, d1]; rfl), HB.out⟩
theorem zJW (x : Nd) (a : Option Addr) (cap : Nat) (w : World) : Calls Tryz.prog 51 #[QL x (.slice a x.data.length cap)] w fun e w' => e = .returned (.bool (!decide x.ok)) ∧ Below w.heap.size w w' := by
 have HV := zh (fun W => zB8 x a cap W);obtain ⟨W0, hW0⟩ : ∃ W0, w.alloc (.cells (KX x (.slice a x.data.length cap)) 56) = W0 := ⟨_, rfl⟩
 have jg := QM w x (.slice a x.data.length cap);have od := AK.new w x (.slice a x.data.length cap);rw [hW0] at jg od;have HD := zh od;have HB := zh jg;clear jg od;generalize decide x.ok = ob at *;generalize x.data.length = m at *
 go_enter Tryz.func51, Tryz.ntmps51
 go_upto_region 1 with fail;clear hW0;obtain ⟨d0, d1, d2, d3⟩ := HD.out.q;go_wp2_with fail;refine (HV.out _).mono ?_;rintro e w1 ⟨rfl, hb⟩;have eQ := zh (zA HB.out hb);clear hb;go_wp2_with fail;go_ret;exact ⟨rfl, eQ.out⟩
theorem zI7 (v : Value) (es : List (Nd × Value)) (w : World) (h : mL w v es) :
  Calls Tryz.prog 90 #[v, .func (.func 51) #[] #[]] w fun e w' => (∃ k : Int, e = .returned (.int .i64 k) ∧ decide (0 ≤ k) = !D8 (es.map (·.1))) ∧ Below w.heap.size w w' := by
 obtain ⟨a, cap, rfl, h1, h2⟩ := h.shape
 have HT := zh (show (∀ j, j < es.length → decide (xb es j).1.ok = true) → D8 (es.map (·.1)) = true from fun hh => (tJ _).2 (fun x hx => by
  obtain ⟨p, hp, rfl⟩ := List.mem_map.1 hx
  obtain ⟨j, hj, rfl⟩ := b8 hp
  have := aY (hh j hj)
  unfold xb at this
  rw [ax, aB hj] at this
  exact this))
 have HF := zh (show ∀ j, j < es.length → decide (xb es j).1.ok = false → D8 (es.map (·.1)) = false from fun j hj hf => by
  rw [Bool.eq_false_iff]
  intro ht
  exact cD hf ((tJ _).1 ht _ (cZ (uM hj))))
 have hm := BM h1 h2;generalize hn : es.length = n at *;have Hr := zh h;clear h h1 h2 hn
 go_enter Tryz.func90, Tryz.ntmps90
 go_wp2_with fail
 go_loopw [8] (fun i wr => ∃ k : Nat, k ≤ n ∧ i = .int .i64 (k : Int) ∧ (∀ j, j < k → decide (xb es j).1.ok = true) ∧ Below w.heap.size w wr) (fun i _ => n - (intOf i).toNat)
 case atStart => exact ⟨0, au _, rfl, fun j hj => absurd hj (by omega), aj _ _⟩
 obtain ⟨k, hk, rfl, hok, hb⟩ := hrel;have lI := zh hok;have Hb := zh hb;have hB := hb.size;clear hok hb
 by_cases hlt : k < n
 ·
  have hr := Hr.out.below Hb.out;obtain ⟨b, off, rfl, jr, c0, c1, c2, c3⟩ := hr.at hlt;have sK := zh (HF.out k hlt)
  have sP := zh (show decide (xb es k).1.ok = true → ∀ j, j < k + 1 → decide (xb es j).1.ok = true from fun ho j hj => by
   by_cases e : j = k
   ·
    subst e; exact ho
   exact lI.out j (by omega))
  generalize xb es k = X at c0 c1 c2 c3 jr sK sP;obtain ⟨x, xv⟩ := X;dsimp only at c0 c1 c2 c3 jr sK sP;obtain ⟨xa, xc, rfl, hx1, hx2⟩ := jr.gw;have HV := zh fun w => zJW x xa xc w
  clear jr;generalize x.data.length = xm at *;generalize decide x.ok = ob at *;clear hr;go_wp2_with fail;refine (HV.out _).mono ?_; rintro e w1 ⟨rfl, hb1⟩;have lV := zh (zA Hb.out hb1)
  cases ob
  ·
   clear hb1;go_wp2_with fail;go_ret;refine ⟨⟨k, rfl, ?_⟩, lV.out⟩;rw [sK.out (by trivial)]; simp
  clear hb1;go_wp2_with fail;exact ⟨⟨k + 1, by omega, by go_num, sP.out (by trivial), lV.out⟩, by simp [intOf]; omega⟩
 obtain rfl : k = n := by omega
 go_wp2_with fail;go_ret;refine ⟨⟨-1, rfl, ?_⟩, Hb.out⟩;rw [HT.out lI.out]; rfl
theorem zG7 (v : Value) (es : List (Nd × Value)) (w : World) (h : mL w v es) :
  Calls Tryz.prog 50 #[v, .func (.func 51) #[] #[]] w fun e w' => e = .returned (.bool (!D8 (es.map (·.1)))) ∧ Below w.heap.size w w' := by
 have HA := zh (zI7 v es w h);obtain ⟨a, cap, rfl, h1, h2⟩ := h.shape;clear h h1 h2
 go_enter Tryz.func50, Tryz.ntmps50
 go_wp2_with fail;refine HA.out.mono ?_; rintro e w1 ⟨⟨k, rfl, hk⟩, hb1⟩;have Hk := zh hk;have lV := zh hb1;clear hk hb1;go_wp2_with fail;go_ret;exact ⟨zE Hk.out, lV.out⟩
theorem Xa (g : Gn) (s : Sl) (v : Value) (es : List (Nd × Value)) (K : Nat) (w : World) (h : fw w s g.m.st) (hs : ∀ i, i < 8 → (g.m.st i).length ≤ K) (hr : mL w v es) (hK : K + es.length ≤ 9000) :
  Calls Tryz.prog 12 #[za g.num g.rev g.mode g.size s g.m.live g.m.dW, v] w (G4 w (yt g (es.map (·.1)))) := by
 obtain ⟨va, vc, rfl, rB, hv2⟩ := hr.shape;have Cz : ∀ i, i < 8 → (g.m.st i).length ≤ 10000 := fun i hi => ak (hs i hi) (by omega)
 have HV := zh (fun W (hb : Below w.heap.size w W) => vW g s W (h.below hb) Cz);have Xb := zh (fun W (hb : Below w.heap.size w W) => zG7 _ es W (hr.below hb));have jP := zh hr;have G9 := zh h;have jO := zh (show ∀ W, eU W w.heap.size Sl.nil fW.m.st from fun W => eU.nil W _);have HG := zh (show yt g (es.map (·.1)) = if wB g = true ∧ D8 (es.map (·.1)) = true then (if g.mode = 1 then (if g.size + (ic (es.map (·.1)) : Int) ≤ 1048576 then (0, zb g (es.map (·.1))) else (9, fW)) else (12, fW)) else (1, fW) from rfl);have iC := zh (show wB g = true → 16 ≤ g.size ∧ g.size ≤ 1048576 from fun hv => ⟨((yD g).1 hv).size.1, ((yD g).1 hv).size.2.1⟩);have iN := zh (fun i (hi : i ≤ es.length) => wL ((es.map (·.1)).take i) g hs);have G_ := zh (fun i (hi : i < es.length) => @W7 es i hi);have nA := zh (show ∀ i, ic ((es.map (·.1)).take i) ≤ ic (es.map (·.1)) from fun i => zI6 _ i)
 have lU := zh (show (es.map (·.1)).take es.length = es.map (·.1) from aR (by rw [aI]; omega));have pW := zh (show D8 (es.map (·.1)) = true → ∀ i, i < es.length → (xb es i).1.ok from fun hh i hi => (tJ _).1 hh _ (cZ (uM hi)));clear hr h hs Cz;generalize hN : es.map (·.1) = N at *;generalize hnn : es.length = n at *;have QZ := zh hnn;clear hnn hN;obtain ⟨gn, rv, md, z, ⟨f, L, G⟩⟩ := g;generalize nP : (⟨gn, rv, md, z, ⟨f, L, G⟩⟩ : Gn) = g at *;have Q0 := zh nP;obtain ⟨W, hW, fc, hbr, fB⟩ := wU w gn rv md z s L G 38;have HX := zh fc;have HR := zh hbr;have HB := zh fB;clear fc hbr fB;generalize yt g N = TG at *;generalize wB g = vb at *;generalize D8 N = ob at *;subst nP;dsimp only at *
 go_enter Tryz.func12, Tryz.ntmps12
 go_upto_region 1 with fail;change Code.wp _ _ _ _ ((w.alloc (.cells (zW gn rv md z s L G) 38)).alloc (.cells (zW 0 0 0 0 Sl.nil 0 0) 38));rw [hW];clear hW;obtain ⟨x0, x1, x2, x3, x4, x5, x6, x7, x8, x9, fM, fN, fK, fL⟩ := HX.out.q;go_wp2_with fail;refine (HV.out _ HB.out).mono ?_;rintro e w1 ⟨rfl, hb1⟩;have fp := zh (HX.out.below hb1);have eY := zh (HR.out.below hb1);have eQ := zh (zA HB.out hb1);have hlr : w.heap.size + 1 < W.heap.size := HR.out.lt;clear x0 x1 x2 x3 x4 x5 x6 x7 x8 x9 fM fN fK fL;clear hb1 HX HR HB HV
 cases vb
 ·
  have iT := zh (show TG = (1, fW) by rw [HG.out, ah (fun h => by cases h.1)]);obtain ⟨r0, r1, r2, r3, r4, r5, r6, r7, r8, r9, lM, lr, l7, mP⟩ := eY.out.q;have rf := eY.out.f;go_wp2_with fail;change bodyPost _ _ _ _ _ (pts w1 (w.heap.size + 1) (zL 0 0 0 0 Sl.nil 0 0));have hby := eY.out.all 0 0 0 0 Sl.nil 0 0;have ek := zh (zD (B := w.heap.size) (b := (w.heap.size + 1)) (by omega) (zL 0 0 0 0 Sl.nil 0 0) eQ.out);have gB := jO.out (pts w1 (w.heap.size + 1) (zL 0 0 0 0 Sl.nil 0 0));rw [iT.out];generalize pts w1 (w.heap.size + 1) (zL 0 0 0 0 Sl.nil 0 0) = V at *;exact aw (v := .tuple #[za 0 0 0 0 Sl.nil 0 0, .int .i64 1]) (by simp [results, Tryz.results12, go_sem, hby.q]) rfl ⟨⟨_, rfl, gB⟩, ek.out⟩
 obtain ⟨hz1, hz2⟩ := iC.out rfl;go_wp2_with fail;refine (Xb.out _ eQ.out).mono ?_;rintro e w2 ⟨rfl, hb2⟩;have fU := zh (fp.out.below hb2);have fZ := zh (eY.out.below hb2);have eP := zh (zA eQ.out hb2);clear hb2 fp eY eQ Xb
 cases ob
 ·
  have iT := zh (show TG = (1, fW) by rw [HG.out, ah (fun h => by cases h.2)]);obtain ⟨r0, r1, r2, r3, r4, r5, r6, r7, r8, r9, lM, lr, l7, mP⟩ := fZ.out.q;have rf := fZ.out.f;go_wp2_with fail;change bodyPost _ _ _ _ _ (pts w2 (w.heap.size + 1) (zL 0 0 0 0 Sl.nil 0 0));have hby := fZ.out.all 0 0 0 0 Sl.nil 0 0;have ek := zh (zD (B := w.heap.size) (b := (w.heap.size + 1)) (by omega) (zL 0 0 0 0 Sl.nil 0 0) eP.out);have gB := jO.out (pts w2 (w.heap.size + 1) (zL 0 0 0 0 Sl.nil 0 0));rw [iT.out];generalize pts w2 (w.heap.size + 1) (zL 0 0 0 0 Sl.nil 0 0) = V at *;exact aw (v := .tuple #[za 0 0 0 0 Sl.nil 0 0, .int .i64 1]) (by simp [results, Tryz.results12, go_sem, hby.q]) rfl ⟨⟨_, rfl, gB⟩, ek.out⟩
 have iG := zh (show TG = (if md = 1 then (if z + (ic N : Int) ≤ 1048576 then (0, zb ⟨gn, rv, md, z, ⟨f, L, G⟩⟩ N) else (9, fW)) else (12, fW)) by rw [HG.out, ag ⟨by trivial, by trivial⟩]);have CA := zh (pW.out rfl);clear HG pW
 by_cases mV : md = 1
 ·
  have e1 : (md == 1) = true := by rw [mV]; rfl
  have Xc := zh (show z + (ic N : Int) ≤ 1048576 → TG = (0, zb ⟨gn, rv, md, z, ⟨f, L, G⟩⟩ N) from fun hf => by rw [iG.out, ag mV, ag hf]);have sQ := zh (show ¬ z + (ic N : Int) ≤ 1048576 → TG = (9, fW) from fun hf => by rw [iG.out, ag mV, ah hf]);clear iG;subst mV;clear e1;obtain ⟨g0, hg0⟩ : ∃ g0 : Gn, (⟨gn, rv, 1, z, ⟨f, L, G⟩⟩ : Gn) = g0 := ⟨_, rfl⟩
  have EP := zh (show ∀ i, i ≤ n → ∀ j, j < 8 → ((zb g0 (N.take i)).m.st j).length ≤ 9000 from fun i hi j hj => by
   have h1 := iN.out i hi j hj
   have h2 : (N.take i).length ≤ n := by rw [ay]; omega
   rw [← hg0]; omega)
  have Hu := zh (show ∀ i, i < n → zb g0 (N.take (i + 1)) = yT (zb g0 (N.take i)) (xb es i).1 from fun i hi => by rw [G_.out i hi, tY]);have Q6 := zh (show ∀ i, i ≤ n → (zb g0 (N.take i)).size = z + (ic (N.take i) : Int) from fun i _ => by rw [wP, ← hg0]);have HTz := zh (show ∀ i, i < n → ic (N.take (i + 1)) = ic (N.take i) + eM (xb es i).1.data.length from fun i hi => by rw [G_.out i hi, kY]);rw [hg0] at Xc;have Lg := zh (show zb g0 (N.take 0) = ⟨gn, rv, 1, z, ⟨f, L, G⟩⟩ from by rw [← hg0]; rfl);have Hx := zh (show (zb g0 N).num = gn ∧ (zb g0 N).rev = rv ∧ (zb g0 N).mode = 1 from by rw [← hg0]; exact uc N _);have hf0 : z + (ic (N.take 0) : Int) ≤ 1048576 := by rw [List.take_zero, Ww]; omega
  clear iN G_ hg0;obtain ⟨x0, x1, x2, x3, x4, x5, x6, x7, x8, x9, fM, fN, fK, fL⟩ := fU.out.q;go_wp2_with fail
  go_loopw [23] (fun iv W => ∃ (i : Nat) (si : Sl), iv = .int .i64 (i : Int) ∧ i ≤ n ∧ Hid (z + (ic (N.take i) : Int) ≤ 1048576) ∧ Hid (eA W w.heap.size gn rv 1 (zb g0 (N.take i)).size si (zb g0 (N.take i)).m.live (zb g0 (N.take i)).m.dW) ∧ Hid (eO W (w.heap.size + 2) s f si (zb g0 (N.take i)).m.st) ∧ Hid (eA W (w.heap.size + 1) 0 0 0 0 Sl.nil 0 0) ∧ Hid (Below w.heap.size w W)) (fun iv _ => n - (intOf iv).toNat)
  case atStart => exact ⟨0, s, rfl, au _, zh hf0, by rw [Lg.out]; exact fU, by rw [Lg.out]; exact zh (eO.refl _ _ _ _), fZ, eP⟩
  obtain ⟨i, si, rfl, hi, ER, Bq, Ad, BX, nC⟩ := hrel;clear fU fZ eP hf0
  by_cases hlt : i < n
  ·
   have i1 : (i : Int) < (n : Int) := by omega
   obtain ⟨b, off, rfl, jr, c0, c1, c2, c3⟩ := (jP.out.below nC.out).at hlt;have Bj := zh (EP.out i hi);have nB := zh (Hu.out i hlt);have NN := Q6.out i hi;have NP := HTz.out i hlt;have Xd := nA.out (i + 1);have hok := CA.out i hlt;have lR := zh (Ad.out.rd G9.out nC.out);generalize xb es i = X at c0 c1 c2 c3 jr nB hok NP;obtain ⟨x, xv⟩ := X;dsimp only at c0 c1 c2 c3 jr nB hok NP;obtain ⟨xa, xc, rfl, hx1, hx2⟩ := jr.gw;have Hj : x.data.length ≤ 4096 := hok.1;have Hs := zh (fun W => t8 x.data.length W (ak Hj (by decide)));clear jr hok;have hxz := xx x.data.length;obtain ⟨W1, hW1⟩ : ∃ W1, wr.alloc (.cells (KX x (.slice xa x.data.length xc)) 56) = W1 := ⟨_, rfl⟩
   have jg := QM wr x (.slice xa x.data.length xc);have od := AK.new wr x (.slice xa x.data.length xc);rw [hW1] at jg od;have HD := zh od;have gN := zh jg;clear jg od;have jU := zh (Bq.out.below gN.out);have pP := zh (BX.out.below gN.out);have o7 := zh (lR.out.below gN.out);have oK := zh (zA nC.out gN.out);have hwr := BX.out.lt;have hws := gN.out.size;go_upto_region 8 with fail;clear hW1 c0 c1 c2 c3 Bq BX nC lR;obtain ⟨d0, d1, d2, d3⟩ := HD.out.q;generalize hm : x.data.length = m at *;have Hm := zh hm;clear hm;go_wp2_with fail;refine (Hs.out _).mono ?_;rintro e w3 ⟨rfl, rfl⟩;generalize Q8 : zb g0 (N.take i) = gi at *;clear Q8;obtain ⟨an, ar, am, az, ⟨af, aL, aG⟩⟩ := gi;dsimp only at *;have HZ := zh NN;have HT := zh NP;have HA := zh Xd;have Rb := ER.out;clear x0 x1 x2 x3 x4 x5 x6 x7 x8 x9 fM fN fK fL;have x4 := jU.out.c0;have x5 := jU.out.c1;have x6 := jU.out.c2;have x7 := jU.out.c3
   have x8 := jU.out.c4;have x9 := jU.out.c5;have fM := jU.out.c6;have fN := jU.out.c7;have fK := jU.out.cl;have fL := jU.out.cg;have x3 := jU.out.n3;have xf := jU.out.f;have hz3 : 0 ≤ az ∧ az ≤ 1048576 := by omega
   obtain ⟨Q9, FH⟩ := hz3;clear NN NP Xd Rb
   by_cases sH : 1048576 - az < (eM m : Int)
   ·
    have e5 : decide (1048576 - az < (eM m : Int)) = true := aF sH;have iT := zh (sQ.out (by have := HZ.out; have := HT.out; have := HA.out; omega));obtain ⟨r0, r1, r2, r3, r4, r5, r6, r7, r8, r9, lM, lr, l7, mP⟩ := pP.out.q;have rf := pP.out.f;go_wp2_with fail;change bodyPost _ _ _ _ _ (pts W1 (w.heap.size + 1) (zL 0 0 0 0 Sl.nil 0 0));have hby := pP.out.all 0 0 0 0 Sl.nil 0 0;have ek := zh (zD (B := w.heap.size) (b := (w.heap.size + 1)) (by omega) (zL 0 0 0 0 Sl.nil 0 0) oK.out);have gB := jO.out (pts W1 (w.heap.size + 1) (zL 0 0 0 0 Sl.nil 0 0));rw [iT.out];generalize pts W1 (w.heap.size + 1) (zL 0 0 0 0 Sl.nil 0 0) = V at *;exact aw (v := .tuple #[za 0 0 0 0 Sl.nil 0 0, .int .i64 9]) (by simp [results, Tryz.results12, go_sem, hby.q]) rfl ⟨⟨_, rfl, gB⟩, ek.out⟩
   have e5 : decide (1048576 - az < (eM m : Int)) = false := aD sH;have Bp := zh (show z + (ic (N.take (i + 1)) : Int) ≤ 1048576 by have := HZ.out; have := HT.out; omega);clear HZ HT HA sH
   cases iz : x.del
   ·
    rw [iz] at d2;have HP := zh (zJ0 si ⟨af, aL, aG⟩ ⟨(x.key : Int), (x.ck : Int), az, (m : Int)⟩ W1 o7.out (fun j hj => ak (Bj.out j hj) (by omega)))
    have oz := zh (show zb g0 (N.take (i + 1)) = ⟨an, ar, am, az + (eM m : Nat), wQ ⟨af, aL, aG⟩ ⟨(x.key : Int), (x.ck : Int), az, (m : Int)⟩⟩ by
     rw [nB.out]; unfold yT Bh; rw [iz, Hm.out]; rfl)
    clear nB;generalize wQ ⟨af, aL, aG⟩ ⟨(x.key : Int), (x.ck : Int), az, (m : Int)⟩ = M4 at *;obtain ⟨bf, bL, bG⟩ := M4;dsimp only at HP;go_wp2_with fail;refine (HP.out).mono ?_;rintro e w5 ⟨⟨s4, rfl, ho⟩, hb4⟩;have jE := zh (show eO w5 (w.heap.size + 2) s f s4 bf from .inr (ho.mono (by omega)));have fk := zh (jU.out.below hb4);have jV := zh (pP.out.below hb4);have gp := zh (zA oK.out hb4);clear x3 x4 x5 x6 x7 x8 x9 fM fN fK fL xf;clear d0 d1 d2 d3 jU pP oK o7 HD Ad;have x4 := fk.out.c0;have x5 := fk.out.c1;have x6 := fk.out.c2;have x7 := fk.out.c3;have x8 := fk.out.c4;have x9 := fk.out.c5;have fM := fk.out.c6;have fN := fk.out.c7;have fK := fk.out.cl;have fL := fk.out.cg;have x3 := fk.out.n3;have xf := fk.out.f;go_upto_region 14 with fail;change Code.wp _ _ _ _ (pts w5 w.heap.size (yp s4 bL bG));have ik := zh (fk.out.map s4 bL bG)
    have AV := zh (jV.out.eu (show w.heap.size + 1 ≠ w.heap.size by omega) (yp s4 bL bG));have jG := zh (zD (B := w.heap.size) (b := w.heap.size) (ai _) (yp s4 bL bG) gp.out);have mo := zh (jE.out.pts (show w.heap.size < w.heap.size + 2 by omega) (yp s4 bL bG));generalize pts w5 w.heap.size (yp s4 bL bG) = w6 at *;clear fk jV gp jE x3 x4 x5 x6 x7 x8 x9 fM fN fK fL xf;have x3 := ik.out.n3;have xf := ik.out.f;go_upto_region 15 with fail;change Code.wp _ _ _ _ (pts w6 w.heap.size [(3, .int .i64 (az + (eM m : Nat)))]);have iH := zh (ik.out.EI (az + (eM m : Nat)));have H3 := zh (AV.out.eu (show w.heap.size + 1 ≠ w.heap.size by omega) [(3, .int .i64 (az + (eM m : Nat)))]);have BU := zh (zD (B := w.heap.size) (b := w.heap.size) (ai _) [(3, .int .i64 (az + (eM m : Nat)))] jG.out);have Be := zh (mo.out.pts (show w.heap.size < w.heap.size + 2 by omega) [(3, .int .i64 (az + (eM m : Nat)))])
    generalize pts w6 w.heap.size [(3, .int .i64 (az + (eM m : Nat)))] = w7 at *;clear ik AV jG mo x3 xf;go_wp2_with fail
    go_roundw
    case rel =>
     refine ⟨i + 1, s4, by go_num, by omega, Bp, ?_, ?_, H3, BU⟩
     ·
      rw [oz.out]; exact iH
     rw [oz.out]; exact Be
    case measure => simp [intOf]; omega
   rw [iz] at d2;have HP := zh (VU si ⟨af, aL, aG⟩ (x.key : Int) W1 o7.out (fun j hj => ak (Bj.out j hj) (by omega)))
   have oz := zh (show zb g0 (N.take (i + 1)) = ⟨an, ar, am, az + (eM m : Nat), xA (yJ ⟨af, aL, aG⟩ (x.key : Int)) (eM m : Nat)⟩ by
    rw [nB.out]; unfold yT; rw [iz, Hm.out]; rfl)
   have Q_ := zh (fun j hj => ak (qD ⟨af, aL, aG⟩ (x.key : Int) Bj.out j hj) (show 9000 ≤ 10000 by decide));clear nB;generalize yJ ⟨af, aL, aG⟩ (x.key : Int) = M3 at *;obtain ⟨df, dL, dG⟩ := M3;dsimp only at HP;go_wp2_with fail;refine (HP.out).mono ?_;rintro e w4 ⟨⟨s5, rfl, ho⟩, hb4⟩;have Ed := zh (vT s5 ⟨df, dL, dG⟩ (eM m : Nat) w4 ho.rd Q_.out);have hw4 := hb4.size;clear ho;generalize xA ⟨df, dL, dG⟩ (eM m : Nat) = M4 at *;obtain ⟨bf, bL, bG⟩ := M4;dsimp only at Ed;go_wp2_with fail;refine (Ed.out).mono ?_;rintro e w5 ⟨⟨s4, rfl, ho⟩, hb5⟩;replace hb4 := zA hb4 hb5;have jE := zh (show eO w5 (w.heap.size + 2) s f s4 bf from .inr (ho.mono (by omega)));have fk := zh (jU.out.below hb4);have jV := zh (pP.out.below hb4);have gp := zh (zA oK.out hb4);clear x3 x4 x5 x6 x7 x8 x9 fM fN fK fL xf;clear d0 d1 d2 d3 jU pP oK o7 HD Ad;have x4 := fk.out.c0;have x5 := fk.out.c1;have x6 := fk.out.c2
   have x7 := fk.out.c3;have x8 := fk.out.c4;have x9 := fk.out.c5;have fM := fk.out.c6;have fN := fk.out.c7;have fK := fk.out.cl;have fL := fk.out.cg;have x3 := fk.out.n3;have xf := fk.out.f;go_upto_region 14 with fail;change Code.wp _ _ _ _ (pts w5 w.heap.size (yp s4 bL bG));have ik := zh (fk.out.map s4 bL bG);have AV := zh (jV.out.eu (show w.heap.size + 1 ≠ w.heap.size by omega) (yp s4 bL bG));have jG := zh (zD (B := w.heap.size) (b := w.heap.size) (ai _) (yp s4 bL bG) gp.out);have mo := zh (jE.out.pts (show w.heap.size < w.heap.size + 2 by omega) (yp s4 bL bG));generalize pts w5 w.heap.size (yp s4 bL bG) = w6 at *;clear fk jV gp jE x3 x4 x5 x6 x7 x8 x9 fM fN fK fL xf;have x3 := ik.out.n3;have xf := ik.out.f;go_upto_region 15 with fail;change Code.wp _ _ _ _ (pts w6 w.heap.size [(3, .int .i64 (az + (eM m : Nat)))]);have iH := zh (ik.out.EI (az + (eM m : Nat)))
   have H3 := zh (AV.out.eu (show w.heap.size + 1 ≠ w.heap.size by omega) [(3, .int .i64 (az + (eM m : Nat)))]);have BU := zh (zD (B := w.heap.size) (b := w.heap.size) (ai _) [(3, .int .i64 (az + (eM m : Nat)))] jG.out);have Be := zh (mo.out.pts (show w.heap.size < w.heap.size + 2 by omega) [(3, .int .i64 (az + (eM m : Nat)))]);generalize pts w6 w.heap.size [(3, .int .i64 (az + (eM m : Nat)))] = w7 at *;clear ik AV jG mo x3 xf;go_wp2_with fail
   go_roundw
   case rel =>
    refine ⟨i + 1, s4, by go_num, by omega, Bp, ?_, ?_, H3, BU⟩
    ·
     rw [oz.out]; exact iH
    rw [oz.out]; exact Be
   case measure => simp [intOf]; omega
  have hin : i = n := by omega
  rw [hin, lU.out] at Bq Ad ER;rw [hin];have iT := zh (Xc.out ER.out);have lR := zh (Ad.out.rd G9.out nC.out)
  have Xe := zh (show ∀ j, j < 8 → ((zb g0 N).m.st j).length ≤ 10000 from fun j hj => by
   have := EP.out n (ai _) j hj
   rw [lU.out] at this
   omega)
  clear hin hi;obtain ⟨Ae, lK, D5⟩ := Hx.out;generalize Ra : zb g0 N = gA at *;obtain ⟨an, ar, am, az, ⟨af, aL, aG⟩⟩ := gA;dsimp only at Bq Ad Ae lK D5 iT lR Xe;subst Ae lK D5;clear Ra;have Ed := zh (vT si ⟨af, aL, aG⟩ 0 wr lR.out Xe.out);rw [vj] at Ed;dsimp only at Ed;have aeM := BX.out.lt;obtain ⟨x4, x5, x6, x7, x8, x9, fM, fN, fK, fL⟩ := Bq.out.q;have xf := Bq.out.f;go_wp2_with fail;refine (Ed.out).mono ?_;rintro e w3 ⟨⟨s3, rfl, oT⟩, hb3⟩;have gO := zh (Bq.out.below hb3);have mh := zh (BX.out.below hb3);have fV := zh (zA nC.out hb3);have lB := zh (oT.mono (show w.heap.size + 2 ≤ wr.heap.size by omega));clear hb3 oT Bq BX nC Ad Ed lR xf x4 x5 x6 x7 x8 x9 fM fN fK fL;obtain ⟨x4, x5, x6, x7, x8, x9, fM, fN, fK, fL⟩ := gO.out.q;have xf := gO.out.f;go_upto_region 17 with fail;change Code.wp _ _ _ _ (pts w3 w.heap.size (yp s3 aL aG));have ia := zh (gO.out.map s3 aL aG)
  have jF := zh (mh.out.eu (show w.heap.size + 1 ≠ w.heap.size by omega) (yp s3 aL aG));have fQ := zh (zD (B := w.heap.size) (b := w.heap.size) (ai _) (yp s3 aL aG) fV.out);have iB := zh (lB.out.pts (show w.heap.size < w.heap.size + 2 by omega) (yp s3 aL aG));generalize pts w3 w.heap.size (yp s3 aL aG) = w4 at *;clear gO mh fV lB xf x4 x5 x6 x7 x8 x9 fM fN fK fL;obtain ⟨x0, x1, x2, x3, x4, x5, x6, x7, x8, x9, fM, fN, fK, fL⟩ := ia.out.q;obtain ⟨r0, r1, r2, r3, r4, r5, r6, r7, r8, r9, lM, lr, l7, mP⟩ := jF.out.q;have rf := jF.out.f;go_wp2_with fail;change bodyPost _ _ _ _ _ (pts w4 (w.heap.size + 1) (zL an ar 1 az s3 aL aG));have hby := jF.out.all an ar 1 az s3 aL aG;have ek := zh (zD (B := w.heap.size) (b := (w.heap.size + 1)) (by omega) (zL an ar 1 az s3 aL aG) fQ.out)
  have gB := (iB.out.pts (show w.heap.size + 1 < w.heap.size + 2 by omega) (zL an ar 1 az s3 aL aG)).mono (show w.heap.size ≤ w.heap.size + 2 by omega);rw [iT.out];generalize pts w4 (w.heap.size + 1) (zL an ar 1 az s3 aL aG) = V at *;exact aw (v := .tuple #[za an ar 1 az s3 aL aG, .int .i64 0]) (by simp [results, Tryz.results12, go_sem, hby.q]) rfl ⟨⟨_, rfl, gB⟩, ek.out⟩
 have iT := zh (show TG = (12, fW) by rw [iG.out, ah mV]);have e1 : (md == 1) = false := beq_eq_false_iff_ne.2 mV;clear iG;obtain ⟨x0, x1, x2, x3, x4, x5, x6, x7, x8, x9, fM, fN, fK, fL⟩ := fU.out.q;obtain ⟨r0, r1, r2, r3, r4, r5, r6, r7, r8, r9, lM, lr, l7, mP⟩ := fZ.out.q;have rf := fZ.out.f;go_wp2_with fail;change bodyPost _ _ _ _ _ (pts w2 (w.heap.size + 1) (zL 0 0 0 0 Sl.nil 0 0));have hby := fZ.out.all 0 0 0 0 Sl.nil 0 0;have ek := zh (zD (B := w.heap.size) (b := (w.heap.size + 1)) (by omega) (zL 0 0 0 0 Sl.nil 0 0) eP.out);have gB := jO.out (pts w2 (w.heap.size + 1) (zL 0 0 0 0 Sl.nil 0 0));rw [iT.out];generalize pts w2 (w.heap.size + 1) (zL 0 0 0 0 Sl.nil 0 0) = V at *;exact aw (v := .tuple #[za 0 0 0 0 Sl.nil 0 0, .int .i64 12]) (by simp [results, Tryz.results12, go_sem, hby.q]) rfl ⟨⟨_, rfl, gB⟩, ek.out⟩
end Go.Proofs.YtcgfilmmokmdjaaGreat
