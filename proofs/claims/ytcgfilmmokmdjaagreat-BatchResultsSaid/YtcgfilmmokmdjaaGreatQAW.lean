/- A part of the walk. -/
import Derived.Test.YtcgfilmmokmdjaaGreatBp
import Derived.Test.YtcgfilmmokmdjaaGreatQAU
import Derived.Test.YtcgfilmmokmdjaaGreatQAV
set_option linter.all false
set_option maxRecDepth 100000
set_option maxHeartbeats 32000000
namespace Go.Proofs.YtcgfilmmokmdjaaGreat
open Go.RowKit
theorem zLS (s : eL) (a : Option Addr) (n c : Nat) (L : List GP) (W : World) (hr : fq W (.slice a n c) L) (hg : dZ L = s.dU) (hl : eV 1000 s.dU) :
  Calls Tryz.prog 47 #[zZ s.id s.lim s.ro a n c] W fun e w' => e = .returned (.bool (zg s)) ∧ Below W.heap.size W w' := by
 have h := yQ s.id s.lim s.ro a n c L W hr (wm (hg ▸ hl) (by decide));obtain ⟨i, l, r, g⟩ := s;dsimp only at hg h ⊢;subst hg;exact h
structure np (W : World) (B : Nat) (P : fh) (kv : Value) (ks : List KP) (nv : Value) (es : List (Nd × Value)) (rv : Value) : Prop where
 k : gI W B kv ks
 kk : gX ks = P.ep
 n : fS W B nv es
 nn : es.map (·.1) = P.needs
 r : W.ownsRow B 39 1 rv P.res.length (P.res.map Dp)
theorem np.jw {W W' : World} {B b : Nat} {P : fh} {kv : Value} {ks : List KP} {nv : Value} {es : List (Nd × Value)} {rv : Value} (h : np W B P kv ks nv es rv) (ho : iJ W W' B b 71) : np W' B P kv ks nv es rv :=
 ⟨h.k.jw ho (by decide) (by decide), h.kk, h.n.jw ho (by decide) (by decide), h.nn, xh h.r ho (by decide)⟩
theorem np.nil (W : World) (B : Nat) (s : eL) : np W B (yR s) (.slice none 0 0) [] (.slice none 0 0) [] (.slice none 0 0) :=
 ⟨⟨aU _ _ _ _, (fun p hp => by cases hp), List.Pairwise.nil⟩, rfl, ⟨aU _ _ _ _, (fun p hp => by cases hp)⟩, rfl, aU _ _ _ _⟩
theorem xo {q : Rq} {r : List Rq} {P : fh} (h : (zT P q).1 = true) : wJ (q :: r) P = wJ r (zT P q).2 := by
 show (if (zT P q).1 = true then _ else _) = _
 rw [ag h]
theorem uL {q : Rq} {r : List Rq} {P : fh} (h : (zT P q).1 = false) : wJ (q :: r) P = (zT P q).2 := by
 show (if (zT P q).1 = true then _ else _) = _
 rw [ah (by rw [h]; decide)]
theorem Tm {K G : Nat} : ∀ (l : List Rq) (P : fh), lN K G P.res.length P → P.res.length ≤ 16 → (wJ l P).res.length ≤ 16 ∧ lN K G (wJ l P).res.length (wJ l P)
 | [], P, h, h1 => ⟨h1, h⟩
 | q :: r, P, h, h1 => by
  have h2 := Zt (q := q) h;have h3 := (uW P q h1).1
  cases e : (zT P q).1
  ·
   rw [uL e]; exact ⟨h3, h2⟩
  rw [xo e]; exact Tm r _ h2 h3
abbrev tH (ey : Bool) (take : Int) (kv nv rv : Value) : List (Nat × Value) := [(0, .bool ey), (1, .int .i64 take), (2, kv), (3, nv), (4, rv)]
theorem ZR {W : World} {b : Nat} {r0 : Bool} {t0 : Int} {k0 n0 v0 : Value} (ey : Bool) (take : Int) (kv nv rv : Value) (h : dV W b #[.bool r0, .int .i64 t0, k0, n0, v0] 71) (j : Nat) (u : Value) (hu : [Value.bool ey, .int .i64 take, kv, nv, rv][j]? = some u) :
  (pts W b (tH ey take kv nv rv)).cell? ⟨b, j, none⟩ = some u := by
 have h1 := dV.sets (tH ey take kv nv rv) h;simp only [dJ, List.foldl_nil, aP, aQ, aN] at h1;refine dV.cell h1 ?_;rw [← Array.getElem?_toList]; exact hu
theorem ZS (s : eL) (ga : Option Addr) (gn gc : Nat) (L : List GP) (qa : Option Addr) (qc : Nat) (qs : List (Rq × Value)) (w : World) (hr : fq w (.slice ga gn gc) L) (hg : dZ L = s.dU) (hl : eV 700 s.dU) (nH : s.dU.length ≤ 1000000)
  (hq : oC w (.slice qa qs.length qc) qs) (Jn : qs.length ≤ 1000000) (iz : ∀ p ∈ qs, p.1.data.length ≤ 1000000) :
  Calls Tryz.prog 22 #[zZ s.id s.lim s.ro ga gn gc, .slice qa qs.length qc] w fun e w' => ∃ kv ks nv es rv, e = .returned (.tuple #[.agg #[.bool (zm s (qs.map (·.1))).1.ey, .int .i64 ((zm s (qs.map (·.1))).1.res.length : Int), kv, nv, rv], .int .i64 (zm s (qs.map (·.1))).2]) ∧ np w' w.heap.size (zm s (qs.map (·.1))).1 kv ks nv es rv ∧ Below w.heap.size w w' := by
 have HV := zh (fun W (hb : Below w.heap.size w W) => zLS s ga gn gc L W (hr.below hb) hg (hl.mono (by decide)));have hb1 := (aj w.heap.size w).alloc (ai _) (.cells #[.int .i64 s.id, .int .i64 s.lim, .bool s.ro, .slice ga gn gc] 27);have hb2 := hb1.trans ((aj _ _).alloc hb1.size (.cells #[.bool false, .int .i64 0, .slice none 0 0, .slice none 0 0, .slice none 0 0] 71));have HX := zh (dV.new w #[.int .i64 s.id, .int .i64 s.lim, .bool s.ro, .slice ga gn gc] 27);have HY := zh (dV.new (w.alloc (.cells #[.int .i64 s.id, .int .i64 s.lim, .bool s.ro, .slice ga gn gc] 27)) #[.bool false, .int .i64 0, .slice none 0 0, .slice none 0 0, .slice none 0 0] 71);have fU := zh (HX.out.below ((aj _ _).alloc (ai _) (.cells #[.bool false, .int .i64 0, .slice none 0 0, .slice none 0 0, .slice none 0 0] 71)))
 have Mx : w.heap.size < (w.alloc (.cells #[.int .i64 s.id, .int .i64 s.lim, .bool s.ro, .slice ga gn gc] 27)).heap.size := HX.out.lt;have HB := zh hb2;clear hb1 hb2 HX;have Jg : (w.alloc (.cells #[.int .i64 s.id, .int .i64 s.lim, .bool s.ro, .slice ga gn gc] 27)).heap.size = w.heap.size + 1 := by simp
 rw [Jg] at HY Mx;clear Jg
 go_enter Tryz.func22, Tryz.ntmps22
 go_upto_region 1 with fail;generalize Cx : w.heap.size + 1 = bc at *;generalize ((w.alloc (.cells #[.int .i64 s.id, .int .i64 s.lim, .bool s.ro, .slice ga gn gc] 27)).alloc (.cells #[.bool false, .int .i64 0, .slice none 0 0, .slice none 0 0, .slice none 0 0] 71)) = w1 at *;have q0 := fU.out.cell (i := 0) rfl;have q1 := fU.out.cell (i := 1) rfl;have q2 := fU.out.cell (i := 2) rfl;have q3 := fU.out.cell (i := 3) rfl;go_wp2_with fail;refine (HV.out w1 HB.out).mono ?_;rintro e w2 ⟨rfl, hb2⟩;have eP := zh (zA HB.out hb2);have My := zh (fU.out.below hb2);have ix := zh (HY.out.below hb2);clear hb2 q0 q1 q2 q3 fU HY HB HV;have IK : w.heap.size ≤ bc := bM Mx
 by_cases hv : zg s = true
 ·
  rw [hv];have pg := zh (show zm s (qs.map (·.1)) = (wJ (qs.map (·.1)) (yR s), 0) by unfold zm; rw [ag hv]);have q0 := My.out.cell (i := 0) rfl;have q1 := My.out.cell (i := 1) rfl;have q2 := My.out.cell (i := 2) rfl;have q3 := My.out.cell (i := 3) rfl;go_upto_region 3 with fail
  go_cut [6] (fun pv wx => pv = .pointer (some ⟨w2.heap.size, 0, none⟩) ∧ wx = w2.alloc (.cells (tZ s.id s.lim s.ro ga gn gc false (.slice none 0 0) (.slice none 0 0) (.slice none 0 0) 0) 145))
  case first =>
   go_wp2_with fail;go_meet
   case rel => exact ⟨rfl, rfl⟩
  obtain ⟨rfl, rfl⟩ := hcut;have eG := (aj w2.heap.size w2).alloc (ai _) (.cells (tZ s.id s.lim s.ro ga gn gc false (.slice none 0 0) (.slice none 0 0) (.slice none 0 0) 0) 145);have px := zh (dV.new w2 (tZ s.id s.lim s.ro ga gn gc false (.slice none 0 0) (.slice none 0 0) (.slice none 0 0) 0) 145);have mA := zh (ix.out.below eG);have hlo : w.heap.size ≤ w2.heap.size := eP.out.size;have aiV : bc < w2.heap.size := ix.out.lt;have fV := zh (eP.out.trans (eG.mono hlo));clear eG q0 q1 q2 q3 My ix;generalize OO : w2.heap.size = b at *;clear OO;generalize w2.alloc (.cells (tZ s.id s.lim s.ro ga gn gc false (.slice none 0 0) (.slice none 0 0) (.slice none 0 0) 0) 145) = w3 at *
  have Ir := zh (show p_ w3 w.heap.size b (yR s) from ⟨ga, gn, gc, L, .slice none 0 0, [], .slice none 0 0, [], .slice none 0 0, hlo, px.out, ⟨(f_.old hr (ai _)).below fV.out, hg, (np.nil w3 w.heap.size s).k, rfl, (np.nil w3 w.heap.size s).n, rfl, (np.nil w3 w.heap.size s).r⟩⟩);have D_ := zh (show lN 700 s.dU.length (yR s).res.length (yR s) from ⟨hl, nS.nil _, ai _, ⟨cT _, cT _⟩, ai _⟩);have rC := Tm (K := 700) (G := s.dU.length) (qs.map (·.1)) (yR s) D_.out (au _);obtain ⟨jY, Tn⟩ : ∃ jY, wJ (qs.map (·.1)) (yR s) = jY := ⟨_, rfl⟩
  rw [Tn] at pg rC;have jP := zh (show wJ ((qs.map (·.1)).drop 0) (yR s) = jY from Tn);have Nx := zh rC;clear px Tn rC
  have Tp := zh (fun k (hk : k < qs.length) => show (qs.map (·.1)).drop k = (jX qs k).1 :: (qs.map (·.1)).drop (k + 1) by
   rw [cR (by rw [aI]; exact hk), dK]
   congr 1
   unfold jX
   rw [ax, aB hk]; rfl)
  have Fe := zh (show (qs.map (·.1)).drop qs.length = [] from bQ (by rw [aI]; exact ai _));have HQ := zh hq;have Iy := zh (fun k (hk : k < qs.length) => iz _ (kQ hk));clear hq iz hr hg hl;generalize hnn : qs.length = n at *;clear hnn
  go_upto_block 0 with fail
  go_cut [18] (fun _ wx => Hid (p_ wx w.heap.size b jY) ∧ Hid (dV wx bc #[.bool false, .int .i64 0, .slice none 0 0, .slice none 0 0, .slice none 0 0] 71) ∧ Hid (eX w.heap.size w wx))
  case first =>
   go_wp2_with fail
   go_loopw [18] (fun iv W => ∃ (k : Nat) (P : fh), iv = .int .i64 (k : Int) ∧ k ≤ n ∧ Hid (wJ ((qs.map (·.1)).drop k) P = jY) ∧ P.res.length ≤ 16 ∧ Hid (lN 700 s.dU.length P.res.length P) ∧ Hid (p_ W w.heap.size b P) ∧ Hid (dV W bc #[.bool false, .int .i64 0, .slice none 0 0, .slice none 0 0, .slice none 0 0] 71) ∧ Hid (eX w.heap.size w W)) (fun iv _ => n - (intOf iv).toNat)
   case atStart => exact ⟨0, yR s, rfl, au _, jP, au _, D_, Ir, mA, zh (eX.of fV.out (ai _))⟩
   clear D_ Ir jP mA fV;obtain ⟨k, P, rfl, hk, jP, jf, HI, HP, HY, HB⟩ := hrel
   by_cases hlt : k < n
   ·
    have j1 : (k : Int) < (n : Int) := by omega
    obtain ⟨qb, qo, e0, hd, c0, c1, c2, c3, c4⟩ := (HQ.out.below HB.out.b).at (j := k) hlt;subst e0;have ZT := Tp.out k hlt;have Tq := jP.out;rw [ZT] at Tq;have hdk := Iy.out k hlt;generalize (jX qs k).1 = q at *;generalize (jX qs k).2 = dv at *;obtain ⟨da, dc, rfl, _, _⟩ := hd.gw;have jO := zh Tq;obtain ⟨Iu, F8, Iv, L1, F9, gJ, CL, ji, CM, pq, w_, hR1⟩ := HP.out;have hes : ji.length ≤ 900 := by
     have h := aS List.length hR1.nn;rw [aI] at h;have := HI.out.e;omega
    have Mz : w.heap.size ≤ wr.heap.size := HB.out.size;have jL := zh (fun W (hb : Below wr.heap.size wr W) => zHV pq (w_.below hb) (hR1.below hb) (HI.out.l.mono (by omega)) (ak Mz hb.size) hes (by have h := HI.out.b; omega) (8 * P.res.length) (by omega) HI.out.k (ak HI.out.g nH) q q.tk q.kind (q.key : Int) (q.ck : Int) da q.data.length dc (iw.below hd hb) hdk jf rfl rfl rfl);have eG := (aj wr.heap.size wr).alloc (ai _) (.cells #[.int .i64 q.tk, .int .i64 q.kind, .int .u64 (q.key : Int), .int .u32 (q.ck : Int), .slice da q.data.length dc] 85);have DG := zh (jL.out _ eG);have HX := zh (dV.new wr #[.int .i64 q.tk, .int .i64 q.kind, .int .u64 (q.key : Int), .int .u32 (q.ck : Int), .slice da q.data.length dc] 85);have gp := zh (HB.out.step eG Mz);have pU := zh (HY.out.below eG);have nN := zh (Zt (q := q) HI.out);have Bc := (uW P q jf).1
    have jI := zh (fun h => (xo (q := q) (r := (qs.map (·.1)).drop (k + 1)) (P := P) h).symm.trans jO.out);have ZU := zh (fun h => (uL (q := q) (r := (qs.map (·.1)).drop (k + 1)) (P := P) h).symm.trans jO.out);clear eG w_ hR1 hes hd ZT Tq jO jP HP HI jL hdk;go_upto_region 7 with fail;change Code.wp _ _ _ _ (wr.alloc (.cells #[.int .i64 q.tk, .int .i64 q.kind, .int .u64 (q.key : Int), .int .u32 (q.ck : Int), .slice da q.data.length dc] 85));generalize wr.alloc (.cells #[.int .i64 q.tk, .int .i64 q.kind, .int .u64 (q.key : Int), .int .u32 (q.ck : Int), .slice da q.data.length dc] 85) = w5 at *;have x0 := HX.out.cell (i := 0) rfl;have x1 := HX.out.cell (i := 1) rfl;have x2 := HX.out.cell (i := 2) rfl;have x3 := HX.out.cell (i := 3) rfl;have x4 := HX.out.cell (i := 4) rfl;generalize (zT P q).2 = P2 at *;obtain ⟨pb, hpb⟩ : ∃ pb, (zT P q).1 = pb := ⟨_, rfl⟩
    rw [hpb] at DG jI ZU;clear hpb;go_wp2_with fail;refine DG.out.mono ?_;rintro e w6 ⟨rfl, Me, l6⟩;have OC := zh Me;have jG := zh (gp.out.trans l6);have ED := zh (l6.box pU.out (by decide));clear Me l6 HX DG gp HB HY pU x0 x1 x2 x3 x4 c0 c1 c2 c3 c4
    cases pb
    ·
     have Ih := zh (show p_ w6 w.heap.size b jY by rw [← ZU.out rfl]; exact OC.out);go_wp2_with fail;go_meet
     case rel => exact ⟨Ih, ED, jG⟩
    have jP := zh (jI.out rfl);go_wp2_with fail;exact ⟨⟨k + 1, P2, by go_num, by omega, jP, Bc, nN, OC, ED, jG⟩, by simp [intOf]; omega⟩
   have j1 : ¬ (k : Int) < (n : Int) := by omega
   obtain rfl : k = n := by omega
   have Ih := zh (show p_ wr w.heap.size b jY by have h := jP.out; rw [Fe.out] at h; rw [← h]; exact HP.out);go_wp2_with fail;go_meet
   case rel => exact ⟨Ih, HY, HB⟩
  obtain ⟨HP, HY, HB⟩ := hcut;generalize wc = v1 at *;obtain ⟨Iu, F8, Iv, L1, F9, gJ, CL, ji, CM, pq, w_, hR1⟩ := HP.out;have aiW := Nx.out.1;obtain ⟨ra, rc, Mu, hr1, hr2, _⟩ := zO hR1.r;subst Mu;obtain ⟨ka, kc, SD, _, _, _⟩ := zO hR1.k.row;obtain ⟨na, nc, Sc, _, _, _⟩ := zO hR1.n.row;subst SD Sc;have q8 := w_.cell (i := 8) rfl;have q5 := w_.cell (i := 5) rfl;have f5 := w_.frozen 5;have Tr := w_.set 5 (.int .i64 (jY.res.length : Int));simp only [aP, aQ, aN] at Tr;have mq := zh Tr;have fZ := zh (hR1.jw (iJ.pts pq ⟨_, _, w_⟩ [(5, .int .i64 (jY.res.length : Int))]));have eP := zh (HB.out.pts pq [(5, .int .i64 (jY.res.length : Int))] ⟨_, _, w_⟩ (by decide));have ix := zh (dV.eu (c := b) (by omega) [(5, .int .i64 (jY.res.length : Int))] HY.out);change Hid (lF (v1.setCell ⟨b, 5, none⟩ (.int .i64 (jY.res.length : Int))) _ _ _ _ _ _ _ _ _ _ _) at fZ
  change Hid (eX _ _ (v1.setCell ⟨b, 5, none⟩ (.int .i64 (jY.res.length : Int)))) at eP;change Hid (dV (v1.setCell ⟨b, 5, none⟩ (.int .i64 (jY.res.length : Int))) _ _ _) at ix;clear w_ hR1 Tr HP HY HB;go_upto_region 10 with fail;change Code.wp _ _ _ _ (v1.setCell ⟨b, 5, none⟩ (.int .i64 (jY.res.length : Int)));generalize v1.setCell ⟨b, 5, none⟩ (.int .i64 (jY.res.length : Int)) = v2 at *;clear q8 q5 f5;have q4 := mq.out.cell (i := 4) rfl;have q5 := mq.out.cell (i := 5) rfl;have q6 := mq.out.cell (i := 6) rfl;have q7 := mq.out.cell (i := 7) rfl;have q8 := mq.out.cell (i := 8) rfl;have y0 := ix.out.cell (i := 0) rfl;have y1 := ix.out.cell (i := 1) rfl;have y2 := ix.out.cell (i := 2) rfl;have y3 := ix.out.cell (i := 3) rfl;have y4 := ix.out.cell (i := 4) rfl;have yf := ix.out.frozen;have hne : ¬ b = bc := by omega
  have aiX : ¬ bc = b := by omega
  go_wp2_with fail;change bodyPost _ _ _ _ _ (pts v2 bc (tH jY.ey (jY.res.length : Int) (.slice ka gJ.length kc) (.slice na ji.length nc) (.slice ra jY.res.length rc)));have hby := ZR jY.ey (jY.res.length : Int) (.slice ka gJ.length kc) (.slice na ji.length nc) (.slice ra jY.res.length rc) ix.out;have ek := zh (zD (B := w.heap.size) (b := bc) IK (tH jY.ey (jY.res.length : Int) (.slice ka gJ.length kc) (.slice na ji.length nc) (.slice ra jY.res.length rc)) eP.out.b);have HPo := zh ((show np v2 w.heap.size jY (.slice ka gJ.length kc) gJ (.slice na ji.length nc) ji (.slice ra jY.res.length rc) from ⟨fZ.out.k, fZ.out.kk, fZ.out.n, fZ.out.nn, fZ.out.r⟩).jw (iJ.pts IK ⟨_, _, ix.out⟩ (tH jY.ey (jY.res.length : Int) (.slice ka gJ.length kc) (.slice na ji.length nc) (.slice ra jY.res.length rc))))
  generalize pts v2 bc (tH jY.ey (jY.res.length : Int) (.slice ka gJ.length kc) (.slice na ji.length nc) (.slice ra jY.res.length rc)) = V at *;exact aw (v := .tuple #[.agg #[.bool jY.ey, .int .i64 (jY.res.length : Int), .slice ka gJ.length kc, .slice na ji.length nc, .slice ra jY.res.length rc], .int .i64 0]) (by simp [results, Tryz.results22, go_sem, hby 0 _ rfl, hby 1 _ rfl, hby 2 _ rfl, hby 3 _ rfl, hby 4 _ rfl]) rfl ⟨_, gJ, _, ji, _, by rw [pg.out], by rw [pg.out]; exact HPo.out, ek.out⟩
 have hvf : zg s = false := by simpa using hv
 have pg := zh (show zm s (qs.map (·.1)) = (yR xP, 1) by unfold zm; rw [ah hv]);rw [hvf];have y0 := ix.out.cell (i := 0) rfl;have y1 := ix.out.cell (i := 1) rfl;have y2 := ix.out.cell (i := 2) rfl;have y3 := ix.out.cell (i := 3) rfl;have y4 := ix.out.cell (i := 4) rfl;have yf := ix.out.frozen;go_wp2_with fail;change bodyPost _ _ _ _ _ (pts w2 bc (tH false 0 (.slice none 0 0) (.slice none 0 0) (.slice none 0 0)));have hby := ZR false 0 (.slice none 0 0) (.slice none 0 0) (.slice none 0 0) ix.out;have ek := zh (zD (B := w.heap.size) (b := bc) IK (tH false 0 (.slice none 0 0) (.slice none 0 0) (.slice none 0 0)) eP.out);generalize pts w2 bc (tH false 0 (.slice none 0 0) (.slice none 0 0) (.slice none 0 0)) = V at *
 exact aw (v := .tuple #[.agg #[.bool false, .int .i64 0, .slice none 0 0, .slice none 0 0, .slice none 0 0], .int .i64 1]) (by simp [results, Tryz.results22, go_sem, hby 0 _ rfl, hby 1 _ rfl, hby 2 _ rfl, hby 3 _ rfl, hby 4 _ rfl]) rfl ⟨_, [], _, [], _, by rw [pg.out]; rfl, by rw [pg.out]; exact np.nil _ _ _, ek.out⟩
end Go.Proofs.YtcgfilmmokmdjaaGreat
namespace Go.Proofs.YtcgfilmmokmdjaaGreat
/-! ### The keys of a generation among ep -/
def vD : List Kl → Int → List Int
 | [], _ => []
 | k :: r, n => (if k.1 = n then k.2 else []) ++ vD r n
theorem tM : ∀ (l m : List Kl) (n : Int), vD (l ++ m) n = vD l n ++ vD m n
 | [], _, _ => rfl
 | k :: r, m, n => by
  show (if k.1 = n then k.2 else []) ++ vD (r ++ m) n = ((if k.1 = n then k.2 else []) ++ vD r n) ++ vD m n
  rw [tM r m n, bp]
theorem uN : ∀ {l : List Kl} {n : Int}, (∀ x ∈ l, x.1 ≠ n) → vD l n = []
 | [], _, _ => rfl
 | k :: r, n, h => by
  show (if k.1 = n then k.2 else []) ++ vD r n = []
  rw [ah (h k (by simp)), uN fun x hx => h x (by simp [hx])]; rfl
theorem zJS {l : List Kl} (ha : l.Pairwise fun a b => a.1 < b.1) (num key n : Int) : vD (kM l num key) n = if n = num then vD l n ++ [key] else vD l n := by
 have hlo : ∀ x ∈ l.take (fH l num), x.1 < num := fun x hx => by
  obtain ⟨j, hj, rfl⟩ := b8 hx;rw [ay] at hj;rw [List.getElem_take, yx (show j < l.length by omega)];exact YA l num (by omega)
 by_cases hh : fH l num < l.length ∧ (yH l (fH l num)).1 = num
 ·
  rw [kG hh];have e : l = l.take (fH l num) ++ yH l (fH l num) :: l.drop (fH l num + 1) := by
   rw [← yx hh.1, ← cR hh.1, bJ]
  have e2 : l.set (fH l num) (num, (yH l (fH l num)).2 ++ [key]) = l.take (fH l num) ++ (num, (yH l (fH l num)).2 ++ [key]) :: l.drop (fH l num + 1) := by
   rw [dS, ag hh.1]
  have JJ : ∀ x ∈ l.drop (fH l num + 1), num < x.1 := fun x hx => by
   obtain ⟨j, hj, rfl⟩ := b8 hx;rw [aK] at hj;rw [List.getElem_drop, yx (show fH l num + 1 + j < l.length by omega)];have := kj ha (show fH l num < fH l num + 1 + j by omega) (by omega);rw [hh.2] at this; exact this
  have e3 : vD l n = vD (l.take (fH l num)) n ++ ((if (yH l (fH l num)).1 = n then (yH l (fH l num)).2 else []) ++ vD (l.drop (fH l num + 1)) n) := by
   conv => lhs; rw [e]
   exact tM _ _ _
  rw [e2, tM, e3]
  show _ ++ ((if num = n then (yH l (fH l num)).2 ++ [key] else []) ++ vD _ n) = _
  by_cases en : n = num
  ·
   subst en;rw [ag rfl, ag rfl, ag hh.2, uN fun x hx => by have := hlo x hx; omega, uN fun x hx => by have := JJ x hx; omega];simp
  rw [ah fun e => en e.symm, ah en, ah (by rw [hh.2]; exact fun e => en e.symm)]
 rw [tt hh];have JJ : ∀ x ∈ l.drop (fH l num), num < x.1 := fun x hx => by
  obtain ⟨j, hj, rfl⟩ := b8 hx;rw [aK] at hj;rw [List.getElem_drop, yx (show fH l num + j < l.length by omega)];have h1 := YB l num (by omega);have h2 : (yH l (fH l num)).1 ≠ num := fun e => hh ⟨by omega, e⟩
  by_cases e : j = 0
  ·
   subst e; rw [bn]; omega
  have := kj ha (show fH l num < fH l num + j by omega) (by omega); omega
 have e3 : vD l n = vD (l.take (fH l num)) n ++ vD (l.drop (fH l num)) n := by
  rw [← tM, bJ]
 rw [tM, e3]
 show _ ++ ((if num = n then [key] else []) ++ vD _ n) = _
 by_cases en : n = num
 ·
  subst en;rw [ag rfl, ag rfl, uN fun x hx => by have := hlo x hx; omega, uN fun x hx => by have := JJ x hx; omega];simp
 rw [ah fun e => en e.symm, ah en]; rfl
/-! ### A generation that ZV keys -/
def xV (g : Gn) (keys : List Int) : Gn := { g with m := keys.foldl yJ g.m }
theorem ZW : ∀ (keys : List Int) {g : Gn}, ja g → ja (xV g keys)
 | [], _, h => h
 | k :: r, g, h => ZW r (XJ h k)
theorem zFH (g : Gn) (keys : List Int) (k : Int) : FZ (xV g keys) k = xV g (keys ++ [k]) := by
 unfold FZ xV;rw [dt]; rfl
theorem zFq (g : Gn) (a b : List Int) : xV (xV g a) b = xV g (a ++ b) := by
 unfold xV;rw [dt]
theorem ZX {s : eL} (h : eo s) {j : Nat} (hj : j + 1 < s.dU.length) (keys : List Int) : Fit s j (xV (eN s.dU j) keys) := by
 have ho := h.g j (by omega);exact ⟨by omega, ZW keys (h.vg (by omega)), rfl, ho.2.2.1, ho.2.2.2, fun e => by omega⟩
theorem zFD {s : eL} (h : eo s) {r : Nat} (hr : r + 1 < s.dU.length) (keys : List Int) : yX s (eN s.dU r).num keys = (uF s r (xV (eN s.dU r) keys), 0) := by
 have hm : (eN s.dU r).mode ≠ 1 := fun e => by have := (h.g r (by omega)).2.2.1.1 e; omega
 have hk : ye (eN s.dU r) keys = (0, xV (eN s.dU r) keys) := by
  unfold ye;rw [ag ((yD _).2 (h.vg (by omega))), ah hm]; rfl
 unfold yX;rw [Zy h (by omega), ag (by omega), hk, ag rfl, N4 h (ZX h hr keys)]
theorem kU {s : eL} {j : Nat} (hj : j < s.dU.length) (g : Gn) (i : Nat) : eN (uF s j g).dU i = if i = j then g else eN s.dU i := vF hj g i
theorem zIw {l m : List Gn} (hl : l.length = m.length) (h : ∀ i, i < l.length → eN l i = eN m i) : l = m := by
 refine List.ext_getElem hl fun i h1 h2 => ?_
 have := h i h1;unfold eN at this;rw [ax, ax, aB h1, aB h2] at this;exact this
theorem ZY : ∀ (l : List Kl) (s : eL), eo s → (l.Pairwise fun a b => a.1 < b.1) → (∀ x ∈ l, ∃ r, r + 1 < s.dU.length ∧ x.1 = (eN s.dU r).num) →
  (zi l s).2 = 0 ∧ Kp s (zi l s).1 ∧ zS (zi l s).1 = zS s ∧ ∀ r, r + 1 < s.dU.length → eN (zi l s).1.dU r = xV (eN s.dU r) (vD l (eN s.dU r).num)
 | [], s, h, _, _ => ⟨rfl, Kp.refl h, rfl, fun r _ => rfl⟩
 | k :: l, s, h, ha, hn => by
  rw [dz] at ha;obtain ⟨r0, Es, e0⟩ := hn k (by simp);have hk := zFD h Es k.2;rw [← e0] at hk;have hf := ZX h Es k.2;have hK := (Kp.refl h).set hf;have hlen : (uF s r0 (xV (eN s.dU r0) k.2)).dU.length = s.dU.length := hK.len
  obtain ⟨h1, h2, h3, h4⟩ := ZY l (uF s r0 (xV (eN s.dU r0) k.2)) hK.v ha.2 (fun x hx => by
   obtain ⟨r, hr, e⟩ := hn x (by simp [hx])
   exact ⟨r, by rw [hlen]; exact hr, by rw [e, hK.num r (by omega)]⟩)
  have e : zi (k :: l) s = zi l (uF s r0 (xV (eN s.dU r0) k.2)) := by
   show (if (yX s k.1 k.2).2 = 0 then zi l (yX s k.1 k.2).1 else _) = _
   rw [hk]; exact ag rfl
  rw [e];refine ⟨h1, hK.trans h2, by rw [h3, SZ Es], fun r hr => ?_⟩;rw [h4 r (by rw [hlen]; exact hr), kU (by omega)]
  show xV _ _ = xV (eN s.dU r) ((if k.1 = (eN s.dU r).num then k.2 else []) ++ vD l (eN s.dU r).num)
  by_cases er : r = r0
  ·
   subst er;rw [ag rfl, ag e0];exact zFq _ _ _
  have hne : k.1 ≠ (eN s.dU r).num := fun e2 => by
   rw [e0] at e2;exact h.rJ (show r0 < s.dU.length by omega) (show r < s.dU.length by omega) (fun e => er e.symm) e2
  rw [ah er, ah hne]; rfl
/-! ### What a Ts numbers say of the fP slot -/
structure lH (S : eL) (P : fh) : Prop where
 kp : Kp S P.t
 top : zS P.t = zb (zS S) P.needs
 low : ∀ r, r + 1 < S.dU.length → eN P.t.dU r = xV (eN S.dU r) (vD P.ep (eN S.dU r).num)
 A2 : P.ep.Pairwise fun a b => a.1 < b.1
 num : ∀ x ∈ P.ep, ∃ r, r + 1 < S.dU.length ∧ x.1 = (eN S.dU r).num
 ok : ∀ x ∈ P.needs, x.ok
theorem lH.start {S : eL} (h : eo S) : lH S (yR S) := ⟨Kp.refl h, rfl, fun _ _ => rfl, List.Pairwise.nil, (fun x hx => by cases hx), (fun x hx => by cases hx)⟩
theorem lH.more {S : eL} {P : fh} (h : lH S P) (e : Int) : lH S (more P e) := ⟨h.kp, h.top, h.low, h.A2, h.num, h.ok⟩
theorem lH.ey {S : eL} {P : fh} (h : lH S P) (b : Bool) : lH S { P with ey := b } := ⟨h.kp, h.top, h.low, h.A2, h.num, h.ok⟩
theorem lH.add {S : eL} {P : fh} (h : lH S P) {x : Nd} (hc : qw P.t x) : lH S (vH P x) := by
 have hv := h.kp.v;have ht := S0 hv hc;have hlen := hv.len;refine ⟨h.kp.trans (OH hv hc), ?_, fun r hr => ?_, h.A2, h.num, fun y hy => ?_⟩
 ·
  show zS (vH P x).t = zb (zS S) (P.needs ++ [x])
  rw [ht, Zx hv, tY, h.top]
 ·
  show eN (vH P x).t.dU r = _
  rw [ht, kU (by omega), ah (by have := h.kp.len; omega)];exact h.low r hr
 rcases List.mem_append.1 (show y ∈ P.needs ++ [x] from hy) with hy | hy
 ·
  exact h.ok y hy
 obtain rfl := List.mem_singleton.1 hy; exact hc.1
theorem zIs {l : List Kl} {num key : Int} {x : Kl} (h : x ∈ kM l num key) : x ∈ l ∨ x.1 = num := by
 by_cases hh : fH l num < l.length ∧ (yH l (fH l num)).1 = num
 ·
  rw [kG hh] at h;rcases List.mem_or_eq_of_mem_set h with h | rfl
  ·
   exact .inl h
  exact .inr rfl
 rw [tt hh] at h;rcases List.mem_append.1 h with h | h
 ·
  exact .inl (bN h)
 rcases List.mem_cons.1 h with rfl | h
 ·
  exact .inr rfl
 exact .inl (dC h)
theorem zIS {l : List Kl} (ha : l.Pairwise fun a b => a.1 < b.1) (hn : ∀ x ∈ l, 1 ≤ x.1 ∧ x.1 ≤ 8) {num : Int} (h8 : 1 ≤ num ∧ num ≤ 8) (key : Int) : (kM l num key).Pairwise fun a b => a.1 < b.1 := by
 obtain ⟨M, hM⟩ : ∃ M : Nat, ∀ x ∈ l, x.2.length ≤ M := by
  clear ha hn
  induction l with
  | nil => exact ⟨0, fun x hx => by cases hx⟩
  | cons y r ih =>
   obtain ⟨M, h⟩ := ih;refine ⟨M + y.2.length, fun x hx => ?_⟩;rcases List.mem_cons.1 hx with rfl | hx
   ·
    omega
   have := h x hx; omega
 exact (nS.ins (M := M) ⟨ha, hn, hM⟩ h8 key).A2
theorem lH.kill {S : eL} (hS : eo S) {P : fh} (h : lH S P) {r0 : Nat} (hr : r0 + 1 < S.dU.length) (key : Int) : lH S (xS key P (eN S.dU r0).num) := by
 have hv := h.kp.v;have hl := h.kp.len;have hr2 : r0 + 1 < P.t.dU.length := by omega
 have e2 : (xS key P (eN S.dU r0).num).t = uF P.t r0 (FZ (eN P.t.dU r0) key) := by
  show (yX P.t (eN S.dU r0).num [key]).1 = _
  rw [← h.kp.num r0 (by omega), Zz hv hr2]
 have ZZ : ∀ r, r < S.dU.length → 1 ≤ (eN S.dU r).num ∧ (eN S.dU r).num ≤ 8 := fun r hr => (hS.vg hr).num
 refine ⟨by rw [e2]; exact h.kp.set (fit_drop hv hr2 key), by rw [e2, SZ hr2]; exact h.top, fun r hr3 => ?_, ?_, fun x hx => ?_, h.ok⟩
 ·
  rw [e2, kU (by omega)]
  show _ = xV _ (vD (kM P.ep (eN S.dU r0).num key) (eN S.dU r).num)
  rw [zJS h.A2]
  by_cases e : r = r0
  ·
   subst e;rw [ag rfl, ag rfl, h.low r hr3, zFH]
  rw [ah e, ah (hS.rJ (by omega) (by omega) e)];exact h.low r hr3
 ·
  exact zIS h.A2 (fun x hx => by
   obtain ⟨r, h1, e⟩ := h.num x hx
   rw [e]; exact ZZ r (by omega)) (ZZ r0 (by omega)) key
 rcases zIs hx with hx | e
 ·
  exact h.num x hx
 exact ⟨r0, hr, e⟩
theorem lH.ep {S : eL} (hS : eo S) {key : Int} : ∀ (l : List Int) {P : fh}, lH S P → (∀ x ∈ l, ∃ r, r + 1 < S.dU.length ∧ x = (eN S.dU r).num) → lH S (l.foldl (xS key) P)
 | [], _, h, _ => h
 | x :: l, P, h, hl => by
  obtain ⟨r, hr, e⟩ := hl x (by simp);subst e;exact lH.ep hS l (h.kill hS hr key) fun y hy => hl y (by simp [hy])
theorem lH.IL {S : eL} (hS : eo S) {P : fh} (h : lH S P) (key : Int) : lH S (yW P key) :=
 lH.ep hS _ h fun x hx => by
  obtain ⟨r, h1, e⟩ := ZB h.kp.v hx;have hl := h.kp.len;exact ⟨r, by omega, by rw [e, h.kp.num r (by omega)]⟩
theorem lH.plan {S : eL} (hS : eo S) {P : fh} (h : lH S P) (q : Rq) : lH S (zT P q).2 := by
 have hv := h.kp.v;unfold zT
 split
 ·
  exact h
 split
 ·
  split
  ·
   exact h.ey _
  split
  ·
   rename_i hc
   split
   ·
    exact h
   exact (h.add (kq hv hc)).more _
  exact h.more _
 split
 ·
  split
  ·
   split
   ·
    exact h
   refine lH.more ?_ _;have hk := h.IL hS (q.key : Int);unfold yZ
   split
   ·
    rename_i ht;exact hk.add (ZD ((tX hk.kp.v _).1 ht))
   exact hk
  exact h.more _
 exact h.more _
theorem lH.run {S : eL} (hS : eo S) : ∀ (l : List Rq) {P : fh}, lH S P → lH S (wJ l P)
 | [], _, h => h
 | q :: r, P, h => by
  have h2 := h.plan hS q
  cases e : (zT P q).1
  ·
   rw [uL e]; exact h2
  rw [xo e]; exact lH.run hS r h2
theorem lH.apply {S : eL} (hS : eo S) {P : fh} (h : lH S P) : wg S false P.ep P.needs = (P.t, 0) := by
 obtain ⟨h1, h2, h3, h4⟩ := ZY P.ep S hS h.A2 h.num;have hlen := hS.len;have hP := h.kp.v;obtain ⟨tv, tm, tz⟩ := hP.sR;obtain ⟨sv, sm, sz⟩ := hS.sR;have hlim := hS.lim;have hsz : (zS S).size + (ic P.needs : Int) ≤ 1048576 := by
  have e := tz;rw [h.top, wP, h.kp.lim] at e;omega
 have hadd := Xm sv sm h.ok hsz;have hn := uc P.needs (zS S);have hT := h2.v;have EH := h2.len;have hfit : Fit (zi P.ep S).1 ((zi P.ep S).1.dU.length - 1) (zb (zS S) P.needs) := by
  have hpt : zS P.t = eN P.t.dU (P.t.dU.length - 1) := rfl;refine ⟨by omega, by rw [← h.top]; exact tv, ?_, ?_, ?_, fun _ => ?_⟩
  ·
   rw [hn.1, ← h3]; rfl
  ·
   rw [hn.2.2, sm]; exact ⟨fun _ => by omega, fun _ => rfl⟩
  ·
   rw [← h.top, h2.lim, ← h.kp.lim]; exact tz
  have ht := hP.top;rw [← hpt, h.top, h.kp.lim] at ht;rw [h2.lim]; exact ht
 unfold wg;rw [ag ((zR S).2 hS), ah (by decide), ag h1, hadd, ag rfl, N4 hT hfit]
 congr 1
 have hg : (uF (zi P.ep S).1 ((zi P.ep S).1.dU.length - 1) (zb (zS S) P.needs)).dU = P.t.dU := by
  refine zIw ?_ fun i hi => ?_
  ·
   show ((zi P.ep S).1.dU.set _ _).length = _
   rw [aZ, EH, h.kp.len]
  have hi2 : i < S.dU.length := by
   have : i < ((zi P.ep S).1.dU.set ((zi P.ep S).1.dU.length - 1) (zb (zS S) P.needs)).length := hi;rw [aZ, EH] at this; exact this
  rw [kU (by omega)]
  by_cases e : i = (zi P.ep S).1.dU.length - 1
  ·
   rw [ag e, ← h.top, e, EH, ← h.kp.len]; rfl
  rw [ah e, h4 i (by omega), h.low i (by omega)]
 have e1 := h2.id.trans h.kp.id.symm;have e2 := h2.lim.trans h.kp.lim.symm;have e3 := h2.ro.trans h.kp.ro.symm;generalize P.t = T at *;generalize zi P.ep S = U at *;obtain ⟨a, b, c, d⟩ := T;unfold uF at hg ⊢;dsimp only at e1 e2 e3 hg ⊢;rw [e1, e2, e3, hg]
/-! ### One request at a time -/
theorem Z5 (key : Int) : ∀ (l : List Int) (P Q : fh), P.t = Q.t → (l.foldl (xS key) P).t = (l.foldl (xS key) Q).t
 | [], _, _, h => h
 | x :: l, P, Q, h => Z5 key l (xS key P x) (xS key Q x) (by show (yX P.t x [key]).1 = (yX Q.t x [key]).1; rw [h])
theorem zI4 (P : fh) (key : Int) : (yW P key).t = (yW (yR P.t) key).t := Z5 key _ P (yR P.t) rfl
theorem zKm {P : fh} (h : eo P.t) (q : Rq) : (yZ P q).t = (yZ (yR P.t) q).t := by
 have e := zI4 P (q.key : Int);unfold yZ;rw [e]
 by_cases hb : vI (yW (yR P.t) q.key).t q.key = true
 ·
  rw [ag hb, ag hb]
  show (yb (yW P q.key).t _).1 = (yb (yW (yR P.t) q.key).t _).1
  rw [e]
 rw [ah hb, ah hb]; exact e
theorem Tt {P : fh} (hv : eo P.t) {q : Rq} (h : (zT P q).1 = true) :
  (zT (yR P.t) q).1 = true ∧ (zT (yR P.t) q).2.t = (zT P q).2.t ∧ (zT (yR P.t) q).2.ey = false ∧ ∃ e, (zT (yR P.t) q).2.res = [e] ∧ (zT P q).2.res = P.res ++ [e] := by
 have jf : ¬ P.res.length = 16 := fun e => by rw [qm e] at h; cases h
 have h0 : ¬ (yR P.t).res.length = 16 := by show ¬ (0 : Nat) = 16; omega
 by_cases h1 : q.kind = 1
 ·
  by_cases h9 : zy P.t q = 9 ∧ xe P.t = true
  ·
   rw [SU jf h1 h9.1 h9.2] at h; cases h
  by_cases hc : zy P.t q = 0
  ·
   by_cases hb : 0 < P.bytes ∧ 16384 < P.bytes + (eM q.data.length : Int)
   ·
    rw [qi jf h1 hc hb] at h; cases h
   rw [uT jf h1 hc hb, uT (P := yR P.t) h0 h1 hc (by show ¬ ((0 : Int) < 0 ∧ _); omega)];exact ⟨rfl, rfl, rfl, 0, rfl, rfl⟩
  rw [vN jf h1 h9 hc, vN (P := yR P.t) h0 h1 h9 hc];exact ⟨rfl, rfl, rfl, _, rfl, rfl⟩
 by_cases h2 : q.kind = 2
 ·
  rcases tQ (P := P) (q := q) with h3 | h3
  ·
   by_cases hb : vI P.t q.key = true ∧ 0 < P.bytes ∧ 16384 < P.bytes + 24
   ·
    rw [qp jf h2 h3 hb] at h; cases h
   rw [vM jf h2 h3 hb, vM (P := yR P.t) h0 h2 h3 (by show ¬ (_ ∧ (0 : Int) < 0 ∧ _); omega)];refine ⟨rfl, (zKm hv q).symm, ?_, 0, ?_, ?_⟩
   ·
    show (yZ (yR P.t) q).ey = false
    have hr := (yl (yR P.t) q.key).2.2.2;unfold yZ
    split
    ·
     exact hr
    exact hr
   ·
    show (yZ (yR P.t) q).res ++ [0] = [0]
    rw [uS]; rfl
   show (yZ P q).res ++ [0] = P.res ++ [0]
   rw [uS]
  rw [vX jf h2 h3, vX (P := yR P.t) h0 h2 h3];exact ⟨rfl, rfl, rfl, _, rfl, rfl⟩
 rw [vp jf h1 h2, vp (P := yR P.t) h0 h1 h2];exact ⟨rfl, rfl, rfl, _, rfl, rfl⟩
noncomputable def gY (S : eL) (K : List Rq) : Nat → fh
 | 0 => yR S
 | i + 1 => (zT (gY S K i) (yy K i)).2
theorem tO {S : eL} (hS : eo S) (K : List Rq) : ∀ i, Kp S (gY S K i).t
 | 0 => Kp.refl hS
 | i + 1 => (tO hS K i).trans (S1 (tO hS K i).v _)
theorem Z6 {S : eL} {K : List Rq} : ∀ (d i : Nat), K.length = i + d → (gY S K i).res.length = i → i ≤ 16 → ∃ n, i ≤ n ∧ n ≤ K.length ∧ (∀ j, i ≤ j → j < n → (gY S K j).res.length = j ∧ (zT (gY S K j) (yy K j)).1 = true) ∧ (gY S K n).res.length = n ∧ (wJ (K.drop i) (gY S K i)).res = (gY S K n).res ∧ (wJ (K.drop i) (gY S K i)).t = (gY S K n).t
 | 0, i, h, hr, _ => by
  refine ⟨i, ai _, by omega, fun j h1 h2 => by omega, hr, ?_⟩;rw [List.drop_eq_nil_of_le (by omega)];exact ⟨rfl, rfl⟩
 | d + 1, i, h, hr, jf => by
  have hlt : i < K.length := by omega
  have e : K.drop i = yy K i :: K.drop (i + 1) := by
   rw [cR hlt];unfold yy;rw [ax, aB hlt]; rfl
  rw [e]
  cases hp : (zT (gY S K i) (yy K i)).1
  ·
   rw [uL hp];refine ⟨i, ai _, by omega, fun j h1 h2 => by omega, hr, ?_⟩;unfold zT at hp ⊢
   split
   ·
    exact ⟨rfl, rfl⟩
   rename_i g0;rw [ah g0] at hp
   split
   ·
    rename_i g1;rw [ag g1] at hp
    split
    ·
     exact ⟨rfl, rfl⟩
    rename_i g2;rw [ah g2] at hp
    split
    ·
     rename_i g3;rw [ag g3] at hp
     split
     ·
      exact ⟨rfl, rfl⟩
     rename_i g4; rw [ah g4] at hp; cases hp
    rename_i g3; rw [ah g3] at hp; cases hp
   rename_i g1;rw [ah g1] at hp
   split
   ·
    rename_i g2;rw [ag g2] at hp
    split
    ·
     rename_i g3;rw [ag g3] at hp
     split
     ·
      exact ⟨rfl, rfl⟩
     rename_i g4; rw [ah g4] at hp; cases hp
    rename_i g3; rw [ah g3] at hp; cases hp
   rename_i g2; rw [ah g2] at hp; cases hp
  rw [xo hp];have hl := uW (gY S K i) (yy K i) (by omega);have hl2 : (gY S K (i + 1)).res.length = i + 1 := by
   show (zT (gY S K i) (yy K i)).2.res.length = _
   rw [hl.2.2 hp, hr]
  have Tv : i + 1 ≤ 16 := by have := hl.1; rw [hl.2.2 hp, hr] at this; exact this
  obtain ⟨n, h1, h2, h3, h4, h5⟩ := Z6 d (i + 1) (by omega) hl2 Tv;refine ⟨n, by omega, h2, fun j hj1 hj2 => ?_, h4, h5⟩
  by_cases ej : j = i
  ·
   subst ej; exact ⟨hr, hp⟩
  exact h3 j (by omega) hj2
structure IP (S : eL) (K : List Rq) : Prop where
 m : (zm S K).2 = 0
 n : (zm S K).1.res.length ≤ K.length
 ey : (zm S K).1.ey = true → (zm S K).1.res.length = 0 ∧ xe S = true
 all : (zm S K).1.ey = false → wg S false (zm S K).1.ep (zm S K).1.needs = ((gY S K (zm S K).1.res.length).t, 0)
 one : ∀ i, i < (zm S K).1.res.length → (zm (gY S K i).t [yy K i]).2 = 0 ∧ (zm (gY S K i).t [yy K i]).1.res = [uC (zm S K).1.res i] ∧ (zm (gY S K i).t [yy K i]).1.ey = false ∧
  wg (gY S K i).t false (zm (gY S K i).t [yy K i]).1.ep (zm (gY S K i).t [yy K i]).1.needs = ((gY S K (i + 1)).t, 0)
theorem zKP {S : eL} {K : List Rq} (hS : eo S) {n : Nat} (h : ∀ j, j < n → (zT (gY S K j) (yy K j)).1 = true) : ∀ i, i ≤ n → (gY S K i).res = (gY S K n).res.take i := by
 have key : ∀ d i, i + d = n → (gY S K i).res.length = i → (gY S K i).res = (gY S K n).res.take i := by
  intro d
  induction d with
  | zero =>
   intro i hi hl;obtain rfl : i = n := by omega
   rw [aR (by omega)]
  | succ d ih =>
   intro i hi hl;obtain ⟨_, _, _, e, _, h3⟩ := Tt (tO hS K i).v (h i (by omega));have h3 : (gY S K (i + 1)).res = (gY S K i).res ++ [e] := h3;have h4 := ih (i + 1) (by omega) (by rw [h3, aA, hl]; rfl);have h5 := aS (List.take i) h4;rw [h3, dN (by omega), aR (by omega), dh, bH (by omega)] at h5;exact h5
 have hl : ∀ i, i ≤ n → (gY S K i).res.length = i := by
  intro i
  induction i with
  | zero => intro _; rfl
  | succ i ih =>
   intro hi;obtain ⟨_, _, _, e, _, h3⟩ := Tt (tO hS K i).v (h i (by omega));have h3 : (gY S K (i + 1)).res = (gY S K i).res ++ [e] := h3;rw [h3, aA, ih (by omega)]; rfl
 intro i hi;exact key (n - i) i (by omega) (hl i hi)
theorem zFi {P : fh} (hv : eo P.t) (hr : P.ey = false) (q : Rq) : (zT P q).2.ey = true → xe P.t = true := by
 have hd : (yZ P q).ey = false := by
  have h := (yl P q.key).2.2.2;unfold yZ
  split
  ·
   show (yW P q.key).ey = false; rw [h]; exact hr
  rw [h]; exact hr
 have hf : ∀ Q : fh, Q.ey = false → Q.ey = true → xe P.t = true := fun Q h1 h2 => by rw [h1] at h2; cases h2
 unfold zT
 split
 ·
  exact hf _ hr
 split
 ·
  split
  ·
   rename_i h9; exact fun _ => h9.2
  split
  ·
   split
   ·
    exact hf _ hr
   exact hf _ hr
  exact hf _ hr
 split
 ·
  split
  ·
   split
   ·
    exact hf _ hr
   exact hf _ hd
  exact hf _ hr
 exact hf _ hr
theorem zFC {P : fh} (hr : P.ey = false) (q : Rq) (h : (zT P q).1 = true) : (zT P q).2.ey = false := by
 have hd : (yZ P q).ey = false := by
  have h := (yl P q.key).2.2.2;unfold yZ
  split
  ·
   show (yW P q.key).ey = false; rw [h]; exact hr
  rw [h]; exact hr
 unfold zT at h ⊢
 split
 ·
  exact hr
 rename_i g0;rw [ah g0] at h
 split
 ·
  rename_i g1;rw [ag g1] at h
  split
  ·
   rename_i g2; rw [ag g2] at h; cases h
  split
  ·
   split
   ·
    exact hr
   exact hr
  exact hr
 split
 ·
  split
  ·
   split
   ·
    exact hr
   exact hd
  exact hr
 exact hr
theorem Z7 {S : eL} (hS : eo S) : ∀ (l : List Rq) (P : fh), Kp S P.t → P.ey = false → (wJ l P).ey = true → xe S = true
 | [], P, _, h0, h => by rw [show (wJ [] P).ey = P.ey from rfl, h0] at h; cases h
 | q :: r, P, hk, h0, h => by
  cases e : (zT P q).1
  ·
   rw [uL e] at h;rw [← Kp.can hS hk]; exact zFi hk.v h0 q h
  rw [xo e] at h;exact Z7 hS r _ (hk.trans (S1 hk.v q)) (zFC h0 q e) h
theorem zKc {S : eL} (hS : eo S) (K : List Rq) : IP S K := by
 obtain ⟨h0, hL⟩ := ZF hS K;have hM : ∀ (T : eL) (l : List Rq), eo T → zm T l = (wJ l (yR T), 0) := fun T l hT => by unfold zm; rw [ag ((zR T).2 hT)]
 obtain ⟨n, _, Ae, lK, D5, OP, Tw⟩ := Z6 (S := S) (K := K) K.length 0 (by omega) rfl (by omega);have OP : (wJ K (yR S)).res = (gY S K n).res := OP;have Tw : (wJ K (yR S)).t = (gY S K n).t := Tw;have hstep : ∀ j, j < n → (zT (gY S K j) (yy K j)).1 = true := fun j hj => (lK j (au _) hj).2
 have hres := zKP hS hstep;have hlen : (zm S K).1.res.length = n := by rw [hM S K hS]; show (wJ K (yR S)).res.length = n; rw [OP, D5]
 have hRS : (zm S K).1.res = (gY S K n).res := by rw [hM S K hS]; exact OP
 refine ⟨h0, hL.n, fun hr => ⟨hL.rr hr, ?_⟩, fun _ => ?_, fun i hi => ?_⟩
 ·
  rw [hM S K hS] at hr;exact Z7 hS K (yR S) (Kp.refl hS) rfl hr
 ·
  rw [hlen, hM S K hS]
  show wg S false (wJ K (yR S)).ep (wJ K (yR S)).needs = _
  rw [((lH.start hS).run hS K).apply hS, Tw]
 rw [hlen] at hi;have hv := (tO hS K i).v;obtain ⟨g1, g2, g3, e, g4, g5⟩ := Tt hv (hstep i hi);have e1 : wJ [yy K i] (yR (gY S K i).t) = (zT (yR (gY S K i).t) (yy K i)).2 := by rw [xo g1]; rfl
 rw [hM _ _ hv, hRS]
 show (0 : Int) = 0 ∧ (wJ [yy K i] (yR (gY S K i).t)).res = _ ∧ (wJ [yy K i] (yR (gY S K i).t)).ey = false ∧ wg _ false (wJ [yy K i] (yR (gY S K i).t)).ep (wJ [yy K i] (yR (gY S K i).t)).needs = _
 have ha := ((lH.start hv).run hv [yy K i]).apply hv;rw [ha, e1, g4, g3, g2];refine ⟨rfl, ?_, rfl, rfl⟩;have g5 : (gY S K (i + 1)).res = (gY S K i).res ++ [e] := g5;have h1 := hres (i + 1) hi;have hli : (gY S K i).res.length = i := (lK i (au _) hi).1;rw [g5] at h1;have h2 : ((gY S K i).res ++ [e])[i]? = some e := by rw [dD (by omega), hli]; simp
 rw [h1, List.getElem?_take_of_lt (by omega)] at h2;unfold uC;rw [ax, h2]; rfl
end Go.Proofs.YtcgfilmmokmdjaaGreat
