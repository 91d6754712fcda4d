/- A part of the walk. -/
import Derived.Test.YtcgfilmmokmdjaaGreatBp
import Derived.Test.YtcgfilmmokmdjaaGreatQAU
import Derived.Test.YtcgfilmmokmdjaaGreatQAV
set_option maxRecDepth 100000
set_option maxHeartbeats 32000000
namespace Go.Proofs.YtcgfilmmokmdjaaGreat
open Go.RowKit
theorem zLS (s : eE) (a : Option Addr) (n c : Nat) (L : List GP) (W : World) (hr : fl W (.slice a n c) L) (hg : dV L = s.dP) (hl : eV 1000 s.dP) :
  Calls Tryz.prog 47 #[zZ s.id s.lim s.ro a n c] W fun e w' => e = .returned (.bool (zg s)) ∧ Below W.heap.size W w' := by
 have h := yQ s.id s.lim s.ro a n c L W hr (wm (hg ▸ hl) (by decide));obtain ⟨i, l, r, g⟩ := s;dsimp only at hg h ⊢;subst hg;exact h
structure nj (W : World) (B : Nat) (P : fg) (kv : Value) (ks : List KP) (nv : Value) (es : List (Nd × Value)) (rv : Value) : Prop where
 k : gD W B kv ks
 kk : gT ks = P.ei
 n : fO W B nv es
 nn : es.map (·.1) = P.needs
 r : W.ownsRow B 39 1 rv P.res.length (P.res.map Dw)
theorem nj.jw {W W' : World} {B b : Nat} {P : fg} {kv : Value} {ks : List KP} {nv : Value} {es : List (Nd × Value)} {rv : Value} (h : nj W B P kv ks nv es rv) (ho : iI W W' B b 71) : nj W' B P kv ks nv es rv :=
 ⟨h.k.jw ho (by decide) (by decide), h.kk, h.n.jw ho (by decide) (by decide), h.nn, xh h.r ho (by decide)⟩
theorem nj.nil (W : World) (B : Nat) (s : eE) : nj W B (yR s) (.slice none 0 0) [] (.slice none 0 0) [] (.slice none 0 0) :=
 ⟨⟨aV _ _ _ _, (fun p hp => by cases hp), List.Pairwise.nil⟩, rfl, ⟨aV _ _ _ _, (fun p hp => by cases hp)⟩, rfl, aV _ _ _ _⟩
theorem xo {q : Rq} {r : List Rq} {P : fg} (h : (zT P q).1 = true) : wJ (q :: r) P = wJ r (zT P q).2 := by
 show (if (zT P q).1 = true then _ else _) = _
 rw [ag h]
theorem uL {q : Rq} {r : List Rq} {P : fg} (h : (zT P q).1 = false) : wJ (q :: r) P = (zT P q).2 := by
 show (if (zT P q).1 = true then _ else _) = _
 rw [ah (by rw [h]; decide)]
theorem TD {K G : Nat} : ∀ (l : List Rq) (P : fg), lL K G P.res.length P → P.res.length ≤ 16 → (wJ l P).res.length ≤ 16 ∧ lL K G (wJ l P).res.length (wJ l P)
 | [], P, h, h1 => ⟨h1, h⟩
 | q :: r, P, h, h1 => by
  have h2 := ZT (q := q) h;have h3 := (uW P q h1).1
  cases e : (zT P q).1
  ·
   rw [uL e]; exact ⟨h3, h2⟩
  rw [xo e]; exact TD r _ h2 h3
abbrev tH (ep : Bool) (take : Int) (kv nv rv : Value) : List (Nat × Value) := [(0, .bool ep), (1, .int .i64 take), (2, kv), (3, nv), (4, rv)]
theorem zEN {W : World} {b : Nat} {r0 : Bool} {t0 : Int} {k0 n0 v0 : Value} (ep : Bool) (take : Int) (kv nv rv : Value) (h : dQ W b #[.bool r0, .int .i64 t0, k0, n0, v0] 71) (j : Nat) (u : Value) (hu : [Value.bool ep, .int .i64 take, kv, nv, rv][j]? = some u) :
  (pts W b (tH ep take kv nv rv)).cell? ⟨b, j, none⟩ = some u := by
 have h1 := dQ.sets (tH ep take kv nv rv) h;simp only [dD, List.foldl_nil, aP, aQ, aN] at h1;refine dQ.cell h1 ?_;rw [← Array.getElem?_toList]; exact hu
theorem zCU (s : eE) (ga : Option Addr) (gn gc : Nat) (L : List GP) (qa : Option Addr) (qc : Nat) (qs : List (Rq × Value)) (w : World) (hr : fl w (.slice ga gn gc) L) (hg : dV L = s.dP) (hl : eV 700 s.dP) (nF : s.dP.length ≤ 1000000)
  (hq : oz w (.slice qa qs.length qc) qs) (JD : qs.length ≤ 1000000) (iw : ∀ p ∈ qs, p.1.data.length ≤ 1000000) :
  Calls Tryz.prog 22 #[zZ s.id s.lim s.ro ga gn gc, .slice qa qs.length qc] w fun e w' => ∃ kv ks nv es rv, e = .returned (.tuple #[.agg #[.bool (zm s (qs.map (·.1))).1.ep, .int .i64 ((zm s (qs.map (·.1))).1.res.length : Int), kv, nv, rv], .int .i64 (zm s (qs.map (·.1))).2]) ∧ nj w' w.heap.size (zm s (qs.map (·.1))).1 kv ks nv es rv ∧ Below w.heap.size w w' := by
 have HV := zh (fun W (hb : Below w.heap.size w W) => zLS s ga gn gc L W (hr.below hb) hg (hl.mono (by decide)));have dW := (aj w.heap.size w).alloc (ai _) (.cells #[.int .i64 s.id, .int .i64 s.lim, .bool s.ro, .slice ga gn gc] 27);have ez := dW.trans ((aj _ _).alloc dW.size (.cells #[.bool false, .int .i64 0, .slice none 0 0, .slice none 0 0, .slice none 0 0] 71));have HX := zh (dQ.new w #[.int .i64 s.id, .int .i64 s.lim, .bool s.ro, .slice ga gn gc] 27);have HY := zh (dQ.new (w.alloc (.cells #[.int .i64 s.id, .int .i64 s.lim, .bool s.ro, .slice ga gn gc] 27)) #[.bool false, .int .i64 0, .slice none 0 0, .slice none 0 0, .slice none 0 0] 71);have fQ := zh (HX.out.below ((aj _ _).alloc (ai _) (.cells #[.bool false, .int .i64 0, .slice none 0 0, .slice none 0 0, .slice none 0 0] 71)))
 have MR : w.heap.size < (w.alloc (.cells #[.int .i64 s.id, .int .i64 s.lim, .bool s.ro, .slice ga gn gc] 27)).heap.size := HX.out.lt;have HB := zh ez;clear dW ez HX;have Jv : (w.alloc (.cells #[.int .i64 s.id, .int .i64 s.lim, .bool s.ro, .slice ga gn gc] 27)).heap.size = w.heap.size + 1 := by simp
 rw [Jv] at HY MR;clear Jv
 go_enter Tryz.func22, Tryz.ntmps22
 go_upto_region 1 with fail;generalize CD : w.heap.size + 1 = bc at *;generalize ((w.alloc (.cells #[.int .i64 s.id, .int .i64 s.lim, .bool s.ro, .slice ga gn gc] 27)).alloc (.cells #[.bool false, .int .i64 0, .slice none 0 0, .slice none 0 0, .slice none 0 0] 71)) = w1 at *;have q0 := fQ.out.cell (i := 0) rfl;have q1 := fQ.out.cell (i := 1) rfl;have q2 := fQ.out.cell (i := 2) rfl;have q3 := fQ.out.cell (i := 3) rfl;go_wp2_with fail;refine (HV.out w1 HB.out).mono ?_;rintro e w2 ⟨rfl, ez⟩;have eN := zh (zA HB.out ez);have MT := zh (fQ.out.below ez);have il := zh (HY.out.below ez);clear ez q0 q1 q2 q3 fQ HY HB HV;have I5 : w.heap.size ≤ bc := bN MR
 by_cases hv : zg s = true
 ·
  rw [hv];have o9 := zh (show zm s (qs.map (·.1)) = (wJ (qs.map (·.1)) (yR s), 0) by unfold zm; rw [ag hv]);have q0 := MT.out.cell (i := 0) rfl;have q1 := MT.out.cell (i := 1) rfl;have q2 := MT.out.cell (i := 2) rfl;have q3 := MT.out.cell (i := 3) rfl;go_upto_region 3 with fail
  go_cut [6] (fun pv wx => pv = .pointer (some ⟨w2.heap.size, 0, none⟩) ∧ wx = w2.alloc (.cells (tZ s.id s.lim s.ro ga gn gc false (.slice none 0 0) (.slice none 0 0) (.slice none 0 0) 0) 145))
  case first =>
   go_wp2_with fail;go_meet
   case rel => exact ⟨rfl, rfl⟩
  obtain ⟨rfl, rfl⟩ := fZ;have eC := (aj w2.heap.size w2).alloc (ai _) (.cells (tZ s.id s.lim s.ro ga gn gc false (.slice none 0 0) (.slice none 0 0) (.slice none 0 0) 0) 145);have pe := zh (dQ.new w2 (tZ s.id s.lim s.ro ga gn gc false (.slice none 0 0) (.slice none 0 0) (.slice none 0 0) 0) 145);have mq := zh (il.out.below eC);have hlo : w.heap.size ≤ w2.heap.size := eN.out.size;have ajr : bc < w2.heap.size := il.out.lt;have fS := zh (eN.out.trans (eC.mono hlo));clear eC q0 q1 q2 q3 MT il;generalize O9 : w2.heap.size = b at *;clear O9;generalize w2.alloc (.cells (tZ s.id s.lim s.ro ga gn gc false (.slice none 0 0) (.slice none 0 0) (.slice none 0 0) 0) 145) = w3 at *
  have IK := zh (show pW w3 w.heap.size b (yR s) from ⟨ga, gn, gc, L, .slice none 0 0, [], .slice none 0 0, [], .slice none 0 0, hlo, pe.out, ⟨(fV.old hr (ai _)).below fS.out, hg, (nj.nil w3 w.heap.size s).k, rfl, (nj.nil w3 w.heap.size s).n, rfl, (nj.nil w3 w.heap.size s).r⟩⟩);have Ed := zh (show lL 700 s.dP.length (yR s).res.length (yR s) from ⟨hl, nQ.nil _, ai _, ⟨cS _, cS _⟩, ai _⟩);have rA := TD (K := 700) (G := s.dP.length) (qs.map (·.1)) (yR s) Ed.out (au _);obtain ⟨jY, TE⟩ : ∃ jY, wJ (qs.map (·.1)) (yR s) = jY := ⟨_, rfl⟩
  rw [TE] at o9 rA;have jP := zh (show wJ ((qs.map (·.1)).drop 0) (yR s) = jY from TE);have NU := zh rA;clear pe TE rA
  have TF := zh (fun k (hk : k < qs.length) => show (qs.map (·.1)).drop k = (jX qs k).1 :: (qs.map (·.1)).drop (k + 1) by
   rw [cQ (by rw [aI]; exact hk), dE]
   congr 1
   unfold jX
   rw [ax, aB hk]; rfl)
  have Fl := zh (show (qs.map (·.1)).drop qs.length = [] from bT (by rw [aI]; exact ai _));have HQ := zh hq;have IU := zh (fun k (hk : k < qs.length) => iw _ (kQ hk));clear hq iw hr hg hl;generalize hnn : qs.length = n at *;clear hnn
  go_upto_block 0 with fail
  go_cut [18] (fun _ wx => Hid (pW wx w.heap.size b jY) ∧ Hid (dQ wx bc #[.bool false, .int .i64 0, .slice none 0 0, .slice none 0 0, .slice none 0 0] 71) ∧ Hid (eX w.heap.size w wx))
  case first =>
   go_wp2_with fail
   go_loopw [18] (fun iv W => ∃ (k : Nat) (P : fg), iv = .int .i64 (k : Int) ∧ k ≤ n ∧ Hid (wJ ((qs.map (·.1)).drop k) P = jY) ∧ P.res.length ≤ 16 ∧ Hid (lL 700 s.dP.length P.res.length P) ∧ Hid (pW W w.heap.size b P) ∧ Hid (dQ W bc #[.bool false, .int .i64 0, .slice none 0 0, .slice none 0 0, .slice none 0 0] 71) ∧ Hid (eX w.heap.size w W)) (fun iv _ => n - (intOf iv).toNat)
   case atStart => exact ⟨0, yR s, rfl, au _, jP, au _, Ed, IK, mq, zh (eX.of fS.out (ai _))⟩
   clear Ed IK jP mq fS;obtain ⟨k, P, rfl, hk, jP, jf, HI, HP, HY, HB⟩ := eT
   by_cases hlt : k < n
   ·
    have j1 : (k : Int) < (n : Int) := by omega
    obtain ⟨qb, qo, e0, hd, c0, c1, c2, c3, c4⟩ := (HQ.out.below HB.out.b).at (j := k) hlt;subst e0;have hD1 := TF.out k hlt;have TH := jP.out;rw [hD1] at TH;have hdk := IU.out k hlt;generalize (jX qs k).1 = q at *;generalize (jX qs k).2 = dv at *;obtain ⟨da, dc, rfl, _, _⟩ := hd.gq;have jO := zh TH;obtain ⟨IL, Gf, IP, L1, Gg, gE, CQ, ji, CT, pd, w_, oK⟩ := HP.out;have J_ : ji.length ≤ 900 := by
     have h := aT List.length oK.nn;rw [aI] at h;have := HI.out.e;omega
    have MU : w.heap.size ≤ wr.heap.size := HB.out.size;have jL := zh (fun W (hb : Below wr.heap.size wr W) => zHV pd (w_.below hb) (oK.below hb) (HI.out.l.mono (by omega)) (ak MU hb.size) J_ (by have h := HI.out.b; omega) (8 * P.res.length) (by omega) HI.out.k (ak HI.out.g nF) q q.tk q.kind (q.key : Int) (q.ck : Int) da q.data.length dc (ik.below hd hb) hdk jf rfl rfl rfl);have eC := (aj wr.heap.size wr).alloc (ai _) (.cells #[.int .i64 q.tk, .int .i64 q.kind, .int .u64 (q.key : Int), .int .u32 (q.ck : Int), .slice da q.data.length dc] 85);have DL := zh (jL.out _ eC);have HX := zh (dQ.new wr #[.int .i64 q.tk, .int .i64 q.kind, .int .u64 (q.key : Int), .int .u32 (q.ck : Int), .slice da q.data.length dc] 85);have gj := zh (HB.out.step eC MU);have pO := zh (HY.out.below eC);have nL := zh (ZT (q := q) HI.out);have Bd := (uW P q jf).1
    have jI := zh (fun h => (xo (q := q) (r := (qs.map (·.1)).drop (k + 1)) (P := P) h).symm.trans jO.out);have HSp := zh (fun h => (uL (q := q) (r := (qs.map (·.1)).drop (k + 1)) (P := P) h).symm.trans jO.out);clear eC w_ oK J_ hd hD1 TH jO jP HP HI jL hdk;go_upto_region 7 with fail;change Code.wp _ _ _ _ (wr.alloc (.cells #[.int .i64 q.tk, .int .i64 q.kind, .int .u64 (q.key : Int), .int .u32 (q.ck : Int), .slice da q.data.length dc] 85));generalize wr.alloc (.cells #[.int .i64 q.tk, .int .i64 q.kind, .int .u64 (q.key : Int), .int .u32 (q.ck : Int), .slice da q.data.length dc] 85) = w5 at *;have x0 := HX.out.cell (i := 0) rfl;have x1 := HX.out.cell (i := 1) rfl;have x2 := HX.out.cell (i := 2) rfl;have x3 := HX.out.cell (i := 3) rfl;have x4 := HX.out.cell (i := 4) rfl;generalize (zT P q).2 = P2 at *;obtain ⟨pb, hpb⟩ : ∃ pb, (zT P q).1 = pb := ⟨_, rfl⟩
    rw [hpb] at DL jI HSp;clear hpb;go_wp2_with fail;refine DL.out.mono ?_;rintro e w6 ⟨rfl, MB, l5⟩;have O1 := zh MB;have jG := zh (gj.out.trans l5);have EJ := zh (l5.box pO.out (by decide));clear MB l5 HX DL gj HB HY pO x0 x1 x2 x3 x4 c0 c1 c2 c3 c4
    cases pb
    ·
     have IA := zh (show pW w6 w.heap.size b jY by rw [← HSp.out rfl]; exact O1.out);go_wp2_with fail;go_meet
     case rel => exact ⟨IA, EJ, jG⟩
    have jP := zh (jI.out rfl);go_wp2_with fail;exact ⟨⟨k + 1, P2, by go_num, by omega, jP, Bd, nL, O1, EJ, jG⟩, by simp [intOf]; omega⟩
   have j1 : ¬ (k : Int) < (n : Int) := by omega
   obtain rfl : k = n := by omega
   have IA := zh (show pW wr w.heap.size b jY by have h := jP.out; rw [Fl.out] at h; rw [← h]; exact HP.out);go_wp2_with fail;go_meet
   case rel => exact ⟨IA, HY, HB⟩
  obtain ⟨HP, HY, HB⟩ := fZ;generalize wc = v1 at *;obtain ⟨IL, Gf, IP, L1, Gg, gE, CQ, ji, CT, pd, w_, oK⟩ := HP.out;have ajs := NU.out.1;obtain ⟨ra, rc, MO, PB, rV, _⟩ := zO oK.r;subst MO;obtain ⟨ka, kc, SZ, _, _, _⟩ := zO oK.k.row;obtain ⟨na, nc, SA, _, _, _⟩ := zO oK.n.row;subst SZ SA;have q8 := w_.cell (i := 8) rfl;have q5 := w_.cell (i := 5) rfl;have f5 := w_.frozen 5;have TI := w_.set 5 (.int .i64 (jY.res.length : Int));simp only [aP, aQ, aN] at TI;have mj := zh TI;have fU := zh (oK.jw (iI.pts pd ⟨_, _, w_⟩ [(5, .int .i64 (jY.res.length : Int))]));have eN := zh (HB.out.pts pd [(5, .int .i64 (jY.res.length : Int))] ⟨_, _, w_⟩ (by decide));have il := zh (dQ.ek (c := b) (by omega) [(5, .int .i64 (jY.res.length : Int))] HY.out);change Hid (lD (v1.setCell ⟨b, 5, none⟩ (.int .i64 (jY.res.length : Int))) _ _ _ _ _ _ _ _ _ _ _) at fU
  change Hid (eX _ _ (v1.setCell ⟨b, 5, none⟩ (.int .i64 (jY.res.length : Int)))) at eN;change Hid (dQ (v1.setCell ⟨b, 5, none⟩ (.int .i64 (jY.res.length : Int))) _ _ _) at il;clear w_ oK TI HP HY HB;go_upto_region 10 with fail;change Code.wp _ _ _ _ (v1.setCell ⟨b, 5, none⟩ (.int .i64 (jY.res.length : Int)));generalize v1.setCell ⟨b, 5, none⟩ (.int .i64 (jY.res.length : Int)) = v2 at *;clear q8 q5 f5;have q4 := mj.out.cell (i := 4) rfl;have q5 := mj.out.cell (i := 5) rfl;have q6 := mj.out.cell (i := 6) rfl;have q7 := mj.out.cell (i := 7) rfl;have q8 := mj.out.cell (i := 8) rfl;have y0 := il.out.cell (i := 0) rfl;have y1 := il.out.cell (i := 1) rfl;have y2 := il.out.cell (i := 2) rfl;have y3 := il.out.cell (i := 3) rfl;have y4 := il.out.cell (i := 4) rfl;have yf := il.out.frozen;have hne : ¬ b = bc := by omega
  have ajt : ¬ bc = b := by omega
  go_wp2_with fail;change bodyPost _ _ _ _ _ (pts v2 bc (tH jY.ep (jY.res.length : Int) (.slice ka gE.length kc) (.slice na ji.length nc) (.slice ra jY.res.length rc)));have hby := zEN jY.ep (jY.res.length : Int) (.slice ka gE.length kc) (.slice na ji.length nc) (.slice ra jY.res.length rc) il.out;have ea := zh (zD (B := w.heap.size) (b := bc) I5 (tH jY.ep (jY.res.length : Int) (.slice ka gE.length kc) (.slice na ji.length nc) (.slice ra jY.res.length rc)) eN.out.b);have HPo := zh ((show nj v2 w.heap.size jY (.slice ka gE.length kc) gE (.slice na ji.length nc) ji (.slice ra jY.res.length rc) from ⟨fU.out.k, fU.out.kk, fU.out.n, fU.out.nn, fU.out.r⟩).jw (iI.pts I5 ⟨_, _, il.out⟩ (tH jY.ep (jY.res.length : Int) (.slice ka gE.length kc) (.slice na ji.length nc) (.slice ra jY.res.length rc))))
  generalize pts v2 bc (tH jY.ep (jY.res.length : Int) (.slice ka gE.length kc) (.slice na ji.length nc) (.slice ra jY.res.length rc)) = V at *;exact aw (v := .tuple #[.agg #[.bool jY.ep, .int .i64 (jY.res.length : Int), .slice ka gE.length kc, .slice na ji.length nc, .slice ra jY.res.length rc], .int .i64 0]) (by simp [results, Tryz.results22, go_sem, hby 0 _ rfl, hby 1 _ rfl, hby 2 _ rfl, hby 3 _ rfl, hby 4 _ rfl]) rfl ⟨_, gE, _, ji, _, by rw [o9.out], by rw [o9.out]; exact HPo.out, ea.out⟩
 have hvf : zg s = false := by simpa using hv
 have o9 := zh (show zm s (qs.map (·.1)) = (yR xP, 1) by unfold zm; rw [ah hv]);rw [hvf];have y0 := il.out.cell (i := 0) rfl;have y1 := il.out.cell (i := 1) rfl;have y2 := il.out.cell (i := 2) rfl;have y3 := il.out.cell (i := 3) rfl;have y4 := il.out.cell (i := 4) rfl;have yf := il.out.frozen;go_wp2_with fail;change bodyPost _ _ _ _ _ (pts w2 bc (tH false 0 (.slice none 0 0) (.slice none 0 0) (.slice none 0 0)));have hby := zEN false 0 (.slice none 0 0) (.slice none 0 0) (.slice none 0 0) il.out;have ea := zh (zD (B := w.heap.size) (b := bc) I5 (tH false 0 (.slice none 0 0) (.slice none 0 0) (.slice none 0 0)) eN.out);generalize pts w2 bc (tH false 0 (.slice none 0 0) (.slice none 0 0) (.slice none 0 0)) = V at *
 exact aw (v := .tuple #[.agg #[.bool false, .int .i64 0, .slice none 0 0, .slice none 0 0, .slice none 0 0], .int .i64 1]) (by simp [results, Tryz.results22, go_sem, hby 0 _ rfl, hby 1 _ rfl, hby 2 _ rfl, hby 3 _ rfl, hby 4 _ rfl]) rfl ⟨_, [], _, [], _, by rw [o9.out]; rfl, by rw [o9.out]; exact nj.nil _ _ _, ea.out⟩
end Go.Proofs.YtcgfilmmokmdjaaGreat
namespace Go.Proofs.YtcgfilmmokmdjaaGreat
/-! ### The keys of a generation among ei -/
def vD : List Kl → Int → List Int
 | [], _ => []
 | k :: r, n => (if k.1 = n then k.2 else []) ++ vD r n
theorem tM : ∀ (l m : List Kl) (n : Int), vD (l ++ m) n = vD l n ++ vD m n
 | [], _, _ => rfl
 | k :: r, m, n => by
  show (if k.1 = n then k.2 else []) ++ vD (r ++ m) n = ((if k.1 = n then k.2 else []) ++ vD r n) ++ vD m n
  rw [tM r m n, bt]
theorem uN : ∀ {l : List Kl} {n : Int}, (∀ x ∈ l, x.1 ≠ n) → vD l n = []
 | [], _, _ => rfl
 | k :: r, n, h => by
  show (if k.1 = n then k.2 else []) ++ vD r n = []
  rw [ah (h k (by simp)), uN fun x hx => h x (by simp [hx])]; rfl
theorem zJS {l : List Kl} (ha : l.Pairwise fun a b => a.1 < b.1) (num key n : Int) : vD (kM l num key) n = if n = num then vD l n ++ [key] else vD l n := by
 have hlo : ∀ x ∈ l.take (fE l num), x.1 < num := fun x hx => by
  obtain ⟨j, hj, rfl⟩ := b_ hx;rw [ay] at hj;rw [List.getElem_take, yx (show j < l.length by omega)];exact YV l num (by omega)
 by_cases hh : fE l num < l.length ∧ (yH l (fE l num)).1 = num
 ·
  rw [kG hh];have e : l = l.take (fE l num) ++ yH l (fE l num) :: l.drop (fE l num + 1) := by
   rw [← yx hh.1, ← cQ hh.1, bM]
  have e2 : l.set (fE l num) (num, (yH l (fE l num)).2 ++ [key]) = l.take (fE l num) ++ (num, (yH l (fE l num)).2 ++ [key]) :: l.drop (fE l num + 1) := by
   rw [dO, ag hh.1]
  have J3 : ∀ x ∈ l.drop (fE l num + 1), num < x.1 := fun x hx => by
   obtain ⟨j, hj, rfl⟩ := b_ hx;rw [aK] at hj;rw [List.getElem_drop, yx (show fE l num + 1 + j < l.length by omega)];have := kj ha (show fE l num < fE l num + 1 + j by omega) (by omega);rw [hh.2] at this; exact this
  have e3 : vD l n = vD (l.take (fE l num)) n ++ ((if (yH l (fE l num)).1 = n then (yH l (fE l num)).2 else []) ++ vD (l.drop (fE l num + 1)) n) := by
   conv => lhs; rw [e]
   exact tM _ _ _
  rw [e2, tM, e3]
  show _ ++ ((if num = n then (yH l (fE l num)).2 ++ [key] else []) ++ vD _ n) = _
  by_cases en : n = num
  ·
   subst en;rw [ag rfl, ag rfl, ag hh.2, uN fun x hx => by have := hlo x hx; omega, uN fun x hx => by have := J3 x hx; omega];simp
  rw [ah fun e => en e.symm, ah en, ah (by rw [hh.2]; exact fun e => en e.symm)]
 rw [tt hh];have J3 : ∀ x ∈ l.drop (fE l num), num < x.1 := fun x hx => by
  obtain ⟨j, hj, rfl⟩ := b_ hx;rw [aK] at hj;rw [List.getElem_drop, yx (show fE l num + j < l.length by omega)];have h1 := YW l num (by omega);have h2 : (yH l (fE l num)).1 ≠ num := fun e => hh ⟨by omega, e⟩
  by_cases e : j = 0
  ·
   subst e; rw [bp]; omega
  have := kj ha (show fE l num < fE l num + j by omega) (by omega); omega
 have e3 : vD l n = vD (l.take (fE l num)) n ++ vD (l.drop (fE l num)) n := by
  rw [← tM, bM]
 rw [tM, e3]
 show _ ++ ((if num = n then [key] else []) ++ vD _ n) = _
 by_cases en : n = num
 ·
  subst en;rw [ag rfl, ag rfl, uN fun x hx => by have := hlo x hx; omega, uN fun x hx => by have := J3 x hx; omega];simp
 rw [ah fun e => en e.symm, ah en]; rfl
/-! ### A generation that aar keys -/
def xV (g : Gn) (keys : List Int) : Gn := { g with m := keys.foldl yJ g.m }
theorem zBX : ∀ (keys : List Int) {g : Gn}, ja g → ja (xV g keys)
 | [], _, h => h
 | k :: r, g, h => zBX r (X2 h k)
theorem zFH (g : Gn) (keys : List Int) (k : Int) : F5 (xV g keys) k = xV g (keys ++ [k]) := by
 unfold F5 xV;rw [dg]; rfl
theorem zFq (g : Gn) (a b : List Int) : xV (xV g a) b = xV g (a ++ b) := by
 unfold xV;rw [dg]
theorem zCQ {s : eE} (h : ec s) {j : Nat} (hj : j + 1 < s.dP.length) (keys : List Int) : Fit s j (xV (eH s.dP j) keys) := by
 have ho := h.g j (by omega);exact ⟨by omega, zBX keys (h.vg (by omega)), rfl, ho.2.2.1, ho.2.2.2, fun e => by omega⟩
theorem zFD {s : eE} (h : ec s) {r : Nat} (hr : r + 1 < s.dP.length) (keys : List Int) : yX s (eH s.dP r).num keys = (uF s r (xV (eH s.dP r) keys), 0) := by
 have hm : (eH s.dP r).mode ≠ 1 := fun e => by have := (h.g r (by omega)).2.2.1.1 e; omega
 have hk : ye (eH s.dP r) keys = (0, xV (eH s.dP r) keys) := by
  unfold ye;rw [ag ((yD _).2 (h.vg (by omega))), ah hm]; rfl
 unfold yX;rw [ZY h (by omega), ag (by omega), hk, ag rfl, Ot h (zCQ h hr keys)]
theorem kU {s : eE} {j : Nat} (hj : j < s.dP.length) (g : Gn) (i : Nat) : eH (uF s j g).dP i = if i = j then g else eH s.dP i := vF hj g i
theorem zIw {l m : List Gn} (hl : l.length = m.length) (h : ∀ i, i < l.length → eH l i = eH m i) : l = m := by
 refine List.ext_getElem hl fun i h1 h2 => ?_
 have := h i h1;unfold eH at this;rw [ax, ax, aB h1, aB h2] at this;exact this
theorem zAb : ∀ (l : List Kl) (s : eE), ec s → (l.Pairwise fun a b => a.1 < b.1) → (∀ x ∈ l, ∃ r, r + 1 < s.dP.length ∧ x.1 = (eH s.dP r).num) →
  (zi l s).2 = 0 ∧ Kp s (zi l s).1 ∧ zS (zi l s).1 = zS s ∧ ∀ r, r + 1 < s.dP.length → eH (zi l s).1.dP r = xV (eH s.dP r) (vD l (eH s.dP r).num)
 | [], s, h, _, _ => ⟨rfl, Kp.refl h, rfl, fun r _ => rfl⟩
 | k :: l, s, h, ha, hn => by
  rw [dr] at ha;obtain ⟨r0, Ex, e0⟩ := hn k (by simp);have hk := zFD h Ex k.2;rw [← e0] at hk;have hf := zCQ h Ex k.2;have hK := (Kp.refl h).set hf;have hlen : (uF s r0 (xV (eH s.dP r0) k.2)).dP.length = s.dP.length := hK.len
  obtain ⟨h1, h2, h3, h4⟩ := zAb l (uF s r0 (xV (eH s.dP r0) k.2)) hK.v ha.2 (fun x hx => by
   obtain ⟨r, hr, e⟩ := hn x (by simp [hx])
   exact ⟨r, by rw [hlen]; exact hr, by rw [e, hK.num r (by omega)]⟩)
  have e : zi (k :: l) s = zi l (uF s r0 (xV (eH s.dP r0) k.2)) := by
   show (if (yX s k.1 k.2).2 = 0 then zi l (yX s k.1 k.2).1 else _) = _
   rw [hk]; exact ag rfl
  rw [e];refine ⟨h1, hK.trans h2, by rw [h3, Td Ex], fun r hr => ?_⟩;rw [h4 r (by rw [hlen]; exact hr), kU (by omega)]
  show xV _ _ = xV (eH s.dP r) ((if k.1 = (eH s.dP r).num then k.2 else []) ++ vD l (eH s.dP r).num)
  by_cases er : r = r0
  ·
   subst er;rw [ag rfl, ag e0];exact zFq _ _ _
  have hne : k.1 ≠ (eH s.dP r).num := fun e2 => by
   rw [e0] at e2;exact h.rJ (show r0 < s.dP.length by omega) (show r < s.dP.length by omega) (fun e => er e.symm) e2
  rw [ah er, ah hne]; rfl
/-! ### mC a TJ numbers say of the fL slot -/
structure lF (S : eE) (P : fg) : Prop where
 kp : Kp S P.t
 top : zS P.t = zb (zS S) P.needs
 low : ∀ r, r + 1 < S.dP.length → eH P.t.dP r = xV (eH S.dP r) (vD P.ei (eH S.dP r).num)
 A2 : P.ei.Pairwise fun a b => a.1 < b.1
 num : ∀ x ∈ P.ei, ∃ r, r + 1 < S.dP.length ∧ x.1 = (eH S.dP r).num
 ok : ∀ x ∈ P.needs, x.ok
theorem lF.start {S : eE} (h : ec S) : lF S (yR S) := ⟨Kp.refl h, rfl, fun _ _ => rfl, List.Pairwise.nil, (fun x hx => by cases hx), (fun x hx => by cases hx)⟩
theorem lF.more {S : eE} {P : fg} (h : lF S P) (e : Int) : lF S (more P e) := ⟨h.kp, h.top, h.low, h.A2, h.num, h.ok⟩
theorem lF.ep {S : eE} {P : fg} (h : lF S P) (b : Bool) : lF S { P with ep := b } := ⟨h.kp, h.top, h.low, h.A2, h.num, h.ok⟩
theorem lF.add {S : eE} {P : fg} (h : lF S P) {x : Nd} (hc : qw P.t x) : lF S (vH P x) := by
 have hv := h.kp.v;have ht := Te hv hc;have hlen := hv.len;refine ⟨h.kp.trans (O5 hv hc), ?_, fun r hr => ?_, h.A2, h.num, fun y hy => ?_⟩
 ·
  show zS (vH P x).t = zb (zS S) (P.needs ++ [x])
  rw [ht, ZX hv, tY, h.top]
 ·
  show eH (vH P x).t.dP r = _
  rw [ht, kU (by omega), ah (by have := h.kp.len; omega)];exact h.low r hr
 rcases List.mem_append.1 (show y ∈ P.needs ++ [x] from hy) with hy | hy
 ·
  exact h.ok y hy
 obtain rfl := List.mem_singleton.1 hy; exact hc.1
theorem zIs {l : List Kl} {num key : Int} {x : Kl} (h : x ∈ kM l num key) : x ∈ l ∨ x.1 = num := by
 by_cases hh : fE l num < l.length ∧ (yH l (fE l num)).1 = num
 ·
  rw [kG hh] at h;rcases List.mem_or_eq_of_mem_set h with h | rfl
  ·
   exact .inl h
  exact .inr rfl
 rw [tt hh] at h;rcases List.mem_append.1 h with h | h
 ·
  exact .inl (bQ h)
 rcases List.mem_cons.1 h with rfl | h
 ·
  exact .inr rfl
 exact .inl (dy h)
theorem zIS {l : List Kl} (ha : l.Pairwise fun a b => a.1 < b.1) (hn : ∀ x ∈ l, 1 ≤ x.1 ∧ x.1 ≤ 8) {num : Int} (h8 : 1 ≤ num ∧ num ≤ 8) (key : Int) : (kM l num key).Pairwise fun a b => a.1 < b.1 := by
 obtain ⟨M, hM⟩ : ∃ M : Nat, ∀ x ∈ l, x.2.length ≤ M := by
  clear ha hn
  induction l with
  | nil => exact ⟨0, fun x hx => by cases hx⟩
  | cons y r ih =>
   obtain ⟨M, h⟩ := ih;refine ⟨M + y.2.length, fun x hx => ?_⟩;rcases List.mem_cons.1 hx with rfl | hx
   ·
    omega
   have := h x hx; omega
 exact (nQ.ins (M := M) ⟨ha, hn, hM⟩ h8 key).A2
theorem lF.kill {S : eE} (hS : ec S) {P : fg} (h : lF S P) {r0 : Nat} (hr : r0 + 1 < S.dP.length) (key : Int) : lF S (xS key P (eH S.dP r0).num) := by
 have hv := h.kp.v;have hl := h.kp.len;have rV : r0 + 1 < P.t.dP.length := by omega
 have e2 : (xS key P (eH S.dP r0).num).t = uF P.t r0 (F5 (eH P.t.dP r0) key) := by
  show (yX P.t (eH S.dP r0).num [key]).1 = _
  rw [← h.kp.num r0 (by omega), ZZ hv rV]
 have h18 : ∀ r, r < S.dP.length → 1 ≤ (eH S.dP r).num ∧ (eH S.dP r).num ≤ 8 := fun r hr => (hS.vg hr).num
 refine ⟨by rw [e2]; exact h.kp.set (fit_drop hv rV key), by rw [e2, Td rV]; exact h.top, fun r Ju => ?_, ?_, fun x hx => ?_, h.ok⟩
 ·
  rw [e2, kU (by omega)]
  show _ = xV _ (vD (kM P.ei (eH S.dP r0).num key) (eH S.dP r).num)
  rw [zJS h.A2]
  by_cases e : r = r0
  ·
   subst e;rw [ag rfl, ag rfl, h.low r Ju, zFH]
  rw [ah e, ah (hS.rJ (by omega) (by omega) e)];exact h.low r Ju
 ·
  exact zIS h.A2 (fun x hx => by
   obtain ⟨r, h1, e⟩ := h.num x hx
   rw [e]; exact h18 r (by omega)) (h18 r0 (by omega)) key
 rcases zIs hx with hx | e
 ·
  exact h.num x hx
 exact ⟨r0, hr, e⟩
theorem lF.ei {S : eE} (hS : ec S) {key : Int} : ∀ (l : List Int) {P : fg}, lF S P → (∀ x ∈ l, ∃ r, r + 1 < S.dP.length ∧ x = (eH S.dP r).num) → lF S (l.foldl (xS key) P)
 | [], _, h, _ => h
 | x :: l, P, h, hl => by
  obtain ⟨r, hr, e⟩ := hl x (by simp);subst e;exact lF.ei hS l (h.kill hS hr key) fun y hy => hl y (by simp [hy])
theorem lF.I6 {S : eE} (hS : ec S) {P : fg} (h : lF S P) (key : Int) : lF S (yW P key) :=
 lF.ei hS _ h fun x hx => by
  obtain ⟨r, h1, e⟩ := Z6 h.kp.v hx;have hl := h.kp.len;exact ⟨r, by omega, by rw [e, h.kp.num r (by omega)]⟩
theorem lF.plan {S : eE} (hS : ec S) {P : fg} (h : lF S P) (q : Rq) : lF S (zT P q).2 := by
 have hv := h.kp.v;unfold zT
 split
 ·
  exact h
 split
 ·
  split
  ·
   exact h.ep _
  split
  ·
   rename_i hc
   split
   ·
    exact h
   exact (h.add (kq hv hc)).more _
  exact h.more _
 split
 ·
  split
  ·
   split
   ·
    exact h
   refine lF.more ?_ _;have hk := h.I6 hS (q.key : Int);unfold yZ
   split
   ·
    rename_i ht;exact hk.add (Z8 ((tX hk.kp.v _).1 ht))
   exact hk
  exact h.more _
 exact h.more _
theorem lF.run {S : eE} (hS : ec S) : ∀ (l : List Rq) {P : fg}, lF S P → lF S (wJ l P)
 | [], _, h => h
 | q :: r, P, h => by
  have h2 := h.plan hS q
  cases e : (zT P q).1
  ·
   rw [uL e]; exact h2
  rw [xo e]; exact lF.run hS r h2
theorem lF.apply {S : eE} (hS : ec S) {P : fg} (h : lF S P) : wg S false P.ei P.needs = (P.t, 0) := by
 obtain ⟨h1, h2, h3, h4⟩ := zAb P.ei S hS h.A2 h.num;have hlen := hS.len;have hP := h.kp.v;obtain ⟨tv, tm, tz⟩ := hP.sS;obtain ⟨sv, sm, sz⟩ := hS.sS;have hlim := hS.lim;have hsz : (zS S).size + (g_ P.needs : Int) ≤ 1048576 := by
  have e := tz;rw [h.top, wP, h.kp.lim] at e;omega
 have lZ := XC sv sm h.ok hsz;have hn := uc P.needs (zS S);have hT := h2.v;have EN := h2.len;have hfit : Fit (zi P.ei S).1 ((zi P.ei S).1.dP.length - 1) (zb (zS S) P.needs) := by
  have hpt : zS P.t = eH P.t.dP (P.t.dP.length - 1) := rfl;refine ⟨by omega, by rw [← h.top]; exact tv, ?_, ?_, ?_, fun _ => ?_⟩
  ·
   rw [hn.1, ← h3]; rfl
  ·
   rw [hn.2.2, sm]; exact ⟨fun _ => by omega, fun _ => rfl⟩
  ·
   rw [← h.top, h2.lim, ← h.kp.lim]; exact tz
  have ht := hP.top;rw [← hpt, h.top, h.kp.lim] at ht;rw [h2.lim]; exact ht
 unfold wg;rw [ag ((zR S).2 hS), ah (by decide), ag h1, lZ, ag rfl, Ot hT hfit]
 congr 1
 have hg : (uF (zi P.ei S).1 ((zi P.ei S).1.dP.length - 1) (zb (zS S) P.needs)).dP = P.t.dP := by
  refine zIw ?_ fun i hi => ?_
  ·
   show ((zi P.ei S).1.dP.set _ _).length = _
   rw [bd, EN, h.kp.len]
  have hi2 : i < S.dP.length := by
   have : i < ((zi P.ei S).1.dP.set ((zi P.ei S).1.dP.length - 1) (zb (zS S) P.needs)).length := hi;rw [bd, EN] at this; exact this
  rw [kU (by omega)]
  by_cases e : i = (zi P.ei S).1.dP.length - 1
  ·
   rw [ag e, ← h.top, e, EN, ← h.kp.len]; rfl
  rw [ah e, h4 i (by omega), h.low i (by omega)]
 have e1 := h2.id.trans h.kp.id.symm;have e2 := h2.lim.trans h.kp.lim.symm;have e3 := h2.ro.trans h.kp.ro.symm;generalize P.t = T at *;generalize zi P.ei S = U at *;obtain ⟨a, b, c, d⟩ := T;unfold uF at hg ⊢;dsimp only at e1 e2 e3 hg ⊢;rw [e1, e2, e3, hg]
/-! ### One request at a time -/
theorem zAQ (key : Int) : ∀ (l : List Int) (P Q : fg), P.t = Q.t → (l.foldl (xS key) P).t = (l.foldl (xS key) Q).t
 | [], _, _, h => h
 | x :: l, P, Q, h => zAQ key l (xS key P x) (xS key Q x) (by show (yX P.t x [key]).1 = (yX Q.t x [key]).1; rw [h])
theorem zI4 (P : fg) (key : Int) : (yW P key).t = (yW (yR P.t) key).t := zAQ key _ P (yR P.t) rfl
theorem zKm {P : fg} (h : ec P.t) (q : Rq) : (yZ P q).t = (yZ (yR P.t) q).t := by
 have e := zI4 P (q.key : Int);unfold yZ;rw [e]
 by_cases hb : vI (yW (yR P.t) q.key).t q.key = true
 ·
  rw [ag hb, ag hb]
  show (yb (yW P q.key).t _).1 = (yb (yW (yR P.t) q.key).t _).1
  rw [e]
 rw [ah hb, ah hb]; exact e
theorem TK {P : fg} (hv : ec P.t) {q : Rq} (h : (zT P q).1 = true) :
  (zT (yR P.t) q).1 = true ∧ (zT (yR P.t) q).2.t = (zT P q).2.t ∧ (zT (yR P.t) q).2.ep = false ∧ ∃ e, (zT (yR P.t) q).2.res = [e] ∧ (zT P q).2.res = P.res ++ [e] := by
 have jf : ¬ P.res.length = 16 := fun e => by rw [qm e] at h; cases h
 have h0 : ¬ (yR P.t).res.length = 16 := by show ¬ (0 : Nat) = 16; omega
 by_cases h1 : q.kind = 1
 ·
  by_cases h9 : zy P.t q = 9 ∧ xe P.t = true
  ·
   rw [S_ jf h1 h9.1 h9.2] at h; cases h
  by_cases hc : zy P.t q = 0
  ·
   by_cases hb : 0 < P.bytes ∧ 16384 < P.bytes + (eG q.data.length : Int)
   ·
    rw [qi jf h1 hc hb] at h; cases h
   rw [uT jf h1 hc hb, uT (P := yR P.t) h0 h1 hc (by show ¬ ((0 : Int) < 0 ∧ _); omega)];exact ⟨rfl, rfl, rfl, 0, rfl, rfl⟩
  rw [vN jf h1 h9 hc, vN (P := yR P.t) h0 h1 h9 hc];exact ⟨rfl, rfl, rfl, _, rfl, rfl⟩
 by_cases h2 : q.kind = 2
 ·
  rcases tQ (P := P) (q := q) with h3 | h3
  ·
   by_cases hb : vI P.t q.key = true ∧ 0 < P.bytes ∧ 16384 < P.bytes + 24
   ·
    rw [qp jf h2 h3 hb] at h; cases h
   rw [vM jf h2 h3 hb, vM (P := yR P.t) h0 h2 h3 (by show ¬ (_ ∧ (0 : Int) < 0 ∧ _); omega)];refine ⟨rfl, (zKm hv q).symm, ?_, 0, ?_, ?_⟩
   ·
    show (yZ (yR P.t) q).ep = false
    have hr := (yl (yR P.t) q.key).2.2.2;unfold yZ
    split
    ·
     exact hr
    exact hr
   ·
    show (yZ (yR P.t) q).res ++ [0] = [0]
    rw [uS]; rfl
   show (yZ P q).res ++ [0] = P.res ++ [0]
   rw [uS]
  rw [vX jf h2 h3, vX (P := yR P.t) h0 h2 h3];exact ⟨rfl, rfl, rfl, _, rfl, rfl⟩
 rw [vp jf h1 h2, vp (P := yR P.t) h0 h1 h2];exact ⟨rfl, rfl, rfl, _, rfl, rfl⟩
noncomputable def gU (S : eE) (K : List Rq) : Nat → fg
 | 0 => yR S
 | i + 1 => (zT (gU S K i) (yy K i)).2
theorem tO {S : eE} (hS : ec S) (K : List Rq) : ∀ i, Kp S (gU S K i).t
 | 0 => Kp.refl hS
 | i + 1 => (tO hS K i).trans (Tf (tO hS K i).v _)
theorem zJz {S : eE} {K : List Rq} : ∀ (d i : Nat), K.length = i + d → (gU S K i).res.length = i → i ≤ 16 → ∃ n, i ≤ n ∧ n ≤ K.length ∧ (∀ j, i ≤ j → j < n → (gU S K j).res.length = j ∧ (zT (gU S K j) (yy K j)).1 = true) ∧ (gU S K n).res.length = n ∧ (wJ (K.drop i) (gU S K i)).res = (gU S K n).res ∧ (wJ (K.drop i) (gU S K i)).t = (gU S K n).t
 | 0, i, h, hr, _ => by
  refine ⟨i, ai _, by omega, fun j h1 h2 => by omega, hr, ?_⟩;rw [List.drop_eq_nil_of_le (by omega)];exact ⟨rfl, rfl⟩
 | d + 1, i, h, hr, jf => by
  have hlt : i < K.length := by omega
  have e : K.drop i = yy K i :: K.drop (i + 1) := by
   rw [cQ hlt];unfold yy;rw [ax, aB hlt]; rfl
  rw [e]
  cases hp : (zT (gU S K i) (yy K i)).1
  ·
   rw [uL hp];refine ⟨i, ai _, by omega, fun j h1 h2 => by omega, hr, ?_⟩;unfold zT at hp ⊢
   split
   ·
    exact ⟨rfl, rfl⟩
   rename_i g0;rw [ah g0] at hp
   split
   ·
    rename_i g1;rw [ag g1] at hp
    split
    ·
     exact ⟨rfl, rfl⟩
    rename_i g2;rw [ah g2] at hp
    split
    ·
     rename_i g3;rw [ag g3] at hp
     split
     ·
      exact ⟨rfl, rfl⟩
     rename_i g4; rw [ah g4] at hp; cases hp
    rename_i g3; rw [ah g3] at hp; cases hp
   rename_i g1;rw [ah g1] at hp
   split
   ·
    rename_i g2;rw [ag g2] at hp
    split
    ·
     rename_i g3;rw [ag g3] at hp
     split
     ·
      exact ⟨rfl, rfl⟩
     rename_i g4; rw [ah g4] at hp; cases hp
    rename_i g3; rw [ah g3] at hp; cases hp
   rename_i g2; rw [ah g2] at hp; cases hp
  rw [xo hp];have hl := uW (gU S K i) (yy K i) (by omega);have GG : (gU S K (i + 1)).res.length = i + 1 := by
   show (zT (gU S K i) (yy K i)).2.res.length = _
   rw [hl.2.2 hp, hr]
  have TL : i + 1 ≤ 16 := by have := hl.1; rw [hl.2.2 hp, hr] at this; exact this
  obtain ⟨n, h1, h2, h3, h4, h5⟩ := zJz d (i + 1) (by omega) GG TL;refine ⟨n, by omega, h2, fun j hj1 hj2 => ?_, h4, h5⟩
  by_cases ej : j = i
  ·
   subst ej; exact ⟨hr, hp⟩
  exact h3 j (by omega) hj2
structure I7 (S : eE) (K : List Rq) : Prop where
 m : (zm S K).2 = 0
 n : (zm S K).1.res.length ≤ K.length
 ep : (zm S K).1.ep = true → (zm S K).1.res.length = 0 ∧ xe S = true
 all : (zm S K).1.ep = false → wg S false (zm S K).1.ei (zm S K).1.needs = ((gU S K (zm S K).1.res.length).t, 0)
 one : ∀ i, i < (zm S K).1.res.length → (zm (gU S K i).t [yy K i]).2 = 0 ∧ (zm (gU S K i).t [yy K i]).1.res = [uC (zm S K).1.res i] ∧ (zm (gU S K i).t [yy K i]).1.ep = false ∧
  wg (gU S K i).t false (zm (gU S K i).t [yy K i]).1.ei (zm (gU S K i).t [yy K i]).1.needs = ((gU S K (i + 1)).t, 0)
theorem zKP {S : eE} {K : List Rq} (hS : ec S) {n : Nat} (h : ∀ j, j < n → (zT (gU S K j) (yy K j)).1 = true) : ∀ i, i ≤ n → (gU S K i).res = (gU S K n).res.take i := by
 have key : ∀ d i, i + d = n → (gU S K i).res.length = i → (gU S K i).res = (gU S K n).res.take i := by
  intro d
  induction d with
  | zero =>
   intro i hi hl;obtain rfl : i = n := by omega
   rw [aS (by omega)]
  | succ d ih =>
   intro i hi hl;obtain ⟨_, _, _, e, _, h3⟩ := TK (tO hS K i).v (h i (by omega));have h3 : (gU S K (i + 1)).res = (gU S K i).res ++ [e] := h3;have h4 := ih (i + 1) (by omega) (by rw [h3, aA, hl]; rfl);have h5 := aT (List.take i) h4;rw [h3, dI (by omega), aS (by omega), cZ, bI (by omega)] at h5;exact h5
 have hl : ∀ i, i ≤ n → (gU S K i).res.length = i := by
  intro i
  induction i with
  | zero => intro _; rfl
  | succ i ih =>
   intro hi;obtain ⟨_, _, _, e, _, h3⟩ := TK (tO hS K i).v (h i (by omega));have h3 : (gU S K (i + 1)).res = (gU S K i).res ++ [e] := h3;rw [h3, aA, ih (by omega)]; rfl
 intro i hi;exact key (n - i) i (by omega) (hl i hi)
theorem zFi {P : fg} (hv : ec P.t) (hr : P.ep = false) (q : Rq) : (zT P q).2.ep = true → xe P.t = true := by
 have hd : (yZ P q).ep = false := by
  have h := (yl P q.key).2.2.2;unfold yZ
  split
  ·
   show (yW P q.key).ep = false; rw [h]; exact hr
  rw [h]; exact hr
 have hf : ∀ Q : fg, Q.ep = false → Q.ep = true → xe P.t = true := fun Q h1 h2 => by rw [h1] at h2; cases h2
 unfold zT
 split
 ·
  exact hf _ hr
 split
 ·
  split
  ·
   rename_i h9; exact fun _ => h9.2
  split
  ·
   split
   ·
    exact hf _ hr
   exact hf _ hr
  exact hf _ hr
 split
 ·
  split
  ·
   split
   ·
    exact hf _ hr
   exact hf _ hd
  exact hf _ hr
 exact hf _ hr
theorem zFC {P : fg} (hr : P.ep = false) (q : Rq) (h : (zT P q).1 = true) : (zT P q).2.ep = false := by
 have hd : (yZ P q).ep = false := by
  have h := (yl P q.key).2.2.2;unfold yZ
  split
  ·
   show (yW P q.key).ep = false; rw [h]; exact hr
  rw [h]; exact hr
 unfold zT at h ⊢
 split
 ·
  exact hr
 rename_i g0;rw [ah g0] at h
 split
 ·
  rename_i g1;rw [ag g1] at h
  split
  ·
   rename_i g2; rw [ag g2] at h; cases h
  split
  ·
   split
   ·
    exact hr
   exact hr
  exact hr
 split
 ·
  split
  ·
   split
   ·
    exact hr
   exact hd
  exact hr
 exact hr
theorem zEQ {S : eE} (hS : ec S) : ∀ (l : List Rq) (P : fg), Kp S P.t → P.ep = false → (wJ l P).ep = true → xe S = true
 | [], P, _, h0, h => by rw [show (wJ [] P).ep = P.ep from rfl, h0] at h; cases h
 | q :: r, P, hk, h0, h => by
  cases e : (zT P q).1
  ·
   rw [uL e] at h;rw [← Kp.can hS hk]; exact zFi hk.v h0 q h
  rw [xo e] at h;exact zEQ hS r _ (hk.trans (Tf hk.v q)) (zFC h0 q e) h
theorem zKc {S : eE} (hS : ec S) (K : List Rq) : I7 S K := by
 obtain ⟨h0, hL⟩ := Z_ hS K;have hM : ∀ (T : eE) (l : List Rq), ec T → zm T l = (wJ l (yR T), 0) := fun T l hT => by unfold zm; rw [ag ((zR T).2 hT)]
 obtain ⟨n, _, Ag, lI, D9, O_, TM⟩ := zJz (S := S) (K := K) K.length 0 (by omega) rfl (by omega);have O_ : (wJ K (yR S)).res = (gU S K n).res := O_;have TM : (wJ K (yR S)).t = (gU S K n).t := TM;have Gj : ∀ j, j < n → (zT (gU S K j) (yy K j)).1 = true := fun j hj => (lI j (au _) hj).2
 have hres := zKP hS Gj;have hlen : (zm S K).1.res.length = n := by rw [hM S K hS]; show (wJ K (yR S)).res.length = n; rw [O_, D9]
 have hRS : (zm S K).1.res = (gU S K n).res := by rw [hM S K hS]; exact O_
 refine ⟨h0, hL.n, fun hr => ⟨hL.rr hr, ?_⟩, fun _ => ?_, fun i hi => ?_⟩
 ·
  rw [hM S K hS] at hr;exact zEQ hS K (yR S) (Kp.refl hS) rfl hr
 ·
  rw [hlen, hM S K hS]
  show wg S false (wJ K (yR S)).ei (wJ K (yR S)).needs = _
  rw [((lF.start hS).run hS K).apply hS, TM]
 rw [hlen] at hi;have hv := (tO hS K i).v;obtain ⟨g1, g2, g3, e, g4, g5⟩ := TK hv (Gj i hi);have e1 : wJ [yy K i] (yR (gU S K i).t) = (zT (yR (gU S K i).t) (yy K i)).2 := by rw [xo g1]; rfl
 rw [hM _ _ hv, hRS]
 show (0 : Int) = 0 ∧ (wJ [yy K i] (yR (gU S K i).t)).res = _ ∧ (wJ [yy K i] (yR (gU S K i).t)).ep = false ∧ wg _ false (wJ [yy K i] (yR (gU S K i).t)).ei (wJ [yy K i] (yR (gU S K i).t)).needs = _
 have ha := ((lF.start hv).run hv [yy K i]).apply hv;rw [ha, e1, g4, g3, g2];refine ⟨rfl, ?_, rfl, rfl⟩;have g5 : (gU S K (i + 1)).res = (gU S K i).res ++ [e] := g5;have h1 := hres (i + 1) hi;have hli : (gU S K i).res.length = i := (lI i (au _) hi).1;rw [g5] at h1;have h2 : ((gU S K i).res ++ [e])[i]? = some e := by rw [dz (by omega), hli]; simp
 rw [h1, List.getElem?_take_of_lt (by omega)] at h2;unfold uC;rw [ax, h2]; rfl
end Go.Proofs.YtcgfilmmokmdjaaGreat
