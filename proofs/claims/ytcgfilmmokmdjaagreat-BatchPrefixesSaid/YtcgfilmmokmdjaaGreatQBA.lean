/- A part of the walk. -/
import Derived.Test.YtcgfilmmokmdjaaGreatBcg
import Derived.Test.YtcgfilmmokmdjaaGreatQAZ
import Derived.Deep.CutBlock
import Derived.Test.YtcgfilmmokmdjaaGreatQAA
import Derived.Deep.Slices
import Derived.Deep.SlicePairs
import Derived.ChangeArms
import Derived.Test.YtcgfilmmokmdjaaGreatQAE
import Derived.Test.YtcgfilmmokmdjaaGreatQAI
import Derived.Test.YtcgfilmmokmdjaaGreatQAH
set_option linter.all false
set_option maxRecDepth 100000
set_option maxHeartbeats 32000000
namespace Go.Proofs.YtcgfilmmokmdjaaGreat
open Go.RowKit Go.Maps
theorem zK0 (es : List (Nd × Value)) (a : Nat) : (xW es a).1 = q_ (es.map (·.1)) a:=by
 unfold xW q_;rw [aw,aw,b9]
 cases es[a]? <;> rfl
section
variable {S : eL} {K : List Rq} {n : Nat}
theorem Run.Pa (h : Run S K n) {i : Nat} (hi : i < n) : vT S K (i + 1) = if (ew S K (i + 1)).needs.length = (ew S K i).needs.length then vT S K i else fun o => if o = (zK S).size + (fU (ew S K i).needs : Int) then some (i : Int) else vT S K i o:=by
 funext o
 show (if (ew S K (i + 1)).needs.length = (ew S K i).needs.length then vT S K i o else if o = (zK S).size + (fU (ew S K i).needs : Int) then some (i : Int) else vT S K i o) = _
 split
 ·
  rfl
 rfl
theorem Run.mono (h : Run S K n) {i j : Nat} (hij : i ≤ j) (hj : j ≤ n) : (ew S K i).needs.length ≤ (ew S K j).needs.length:=(h.le hij hj).length_le
theorem Run.stay (h : Run S K n) : ∀ (d i : Nat),i + d ≤ n → (ew S K (i + d)).needs.length = (ew S K i).needs.length → vT S K (i + d) = vT S K i
 | 0,_,_,_ => rfl
 | d + 1,i,hd,he => by
  have h1:=h.mono (show i ≤ i + d by omega) (show i + d ≤ n by omega);have h2:=h.mono (show i + d ≤ i + d + 1 by omega) (show i + d + 1 ≤ n by omega);have he : (ew S K (i + d + 1)).needs.length = (ew S K i).needs.length:=he
  show vT S K (i + d + 1) = _
  rw [h.Pa (show i + d < n by omega),ag (by omega),h.stay d i (by omega) (by omega)]
theorem Run.same (h : Run S K n) {i : Nat} (hi : i < n) (he : (ew S K (i + 1)).needs.length = (ew S K i).needs.length) : (ew S K i).needs = (ew S K (i + 1)).needs:=by
 obtain ⟨t,et⟩:=h.le (show i ≤ i + 1 by omega) (show i + 1 ≤ n from hi);have : t = []:=by
  have:=aQ List.length et;rw [ax] at this;exact List.length_eq_zero_iff.1 (by omega)
 rw [← et,this,bB]
theorem Run.grow (h : Run S K n) {i : Nat} (hi : i < n) (he : (ew S K (i + 1)).needs.length = (ew S K i).needs.length + 1) : fU (ew S K (i + 1)).needs = fU (ew S K i).needs + eP (q_ (ew S K n).needs (ew S K i).needs.length).data.length:=by
 obtain ⟨t,et⟩:=h.le (show i ≤ i + 1 by omega) (show i + 1 ≤ n from hi);have hl:=aQ List.length et;rw [ax] at hl;obtain ⟨x,rfl⟩ : ∃ x,t = [x]:=List.length_eq_one_iff.1 (by omega);rw [SQ (h.le (show i + 1 ≤ n from hi) (ai n)) (by omega),← et,SR,uo]
theorem Run.abR (h : Run S K n) {i : Nat} (hi : i ≤ n) : fU (ew S K i).needs ≤ fU (ew S K n).needs:=by
 rw [h.tk hi]; exact X_ _ _
theorem zGX (S : eL) (K : List Rq) : ∀ (i : Nat) (o : Int),0 ≤ (vT S K i o).getD 0 ∧ (vT S K i o).getD 0 ≤ (i : Int)
 | 0,_ => ⟨cq _,cq _⟩
 | i + 1,o => by
  have h:=zGX S K i o
  show 0 ≤ (if _ then _ else if _ then _ else _ : Option Int).getD 0 ∧ (if _ then _ else if _ then _ else _ : Option Int).getD 0 ≤ _
  split
  ·
   omega
  split
  ·
   show 0 ≤ (i : Int) ∧ (i : Int) ≤ _; omega
  omega
theorem Run.kn (h : Run S K n) (hk : ∀ x ∈ (ew S K n).dY,x.2.length ≤ 1000) : (ew S K n).dY.length ≤ 8:=by
 have hA:=wS (K:=K) h.v n
 exact (Bt.le8 (M:=1000) ⟨hA.DZ,fun x hx => by
  obtain ⟨r,h1,e⟩:=hA.num x hx
  rw [e]; exact (h.v.vg (show r < S.dW.length by omega)).num,hk⟩)
theorem zHE : ∀ {l : List Kl},(∀ x ∈ l,x.2.length ≤ 1000) → xw l ≤ l.length * 1000
 | [],_ => ai _
 | k :: r,h => by
  have h1:=h k (by simp);have h2:=zHE (l:=r) fun x hx => h x (by simp [hx])
  rw [ZC,aW,cO]; omega
theorem zGY (l : List Kl) (i : Nat) : xw (l.take i) ≤ xw l:=by
 have e : xw l = xw (l.take i ++ l.drop i):=by rw [bN]
 have h2 : xw (l.take i ++ l.drop i) = xw (l.take i) + xw (l.drop i):=by unfold xw; rw [bE,List.sum_append]
 omega
end
theorem zD3 {G : List Gn} {t : eL} (h : Kp ⟨1,9000,false,G⟩ t) : (⟨1,9000,false,t.dW⟩ : eL) = t:=by
 obtain ⟨_,h1,h2,h3,_,_⟩:=h;obtain ⟨a,b,c,d⟩:=t;dsimp only at h1 h2 h3 ⊢;rw [h1,h2,h3]
theorem zI4 (G : List Gn) (g : Gn) (h : (yM ⟨1,9000,false,G⟩ g).2 = 0) : (yM ⟨1,9000,false,G⟩ g).1 = ⟨1,9000,false,(yM ⟨1,9000,false,G⟩ g).1.dW⟩:=by
 unfold yM at h ⊢
 split
 ·
  rename_i g1;rw [ag g1] at h
  split
  ·
   rename_i g2;rw [ag g2] at h
   split
   ·
    rfl
   rename_i g3; rw [ah g3] at h; cases h
  rename_i g2; rw [ah g2] at h; cases h
 rename_i g1; rw [ah g1] at h; cases h
theorem mr.take {w : World} {a : Option Addr} {n cap : Nat} {es : List (Nd × Value)} (h : mr w (.slice a n cap) es) (k : Nat) (hk : k ≤ n) : mr w (.slice a k cap) (es.take k):=
 ⟨(ix.take (sz:=4) (f:=uB) (l:=es) ⟨fun _ _ => rfl,h.row⟩ k hk).2,fun p hp => h.dat p (aY hp)⟩
theorem zIq {s : eL} (h : eA s) (key : Int) : (Lit.int .i64 ((zl s key).headD wY).it.off).wf = true:=by
 rw [uT h]
 cases e : xF s.dW key s.dW.length with
 | nil => rfl
 | cons x t =>
  obtain ⟨h1,_,h3,_⟩:=tw e;have hg:=h.vg h1;have hm:=(zO _).1 hg.m;have hlt:=zJD hg h3;have hi : x.it ∈ zG (eB s.dW x.at_).m:=by
   have h4:=h3;rw [xR hm] at h4;exact (xD hm).2 (by rw [(xe h4).2]; exact h3)
  have hok:=Zb hm hi;have hz:=hg.size
  show (Lit.int .i64 x.it.off).wf = true
  exact WalkArith.wf_i64 (by have h1:=hok.1; have h2:=hok.2.1; omega)
theorem zLn (c : Int) (s : Nat) : 0 ≤ (c.tmod ((s : Int) + 1) + (s : Int) + 1).tmod ((s : Int) + 1) ∧ (c.tmod ((s : Int) + 1) + (s : Int) + 1).tmod ((s : Int) + 1) ≤ (s : Int):=by
 have hd : (0 : Int) < (s : Int) + 1:=by omega
 have h1:=Int.lt_tmod_of_pos c hd;have h2:=Int.tmod_lt_of_pos c hd;have h3:=Int.tmod_nonneg (a:=c.tmod ((s : Int) + 1) + (s : Int) + 1) ((s : Int) + 1) (by omega);have h4:=Int.tmod_lt_of_pos (c.tmod ((s : Int) + 1) + (s : Int) + 1) hd;omega
theorem zCZ (va vl : Value) (cut : Int) (ac : List Bp) (qs : List (Rq × Value)) (w : World) (ha : JN w va ac) (hq : Dc w vl qs) (hcw : (Lit.int .i64 cut).wf = true) :
  Calls Tryz.prog 5 #[va,vl,.int .i64 cut] w fun e w' => e = .returned (.bool true) ∧ Below w.heap.size w w':=by
 have HMd:=zh (zHM va ac w ha);have HI:=zHP ac;have HQ:=zh hq;have HAw:=zh (fun W => zEM W);obtain ⟨_,_,rfl,_⟩:=hq.shape;obtain ⟨_,_,rfl,_⟩:=ha.shape;clear ha hq;generalize OM ac = S at *;obtain ⟨hv,hid,hlim,hro,hlen,abT⟩:=HI;have Co:=hv.len;have HV:=zh hv;have HL:=zh (show fA 700 S.dW from hlen.mono (by decide));obtain ⟨J1,Cw,J2,sg⟩:=S;dsimp only at hid hlim hro Co;subst hid hlim hro;clear hv hlen abT
 go_enter Tryz.func5,Tryz.ntmps5
 go_wp2_with fail;refine HMd.out.mono ?_;rintro e w1 ⟨⟨a,n,c,L,rfl,hr,hg⟩,hb⟩;dsimp only at hg ⊢;subst hg;have gy : L.length = n:=by
  obtain ⟨_,_,e,_⟩:=hr.shape;injection e with _ e _; exact e.symm
 rw [yB,gy] at Co;have HR:=zh hr;have HB:=zh hb;have HLg:=zh (show ∀ p ∈ L,∀ j,j < 8 → (p.1.m.st j).length ≤ 10000 from fun p hp j hj => ak (HL.out p.1 (cU hp) j hj) (by decide));clear hr hb HMd;go_wp2_with fail;refine (zHp 1 9000 false a n c L w1 HR.out (by omega)).mono ?_;rintro e w2 ⟨⟨a',c',rfl,hr2⟩,hb2⟩;replace HR:=zh hr2;replace HB:=zh (zA HB.out hb2);clear hr2 hb2;go_upto_region 2 with fail;change Code.wp _ _ _ _ (w2.alloc (.cells (zN 1 9000 false a' n c') 27));have eU:=zS w2 1 9000 false a' n c' 27;have HS:=zh (dX.new w2 (zN 1 9000 false a' n c') 27);replace HR:=zh (HR.out.below eU);replace HB:=zh (zA HB.out eU);clear eU;generalize w2.alloc (.cells (zN 1 9000 false a' n c') 27) = w3 at *;generalize w2.heap.size = bS at *;have Ew:=zh (zE8 _ qs 10 false w3 (HQ.out.below HB.out) (by decide));go_wp2_with fail;refine Ew.out.mono ?_
 rintro e w4 ⟨v4,q4,rfl,I1,hm4,hb⟩;replace HS:=zh (HS.out.below hb);replace HR:=zh (HR.out.below hb);replace HB:=zh (zA HB.out hb);have Vc:=zh (show Dc w4 v4 q4 from ⟨⟨fun x _ => qM x,zw I1.row⟩,fun p hp => (I1.dat p hp).rd⟩);have arF : q4.length ≤ 10:=by
  have:=aQ List.length hm4;rw [aI,aI,ay] at this;omega
 have E6:=zh (show ∀ p ∈ q4,p.1.data.length ≤ 4106 ∧ p.1.Wf from fun p hp => by
  have h1 : p.1 ∈ q4.map (·.1):=cU hp
  rw [hm4] at h1
  obtain ⟨y,_,e⟩:=List.mem_map.1 h1
  rw [← e]
  exact ⟨zJX _ _,zMD _ _⟩)
 clear hb Ew I1 hm4 HQ;have HGi:=zh (zEI v4 q4 w4 Vc.out (by omega));obtain ⟨qa4,qc4,rfl,_⟩:=Vc.out.shape;go_wp2_with fail;refine HGi.out.mono ?_;rintro e w5 ⟨v5,rfl,E5,hb⟩;obtain ⟨qa,qc,rfl,_⟩:=zM E5;have Je:=zh (show Dc w5 (.slice qa q4.length qc) q4 from ⟨⟨fun x _ => qM x,zw E5⟩,fun p hp => iw.below (Vc.out.dat p hp) hb⟩);replace HS:=zh (HS.out.below hb);replace HR:=zh (HR.out.below hb);replace HB:=zh (zA HB.out hb);clear hb HGi E5 Vc;have hgn : n ≤ 1000000:=by omega
 have Ep:=zh (zJB (S:=⟨1,9000,false,ea L⟩) HV.out HR.out rfl HL.out Je.out (by omega) (fun p hp => ak (E6.out p hp).1 (by decide)));obtain ⟨nT,hnT,abU,Tj,_,hMr,hMn,hMk,hMl⟩:=zJe HV.out (q4.map (·.1));obtain ⟨hks,hnd⟩:=zFn HV.out HL.out (q4.map (·.1));have hRq:=zIv q4;rw [aI] at hnT;generalize (yA ⟨1,9000,false,ea L⟩ (q4.map (·.1))).1 = M at *;generalize q4.map (·.1) = K at *;subst hMl;have lS:=zh Tj;have HMr:=zh hMr;have Ig:=zh hMn;have Vd:=zh hMk;have lT:=zh hRq;have HAk:=zh hks;clear Tj hMr hMn hMk hRq hks;obtain ⟨k0,k1,k2,k3⟩:=(dX.iu HS.out).q;go_wp2_with fail;refine Ep.out.mono ?_;rintro e w6 ⟨⟨p,rfl,hpl⟩,hb⟩;clear k0 k1 k2 k3 Ep;obtain ⟨ka,kc,ks,na,nc,es,ra,rc,rfl,hw⟩:=hpl;have h_:=zh (zw hw.r);have JJ:=zh (show Il w6 (.slice ka ks.length kc) ks from ⟨⟨fun x _ => uS x,zw hw.kr⟩,fun p hp => kq (hw.ky p hp)⟩)
 have HN:=zh (show mr w6 (.slice na es.length nc) es from ⟨zw hw.nr,hw.nd⟩)
 have KC:=zh (show ∀ x,na = some x → ∃ b off,x = ⟨b,off,none⟩ from by
  obtain ⟨_,_,e,_,_,h⟩:=zM hw.nr
  injection e with e _ _
  subst e; exact h)
 have EL:=zh (show ∀ p ∈ ks,∀ a n c,p.2.1 = .slice a n c → ∀ x,a = some x → ∃ b off,x = ⟨b,off,none⟩ from fun p hp a n c e => by
  obtain ⟨_,_,e2,_,_,h⟩:=zM (hw.ky p hp)
  rw [e] at e2
  injection e2 with e2 _ _
  subst e2; exact h)
 have Nl:=zh (hw.kk.trans Vd.out);have Ve:=zh (hw.nn.trans Ig.out);have hel : (ew ⟨1,9000,false,ea L⟩ K M.res.length).needs.length = es.length:=by rw [← Ve.out,aI]
 have hkl : (ew ⟨1,9000,false,ea L⟩ K M.res.length).dY.length = ks.length:=by rw [← Nl.out,uR]
 have jI : ks.length ≤ 8:=by rw [← hkl]; exact lS.out.kn (by rw [← Vd.out]; exact HAk.out)
 have arH : es.length ≤ 16:=by rw [← hel,← Ig.out]; exact hnd
 have Pb:=zh (show ∀ x ∈ (ew ⟨1,9000,false,ea L⟩ K M.res.length).dY,x.2.length ≤ 1000 from by rw [← Vd.out]; exact HAk.out);clear hw Vd Ig hnd HAk;replace HS:=zh (HS.out.below hb);replace HR:=zh (HR.out.below hb);replace Je:=zh (Je.out.below hb);replace HB:=zh (zA HB.out hb);clear hb;go_upto_region 4 with fail;change Code.wp _ _ _ _ (w6.alloc (.cells (wt M.eN (M.res.length : Int) (.slice ka ks.length kc) (.slice na es.length nc) (.slice ra M.res.length rc)) 71));have eU:=(aj w6.heap.size w6).alloc (ai _) (.cells (wt M.eN (M.res.length : Int) (.slice ka ks.length kc) (.slice na es.length nc) (.slice ra M.res.length rc)) 71);have HP:=zh (dX.new w6 (wt M.eN (M.res.length : Int) (.slice ka ks.length kc) (.slice na es.length nc) (.slice ra M.res.length rc)) 71);replace HS:=zh (HS.out.below eU);replace HR:=zh (HR.out.below eU);replace Je:=zh (Je.out.below eU)
 replace JJ:=zh (JJ.out.below eU);replace HN:=zh (HN.out.below eU);replace HB:=zh (zA HB.out eU);replace h_:=zh (h_.out.below eU);clear eU;generalize w6.alloc (.cells (wt M.eN (M.res.length : Int) (.slice ka ks.length kc) (.slice na es.length nc) (.slice ra M.res.length rc)) 71) = w7 at *;generalize w6.heap.size = bP at *;have HT:=zh (Yc 1 9000 false a' n c' L w7 HR.out HLg.out);rw [show tX ⟨1,9000,false,ea L⟩ = (0,zK ⟨1,9000,false,ea L⟩) from Ya HV.out] at HT;obtain ⟨tg,Vf⟩ : ∃ tg,zK ⟨1,9000,false,ea L⟩ = tg:=⟨_,rfl⟩
 rw [Vf] at HT;obtain ⟨tn,tr,tm,tz,⟨tf,tL,tG⟩⟩:=tg
 try dsimp only at HT
 have Pc:=zh Vf;have hzN : 16 ≤ tz ∧ tz + (fU (ew ⟨1,9000,false,ea L⟩ K M.res.length).needs : Int) ≤ 18000:=by
  have h1:=lS.out.sizes;have h2:=HV.out.Cl.1.size;rw [Vf] at h1 h2;exact ⟨h2.1,h1⟩
 clear Vf;obtain ⟨k0,k1,k2,k3⟩:=(dX.iu HS.out).q;go_wp2_with fail;refine HT.out.mono ?_;rintro e w8 ⟨⟨sT,rfl,ho⟩,hb⟩;dsimp only at ho ⊢;clear k0 k1 k2 k3 HT ho;replace HS:=zh (HS.out.below hb);replace HR:=zh (HR.out.below hb);replace Je:=zh (Je.out.below hb);replace JJ:=zh (JJ.out.below hb);replace HN:=zh (HN.out.below hb);replace HP:=zh (HP.out.below hb);replace h_:=zh (h_.out.below hb);replace HB:=zh (zA HB.out hb);clear hb;go_upto_region 5 with fail;change Code.wp _ _ _ _ (w8.alloc (.cells (zQ tn tr tm tz sT tL tG) 38));have eU:=zb w8 tn tr tm tz sT tL tG 38;have HG:=zh (dX.new w8 (zQ tn tr tm tz sT tL tG) 38);replace HS:=zh (HS.out.below eU);replace HR:=zh (HR.out.below eU);replace Je:=zh (Je.out.below eU);replace JJ:=zh (JJ.out.below eU);replace HN:=zh (HN.out.below eU);replace HP:=zh (HP.out.below eU);replace h_:=zh (h_.out.below eU)
 replace HB:=zh (zA HB.out eU);clear eU;generalize w8.alloc (.cells (zQ tn tr tm tz sT tL tG) 38) = w9 at *;generalize w8.heap.size = bT at *;have p0 : w9.cell? ⟨bP,0,none⟩ = some (.bool M.eN):=dX.cell (HP.out) rfl;have p1 : w9.cell? ⟨bP,1,none⟩ = some (.int .i64 (M.res.length : Int)):=dX.cell (HP.out) rfl;have p2 : w9.cell? ⟨bP,2,none⟩ = some (.slice ka ks.length kc):=dX.cell (HP.out) rfl;have p3 : w9.cell? ⟨bP,3,none⟩ = some (.slice na es.length nc):=dX.cell (HP.out) rfl;have p4 : w9.cell? ⟨bP,4,none⟩ = some (.slice ra M.res.length rc):=dX.cell (HP.out) rfl;have d1 : decide ((q4.length : Int) < (M.res.length : Int)) = false:=aC (by omega);have d2 : decide (q4.length < M.res.length) = false:=aC (by omega)
 go_cut [78] (fun v wx => v = .bool false ∧ wx = w9)
 case first =>
  go_wp2_with fail;go_meet
  case rel => exact ⟨rfl,rfl⟩
 obtain ⟨rfl,hwc⟩:=hcut;generalize wc = wx9 at *;replace hwc:=hwc.symm;subst hwc;clear d1 d2
 cases hro : M.eN
 ·
  rw [hro] at HP p0;have g3:=HG.out.cell (i:=3) rfl;have hmm:=@run_makeMap Tryz.prog;go_upto_region 10 with fail;clear p0 p1 p2 p3 p4 g3 hmm;change Code.wp _ _ _ _ (w9.alloc (.map #[] 0));have eU:=(aj w9.heap.size w9).alloc (ai _) (.map #[] 0);have PR:=zh (show jf (w9.alloc (.map #[] 0)) w9.heap.size 0 (vT ⟨1,9000,false,ea L⟩ K 0) from jf.new w9);have fg:=zh eU;have g3:=(HG.out.below eU).cell (i:=3) rfl;clear eU;generalize w9.alloc (.map #[] 0) = w10 at *;generalize IQ : w9.heap.size = bm at *;have jO:=zh (fun V (h : Below bm w9 V) => show Below w9.heap.size w9 V from IQ ▸ h);clear IQ
  go_upto_block 0 with fail
  clear g3
  go_cut [15] (fun nv V => nv = .int .i64 (es.length : Int) ∧ Hid (jf V bm M.res.length (vT ⟨1,9000,false,ea L⟩ K M.res.length)) ∧ Hid (Below bm w9 V))
  case first =>
   as_aux_lemma =>
   go_wp2_with fail
   go_loopw [14,15,16] (fun av nv iv V => ∃ i : Nat,av = .int .i64 (tz + (fU (ew ⟨1,9000,false,ea L⟩ K i).needs : Int)) ∧ nv = .int .i64 ((ew ⟨1,9000,false,ea L⟩ K i).needs.length : Int) ∧ iv = .int .i64 (i : Int) ∧ i ≤ M.res.length ∧ Hid (jf V bm i (vT ⟨1,9000,false,ea L⟩ K i)) ∧ Hid (Below bm w9 V)) (fun _ _ iv _ => M.res.length - (intOf iv).toNat)
   case atStart => exact ⟨0,by show (.int .i64 tz : Value) = .int .i64 (tz + ((0 : Nat) : Int)); rw [Int.natCast_zero,Int.add_zero],rfl,rfl,aq _,PR,fg⟩
   clear PR fg;obtain ⟨i,rfl,rfl,rfl,hi,HM,fg⟩:=hrel;have pR:=jO.out _ fg.out;have lU:=zh (HP.out.below pR);have p0 : wr.cell? ⟨bP,0,none⟩ = some (.bool false):=dX.cell (lU.out) rfl;have p1 : wr.cell? ⟨bP,1,none⟩ = some (.int .i64 (M.res.length : Int)):=dX.cell (lU.out) rfl;have p2 : wr.cell? ⟨bP,2,none⟩ = some (.slice ka ks.length kc):=dX.cell (lU.out) rfl;have p3 : wr.cell? ⟨bP,3,none⟩ = some (.slice na es.length nc):=dX.cell (lU.out) rfl;have p4 : wr.cell? ⟨bP,4,none⟩ = some (.slice ra M.res.length rc):=dX.cell (lU.out) rfl;have hai : (ew ⟨1,9000,false,ea L⟩ K i).needs.length ≤ es.length:=by rw [← hel]; exact lS.out.mono hi (ai _)
   obtain ⟨al,NJ⟩ : ∃ al,(ew ⟨1,9000,false,ea L⟩ K i).needs.length = al:=⟨_,rfl⟩
   rw [NJ] at hai;have Jz:=zh NJ;simp only [NJ];clear NJ;obtain ⟨T,hT⟩ : ∃ T : Bool,T = decide (i < M.res.length ∧ al < es.length):=⟨_,rfl⟩
   have HT:=zh hT;clear hT;go_upto_region 12 with fail
   go_cut [95] (fun v wx => v = .bool T ∧ wx = wr)
   case first =>
    by_cases c1 : i < M.res.length
    ·
     have i1 : (i : Int) < (M.res.length : Int):=by omega
     by_cases c2 : al < es.length
     ·
      have i2 : (al : Int) < (es.length : Int):=by omega
      have MW : T = true:=by rw [HT.out]; exact aD ⟨c1,c2⟩
      subst MW;go_wp2_with fail;go_meet
      case rel => exact ⟨rfl,rfl⟩
     have i2 : ¬ (al : Int) < (es.length : Int):=by omega
     have MW : T = false:=by rw [HT.out]; exact aC (fun h => c2 h.2)
     subst MW;go_wp2_with fail;go_meet
     case rel => exact ⟨rfl,rfl⟩
    have i1 : ¬ (i : Int) < (M.res.length : Int):=by omega
    have MW : T = false:=by rw [HT.out]; exact aC (fun h => c1 h.1)
    subst MW;go_wp2_with fail;go_meet
    case rel => exact ⟨rfl,rfl⟩
   obtain ⟨rfl,hwc⟩:=hcut;generalize wc = wx9 at *;replace hwc:=hwc.symm;subst hwc;clear p0 p1 p2 p4
   cases T
   ·
    have hx : ¬ (i < M.res.length ∧ al < es.length):=cD HT.out.symm;have hend : al = es.length ∧ vT ⟨1,9000,false,ea L⟩ K M.res.length = vT ⟨1,9000,false,ea L⟩ K i:=by
     have h1 : al = es.length:=by
      by_cases e : i = M.res.length
      ·
       rw [← Jz.out,e,hel]
      omega
     have h2:=lS.out.stay (M.res.length - i) i (by omega);rw [show i + (M.res.length - i) = M.res.length by omega,Jz.out,h1,hel] at h2;exact ⟨h1,h2 rfl⟩
    obtain ⟨rfl,hend⟩:=hend;replace HM:=zh (show jf wr bm M.res.length (vT ⟨1,9000,false,ea L⟩ K M.res.length) from by rw [hend]; exact HM.out.mono hi);clear hx hend HT;go_wp2_with fail;go_meet
    case rel => exact ⟨rfl,HM,fg⟩
   obtain ⟨c1,c2⟩ : i < M.res.length ∧ al < es.length:=aX HT.out.symm;have i1 : (i : Int) < (M.res.length : Int):=by omega
   have i2 : (al : Int) < (es.length : Int):=by omega
   have hgr:=lS.out.OH c1 (by rw [Jz.out,hel]; exact c2);rw [Jz.out] at hgr;obtain ⟨bn,on,rfl,iE,n0,n1,n2,n3⟩:=(HN.out.below pR).at c2;have hnd:=zK0 es al;rw [Ve.out] at hnd;have hxd : (xW es al).1.data.length = (q_ (ew ⟨1,9000,false,ea L⟩ K M.res.length).needs al).data.length:=by rw [hnd]
   rw [← hnd,lT.out i,← HMr.out] at hgr;clear hnd;generalize xW es al = nd at *;obtain ⟨⟨xk,Vg,xd,IB⟩,xv⟩:=nd;dsimp only at iE n0 n1 n2 n3 hgr hxd;have HXd:=zh hxd;clear hxd;obtain ⟨xa,xc,rfl,_,_⟩:=iE.gl;clear iE;go_upto_region 15 with fail;clear n0 n1 n2 n3 p3;change Code.wp _ _ _ _ (wr.alloc (.cells #[.int .u64 (xk : Int),.int .u32 (Vg : Int),.bool xd,.slice xa IB.length xc] 56));have eU:=(aj wr.heap.size wr).alloc (ai _) (.cells #[.int .u64 (xk : Int),.int .u32 (Vg : Int),.bool xd,.slice xa IB.length xc] 56);have HX:=zh (dX.new wr #[.int .u64 (xk : Int),.int .u32 (Vg : Int),.bool xd,.slice xa IB.length xc] 56);have IQ:=HM.out.lt;replace HM:=zh (HM.out.below eU);replace fg:=zh (fg.out.trans (eU.mono (by omega)));clear eU lU pR;generalize wr.alloc (.cells #[.int .u64 (xk : Int),.int .u32 (Vg : Int),.bool xd,.slice xa IB.length xc] 56) = v1 at *
   generalize wr.heap.size = bX at *;have LY:=jO.out _ fg.out;obtain ⟨br,or_,rfl,hrc⟩:=zLv (h_.out.below LY) c1;obtain ⟨bq,oq,rfl,_,_,hq1,Nk,_,_⟩:=(Je.out.below LY).at (show i < q4.length by omega);have p4:=zB (show v1.cell? ⟨bP,4,none⟩ = some (.slice (some ⟨br,or_,none⟩) M.res.length rc) from dX.cell (HP.out.below LY) rfl);have r1:=zB hrc;have y1:=zB hq1;have y2:=zB Nk;have x0:=zB (HX.out.cell (i:=0) rfl);have x2:=zB (HX.out.cell (i:=2) rfl);clear hrc hq1 Nk LY;generalize (gZ q4 i).1 = rq at *;obtain ⟨qt,qkd,qk,qck,qdt⟩:=rq;generalize xT M.res i = er at *;dsimp only at y1 y2 hgr;obtain ⟨Jl,hno⟩:=hgr;obtain ⟨T2,R3⟩ : ∃ T2 : Bool,T2 = decide (er = 0 ∧ xk = qk ∧ xd = decide (qkd = 2)):=⟨_,rfl⟩
   have Fc:=zh R3;have iO:=zh Jl;have iB:=zh hno;clear R3 HT Jl hno
   go_cut [129] (fun v wx => v = .bool T2 ∧ Hid (Below v1.heap.size v1 wx))
   case first =>
    clear iO iB HM fg HX
    by_cases e0 : er = 0
    ·
     have b0 : (er == 0) = true:=by simp [e0]
     by_cases e1 : xk = qk
     ·
      have b1 : ((xk : Int) == (qk : Int)) = true:=by simp [e1]
      have Tk : T2 = (xd == (qkd == 2)):=by
       rw [Fc.out]
       by_cases e2 : qkd = 2
       ·
        cases xd <;> simp [e0,e1,e2]
       cases xd <;> simp [e0,e1,e2]
      clear Fc e0 e1;refine zC (by kernel_rfl) (by kernel_rfl) ?_
      repeat (go_big_quiet_step (fail))
      refine aA ?_;intro _ hw';obtain ⟨q,hw'⟩:=hw';subst hw';have CP:=zh q.h;clear p4 r1 y1 y2 x0 x2;generalize q.w' = wq at *;go_wp2_with fail;go_meet
      case rel => exact ⟨by rw [Tk],CP⟩
     have b1 : ((xk : Int) == (qk : Int)) = false:=beq_eq_false_iff_ne.2 (fun h => e1 (by omega));have Tk : T2 = false:=by rw [Fc.out]; exact aC (fun h => e1 h.2.1)
     clear Fc e0 e1;refine zC (by kernel_rfl) (by kernel_rfl) ?_
     repeat (go_big_quiet_step (fail))
     refine aA ?_;intro _ hw';obtain ⟨q,hw'⟩:=hw';subst hw';have CP:=zh q.h;clear p4 r1 y1 y2 x0 x2;generalize q.w' = wq at *;go_wp2_with fail;go_meet
     case rel => exact ⟨by rw [Tk],CP⟩
    have b0 : (er == 0) = false:=by simp [e0]
    have Tk : T2 = false:=by rw [Fc.out]; exact aC (fun h => e0 h.1)
    clear Fc e0;refine zC (by kernel_rfl) (by kernel_rfl) ?_
    repeat (go_big_quiet_step (fail))
    refine aA ?_;intro _ hw';obtain ⟨q,hw'⟩:=hw';subst hw';have CP:=zh q.h;clear p4 r1 y1 y2 x0 x2;generalize q.w' = wq at *;go_wp2_with fail;go_meet
    case rel => exact ⟨by rw [Tk],CP⟩
   obtain ⟨rfl,fP⟩:=hcut;generalize wc = v2 at *;clear p4 r1 y1 y2 x0 x2;have arJ:=HM.out.lt;have hXl:=HX.out.lt;replace HX:=zh (HX.out.below fP.out);replace HM:=zh (HM.out.below fP.out);replace fg:=zh (fg.out.trans (fP.out.mono (by omega)));have arK:=HM.out.lt;clear fP
   cases T2
   ·
    have Ds:=iB.out (cD Fc.out.symm);have hs:=lS.out.same c1 (by rw [Jz.out]; exact Ds);have Hs:=zh (show jf v2 bm (i + 1) (vT ⟨1,9000,false,ea L⟩ K (i + 1)) from by rw [lS.out.Pa c1,ag (by rw [Jz.out]; exact Ds)]; exact HM.out.mono (by omega));clear iO iB Fc;go_wp2_with fail;exact ⟨⟨i + 1,by rw [hs],by rw [Ds],by go_num,by omega,Hs,fg⟩,by simp [intOf]; omega⟩
   have Ds:=iO.out (aX Fc.out.symm);have hs:=lS.out.grow c1 (by rw [Jz.out]; exact Ds);rw [Jz.out,← HXd.out] at hs;obtain ⟨D,hown,hat⟩:=HM.out;have hD : IsMap D:=by
    obtain ⟨_,_,_,_,_,e⟩:=hown;exact ⟨_,e⟩
   have hsl:=lS.out.abR hi;have hwo : (Lit.int .i64 (tz + (fU (ew ⟨1,9000,false,ea L⟩ K i).needs : Int))).wf = true:=WalkArith.wf_i64 (by omega);have hwi : (Lit.int .i64 (i : Int)).wf = true:=WalkArith.wf_i64 (by omega);have hx4:=xt IB.length;go_upto_region 17 with (first | (at_mapUpdate; refine wpList_mapUpdate_own _ rfl _ _ _ 84 rfl 2 3 zLq Tryz.underlying84 _ bm i _ rfl hown (by unfold maxLen; omega) _ _ _ rfl rfl (keyOf_int_mk Tryz.underlying2 hwo) _ [] (plainElem_int Tryz.underlying3 hwi) ?_; intro w1 hown1 Fe) | go_in);have Hs:=zh (show jf w1 bm (i + 1) (vT ⟨1,9000,false,ea L⟩ K (i + 1)) from by rw [lS.out.Pa c1,ah (by rw [Jz.out,Ds]; omega),Pc.out]; exact jf.put hown1 hD hat trivial);have x3:=(HX.out.grown Fe (by intro e; injection e with e; omega)).cell (i:=3) rfl;have eW:=zh (fg.out.grown Fe (by omega) (fun j hj => by cases hj; exact ai _))
   clear hown hown1 Fe hat hD hwo hwi iO iB Fc HX HM fg;go_wp2_with fail;refine (Qz IB.length _).mono ?_;rintro e w2 ⟨rfl,rfl⟩;go_wp2_with fail;exact ⟨⟨i + 1,by rw [hs,cH]; congr 1; omega,by rw [Ds]; go_num,by go_num,by omega,Hs,eW⟩,by simp [intOf]; omega⟩
  obtain ⟨rfl,HM,fg⟩:=hcut;generalize wc = wA at *;have pR:=jO.out _ fg.out;have LU:=zh (HS.out.below pR);have Kf:=zh (HG.out.below pR);have IA:=zh (HP.out.below pR);have Pd:=zh (HR.out.below pR);have Qc:=zh (JJ.out.below pR);have Tl:=zh (HN.out.below pR);have MV:=zh (h_.out.below pR);have LW:=zh (Je.out.below pR);have eG:=zh (zA HB.out pR);clear fg pR jO HS HG HP HR JJ HN h_ Je HB PR;have p3 : wA.cell? ⟨bP,3,none⟩ = some (.slice na es.length nc):=dX.cell IA.out rfl;have p2 : wA.cell? ⟨bP,2,none⟩ = some (.slice ka ks.length kc):=dX.cell IA.out rfl;have htot:=zHE Pb.out
  go_upto_block 2 with fail
  clear p2 p3
  go_cut [18] (fun sv V => sv = .int .i64 ((es.length : Int) + (xw (ew ⟨1,9000,false,ea L⟩ K M.res.length).dY : Int)) ∧ Hid (Below wA.heap.size wA V))
  case first =>
   as_aux_lemma =>
   go_wp2_with fail
   go_loopw [18,152] (fun sv kv V => ∃ k : Nat,sv = .int .i64 ((es.length : Int) + (xw ((ew ⟨1,9000,false,ea L⟩ K M.res.length).dY.take k) : Int)) ∧ kv = .int .i64 (k : Int) ∧ k ≤ ks.length ∧ Hid (Below wA.heap.size wA V)) (fun _ kv _ => ks.length - (intOf kv).toNat)
   case atStart => exact ⟨0,by show (.int .i64 (es.length : Int) : Value) = .int .i64 ((es.length : Int) + ((0 : Nat) : Int)); rw [Int.natCast_zero,Int.add_zero],rfl,aq _,zh (aj _ _)⟩
   obtain ⟨k,rfl,rfl,hk,fg⟩:=hrel;have Tx:=zGY (ew ⟨1,9000,false,ea L⟩ K M.res.length).dY k
   by_cases hlt : k < ks.length
   ·
    have i1 : (k : Int) < (ks.length : Int):=by omega
    obtain ⟨bk,ok,rfl,hU,c0,c1⟩:=(Qc.out.below fg.out).at hlt;have hts:=zDB (l:=(ew ⟨1,9000,false,ea L⟩ K M.res.length).dY) (i:=k) (by omega);have Pe:=zEV ks k;rw [Nl.out] at Pe;have O_:=Pb.out _ (wk (l:=(ew ⟨1,9000,false,ea L⟩ K M.res.length).dY) (i:=k) (by omega));rw [Pe] at hts O_;clear Pe;generalize jg ks k = kp at *;obtain ⟨num,kv9,keys⟩:=kp;dsimp only at hU c0 c1 hts O_;obtain ⟨lH,lI,rfl,_,_⟩:=hU.gl;clear hU;go_upto_region 24 with fail;clear c0 c1;change Code.wp _ _ _ _ (wr.alloc (.cells #[.int .i64 num,.slice lH keys.length lI] 89));have eU:=(aj wr.heap.size wr).alloc (ai _) (.cells #[.int .i64 num,.slice lH keys.length lI] 89);have y1:=(dX.new wr #[.int .i64 num,.slice lH keys.length lI] 89).cell (i:=1) rfl;have eW:=zh (zA fg.out eU);clear eU fg;generalize wr.alloc (.cells #[.int .i64 num,.slice lH keys.length lI] 89) = v1 at *
    generalize wr.heap.size = bX at *;go_wp2_with fail;exact ⟨⟨k + 1,by rw [hts,cH]; congr 1; omega,by go_num,by omega,eW⟩,by simp [intOf]; omega⟩
   obtain rfl : k = ks.length:=by omega
   have i1 : ¬ (ks.length : Int) < (ks.length : Int):=by omega
   rw [aH (show (ew ⟨1,9000,false,ea L⟩ K M.res.length).dY.length ≤ ks.length by omega)];go_wp2_with fail;go_meet
   case rel => exact ⟨rfl,fg⟩
  obtain ⟨rfl,fg⟩:=hcut;generalize wc = wB at *;have pR:=fg.out;replace LU:=zh (LU.out.below pR);replace Kf:=zh (Kf.out.below pR);replace IA:=zh (IA.out.below pR);replace Pd:=zh (Pd.out.below pR);replace Qc:=zh (Qc.out.below pR);replace Tl:=zh (Tl.out.below pR);replace MV:=zh (MV.out.below pR);replace LW:=zh (LW.out.below pR);replace HM:=zh (HM.out.below pR);replace eG:=zh (zA eG.out pR);clear pR fg;obtain ⟨s,hs⟩ : ∃ s : Nat,s = es.length + xw (ew ⟨1,9000,false,ea L⟩ K M.res.length).dY:=⟨_,rfl⟩
  have hsI : (es.length : Int) + (xw (ew ⟨1,9000,false,ea L⟩ K M.res.length).dY : Int) = (s : Int):=by omega
  rw [hsI];clear hsI;obtain ⟨d,hd⟩ : ∃ d,cut.tmod ((s : Int) + 1) = d:=⟨_,rfl⟩
  have P6:=zLn cut s;rw [hd] at P6;have J5 : (0 : Int) < (s : Int) + 1:=by omega
  have Bf:=Int.lt_tmod_of_pos cut J5;have hd2:=Int.tmod_lt_of_pos cut J5;rw [hd] at Bf hd2;obtain ⟨c,hc⟩ : ∃ c : Nat,(d + (s : Int) + 1).tmod ((s : Int) + 1) = (c : Int):=⟨_,(Int.toNat_of_nonneg P6.1).symm⟩
  have hcs : c ≤ s:=by omega
  have H4 : s ≤ 9000:=by omega
  have Ls:=zh hs;clear P6 hs;go_upto_region 26 with fail
  go_cut [21] (fun v wx => v = .int .i64 (c : Int) ∧ wx = wB)
  case first =>
   go_wp2_with fail;go_meet
   case rel => exact ⟨rfl,rfl⟩
  obtain ⟨rfl,hwc⟩:=hcut;generalize wc = wx9 at *;replace hwc:=hwc.symm;subst hwc;clear hc hd J5 Bf hd2;obtain ⟨k0,k1,k2,k3⟩:=(dX.iu LU.out).q;go_upto_region 28 with fail;clear k0 k1 k2 k3;change Code.wp _ _ _ _ (wB.alloc (.cells (zN 1 9000 false a' n c') 27));have eU:=zS wB 1 9000 false a' n c' 27;have HO:=zh (dX.new wB (zN 1 9000 false a' n c') 27);have LJ:=zh (Pd.out.below eU);have fg:=zh eU;have p2:=dX.cell (IA.out.below eU) (i:=2) rfl;clear eU;generalize wB.alloc (.cells (zN 1 9000 false a' n c') 27) = wC at *;generalize Pg : wB.heap.size = jF at *;have jO:=zh (fun V (h : Below jF wB V) => show Below wB.heap.size wB V from Pg ▸ h);have arM : bP < jF:=by rw [← Pg]; exact IA.out.lt
  clear Pg
  go_upto_block 4 with fail
  clear p2
  go_cut [21] (fun lv V => ∃ (a1 : Option Addr) (n1 c1 : Nat) (L1 : List GP),lv = .int .i64 ((c - xw (ew ⟨1,9000,false,ea L⟩ K M.res.length).dY : Nat) : Int) ∧ Hid (dX V jF (zN 1 9000 false a1 n1 c1) 27) ∧ Hid (fH V (.slice a1 n1 c1) L1) ∧ Hid (ea L1 = (zj (ye (ew ⟨1,9000,false,ea L⟩ K M.res.length).dY c) ⟨1,9000,false,ea L⟩).1.dW) ∧ Hid (Below jF wB V))
  case first =>
   as_aux_lemma =>
   go_wp2_with fail
   go_loopw [21,176] (fun lv kv V => ∃ (k : Nat) (a1 : Option Addr) (n1 c1 : Nat) (L1 : List GP),lv = .int .i64 ((c - xw ((ew ⟨1,9000,false,ea L⟩ K M.res.length).dY.take k) : Nat) : Int) ∧ kv = .int .i64 (k : Int) ∧ k ≤ ks.length ∧ Hid (dX V jF (zN 1 9000 false a1 n1 c1) 27) ∧ Hid (fH V (.slice a1 n1 c1) L1) ∧ Hid (ea L1 = (zj ((ye (ew ⟨1,9000,false,ea L⟩ K M.res.length).dY c).take k) ⟨1,9000,false,ea L⟩).1.dW) ∧ Hid (Below jF wB V)) (fun _ kv _ => ks.length - (intOf kv).toNat)
   case atStart => exact ⟨0,a',n,c',L,rfl,rfl,aq _,HO,LJ,zh rfl,fg⟩
   clear HO LJ fg;obtain ⟨k,a1,n1,c1,L1,rfl,rfl,hk,HO,eY,p_,fg⟩:=hrel;have pR:=jO.out _ fg.out;have Tx:=zGY (ew ⟨1,9000,false,ea L⟩ K M.res.length).dY k
   by_cases hlt : k < ks.length
   ·
    have i1 : (k : Int) < (ks.length : Int):=by omega
    obtain ⟨r,hr1,hr2,Kg,Kh,hne⟩:=lS.out.SU c (i:=k) (by omega);have hkp:=lS.out.fits c k;have abY:=lS.out.fits c (k + 1);obtain ⟨bk,ok,rfl,hU,c0,Tg⟩:=(Qc.out.below pR).at hlt;have hSp:=EL.out _ (Zh hlt);have hUB:=Qc.out.keys _ (Zh hlt);have hts:=zDB (l:=(ew ⟨1,9000,false,ea L⟩ K M.res.length).dY) (i:=k) (by omega);have Pe:=zEV ks k;rw [Nl.out] at Pe;have O_:=Pb.out _ (wk (l:=(ew ⟨1,9000,false,ea L⟩ K M.res.length).dY) (i:=k) (by omega));rw [Pe] at hts O_ hr2 Kg Kh hne;clear Pe;generalize jg ks k = kp at *;obtain ⟨num,kv9,keys⟩:=kp;dsimp only at hU hUB c0 Tg hts O_ hr2 Kg Kh hne hSp;obtain ⟨lH,lI,rfl,Tf,_⟩:=hU.gl;replace hSp:=hSp _ _ _ rfl;obtain ⟨_,Qd,_,_⟩:=hkp;obtain ⟨_,hK1,_,_⟩:=abY;obtain ⟨t0,ht0⟩ : ∃ t,(zj ((ye (ew ⟨1,9000,false,ea L⟩ K M.res.length).dY c).take k) ⟨1,9000,false,ea L⟩).1 = t:=⟨_,rfl⟩
    obtain ⟨t1,ht1⟩ : ∃ t,(zj ((ye (ew ⟨1,9000,false,ea L⟩ K M.res.length).dY c).take (k + 1)) ⟨1,9000,false,ea L⟩).1 = t:=⟨_,rfl⟩
    rw [ht0] at p_ hr2 Kg Kh hne Qd;rw [ht1] at Kh hK1;obtain ⟨l0,hl0⟩ : ∃ l,c - xw ((ew ⟨1,9000,false,ea L⟩ K M.res.length).dY.take k) = l:=⟨_,rfl⟩
    rw [hl0] at Kg Kh ⊢;have LH : l0 ≤ 9000:=by omega
    have Mh:=zh ht1;have EH:=zh (show c - xw ((ew ⟨1,9000,false,ea L⟩ K M.res.length).dY.take (k + 1)) = l0 - keys.length from by rw [hts]; omega);have ED:=zh Kg;have Va:=zh Kh;have U_:=zh hne;have gj:=zh hr2;have HUB:=zh hUB;have OD:=zh hSp;have HT0:=zh Qd;have LX:=zh (show (⟨1,9000,false,t0.dW⟩ : eL) = t0 from zD3 Qd);have Vb:=zh (show (⟨1,9000,false,t1.dW⟩ : eL) = t1 from zD3 hK1)
    have KY:=zh (show fA 700 t0.dW from by
     have h:=kQ ((ye (ew ⟨1,9000,false,ea L⟩ K M.res.length).dY c).take k) ⟨1,9000,false,ea L⟩ HL.out
     rw [ht0] at h; exact h)
    have Md : L1.length = n1:=by
     obtain ⟨_,_,e,_⟩:=eY.out.shape;injection e with _ e _; exact e.symm
    have Tm : n1 ≤ 8 ∧ r + 1 < n1:=by
     have h1:=Qd.v.len;have h2:=Qd.len;rw [← p_.out,yB] at h1 h2;omega
    clear ht0 ht1 hl0 hts Kg Kh hne hr2 hUB hSp Qd hK1 hr1 hU pR Tx
    go_upto_block 5 with fail
    have U9:=zh (fun W2 (hb : Below jF wB W2) => show lJ W2 (.slice lH keys.length lI) keys from HUB.out.below (jO.out W2 hb))
    have HNj:=zh (show ∀ q,q < n1 → q ≠ r → (eB t0.dW q).num ≠ num from fun q hq hne => U_.out q (show q < (ea L).length from by
     have h:=HT0.out.len
     rw [← p_.out,yB] at h
     have h : L1.length = (ea L).length:=h
     omega) hne)
    refine zNC (t0:=t0) (t1:=t1) (r:=r) i1 Tm.1 Tm.2 LH Md O_ Tf c0 Tg OD U9 HO eY p_ fg HNj gj ED Va LX Vb KY (zh ?_);clear OD U9 HO eY p_ fg HNj gj ED Va LX Vb KY HUB U_ HT0 c0 Tg;intro _ _ _ _ _ _ _ _ _ _ _ _ _ _ _ _ _ _ _ _ _ _ _ _ _ _ _ _ _ _ _ _ _ _ _ _ _ _ _ _ _ _ _ _ _ _ _ _ _ _ _ _ _ _ _ a2 n2 c2 L2 wG jx lB Fw fZ;go_wp2_with fail;exact ⟨⟨k + 1,a2,n2,c2,L2,by rw [EH.out],by go_num,by omega,jx,lB,zh (by rw [Mh.out]; exact Fw.out),fZ⟩,by simp [intOf]; omega⟩
   obtain rfl : k = ks.length:=by omega
   have i1 : ¬ (ks.length : Int) < (ks.length : Int):=by omega
   rw [aH (show (ew ⟨1,9000,false,ea L⟩ K M.res.length).dY.length ≤ ks.length by omega)];rw [aH (show (ye (ew ⟨1,9000,false,ea L⟩ K M.res.length).dY c).length ≤ ks.length by rw [kX]; omega)] at p_;go_wp2_with fail;go_meet
   case rel => exact ⟨a1,n1,c1,L1,rfl,HO,eY,p_,fg⟩
  clear HO LJ fg;obtain ⟨a1,n1,c1,L1,rfl,HO,eY,p_,fg⟩:=hcut;clear Qc EL;generalize wc = wE at *;obtain ⟨m,hm⟩ : ∃ m,c - xw (ew ⟨1,9000,false,ea L⟩ K M.res.length).dY = m:=⟨_,rfl⟩
  rw [hm];have hci : (ye (ew ⟨1,9000,false,ea L⟩ K M.res.length).dY c).length ≤ ks.length:=by rw [kX]; omega
  have hcm : m ≤ es.length:=by have hs:=Ls.out; omega
  have hpart:=lS.out.part (c:=c) (m:=m) (by omega) (by omega);have hfit:=lS.out.fits c ks.length;rw [aH hci] at hfit;obtain ⟨_,Vh,hTA,_⟩:=hfit;have hLA:=kQ (ye (ew ⟨1,9000,false,ea L⟩ K M.res.length).dY c) ⟨1,9000,false,ea L⟩ HL.out;obtain ⟨La,Mu,Lc⟩:=hpart;generalize (zj (ye (ew ⟨1,9000,false,ea L⟩ K M.res.length).dY c) ⟨1,9000,false,ea L⟩).1 = tA at *;have hTe:=zD3 Vh;rw [← Ve.out] at La Mu Lc;obtain ⟨DA,Vi⟩ : ∃ D,zX (zK ⟨1,9000,false,ea L⟩) ((es.map (·.1)).take m) = D:=⟨_,rfl⟩
  rw [Vi] at La Mu Lc;have Fc:=zh (Yc 1 9000 false a1 n1 c1 L1 wE eY.out (vI (show fA 700 (ea L1) from by rw [p_.out]; exact hLA) (by decide)));rw [p_.out,hTe,show tX tA = (0,zK tA) from Ya Vh.v,hTA,Pc.out] at Fc;rw [Pc.out] at La
  try dsimp only at Fc
  have KY:=zh (show ∀ i,i < 8 → (tf i).length ≤ 700 from by
   have h1:=HL.out (zK ⟨1,9000,false,ea L⟩) (uw HV.out)
   rw [Pc.out] at h1; exact h1)
  have N3:=zh (show ∀ i,i < 8 → (DA.m.st i).length ≤ 10000 from by
   have h1:=xg ((es.map (·.1)).take m) (zK ⟨1,9000,false,ea L⟩) (n:=700) (by rw [Pc.out]; exact KY.out)
   rw [Vi] at h1
   exact fun i hi => ak (h1 i hi) (by rw [ay,aI]; omega))
  have ab3:=zh (show ∀ i,i < 8 → (DA.m.st i).length ≤ 1000 from by
   have h1:=xg ((es.map (·.1)).take m) (zK ⟨1,9000,false,ea L⟩) (n:=700) (by rw [Pc.out]; exact KY.out)
   rw [Vi] at h1
   exact fun i hi => ak (h1 i hi) (by rw [ay,aI]; omega))
  have MW:=Lc.v;have U5:=zh Lc;have HA2:=zh Mu;have Pz:=zh La;have LX:=zh hTe;have VF:=zh Vh;have HLA:=zh hLA;clear La Mu Lc Vi hTe Vh hLA hTA hci;obtain ⟨dn,dr,dm,dz,⟨df,dL,dG⟩⟩:=DA;obtain ⟨k0,k1,k2,k3⟩:=(dX.iu HO.out).q;go_wp2_with fail;refine Fc.out.mono ?_;rintro e w3 ⟨⟨s2,rfl,ho⟩,hb⟩;dsimp only at ho ⊢;clear k0 k1 k2 k3 Fc;have KX:=HO.out.lt;replace HO:=zh (HO.out.below hb);replace eY:=zh (eY.out.below hb);replace fg:=zh (fg.out.trans (hb.mono (by omega)));have Tn:=zh ho.rd;clear hb ho;go_upto_region 43 with fail;change Code.wp _ _ _ _ (w3.alloc (.cells (zQ tn tr tm tz s2 tL tG) 38));have eU:=zb w3 tn tr tm tz s2 tL tG 38;have HX:=zh (dX.new w3 (zQ tn tr tm tz s2 tL tG) 38);have KX:=HO.out.lt;replace HO:=zh (HO.out.below eU);replace eY:=zh (eY.out.below eU);replace fg:=zh (fg.out.trans (eU.mono (by omega)))
  have Bc:=zh (Tn.out.below eU);clear eU Tn;generalize w3.alloc (.cells (zQ tn tr tm tz s2 tL tG) 38) = v0 at *;generalize w3.heap.size = bX at *;have U8:=zh (IA.out.below (jO.out _ fg.out))
  have DN:=zh (yX (P:=Tryz.prog) Xj (a:=na) (n:=es.length) (cap:=nc) KC.out m (by
   obtain ⟨_,_,e,h,_⟩:=Tl.out.shape
   injection e with _ _ e
   omega))
  have CW:=zh (fun W2 (hb : Below v0.heap.size v0 W2) => show Calls Tryz.prog 12 #[zV tn tr tm tz s2 tL tG,.slice na m nc] W2 (Kv W2 (0,⟨dn,dr,dm,dz,⟨df,dL,dG⟩⟩)) from by
   have h:=zHK ⟨tn,tr,tm,tz,⟨tf,tL,tG⟩⟩ s2 (.slice na m nc) (es.take m) 700 W2 (Bc.out.below hb) KY.out ((Tl.out.below (jO.out W2 (fg.out.trans (hb.mono (by have:=HO.out.lt; omega))))).take m (by omega)) (by rw [ay]; omega)
   rw [List.map_take,Pz.out] at h
   exact h)
  refine zMr HX U8 DN CW (zh ?_);intro _ _ _ _ _ _ _ _ _ bG s9 w4f hlo JA Og fK;have KX:=HO.out.lt;have Vj:=fK.out;replace HO:=zh (HO.out.below Vj);replace eY:=zh (eY.out.below Vj);replace fg:=zh (fg.out.trans (Vj.mono (by omega)));clear Vj fK CW HX Bc DN KY Pz U8;have hct : yM ⟨1,9000,false,ea L1⟩ ⟨dn,dr,dm,dz,⟨df,dL,dG⟩⟩ = ((yM tA ⟨dn,dr,dm,dz,⟨df,dL,dG⟩⟩).1,0):=by
   rw [p_.out,LX.out];exact Prod.ext rfl HA2.out
  have hte : (yM tA ⟨dn,dr,dm,dz,⟨df,dL,dG⟩⟩).1 = ⟨1,9000,false,(yM tA ⟨dn,dr,dm,dz,⟨df,dL,dG⟩⟩).1.dW⟩:=by
   rw [← LX.out]; exact zI4 tA.dW _ (by rw [LX.out]; exact HA2.out)
  have hLT : fA 1000 (yM tA ⟨dn,dr,dm,dz,⟨df,dL,dG⟩⟩).1.dW:=YD (HLA.out.mono (by decide)) (ab3.out);have Bz:=zh (zEu 1 9000 false a1 n1 c1 L1 w4f eY.out (vI (show fA 700 (ea L1) from by rw [p_.out]; exact HLA.out) (by decide)) (⟨dn,dr,dm,dz,⟨df,dL,dG⟩⟩,s9) Og.out N3.out);rw [hct] at Bz;clear hct;generalize (yM tA ⟨dn,dr,dm,dz,⟨df,dL,dG⟩⟩).1 = tT at *;obtain ⟨ti,tl,tro,Vk⟩:=tT;dsimp only at hte Bz hLT;injection hte with e1 e2 e3 _;subst e1 e2 e3;obtain ⟨k0,k1,k2,k3⟩:=(dX.iu HO.out).q;obtain ⟨g0,g1,g2,g3,g4,g5,g6,g7,g8,g9,g10,g11,g12,g13⟩:=JA.out.gen.q;go_wp2_with fail;refine Bz.out.mono ?_;rintro e w5 ⟨⟨xa,xn,xc,xL,rfl,Kc,Fb⟩,hb⟩;dsimp only at Fb ⊢;clear k0 k1 k2 k3 g0 g1 g2 g3 g4 g5 g6 g7 g8 g9 g10 g11 g12 g13 Bz JA Og eY;have KX:=HO.out.lt;replace HO:=zh (HO.out.below hb);replace fg:=zh (fg.out.trans (hb.mono (by omega)))
  clear hb;obtain ⟨k0,k1,k2,k3⟩:=(dX.iu HO.out).q;have kf:=(dX.iu HO.out).f;go_upto_region 45 with fail;clear k0 k1 k2 k3 kf;change Code.wp _ _ _ _ (pts w5 jF (zP 1 9000 false xa xn xc));have Dr:=zh (dX.Ct HO.out 1 9000 false xa xn xc);have jy:=zh (fH.iu Kc HO.out (zP 1 9000 false xa xn xc));have fK:=jO.out _ (zD (B:=jF) (b:=jF) (ai _) (zP 1 9000 false xa xn xc) fg.out);have gC:=zh Fb;clear Kc Fb HO fg;generalize pts w5 jF (zP 1 9000 false xa xn xc) = wF at *;replace LU:=zh (LU.out.below fK);replace Kf:=zh (Kf.out.below fK);replace IA:=zh (IA.out.below fK);replace Pd:=zh (Pd.out.below fK);replace MV:=zh (MV.out.below fK);replace LW:=zh (LW.out.below fK);replace HM:=zh (HM.out.below fK);replace eG:=zh (zA eG.out fK);clear fK jO Tl KC;have HTV:=zh MW;have Bl:=U5.out;rw [Ve.out] at Bl;have hp:=lS.out.Iq Bl;clear Bl;rw [Pc.out] at hp;dsimp only at hp
  have DV:=zh hp;have HLT:=zh hLT;clear hp MW U5 VF LX HLA HA2 hLT;have LI : M.res.length ≤ 16:=abU;have Qb:=zh (fun o => zGX ⟨1,9000,false,ea L⟩ K M.res.length o);generalize hF : vT ⟨1,9000,false,ea L⟩ K M.res.length = F at *;clear hF
  have HP8:=zh (show ∀ key : Nat,qw ⟨1,9000,false,Vk⟩ (key : Int) tn tz F = qw ⟨1,9000,false,ea L⟩ (key : Int) tn tz F ∨ ∃ j,j < M.res.length ∧ (gZ q4 j).1.key = key ∧ xT M.res j = 0 ∧ qw ⟨1,9000,false,Vk⟩ (key : Int) tn tz F = (if (gZ q4 j).1.kind = 1 then (true,1 + (j : Int),0,0) else (false,0,0,0)) from fun key => by
   rcases DV.out (key : Int) with h | ⟨j,h1,h2,h3,_,h5⟩
   ·
    exact .inl h
   rw [lT.out j] at h2 h5
   rw [← HMr.out] at h3
   exact .inr ⟨j,h1,by omega,h3,h5⟩)
  have Hl:=zh (fun (key : Nat) (_ : key < 8) W (hb : Below wF.heap.size wF W) => zGr ⟨1,9000,false,ea L⟩ a' n c' L (key : Int) tn tz bm M.res.length F W (Pd.out.below hb) rfl (HL.out.mono (by decide)) (HM.out.below hb) (fun o => ⟨(Qb.out o).1,Int.le_trans (Qb.out o).2 (by omega)⟩) (zIq HV.out _));have Dh:=zh (fun (key : Nat) (_ : key < 8) W (hb : Below wF.heap.size wF W) => zGr ⟨1,9000,false,Vk⟩ xa xn xc xL (key : Int) tn tz bm M.res.length F W (jy.out.below hb) gC.out HLT.out (HM.out.below hb) (fun o => ⟨(Qb.out o).1,Int.le_trans (Qb.out o).2 (by omega)⟩) (zIq HTV.out _))
  go_upto_block 8 with fail
  refine zM9 (NS:=fun key => qw ⟨1,9000,false,ea L⟩ (key : Int) tn tz F) (NT:=fun key => qw ⟨1,9000,false,Vk⟩ (key : Int) tn tz F) LI hnT rfl LU Dr Kf IA MV LW Hl Dh HP8 (zh ?_);clear LU Dr Kf IA MV LW Hl Dh HP8 HM jy Pd;intro _ _ _ _ _ _ _ _ _ _ _ _ _ _ _ _ _ _ _ _ _ _ _ _ _ _ _ _ _ _ _ _ _ _ _ _ _ _ _ _ _ _ _ _ _ _ _ _ _ _ _ _ _ _ _ _ _ _ _ _ _ _ _ _ _ _ _ _ wH PJ;go_wp2_with fail;refine (HAw.out _).mono ?_;rintro e wz ⟨rfl,hb⟩;have ey:=zh (zA eG.out (zA PJ.out hb));go_wp2_with fail;go_ret;exact ⟨rfl,ey.out⟩
 rw [hro] at HP p0;go_wp2_with fail;refine (HAw.out _).mono ?_;rintro e wz ⟨rfl,hb⟩;have PJ:=zh (zA HB.out hb);go_wp2_with fail;go_ret;exact ⟨rfl,PJ.out⟩
end Go.Proofs.YtcgfilmmokmdjaaGreat
namespace Go.Proofs.YtcgfilmmokmdjaaGreat
open Go.RowKit Go.ChangeShapes Go.WideShapes Go.Deep
theorem zA4 : Tryz.prog.cellsOf 24 = 1:=by kernel_rfl
theorem zAs : Tryz.prog.cellsOf 47 = 1:=by kernel_rfl
theorem zFP : Tryz.prog.cellsOf 2 = 1:=by kernel_rfl
section
variable {H : Type} {enc : TypeId × Value → H} {w : World}
theorem vA {cs : List Value} {i : Nat} {u : Value} (h : (cs.drop i).take 1 = [u]) : cs[i]? = some u:=by
 have h1 : ((cs.drop i).take 1)[0]? = some u:=by rw [h]; rfl
 rw [cI,ag (by decide),cL,bu] at h1;exact h1
end
end Go.Proofs.YtcgfilmmokmdjaaGreat
namespace Go.Proofs.YtcgfilmmokmdjaaGreat
open Go.RowKit Go.ChangeShapes Go.WideShapes Go.Deep
end Go.Proofs.YtcgfilmmokmdjaaGreat
namespace Go.Proofs.YtcgfilmmokmdjaaGreat
open Go.RowKit Go.ChangeShapes Go.WideShapes Go.Deep
section
variable {H : Type} {enc : TypeId × Value → H} {w : World}
end
end Go.Proofs.YtcgfilmmokmdjaaGreat
namespace Go.Proofs.YtcgfilmmokmdjaaGreat
open Go.RowKit Go.ChangeShapes Go.WideShapes Go.Deep
theorem zI5 (w : World) : mr w (.slice none 0 0) []:=⟨zw (aU w 0 56 4),fun p hp => by cases hp⟩
theorem zLC : ∃ f0 f1 f2 f3,Tryz.prog.underlying 56 = some (.struct #[f0,f1,f2,f3]) ∧ (f0.offset = 0 ∧ f1.offset = 1 ∧ f2.offset = 2 ∧ f3.offset = 3) ∧ f0.type = 24 ∧ f1.type = 47 ∧ f2.type = 4 ∧ f3.type = 54:=
 ⟨_,_,_,_,Tryz.underlying56,⟨rfl,rfl,rfl,rfl⟩,rfl,rfl,rfl,rfl⟩
theorem zFU : Tryz.prog.cellsOf 56 = 4:=by kernel_rfl
theorem zDq : Tryz.prog.cellsOf 4 = 1:=by kernel_rfl
theorem kH : Tryz.prog.cellsOf 54 = 1:=by kernel_rfl
section
variable {H : Type} {enc : TypeId × Value → H} {w : World}
theorem zBT {fuel : Nat} {cs : List Value} {x : DataW H × List MemPlace} (h : DataW.trod enc Tryz.prog w 0 (fun _ => true) true fuel 54 cs = some x) : ∃ (v : Value) (l : List UInt8),cs = [v] ∧ CZ w v l:=by
 rcases open_ints Tryz.underlying54 Tryz.underlying5 (by kernel_rfl) h with ⟨hcs,_⟩ | ⟨x,l,c,zs,hcs,_,hl,hm,hz,_,hcell,hwz⟩
 ·
  exact ⟨_,[],hcs,zGm w⟩
 obtain ⟨r,_,hr⟩:=zEw (w:=w) (a:=some x) (len:=l) (cap:=c) (zs:=zs) (.inr ⟨_,rfl,hl,hm,by simpa using hz,hcell,hwz⟩);exact ⟨_,r,hcs,hr⟩
theorem zHm {fuel : Nat} {cs : List Value} {x : DataW H × List MemPlace} (h : DataW.trod enc Tryz.prog w 0 (fun _ => true) true fuel 56 cs = some x) : ∃ y : Nd × Value,cs = uB y ∧ y.1.Wf ∧ CZ w y.2 y.1.data:=by
 obtain ⟨f0,f1,f2,f3,hs,⟨o0,o1,o2,o3⟩,t0,t1,t2,t3⟩:=zLC;obtain ⟨xs,n,_,_,hlen,hxl,hf⟩:=DataW.trod_struct hs h;rw [zFU] at hlen;have hx : xs.length = 4:=by simpa using hxl
 have g : ∀ j (hj : j < 4),xs[j]? = some (xs[j]'(by omega)):=fun j hj => aB (by omega)
 have h0:=(hf 0 f0 rfl).trans (g 0 (by omega));have h1:=(hf 1 f1 rfl).trans (g 1 (by omega));have h2:=(hf 2 f2 rfl).trans (g 2 (by omega));have h3:=(hf 3 f3 rfl).trans (g 3 (by omega));rw [t0,o0,zA4] at h0;rw [t1,o1,zAs] at h1;rw [t2,o2,zDq] at h2;rw [t3,o3,kH] at h3;obtain ⟨k,e0,_,w0⟩:=DataW.trod_int Tryz.underlying24 h0;obtain ⟨c,e1,_,w1⟩:=DataW.trod_int Tryz.underlying47 h1;obtain ⟨d,e2,_⟩:=DataW.trod_bool Tryz.underlying4 h2;obtain ⟨v,l,e3,hr⟩:=zBT h3;have d0:=vA e0;have d1:=vA e1;have d2:=vA e2;have d3:=vA e3;have b0:=kB w0;have b1:=kF w1;obtain ⟨k,rfl⟩:=dS b0.1;obtain ⟨c,rfl⟩:=dS b1.1;refine ⟨(⟨k,c,d,l⟩,v),?_,show k < 18446744073709551616 ∧ c < 4294967296 by omega,hr⟩
 match cs,hlen,d0,d1,d2,d3 with
 | [a,b,c',d],_,d0,d1,d2,d3 =>
  simp at d0 d1 d2 d3;subst d0 d1 d2 d3
  rfl
theorem zGQ {a : Option Addr} {n cap : Nat} {d : DataW H} {p : List MemPlace} (h : DataW.Trod enc Tryz.prog w 0 (fun _ => true) true 23 (.slice a n cap) d p) :
  ∃ l : List (Nd × Value),mr w (.slice a n cap) l ∧ ∀ x ∈ l,x.1.Wf:=by
 obtain ⟨fuel,hf⟩:=h;rcases open_slice Tryz.underlying23 hf with ⟨hcs,_⟩ | ⟨x,len,cap',m,k,D,Pl,hcs,_,hl,hm,hmm,_,hx⟩
 ·
  simp [Value.cells] at hcs;obtain ⟨rfl,rfl,rfl⟩:=hcs;exact ⟨[],zI5 w,fun e he => by cases he⟩
 simp [Value.cells] at hcs;obtain ⟨rfl,rfl,rfl⟩:=hcs;simp only [if_true] at hmm;subst hmm;rw [zFU] at hx
 haveI : Inhabited (Nd × Value):=⟨(MY,.slice none 0 0)⟩
 have each : ∀ i,i < n → ∃ y : Nd × Value,(∀ j,j < 4 → w.cell? (x.add (i * 4 + j)) = (uB y)[j]?) ∧ y.1.Wf ∧ CZ w y.2 y.1.data:=fun i hi => by
  obtain ⟨cs',h1,h2⟩:=hx i (by omega);obtain ⟨y,rfl,hy⟩:=zHm h2;obtain ⟨_,_,hc⟩:=World.cells?_some h1;exact ⟨y,fun j hj => by rw [← hc j hj,Go.Deep.add_add],hy⟩
 obtain ⟨E,hE⟩:=choose_lt each;refine ⟨(List.range n).map E,⟨?_,fun e he => ?_⟩,fun e he => ?_⟩
 ·
  rw [aI,List.length_range];refine ⟨by rw [vD]; simp,some x,m,by simp,by simpa using hl,hm,fun h => by simp at h,fun hp => ?_⟩;have hn : 0 < n:=by
   rw [vD] at hp; simp at hp; omega
  obtain ⟨b,off,spot⟩:=x;have hspot : spot = none:=by
   have h0 : w.cell? ((⟨b,off,spot⟩ : Addr).add (0 * 4 + 0)) = some (.int .u64 ((E 0).1.key : Int)):=((hE 0 hn).1 0 (by omega)).trans rfl
   simpa [Addr.add] using World.cell?_spot h0
  subst hspot;refine ⟨b,off,rfl,fun j u hj => ?_⟩;have hjl : j < n * 4:=by
   have:=(List.getElem?_eq_some_iff.1 hj).1;rw [vD] at this
   simpa using this
  have hat:=tV 4 uB (MY,.slice none 0 0) ((List.range n).map E) (fun _ _ => rfl) (j / 4) (j % 4) (by simp; omega) (by omega);rw [show j / 4 * 4 + j % 4 = j by omega] at hat;have hg : ((List.range n).map E).getD (j / 4) (MY,.slice none 0 0) = E (j / 4):=by
   rw [aw,b9,List.getElem?_range (by omega)]; rfl
  rw [hg] at hat;have hc:=(hE (j / 4) (by omega)).1 (j % 4) (by omega);rw [show j / 4 * 4 + j % 4 = j by omega,yT] at hc;rw [hc,← hat]; exact hj
 ·
  obtain ⟨i,hi,rfl⟩:=List.mem_map.1 he;exact (hE i (List.mem_range.1 hi)).2.2
 obtain ⟨i,hi,rfl⟩:=List.mem_map.1 he;exact (hE i (List.mem_range.1 hi)).2.1
end
theorem tC : Tryz.prog.cellsOf 3 = 1:=by kernel_rfl
section
variable {H : Type} {enc : TypeId × Value → H} {w : World}
end
end Go.Proofs.YtcgfilmmokmdjaaGreat
namespace Go.Proofs.YtcgfilmmokmdjaaGreat
open Go.RowKit Go.ChangeShapes Go.WideShapes Go.Deep
theorem zCs {H : Type} {enc : TypeId × Value → H} {w : World} {α : Type} (z : α) {t e : TypeId} {sz : Nat} (f : α → List Value) (Q : α → Prop) (hu : Tryz.prog.underlying t = some (.slice e)) (hc : Tryz.prog.cellsOf e = sz) (hf : ∀ x,(f x).length = sz) (hz : 0 < sz)
  (one : ∀ fuel cs x,DataW.trod enc Tryz.prog w 0 (fun _ => true) true fuel e cs = some x → ∃ y,cs = f y ∧ Q y)
  {a : Option Addr} {n cap : Nat} {d : DataW H} {p : List MemPlace} (h : DataW.Trod enc Tryz.prog w 0 (fun _ => true) true t (.slice a n cap) d p) :
  ∃ l : List α,ix sz f w (.slice a n cap) l ∧ ∀ x ∈ l,Q x:=by
 obtain ⟨fuel,hfu⟩:=h;rcases open_slice hu hfu with ⟨hcs,_⟩ | ⟨x,len,cap',m,k,D,Pl,hcs,_,hl,hm,hmm,_,hx⟩
 ·
  simp [Value.cells] at hcs;obtain ⟨rfl,rfl,rfl⟩:=hcs;exact ⟨[],ix.nil sz f w,fun e he => by cases he⟩
 simp [Value.cells] at hcs;obtain ⟨rfl,rfl,rfl⟩:=hcs;simp only [if_true] at hmm;subst hmm;rw [hc] at hx
 haveI : Inhabited α:=⟨z⟩
 have each : ∀ i,i < n → ∃ y : α,(∀ j,j < sz → w.cell? (x.add (i * sz + j)) = (f y)[j]?) ∧ Q y:=fun i hi => by
  obtain ⟨cs',h1,h2⟩:=hx i (by omega);obtain ⟨y,rfl,hy⟩:=one _ _ _ h2;obtain ⟨_,_,hc⟩:=World.cells?_some h1;exact ⟨y,fun j hj => by rw [← hc j hj,Go.Deep.add_add],hy⟩
 obtain ⟨E,hE⟩:=choose_lt each;have hfl:=yV sz f ((List.range n).map E) (fun x _ => hf x);refine ⟨(List.range n).map E,⟨fun x _ => hf x,?_⟩,fun e he => ?_⟩
 ·
  rw [aI,List.length_range];rw [aI,List.length_range] at hfl;refine ⟨hfl,some x,m,by simp,by simpa using hl,hm,fun h => by simp at h,fun hp => ?_⟩;have hn : 0 < n:=by
   rw [hfl] at hp; exact Nat.pos_of_mul_pos_right hp
  obtain ⟨b,off,spot⟩:=x;have hspot : spot = none:=by
   have h0:=(hE 0 hn).1 0 hz;rw [aB (by rw [hf]; exact hz)] at h0
   simpa [Addr.add] using World.cell?_spot h0
  subst hspot;refine ⟨b,off,rfl,fun j u hj => ?_⟩;have hjl : j < n * sz:=by
   have:=(List.getElem?_eq_some_iff.1 hj).1;rw [hfl] at this;exact this
  have hjd : j / sz < n:=(Nat.div_lt_iff_lt_mul hz).2 hjl;have hjm : j % sz < sz:=Nat.mod_lt _ hz;have hat:=tV sz f z ((List.range n).map E) (fun x _ => hf x) (j / sz) (j % sz) (by simpa using hjd) hjm;have hjj : j / sz * sz + j % sz = j:=by rw [Nat.mul_comm]; exact Nat.div_add_mod j sz
  rw [hjj] at hat;have hg : ((List.range n).map E).getD (j / sz) z = E (j / sz):=by
   rw [aw,b9,List.getElem?_range hjd]; rfl
  rw [hg] at hat;have hc:=(hE (j / sz) hjd).1 (j % sz) hjm;rw [hjj,yT] at hc;rw [hc,← hat]; exact hj
 obtain ⟨i,hi,rfl⟩:=List.mem_map.1 he;exact (hE i (List.mem_range.1 hi)).2
end Go.Proofs.YtcgfilmmokmdjaaGreat
