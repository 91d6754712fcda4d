/- A part of the walk. -/
import Derived.Test.YtcgfilmmokmdjaaGreatQAT
import Derived.Test.YtcgfilmmokmdjaaGreatQAQ
set_option linter.all false
set_option maxRecDepth 100000
set_option maxHeartbeats 32000000
namespace Go.Proofs.YtcgfilmmokmdjaaGreat
open Go.RowKit
theorem zL6 (s : eL) (a : Option Addr) (n c : Nat) (L : List GP) (W : World) (hr : fH W (.slice a n c) L) (hg : ea L = s.dW) (hl : fA 1000 s.dW) (key : Int) :
  Calls Tryz.prog 181 #[ze s.id s.lim s.ro a n c,.int .u64 key] W fun e w' => ∃ v',e = .returned v' ∧ ll w' W.heap.size v' (zk s key) ∧ Below W.heap.size W w':=by
 have h:=zFx s.id s.lim s.ro a n c L W hr (vI (hg ▸ hl) (by decide)) key;obtain ⟨i,l,r,g⟩:=s;dsimp only at hg h ⊢;subst hg;exact h
theorem ll.atB {w : World} {B : Nat} {a : Option Addr} {n cap : Nat} {l : List Int} (h : ll w B (.slice a n cap) l) {j : Nat} (hj : j < n) : ∃ b off,a = some ⟨b,off,none⟩ ∧ w.cell? ⟨b,off + j,none⟩ = some (.int .i64 (CB l j)):=by
 have hr : iw I3 w _ l:=kq h;obtain ⟨a',cap',e,h2,h3,_,h5⟩:=iw.shape hr 0;injection e with e1 e2 e3;subst e1 e2 e3;obtain ⟨b,off,e,hc⟩:=h5 (by omega);exact ⟨b,off,e,hc j hj⟩
noncomputable def yd (P : fG) (key : Int) (l : List Int) (k : Nat) : fG:=(l.take k).foldl (yp key) P
theorem tB (P : fG) (key : Int) (l : List Int) (k : Nat) (h : k < l.length) : yd P key l (k + 1) = yp key (yd P key l k) (CB l k):=by
 unfold yd CB;rw [cz,aw,aB h,dy]
 rfl
theorem zGn (s : eL) (g : Gn) : (yM s g).1.dW.length ≤ s.dW.length:=by
 by_cases hc : (yM s g).2 = 0
 ·
  rw [Ud hc]; show (uf s.dW g).length ≤ _; rw [zJs]; exact ai _
 have e : (yM s g).1 = wJ:=by
  unfold yM at hc ⊢
  split
  ·
   rename_i h1;rw [ag h1] at hc
   split
   ·
    rename_i h2;rw [ag h2] at hc
    split
    ·
     rename_i h3; rw [ag h3] at hc; exact absurd rfl hc
    rfl
   rfl
  rfl
 rw [e]; exact aq _
theorem zEN (s : eL) (num : Int) (keys : List Int) : (yv s num keys).1.dW.length ≤ s.dW.length:=by
 unfold yv
 split
 ·
  split
  ·
   exact zGn _ _
  exact aq _
 exact aq _
theorem zBd {P : fG} {key : Int} {l : List Int} : ∀ k,k ≤ l.length → (yd P key l k).t.dW.length ≤ P.t.dW.length
 | 0,_ => ai _
 | k + 1,h => by
  rw [tB P key l k (by omega)];exact ak (zEN _ _ _) (zBd k (by omega))
theorem zA3 {P : fG} {key : Int} {l : List Int} {M : Nat} (hl : fA 800 P.t.dW) (hk : Bt M P.dY) (hn : ∀ x ∈ l,1 ≤ x ∧ x ≤ 8) : ∀ k,k ≤ l.length →
  fA 800 (yd P key l k).t.dW ∧ Bt (M + k) (yd P key l k).dY ∧ (yd P key l k).needs = P.needs ∧ (yd P key l k).bytes = P.bytes ∧ (yd P key l k).eN = P.eN ∧ (yd P key l k).res = P.res
 | 0,_ => ⟨hl,hk,rfl,rfl,rfl,rfl⟩
 | k + 1,h => by
  obtain ⟨h1,h2,h3,h4,h5,h6⟩:=zA3 (P:=P) (key:=key) hl hk hn k (by omega);rw [tB P key l k (by omega)];exact ⟨kP h1,h2.ins (hn _ (VD (by omega))) key,h3,h4,h5,h6⟩
theorem zLQ {W : World} {B g n cap k : Nat} {ks : List KP} (h : W.ownsRow B 89 2 (.slice (some ⟨g,0,none⟩) n cap) ks.length (ks.flatMap jQ)) (hk : k < ks.length) : W.cell? ⟨g,k * 2 + 1,none⟩ = some (jg ks k).2.1 ∧ W.frozen? ⟨g,k * 2 + 1,none⟩ = false:=by
 have hn : n = ks.length:=by
  rcases h.2 with ⟨e,_⟩ | ⟨_,_,_,e,_⟩
  ·
   cases e
  injection e
 subst hn;have hf:=wW h (k * 2 + 1);have hr : DI W (.slice (some ⟨g,0,none⟩) ks.length cap) ks:=⟨fun x _ => uS x,zw h⟩
 obtain ⟨b,off,e,_,hc⟩:=hr.at hk;injection e with e;injection e with e1 e2;subst e1 e2;rw [aJ] at hc;exact ⟨hc,hf⟩
def zMk (B : Nat) (l : List Int) : pY:=⟨fun v w => ∃ a c,v = .slice a l.length c ∧ ll w B (.slice a l.length c) l,fun _ _ _ hb ⟨a,c,h1,h2⟩ => ⟨a,c,h1,zI h2 hb⟩⟩
def zMs (key : Int) : pY:=⟨fun v w => ∃ j,v = .slice (some ⟨j,0,none⟩) 1 1 ∧ lJ w (.slice (some ⟨j,0,none⟩) 1 1) [key],fun _ _ _ hb ⟨j,h1,h2⟩ => ⟨j,h1,iw.below h2 hb⟩⟩
def zMu (num key : Int) : pY:=⟨fun v w => ∃ j,v = .agg #[.int .i64 num,.slice (some ⟨j,0,none⟩) 1 1] ∧ lJ w (.slice (some ⟨j,0,none⟩) 1 1) [key],fun _ _ _ hb ⟨j,h1,h2⟩ => ⟨j,h1,iw.below h2 hb⟩⟩
theorem zMa (i l : Int) (r : Bool) (ga : Option Addr) (gn gc : Nat) (eN : Bool) (kv nv rv : Value) (mg : Int) (u : Value) : (qJ i l r ga gn gc eN kv nv rv mg).setIfInBounds 6 u = qJ i l r ga gn gc eN u nv rv mg:=by
 simp only [aM,aN,aK]
theorem zIC {w : World} {B b : Nat} {P : fG} {ga : Option Addr} {gn gc : Nat} {L : List GP} {kv : Value} {ks : List KP} {nv : Value} {es : List (Nd × Value)} {rv : Value} (hlo : B ≤ b) (hP : CG w b P.t.id P.t.lim P.t.ro ga gn gc P.eN kv nv rv P.bytes) (hR : lF w B P ga gn gc L kv ks nv es rv) (hl : fA 800 P.t.dW) (hB : B ≤ w.heap.size) (hel : es.length ≤ 900) (hby : 0 ≤ P.bytes ∧ P.bytes ≤ 1000000000) (M : Nat) (hM : M ≤ 100000) (hsk : Bt M P.dY) (Co : P.t.dW.length ≤ 1000000) (q : Rq) (tk kind key ck : Int) (da : Option Addr) (dn dc : Nat) (I7 : (q.key : Int) = key) (KL : (q.ck : Int) = ck) :
  Calls Tryz.prog 152 #[.pointer (some ⟨b,0,none⟩),I4 tk kind key ck (.slice da dn dc)] w fun e w' => e = .returned (.tuple #[]) ∧ Dd w' B b (yl P q) ∧ fk B w w':=by
 have fP : b < w.heap.size:=hP.lt;have HOl:=zh (fun W (hb : Below w.heap.size w W) => zL6 P.t ga gn gc L W (hR.g.rd.below hb) hR.gg (hl.mono (by decide)) key);have Ks:=zh (zA3 (P:=P) (key:=key) (l:=zk P.t key) (M:=M) hl hsk (fun x hx => kN hx));have Mv:=zh (fun k (h : k < (zk P.t key).length) => tB P key (zk P.t key) k h);have Mw:=zh (show ∀ k,k < (zk P.t key).length → 1 ≤ CB (zk P.t key) k ∧ CB (zk P.t key) k ≤ 8 from fun k hk => kN (VD hk));have h8:=zBc P.t key;have HGl:=zh (fun k (h : k ≤ (zk P.t key).length) => ak (zBd (P:=P) (key:=key) (l:=zk P.t key) k h) Co)
 have IL:=zh (show yl P q = if wT (yd P key (zk P.t key) (zk P.t key).length).t key = true then vy (yd P key (zk P.t key) (zk P.t key).length) (qA q) else yd P key (zk P.t key) (zk P.t key).length by
  have e : yd P key (zk P.t key) (zk P.t key).length = yN P key:=by unfold yd yN; rw [aH (ai _)]
  rw [e,← I7]; rfl)
 have Oo:=zh (show Dd w B b (yd P key (zk P.t key) 0) from ⟨ga,gn,gc,L,kv,ks,nv,es,rv,hlo,hP,hR⟩)
 have LD:=zh (show ∀ (es' : List (Nd × Value)),es'.map (·.1) = P.needs → es'.length ≤ 900 from fun es' h => by
  have h1:=aQ List.length (h.trans hR.nn.symm)
  rw [aI,aI] at h1
  omega)
 have LG:=zh hP;have UI:=zh I7;have HQc:=zh KL;generalize yl P q = D at *;clear hR hl hsk I7 KL hel Co
 go_enter Tryz.func152,Tryz.ntmps152
 go_upto_region 1 with fail;change Code.wp _ _ _ _ (w.alloc (.cells #[.int .i64 tk,.int .i64 kind,.int .u64 key,.int .u32 ck,.slice da dn dc] 85));have eO:=(aj w.heap.size w).alloc (ai _) (.cells #[.int .i64 tk,.int .i64 kind,.int .u64 key,.int .u32 ck,.slice da dn dc] 85);have HX:=zh (dX.new w #[.int .i64 tk,.int .i64 kind,.int .u64 key,.int .u32 ck,.slice da dn dc] 85);have HB:=zh eO;replace Oo:=zh (Oo.out.below eO);replace LG:=zh (LG.out.below eO);clear eO;generalize w.alloc (.cells #[.int .i64 tk,.int .i64 kind,.int .u64 key,.int .u32 ck,.slice da dn dc] 85) = w1 at *;generalize E8 : w.heap.size = b3 at *;have YF:=zh E8;have hz1 : w.heap.size ≤ b3:=by omega
 have hz2 : b3 ≤ w.heap.size:=by omega
 clear E8
 go_cut [14,15,16] (fun vq vl vi wx => ∃ oa oc,vl = .int .i64 ((zk P.t key).length : Int) ∧ vi = .int .i64 0 ∧ vq = .slice oa (zk P.t key).length oc ∧ Hid (ll wx w1.heap.size (.slice oa (zk P.t key).length oc) (zk P.t key)) ∧ Hid (Below w1.heap.size w1 wx))
 case first =>
  refine zB5 [eX (.pointer (some ⟨b,0,none⟩)),eX (.pointer (some ⟨b,0,none⟩)),eX (.pointer (some ⟨b,0,none⟩)),eX (ze P.t.id P.t.lim P.t.ro ga gn gc),eX (.pointer (some ⟨b3,2,none⟩)),eX (.int .u64 key),zMk w1.heap.size (zk P.t key),eX (.int .i64 ((zk P.t key).length : Int)),eX (.int .i64 0)] 95 (by kernel_rfl) (by kernel_rfl) (by kernel_rfl) (by rfl) (by kernel_rfl) (fun f => by simp [fD,zW,Act.put]; exact rfl) ?_ ?_
  ·
   refine ⟨?_,?_,?_,?_,?_,?_,?_,?_,?_,trivial⟩
   ·
    intro f w2 hb hd;clear hd;dsimp only;go_wp2_with fail;exact pS rfl (by simp)
   ·
    intro f w2 hb hd;have d0 : f 0 = (.pointer (some ⟨b,0,none⟩)):=hd 0 (by kernel_rfl);clear hd;dsimp only;rw [d0];go_wp2_with fail;exact pS rfl (by simp)
   ·
    intro f w2 hb hd;have d1 : f 1 = (.pointer (some ⟨b,0,none⟩)):=hd 1 (by kernel_rfl);clear hd;dsimp only;rw [d1];go_wp2_with fail;exact pS rfl (by simp)
   ·
    intro f w2 hb hd;have d2 : f 2 = (.pointer (some ⟨b,0,none⟩)):=hd 2 (by kernel_rfl);clear hd;dsimp only;rw [d2];have hx:=LG.out.below hb;have q0:=hx.cell (i:=0) rfl;have q1:=hx.cell (i:=1) rfl;have q2:=hx.cell (i:=2) rfl;have q3:=hx.cell (i:=3) rfl;clear hx;go_wp2_with fail;exact pS rfl (by simp)
   ·
    intro f w2 hb hd;clear hd;dsimp only;go_wp2_with fail;exact pS rfl (by simp)
   ·
    intro f w2 hb hd;have d4 : f 4 = (.pointer (some ⟨b3,2,none⟩)):=hd 4 (by kernel_rfl);clear hd;dsimp only;rw [d4];have q2:=(HX.out.below hb).cell (i:=2) rfl;go_wp2_with fail;exact pS rfl (by simp)
   ·
    intro f w2 hb hd;have d3 : f 3 = (ze P.t.id P.t.lim P.t.ro ga gn gc):=hd 3 (by kernel_rfl);have d5 : f 5 = (.int .u64 key):=hd 5 (by kernel_rfl);clear hd;dsimp only;rw [d3];rw [d5];go_wp2_with fail;refine (HOl.out w2 (HB.out.trans (hb.mono (ak hz2 HB.out.size)))).mono ?_;rintro e w9 ⟨ov,rfl,ho,gL⟩;obtain ⟨qa,qc,rfl,_⟩:=zM ho;have HO:=zh (World.ownsRow.mono ho hb.size);clear ho;go_wp2_with fail;exact ⟨rfl,gL,fun t ht => by injection ht with ht; subst ht; exact ⟨⟨qa,qc,rfl,HO.out⟩,fun h => by simp at h⟩⟩
   ·
    intro f w2 hb hd;obtain ⟨a6,c6,d6,r6⟩:=show ∃ a c,f 6 = .slice a (zk P.t key).length c ∧ ll w2 w1.heap.size (.slice a (zk P.t key).length c) (zk P.t key) from hd 6 (by kernel_rfl);clear hd;dsimp only;rw [d6];clear r6;go_wp2_with fail;exact pS rfl (by simp)
   intro f w2 hb hd;clear hd;dsimp only;go_wp2_with fail;exact pS rfl (by simp)
  intro f w8 hb hA;obtain ⟨oa,oc,e6,d6⟩:=show ∃ a c,f 6 = .slice a (zk P.t key).length c ∧ ll w8 w1.heap.size (.slice a (zk P.t key).length c) (zk P.t key) from hA 6 (show 6 < 9 by decide);have d7 : f 7 = .int .i64 ((zk P.t key).length : Int):=hA 7 (show 7 < 9 by decide);have d8 : f 8 = .int .i64 0:=hA 8 (show 8 < 9 by decide);clear hA
  try dsimp only
  rw [e6,d7,d8];clear e6 d7 d8;have HO:=zh d6;have ey:=zh hb;clear d6 hb;generalize f 0 = D3,f 1 = Dy,f 2 = Dz,f 3 = DC,f 4 = DF,f 5 = DG;clear f;go_wp2_with fail;go_meet
  case rel => exact ⟨oa,oc,rfl,rfl,rfl,HO,ey⟩
 obtain ⟨oa,oc,rfl,rfl,rfl,HO,fK⟩:=hcut;generalize wc = w2 at *;replace HX:=zh (HX.out.below fK.out);have DS:=zh (show Dd w2 B b (yd P key (zk P.t key) 0) from Oo.out.below fK.out);have eV:=zh (show fk B w w2 from fk.of ((HB.out.trans (fK.out.mono (ak hz2 HB.out.size))).mono hz1) (ak hB hz2));have YX : B ≤ w1.heap.size:=ak hB (ak hz2 HB.out.size);have XH : B ≤ w2.heap.size:=ak YX fK.out.size;clear HB Oo LG HOl fK;generalize hOL : zk P.t key = OL at *;clear hOL;generalize hOn : OL.length = oN at *;have Dr:=zh hOn;clear hOn;generalize Ug : w1.heap.size = Bo at *;clear Ug;go_wp2_with fail
 go_loopw [16] (fun iv W => ∃ k : Nat,iv = .int .i64 (k : Int) ∧ k ≤ oN ∧ Hid (Dd W B b (yd P key OL k)) ∧ Hid (ll W Bo (.slice oa oN oc) OL) ∧ Hid (dX W b3 #[.int .i64 tk,.int .i64 kind,.int .u64 key,.int .u32 ck,.slice da dn dc] 85) ∧ Hid (fk B w W)) (fun iv _ => oN - (intOf iv).toNat)
 case atStart => exact ⟨0,rfl,aq _,DS,HO,HX,eV⟩
 clear DS HO HX eV;obtain ⟨k,rfl,hk,DV,HO,HX,HB⟩:=hrel
 by_cases hlt : k < oN
 ·
  have j1 : (k : Int) < (oN : Int):=by omega
  obtain ⟨P4,UJ,UK,UL,YY,PA⟩:=Ks.out k hk;have Nb:=Mv.out k hlt;have hnm:=Mw.out k hlt;have Co:=HGl.out k hk;obtain ⟨og,off,e0,hcell⟩:=ll.atB HO.out hlt;subst e0;generalize CB OL k = num at *;have Nn:=zh Nb;clear Nb;generalize hQ : yd P key OL k = Q at *;clear hQ;obtain ⟨Oq,MH,Ot,L1,MI,jh,I8,D4,I9,DK,Eu,hR1⟩:=DV.out;have Sd : MH ≤ 1000000:=by
   obtain ⟨_,_,e,_⟩:=hR1.g.rd.shape;injection e with _ e _;have h1:=aQ List.length hR1.gg;rw [yB] at h1;omega
  have KM:=zh (fun W j (hb : Below wr.heap.size wr W) (hr : lJ W (.slice (some ⟨j,0,none⟩) 1 1) [key]) => zH3 Q.t Oq MH Ot L1 W (hR1.g.rd.below hb) hR1.gg (P4.mono (by decide)) Sd num (.slice (some ⟨j,0,none⟩) 1 1) [key] hr (by simp));have Uv:=zh (show yp key Q num = { Q with t:=(yv Q.t num [key]).1,dY:=ku Q.dY num key } from rfl);have EL:=zh UJ;have CY:=zh Eu;have h_:=zh hR1;generalize yv Q.t num [key] = C at *;obtain ⟨C,ce⟩:=C;dsimp only at Uv;clear DK Eu hR1 DV P4 UJ UK UL YY PA Co Sd;go_upto_region 4 with fail;have Kj : B ≤ wr.heap.size:=ak (ak hB hz2) (ak HB.out.size (ai _))
  go_cut [35] (fun vq wx => vq = .pointer (some ⟨b,0,none⟩) ∧ ∃ Bu Bv gc' L',Hid (CG wx b C.id C.lim C.ro Bu Bv gc' Q.eN MI I8 I9 Q.bytes) ∧ Hid (lF wx B { Q with t:=C } Bu Bv gc' L' MI jh I8 D4 I9) ∧ Hid (ll wx Bo (.slice (some ⟨og,off,none⟩) oN oc) OL) ∧ Hid (dX wx b3 #[.int .i64 tk,.int .i64 kind,.int .u64 key,.int .u32 ck,.slice da dn dc] 85) ∧ Hid (fk B w wx))
  case first =>
   refine yh [eX (.pointer (some ⟨b,0,none⟩)),eX (.pointer (some ⟨b,0,none⟩)),eX (.pointer (some ⟨b,0,none⟩)),eX (.pointer (some ⟨b,0,none⟩)),eX (ze Q.t.id Q.t.lim Q.t.ro Oq MH Ot),eX (.int .i64 num),eX (.pointer (some ⟨b3,2,none⟩)),eX (.int .u64 key),zMs key,zMu num key,UB B (C,ce),UB B (C,ce),zLr B C,eX (.int .i64 ce),eX (.pointer (some ⟨b,0,none⟩)),eX (.pointer (some ⟨b,0,none⟩))] [] 95 13 (by kernel_rfl) (by kernel_rfl) rfl rfl (by decide) (by rfl) (by kernel_rfl) (fun f => by simp [fD,zW,Act.put]; exact rfl) ?_ ?_ ?_
   ·
    refine ⟨?_,?_,?_,?_,?_,?_,?_,?_,?_,?_,?_,?_,?_,?_,?_,?_,trivial⟩
    ·
     intro f w1 hb hd;clear hd;dsimp only;go_wp2_with fail;exact pS rfl (by simp)
    ·
     intro f w1 hb hd;clear hd;dsimp only;go_wp2_with fail;exact pS rfl (by simp)
    ·
     intro f w1 hb hd;have d1 : f 1 = (.pointer (some ⟨b,0,none⟩)):=hd 1 (by kernel_rfl);clear hd;dsimp only;rw [d1];go_wp2_with fail;exact pS rfl (by simp)
    ·
     intro f w1 hb hd;have d2 : f 2 = (.pointer (some ⟨b,0,none⟩)):=hd 2 (by kernel_rfl);clear hd;dsimp only;rw [d2];go_wp2_with fail;exact pS rfl (by simp)
    ·
     intro f w1 hb hd;have d3 : f 3 = (.pointer (some ⟨b,0,none⟩)):=hd 3 (by kernel_rfl);clear hd;dsimp only;rw [d3];have hx:=CY.out.below hb;have q0:=hx.cell (i:=0) rfl;have q1:=hx.cell (i:=1) rfl;have q2:=hx.cell (i:=2) rfl;have q3:=hx.cell (i:=3) rfl;clear hx;go_wp2_with fail;exact pS rfl (by simp)
    ·
     intro f w1 hb hd;clear hd;dsimp only;go_wp2_with fail;exact pS rfl (by simp)
    ·
     intro f w1 hb hd;clear hd;dsimp only;go_wp2_with fail;exact pS rfl (by simp)
    ·
     intro f w1 hb hd;have d6 : f 6 = (.pointer (some ⟨b3,2,none⟩)):=hd 6 (by kernel_rfl);clear hd;dsimp only;rw [d6];have q2:=(HX.out.below hb).cell (i:=2) rfl;go_wp2_with fail;exact pS rfl (by simp)
    ·
     intro f w1 hb hd;have d7 : f 7 = (.int .u64 key):=hd 7 (by kernel_rfl);clear hd;dsimp only;rw [d7];have I5 : lJ (w1.alloc (.cells #[.int .u64 key] 24)) (.slice (some ⟨w1.heap.size,0,none⟩) 1 1) [key]:=Rd.new w1 1 [.int .u64 key] 24 1 rfl (by decide);have JS:=zh I5;have Cm:=hb.size;clear I5;go_wp2_with fail;exact ⟨rfl,(aj _ _).alloc (ai _) _,fun t ht => by injection ht with ht; subst ht; exact ⟨⟨_,rfl,JS.out⟩,fun h => by simp at h⟩⟩
    ·
     intro f w1 hb hd;have d5 : f 5 = (.int .i64 num):=hd 5 (by kernel_rfl);obtain ⟨j8,d8,r8⟩:=show ∃ j,f 8 = .slice (some ⟨j,0,none⟩) 1 1 ∧ lJ w1 (.slice (some ⟨j,0,none⟩) 1 1) [key] from hd 8 (by kernel_rfl);clear hd;dsimp only;rw [d5];rw [d8];have JS:=zh r8;clear r8;go_wp2_with fail;exact ⟨rfl,aj _ _,fun t ht => by injection ht with ht; subst ht; exact ⟨⟨j8,rfl,JS.out⟩,fun h => by simp at h⟩⟩
    ·
     intro f w1 hb hd;have d4 : f 4 = (ze Q.t.id Q.t.lim Q.t.ro Oq MH Ot):=hd 4 (by kernel_rfl);obtain ⟨j9,d9,r9⟩:=show ∃ j,f 9 = .agg #[.int .i64 num,.slice (some ⟨j,0,none⟩) 1 1] ∧ lJ w1 (.slice (some ⟨j,0,none⟩) 1 1) [key] from hd 9 (by kernel_rfl);clear hd;dsimp only;rw [d4];rw [d9];have JS:=zh r9;clear r9;go_wp2_with fail;refine (KM.out w1 j9 hb JS.out).mono ?_;rintro e w9 ⟨⟨qa,qn,qc,qL,rfl,hown,hgn⟩,gL⟩;have ED:=zh (show gq w9 B (.slice qa qn qc) qL from gq.own hown);have jm:=zh hgn;clear hown hgn;go_wp2_with fail;exact ⟨rfl,gL,fun t ht => by injection ht with ht; subst ht; exact ⟨⟨qa,qn,qc,qL,rfl,ED.out,jm.out⟩,fun h => by simp at h⟩⟩
    ·
     intro f w1 hb hd;obtain ⟨RF,n10,c10,L10,d10,jU,g10⟩:=show ∃ a n c L,f 10 = .tuple #[ze C.id C.lim C.ro a n c,.int .i64 ce] ∧ gq w1 B (.slice a n c) L ∧ ea L = C.dW from hd 10 (by kernel_rfl);clear hd;dsimp only;rw [d10];have ED:=zh jU;have jm:=zh g10;clear jU g10;go_wp2_with fail;exact ⟨rfl,aj _ _,fun t ht => by injection ht with ht; subst ht; exact ⟨⟨RF,n10,c10,L10,rfl,ED.out,jm.out⟩,fun h => by simp at h⟩⟩
    ·
     intro f w1 hb hd;obtain ⟨a11,n11,c11,L11,d11,lM,g11⟩:=show ∃ a n c L,f 11 = .tuple #[ze C.id C.lim C.ro a n c,.int .i64 ce] ∧ gq w1 B (.slice a n c) L ∧ ea L = C.dW from hd 11 (by kernel_rfl);clear hd;dsimp only;rw [d11];have ED:=zh lM;have jm:=zh g11;clear lM g11;go_wp2_with fail;exact ⟨rfl,aj _ _,fun t ht => by injection ht with ht; subst ht; exact ⟨⟨a11,n11,c11,L11,rfl,ED.out,jm.out⟩,fun h => by simp at h⟩⟩
    ·
     intro f w1 hb hd;obtain ⟨a11,n11,c11,L11,d11,lM,g11⟩:=show ∃ a n c L,f 11 = .tuple #[ze C.id C.lim C.ro a n c,.int .i64 ce] ∧ gq w1 B (.slice a n c) L ∧ ea L = C.dW from hd 11 (by kernel_rfl);clear hd;dsimp only;rw [d11];clear lM g11;go_wp2_with fail;exact pS rfl (by simp)
    ·
     intro f w1 hb hd;have d0 : f 0 = (.pointer (some ⟨b,0,none⟩)):=hd 0 (by kernel_rfl);clear hd;dsimp only;rw [d0];go_wp2_with fail;exact pS rfl (by simp)
    intro f w1 hb hd;have d14 : f 14 = (.pointer (some ⟨b,0,none⟩)):=hd 14 (by kernel_rfl);clear hd;dsimp only;rw [d14];go_wp2_with fail;exact pS rfl (by simp)
   ·
    intro f w8 hb hd iD;clear iD;obtain ⟨a8,n8,c8,L8,d8,r8,g8⟩:=show ∃ a n c L,f 12 = ze C.id C.lim C.ro a n c ∧ gq w8 B (.slice a n c) L ∧ ea L = C.dW from hd 12 (show 12 < 16 by decide);have d11 : f 15 = .pointer (some ⟨b,0,none⟩):=hd 15 (show 15 < 16 by decide)
    try dsimp only
    rw [d8,d11];clear hd d8 d11;have iN:=CY.out.below hb;have ic:=iH.pts (T:=145) hlo ⟨_,_,iN⟩ (zP C.id C.lim C.ro a8 n8 c8);have lC:=zh (show CG _ b C.id C.lim C.ro a8 n8 c8 Q.eN MI I8 I9 Q.bytes from (by have h:=dX.sets (zP C.id C.lim C.ro a8 n8 c8) iN; rw [UC] at h; exact h));have iQ:=zh (((h_.out.below hb).slot C r8 g8).jB ic);have Dr:=zh (show ll _ Bo _ OL from xp (zI HO.out hb) ic (by decide));have JR:=zh ((HX.out.below hb).eD (show b3 ≠ b by omega) (zP C.id C.lim C.ro a8 n8 c8));have fK:=zh ((HB.out.step hb Kj).pts hlo (zP C.id C.lim C.ro a8 n8 c8) ⟨_,_,iN⟩ (by decide));have q0:=iN.cell (i:=0) rfl;have q1:=iN.cell (i:=1) rfl;have q2:=iN.cell (i:=2) rfl;have q3:=iN.cell (i:=3) rfl;have qf:=iN.frozen;clear r8 g8 hb iN ic
    generalize f 0 = D3,f 1 = Dy,f 2 = Dz,f 3 = DC,f 4 = DF,f 5 = DG,f 6 = E7,f 7 = Ii,f 8 = MF,f 9 = KI,f 10 = Es,f 11 = Sg,f 13 = YZ,f 14 = Sh;clear f;change wpList _ _ _ (_ :: []) _ _;go_wp2_with fail;go_meet
    case rel => exact ⟨rfl,a8,n8,c8,L8,lC,iQ,Dr,JR,fK⟩
   intro f w8 hb hd iD;clear iD;obtain ⟨a8,n8,c8,L8,d8,r8,g8⟩:=show ∃ a n c L,f 12 = ze C.id C.lim C.ro a n c ∧ gq w8 B (.slice a n c) L ∧ ea L = C.dW from hd 12 (show 12 < 16 by decide) (show 12 ≠ 13 by decide);have d11 : f 15 = .pointer (some ⟨b,0,none⟩):=hd 15 (show 15 < 16 by decide) (show 15 ≠ 13 by decide);obtain ⟨a7,n7,c7,L7,d7,r7,g7⟩:=show ∃ a n c L,f 11 = .tuple #[ze C.id C.lim C.ro a n c,.int .i64 ce] ∧ gq w8 B (.slice a n c) L ∧ ea L = C.dW from hd 11 (show 11 < 16 by decide) (show 11 ≠ 13 by decide);clear r7 g7
   try dsimp only
   rw [d7,d8,d11];clear hd d7 d8 d11;have iN:=CY.out.below hb;have ic:=iH.pts (T:=145) hlo ⟨_,_,iN⟩ (zP C.id C.lim C.ro a8 n8 c8);have lC:=zh (show CG _ b C.id C.lim C.ro a8 n8 c8 Q.eN MI I8 I9 Q.bytes from (by have h:=dX.sets (zP C.id C.lim C.ro a8 n8 c8) iN; rw [UC] at h; exact h));have iQ:=zh (((h_.out.below hb).slot C r8 g8).jB ic);have Dr:=zh (show ll _ Bo _ OL from xp (zI HO.out hb) ic (by decide));have JR:=zh ((HX.out.below hb).eD (show b3 ≠ b by omega) (zP C.id C.lim C.ro a8 n8 c8));have fK:=zh ((HB.out.step hb Kj).pts hlo (zP C.id C.lim C.ro a8 n8 c8) ⟨_,_,iN⟩ (by decide));have q0:=iN.cell (i:=0) rfl;have q1:=iN.cell (i:=1) rfl;have q2:=iN.cell (i:=2) rfl;have q3:=iN.cell (i:=3) rfl;have qf:=iN.frozen;clear r8 g8 hb iN ic
   generalize f 0 = D3,f 1 = Dy,f 2 = Dz,f 3 = DC,f 4 = DF,f 5 = DG,f 6 = E7,f 7 = Ii,f 8 = MF,f 9 = KI,f 10 = Es,f 13 = YZ,f 14 = Sh;clear f;change wpList _ _ _ (_ :: _ :: []) _ _;go_wp2_with fail;go_meet
   case rel => exact ⟨rfl,a8,n8,c8,L8,lC,iQ,Dr,JR,fK⟩
  obtain ⟨rfl,Bu,Bv,gc',L',CY,h_,HO,HX,HB⟩:=hcut;generalize wc = v1 at *;clear KM;obtain ⟨ka,kc,Y0,Ff,hk2,_⟩:=zM h_.out.k.row;subst Y0;have q6:=CY.out.cell (i:=6) rfl;have I_ : jo jh = Q.dY:=h_.out.kk;have Y1 : jh.length ≤ 8:=by have h:=(show Bt _ Q.dY from EL.out).le8; rw [← I_,uR] at h; exact h
  have Cm:=zKY ka jh.length kc jh num v1 ⟨fun x _ => uS x,zw h_.out.k.row⟩ (by rw [I_]; exact EL.out.DZ) (by rw [I_]; exact EL.out.num) hnm (by omega);have DW : fL Q.dY num ≤ jh.length:=by have h:=YB Q.dY num; rw [← I_,uR] at h; rw [← I_]; exact h
  have Pt : Q.dY.length = jh.length:=by rw [← I_,uR]
  rw [I_] at Cm;have Si:=zMQ (num:=num) (key:=key) I_ rfl;have Sj:=zKv (num:=num) (key:=key) I_ rfl;have MJ : ∀ x ∈ jo jh,x.2.length ≤ 200000:=fun x hx => by have:=EL.out.len x (by rw [← I_]; exact hx); omega
  have hFb : (decide (fL Q.dY num < jh.length) && (yE Q.dY (fL Q.dY num)).1 == num) = decide (fL Q.dY num < Q.dY.length ∧ (yE Q.dY (fL Q.dY num)).1 = num):=by
   rw [Pt]
   by_cases e1 : fL Q.dY num < jh.length
   ·
    by_cases e2 : (yE Q.dY (fL Q.dY num)).1 = num
    ·
     simp [e1,e2]
    simp [e1,e2]
   simp [e1]
  rw [hFb] at Cm;clear hFb Pt;have EE:=zh Cm;have Sk:=zh Si;have Sm:=zh Sj;have HKy:=zh MJ;have HKK:=zh I_;clear Cm Si Sj MJ I_;generalize hI0 : fL Q.dY num = I at *;clear hI0;obtain ⟨fo,hfo⟩ : ∃ fo,decide (I < Q.dY.length ∧ (yE Q.dY I).1 = num) = fo:=⟨_,rfl⟩
  rw [hfo] at EE;have Y2:=zh hfo;clear hfo;go_wp2_with fail;refine EE.out.mono ?_;rintro e v2 ⟨rfl,hb2⟩;replace CY:=zh (CY.out.below hb2);replace h_:=zh (h_.out.below hb2);replace HO:=zh (zI HO.out hb2);replace HX:=zh (HX.out.below hb2);have hB1 : B ≤ v1.heap.size:=ak hB (ak hz2 HB.out.size);replace HB:=zh (HB.out.step hb2 hB1);clear hb2 q6 EE;go_upto_if 47 with fail
  go_cut [6] (fun vi wx => vi = .int .i64 (I : Int) ∧ ∃ ka' m' kc' Et,Hid (CG wx b C.id C.lim C.ro Bu Bv gc' Q.eN (.slice ka' m' kc') I8 I9 Q.bytes) ∧ Hid (lF wx B { Q with t:=C,dY:=jo Et } Bu Bv gc' L' (.slice ka' m' kc') Et I8 D4 I9) ∧ I < Et.length ∧ Et.length ≤ 9 ∧ (jg Et I).1 = num ∧ Hid ((jo Et).set I (num,(jg Et I).2.2 ++ [key]) = ku Q.dY num key) ∧ (jg Et I).2.2.length ≤ 200000 ∧ Hid (ll wx Bo (.slice (some ⟨og,off,none⟩) oN oc) OL) ∧ Hid (dX wx b3 #[.int .i64 tk,.int .i64 kind,.int .u64 key,.int .u32 ck,.slice da dn dc] 85) ∧ Hid (fk B w wx))
  case first =>
   cases fo
   rotate_left
   ·
    have hh:=aX Y2.out;obtain ⟨g1,g2,g3⟩:=Sk.out hh;have G3:=zh g3;have C5:=zh (h_.out.dY h_.out.k);have g4 : (jg jh I).2.2.length ≤ 200000:=HKy.out _ (by have:=wk (l:=jo jh) (i:=I) (by rw [uR]; exact g1); rw [YC] at this; exact this);clear g3 hh;go_wp2_with fail;go_meet
    case rel => exact ⟨rfl,ka,jh.length,kc,jh,CY,C5,g1,by omega,g2,G3,g4,HO,HX,HB⟩
   have hh:=cD Y2.out;obtain ⟨g1,g2,g3⟩:=Sm.out hh;have G3:=zh g3;have G2:=zh g2;clear g2 g3 hh;have hB2 : B ≤ v2.heap.size:=ak hB (ak hz2 HB.out.size);have q6a:=CY.out.cell (i:=6) rfl;have eO:=(aj v2.heap.size v2).alloc (ai _) (.cells #[.int .i64 num,.slice none 0 0] 89);have Ou : ∀ k,(Value.slice ka jh.length kc).ownBlock = some k → k ≠ v2.heap.size:=fun k h e => by have:=(h_.out.k.row.lt k h).2; omega
   have Ll:=zh (zH0 (.slice ka jh.length kc) (jh.flatMap jQ) (jQ (num,.slice none 0 0,[])) jh.length I v2.heap.size B (v2.alloc (.cells #[.int .i64 num,.slice none 0 0] 89)) (zI h_.out.k.row eO) (ak hB2 eO.size) DW (by omega) (fun u hu => by
    obtain ⟨x,hx,hu⟩:=List.mem_flatMap.1 hu
    simp only [jQ,cA,cB,or_false] at hu
    rcases hu with rfl | rfl
    ·
     rfl
    ·
     obtain ⟨_,_,e,_⟩:=zM (h_.out.k.keys x hx); rw [e]; rfl) (fun u hu => by
    simp only [jQ,cA,cB,or_false] at hu
    rcases hu with rfl | rfl <;> rfl) rfl (dg v2 _) Ou)
   replace CY:=zh (CY.out.below eO);replace h_:=zh (h_.out.below eO);replace HO:=zh (zI HO.out eO);replace HX:=zh (HX.out.below eO);replace HB:=zh (HB.out.step eO hB2);clear eO;have q6:=CY.out.cell (i:=6) rfl;go_wp2_with fail;refine Ll.out.mono ?_;rintro e v3 ⟨kv3,rfl,eu,fh⟩;obtain ⟨FN,FO,Y3,_,_,_⟩:=zM eu;subst Y3;have Sn:=gM.row h_.out.k.row fh (ai B);have P5:=CY.out.gD Sn (by decide);have Y4 : iH v3 (v3.setCell ⟨b,6,none⟩ (.slice FN (jh.length + 1) FO)) B b 145:=iH.pts hlo ⟨_,_,P5⟩ [(6,.slice FN (jh.length + 1) FO)];have CX:=zh ((h_.out.YT Sn (h_.out.k.ins DW num eu fh)).jB Y4);have ic:=zh (show ll _ Bo _ OL from xp (wL HO.out Sn (by decide)) Y4 (by decide))
   have Bk:=zh (show dX (v3.setCell ⟨b,6,none⟩ (.slice FN (jh.length + 1) FO)) b3 #[.int .i64 tk,.int .i64 kind,.int .u64 key,.int .u32 ck,.slice da dn dc] 85 from dX.eD (c:=b) (by omega) [(6,.slice FN (jh.length + 1) FO)] (HX.out.gD Sn (by decide)));have El:=zh (show CG (v3.setCell ⟨b,6,none⟩ (.slice FN (jh.length + 1) FO)) b C.id C.lim C.ro Bu Bv gc' Q.eN (.slice FN (jh.length + 1) FO) I8 I9 Q.bytes from (by have h:=P5.set 6 (.slice FN (jh.length + 1) FO); rw [zMa] at h; exact h));have lL:=zh ((HB.out.own h_.out.k.row (ak hB2 (by simp)) fh (by decide)).pts hlo [(6,.slice FN (jh.length + 1) FO)] ⟨_,_,P5⟩ (by decide));have c6:=P5.cell (i:=6) rfl;have f6:=P5.frozen 6;clear eu fh Sn Y4 P5 Ll CY h_ HO HX HB q6 q6a;go_wp2_with fail;go_meet
   case rel => exact ⟨rfl,FN,jh.length + 1,FO,_,El,CX,g1,by rw [ax,aW,ay,aP]; omega,by rw [G2.out],(by rw [G2.out]; exact G3),by rw [G2.out]; exact aq _,ic,Bk,lL⟩
  clear Sk Sm HKy HKK Y2 CY h_ HO HX HB DW Y1;obtain ⟨rfl,Sq,m2,Sr,Y5,CY,h_,hi2,LH,mq,BX,hkl,HO,HX,HB⟩:=hcut;generalize wc = y2 at *;obtain ⟨g,e1,e2,hgB,Co,hcK⟩:=zLj h_.out.k hi2;subst e1 e2;have MK:=h_.out.k.keys _ (UA hi2);obtain ⟨wa,wc',hwv,_,_,_⟩:=zM MK;have eO:=zy ((aj y2.heap.size y2).alloc (ai _) (.cells #[.int .u64 key] 24));have Y6 : B ≤ y2.heap.size:=ak hB (ak hz2 HB.out.size);have q6:=CY.out.cell (i:=6) rfl;have x2:=HX.out.cell (i:=2) rfl;have ME:=zh (CY.out.below eO);have KJ:=zh (h_.out.below eO);have HOa:=zh (show ll _ Bo _ OL from zI HO.out eO);have PV:=zh (HX.out.below eO);have H9:=zh (HB.out.step eO Y6);have UM:=KJ.out.k.keys _ (UA hi2);have Ss:=eO.size;have Sv:=zh (fun W1 v2 ho hg hat => KJ.out.put (W1:=W1) hi2 mq (v2:=v2) (l2:=(jg Y5 I).2.2 ++ [key]) ho hg hat)
  have Y7:=zh (fun W1 (hO : gM _ W1 B 24) => zLQ (wL KJ.out.k.row hO (by decide)) hi2);rw [hwv] at UM Sv Y7 hcK;clear MK eO;generalize hKl : (jg Y5 I).2.2 = kl at *;clear hKl hwv;have Bd:=zh UM;have UD:=zh (fun W (hg : (World.drew (y2.alloc (.cells #[.int .u64 key] 24))).grownBy W (Value.slice wa kl.length wc').ownBlock) => gM.row UM hg (ai B));clear UM;have i1 : (I : Int) < (Y5.length : Int):=by omega
  have Ci:=zh (fun W9 pV pW (eC : World.ownsRow W9 B 24 1 (.slice pV (kl.length + 1) pW) (kl.length + 1) (kl.map Pm ++ [.int .u64 key])) fB EV => show Dd (W9.setCell ⟨g,I * 2 + 1,none⟩ (.slice pV (kl.length + 1) pW)) B b (yd P key OL (k + 1)) ∧ ll (W9.setCell ⟨g,I * 2 + 1,none⟩ (.slice pV (kl.length + 1) pW)) Bo (.slice (some ⟨og,off,none⟩) oN oc) OL ∧ dX (W9.setCell ⟨g,I * 2 + 1,none⟩ (.slice pV (kl.length + 1) pW)) b3 #[.int .i64 tk,.int .i64 kind,.int .u64 key,.int .u32 ck,.slice da dn dc] 85 ∧ fk B w (W9.setCell ⟨g,I * 2 + 1,none⟩ (.slice pV (kl.length + 1) pW)) by
   obtain ⟨r1,r2,r3⟩:=Sv.out W9 (.slice pV (kl.length + 1) pW) (by rw [ax,bE]; exact eC) fB EV
   have r4 : gM W9 (W9.setCell ⟨g,I * 2 + 1,none⟩ (.slice pV (kl.length + 1) pW)) B 89:=.inr ⟨g,r3⟩
   refine ⟨?_,wL (wL HOa.out r2 (by decide)) r4 (by decide),(PV.out.gD r2 (by decide)).gD r4 (by decide),(H9.out.own Bd.out (ak Y6 Ss) fB (by decide)).gD r4 (by decide) (zD (B:=B) (b:=g) hgB [(I * 2 + 1,.slice pV (kl.length + 1) pW)] (zL H9.out.b Bd.out (ak Y6 Ss) fB))⟩
   rw [Nn.out,Uv.out,← BX.out]
   exact ⟨Bu,Bv,gc',L',_,_,I8,D4,I9,hlo,(ME.out.gD r2 (by decide)).gD r4 (by decide),r1⟩)
  have q6w:=ME.out.cell (i:=6) rfl;obtain ⟨ckw,fkw⟩:=Y7.out _ (.inl (aj _ _));go_upto_region 8 with fail
  go_region_law ((refine zBo (n:=kl.length) (by rfl) (.tmp 76) (.tmp 79) 87 (by rfl) Yy B (by rfl) Bd.out (ad:=⟨y2.heap.size,0,none⟩) (m:=1) (c:=1) (news:=[.int .u64 key]) (by rfl) (by rfl) (zIw y2 key _ rfl) (fun u hu => by simp only [cA,cB,or_false] at hu; rw [hu]; rfl) (by unfold maxLen; omega) (by omega) (by simp; omega) ?_; intro v9 w9 eC fB EV; obtain ⟨pV,pW,hv2,_,_,_⟩:=zM eC; subst hv2; have CH:=UD.out _ fB; have D5:=ME.out.gD CH (by decide); have c6:=D5.cell (i:=6) rfl; obtain ⟨c9,f9⟩:=Y7.out _ CH; clear D5 CH))
  all_goals
   obtain ⟨z1,z2,z3,z4⟩:=Ci.out _ _ _ eC fB EV;have Z1:=zh z1;have Z2:=zh z2;have Z3:=zh z3;have Z4:=zh z4;clear z1 z2 z3 z4 eC fB EV c6 c9 f9 q6w ckw fkw q6 x2 hcK Ci;go_wp2_with fail;exact ⟨⟨k + 1,by go_num,by omega,Z1,Z2,Z3,Z4⟩,by simp [intOf]; omega⟩
 have j1 : ¬ (k : Int) < (oN : Int):=by omega
 have hkn : k = oN:=by omega
 subst hkn;obtain ⟨P4,UJ,UK,UL,YY,PA⟩:=Ks.out k (ai _);obtain ⟨Oq,MH,Ot,L1,MI,jh,I8,D4,I9,DK,Eu,hR1⟩:=DV.out;have hes : D4.length ≤ 900:=LD.out D4 (hR1.nn.trans UK);have hDr:=IL.out;generalize yd P key OL k = Q at *;have MD:=zh (zEt b Q.t Oq MH Ot L1 Q.eN MI I8 I9 Q.bytes key wr Eu hR1.g.rd hR1.gg (P4.mono (by decide)));have Kj : B ≤ wr.heap.size:=ak hB (ak hz2 HB.out.size);have CW:=zh (fun W (hb : Below wr.heap.size wr W) => zFL hlo (Eu.below hb) (hR1.below hb) (P4.mono (by decide)) (ak Kj hb.size) (qA q) none 0 0 ⟨⟨rfl,none,0,rfl,ai _,aq _,fun _ => rfl,fun h => (by cases h)⟩,fun g hg => (by cases hg)⟩ rfl (by decide) (by omega) (by rw [UL]; exact hby));have Ov:=zh (show ((qA q).key : Int) = key ∧ ((qA q).ck : Int) = ck ∧ (qA q).del = true from ⟨UI.out,HQc.out,rfl⟩);have MC:=zh (show Dd wr B b Q from DV.out);obtain ⟨Bf,hd2,IJ⟩:=Ov.out
 rw [Bf,hd2,IJ] at CW;clear Bf hd2 IJ Ov P4 UJ UK UL YY PA DK Eu hR1 hes DV Ks Mv Mw HGl;have Sw:=zh hDr;clear hDr IL;have x2:=HX.out.cell (i:=2) rfl;have x3:=HX.out.cell (i:=3) rfl;generalize wT Q.t key = tb at *;go_wp2_with fail;refine MD.out.mono ?_;rintro e v5 ⟨rfl,hb5⟩;have gw:=zh (HB.out.step hb5 Kj);have fw:=zh (HX.out.below hb5);have HP5:=zh (MC.out.below hb5);have Y8:=zh (CW.out v5 hb5);clear hb5 MD CW MC HX HB x2 x3
 cases tb
 ·
  go_wp2_with fail;go_end0;exact ⟨rfl,by rw [Sw.out]; exact HP5.out,gw.out⟩
 have x2:=fw.out.cell (i:=2) rfl;have x3:=fw.out.cell (i:=3) rfl;go_wp2_with fail;refine Y8.out.mono ?_;rintro e v6 ⟨rfl,Sy,l9⟩;have UN:=zh Sy;have jK:=zh (gw.out.trans l9);clear Sy l9;go_wp2_with fail;go_end0;exact ⟨rfl,by rw [Sw.out]; exact UN.out,jK.out⟩
end Go.Proofs.YtcgfilmmokmdjaaGreat
