/- A part of the walk. -/
import Derived.Test.YtcgfilmmokmdjaaGreatQAL
import Derived.Test.YtcgfilmmokmdjaaGreatQAU
import Derived.Test.YtcgfilmmokmdjaaGreatQAW
import Derived.Test.YtcgfilmmokmdjaaGreatQAM
import Derived.Test.YtcgfilmmokmdjaaGreatHj
import Derived.Laws.MakeOwn
set_option linter.all false
set_option maxRecDepth 100000
set_option maxHeartbeats 32000000
namespace Go.Proofs.YtcgfilmmokmdjaaGreat
open Go.RowKit
/-! ### What Make answers there, in plain Lean -/
def lR : eL:=⟨0,9000,false,[fresh 1]⟩
theorem lq : eA lR:=(zZ _).1 (Ua 0 9000 false (by decide))
def mh : Rq:=⟨0,1,1,0,[]⟩
def jE : Rq:=⟨0,2,1,0,[]⟩
theorem zLa : (yA lR []).2 = 0 ∧ (yA lR []).1.res = [] ∧ (yA lR []).1.needs.length = 0:=by
 unfold yA;rw [ag ((zZ _).2 lq)];exact ⟨rfl,rfl,rfl⟩
theorem zJR : wl lR 0 = true:=by
 unfold wl;rw [(zZ _).2 lq]
 rfl
theorem zB0 : zn lR mh = 0:=by
 unfold zn;rw [ah (by decide),ag (show wl lR ((mh.data.length : Nat) : Int) = true from zJR)]
theorem zJG (key : Int) : zR (zK lR).m key = none:=by
 rw [← SD];have h : zG (zK lR).m = []:=zAo 1;rw [h]; rfl
theorem zFu {t : eL} (h : eA t) (h1 : t.dW.length = 1) (key : Int) : zk t key = []:=by
 rw [X9 h,h1]; rfl
theorem zGH : xS lR jE = 6:=by
 have h : zl lR (jE.key : Int) = []:=by
  rw [uT lq,vp lq,zJG]; rfl
 unfold xS;rw [h,ah (by simp)]
theorem zKw : (yA lR [jE]).2 = 0 ∧ (yA lR [jE]).1.res = [6] ∧ (yA lR [jE]).1.needs.length = 0:=by
 have h1 : zT (xB lR) jE = (true,more (xB lR) 6):=vC (by decide) rfl zGH;unfold yA;rw [ag ((zZ _).2 lq),vd (by rw [h1]),h1];exact ⟨rfl,rfl,rfl⟩
theorem zK5 : (yA lR [mh,jE]).2 = 0 ∧ (yA lR [mh,jE]).1.res = [0,0] ∧ (yA lR [mh,jE]).1.needs.length = 2:=by
 have hc : kT (xB lR).t (uJ mh):=UR lq zB0;have h1 : zT (xB lR) mh = (true,more (vy (xB lR) (uJ mh)) 0):=vn (by decide) rfl zB0 (by simp [xB]);have hk:=US (P:=xB lR) lq hc;have ht:=Zf (P:=xB lR) lq hc;generalize hP : more (vy (xB lR) (uJ mh)) 0 = P1 at *;have hPt : P1.t = (vy (xB lR) (uJ mh)).t:=by rw [← hP]; rfl
 have hPr : P1.res = [0]:=by rw [← hP]; rfl
 have hPn : P1.needs = [uJ mh]:=by rw [← hP]; rfl
 have hPb : P1.bytes = 24:=by rw [← hP]; rfl
 rw [← hPt] at hk ht;have hv:=hk.v;have hlen : P1.t.dW.length = 1:=hk.len;have SE : zK P1.t = yW (zK lR) (uJ mh):=by rw [ht]; exact Zd lq _
 have hg : zR (zK P1.t).m ((jE.key : Nat) : Int) = some (Fm (zK lR) (uJ mh)):=by
  rw [SE,zA5 lq.Cl.1 ⟨aq _,fun e => (by cases e)⟩ (by decide)]
  rfl
 have hall : zl P1.t ((jE.key : Nat) : Int) = [⟨(zK P1.t).num,(zK P1.t).mode,(zK P1.t).rev,Fm (zK lR) (uJ mh),0⟩]:=by
  rw [uT hv,vp hv,hg,hlen]; rfl
 have hcd : xS P1.t jE = 0:=by
  unfold xS;rw [hall,ag ⟨rfl,rfl⟩]
 have hks : yN P1 ((jE.key : Nat) : Int) = P1:=by
  unfold yN;rw [zFu hv hlen]; rfl
 have hd : yl P1 jE = vy P1 (qA jE):=by
  unfold yl;rw [hks,ag ((uD hv _).2 (by rw [hg]; exact fun e => (by cases e)))]
 have h2 : zT P1 jE = (true,more (vy P1 (qA jE)) 0):=by
  rw [← hd];exact ww (by rw [hPr]; decide) rfl hcd (by rw [hPb]; omega)
 unfold yA;rw [ag ((zZ _).2 lq),vd (by rw [h1]),h1,vd (by rw [h2]),h2];refine ⟨rfl,?_,?_⟩
 ·
  show P1.res ++ [0] = _
  rw [hPr]; rfl
 show (P1.needs ++ [_]).length = 2
 rw [hPn]; rfl
theorem ZI {l : List Rq} {R : List Int} {N : Nat} (hM : (yA lR l).2 = 0 ∧ (yA lR l).1.res = R ∧ (yA lR l).1.needs.length = N) (b : Nat) (W : World) (hr : fH W (.slice (some ⟨b,0,none⟩) 1 1) H8) (qa : Option Addr) (qn qc : Nat) (qs : List (Rq × Value)) (hq : Dc W (.slice qa qn qc) qs) (hl : qs.map (·.1) = l) (hs : qs.length ≤ 2) (hd : ∀ p ∈ qs,p.1.data = []) :
  Calls Tryz.prog 22 #[ze 0 9000 false (some ⟨b,0,none⟩) 1 1,.slice qa qn qc] W fun e w' => ∃ eN ka kn kc na nc ra rc,e = .returned (.tuple #[zLu eN (R.length : Int) (.slice ka kn kc) (.slice na N nc) (.slice ra R.length rc),.int .i64 0]) ∧ Rd w' 1 (.slice ra R.length rc) R.length (R.map I3) ∧ Below W.heap.size W w':=by
 obtain ⟨_,_,e,_⟩:=hq.shape;injection e with _ e _;subst e;have h:=zC1 lR (some ⟨b,0,none⟩) 1 1 H8 qa qc qs W hr rfl (fun g hg i _ => by obtain rfl:=List.mem_singleton.1 hg; exact aq _) (by decide) hq (by omega) (fun p hp => by rw [hd p hp]; exact aq _);rw [hl] at h;refine Calls.mono h ?_;rintro e w' ⟨kv,ks,nv,es,rv,rfl,hp,hb⟩;obtain ⟨h1,h2,h3⟩:=hM;obtain ⟨ka,kc,rfl,_⟩:=zM hp.k.row;obtain ⟨na,nc,rfl,_⟩:=zM hp.n.row;have U1:=zw hp.r;obtain ⟨ra,rc,rfl,_⟩:=zM hp.r;have hN : es.length = N:=by rw [← h3,← hp.nn,aI]
 rw [h1,h2,hN];rw [h2] at U1;exact ⟨_,_,_,_,_,_,_,_,rfl,U1,hb⟩
theorem zK7 (W : World) : Dc W (.slice none 0 0) []:=⟨⟨fun x _ => qM x,Rd.nil W 5⟩,fun p hp => (by cases hp)⟩
theorem zGZ (W : World) (qs : List (Rq × Value)) (e : TypeId) (h : ∀ p ∈ qs,p.1.data = [] ∧ p.2 = .slice none 0 0) (hm : qs.length ≤ 10) : Dc (W.alloc (.cells (qs.flatMap CD).toArray e)) (.slice (some ⟨W.heap.size,0,none⟩) qs.length qs.length) qs:=
 ⟨⟨fun x _ => qM x,Rd.new W 5 _ e qs.length (yV 5 CD qs fun x _ => qM x) (ak hm (by decide))⟩,fun p hp => by
  obtain ⟨h1,h2⟩:=h p hp
  rw [h1,h2]; exact zGm _⟩
def P9 : List (Rq × Value):=[(mh,.slice none 0 0),(jE,.slice none 0 0)]
def P_ : List (Rq × Value):=[(jE,.slice none 0 0)]
theorem zEM (w : World) : Calls Tryz.prog 19 #[] w fun e w' => e = .returned (.bool true) ∧ Below w.heap.size w w':=by
 have JS:=zh (zJS 0 9000 (by decide) w)
 go_enter Tryz.func19,Tryz.ntmps19
 go_wp2_with fail;refine JS.out.mono ?_;rintro e w1 ⟨b,rfl,jP,hg,hb⟩;have HR:=zh (Ub hg);have HB:=zh hb;clear hg hb jP JS;go_upto_region 2 with fail;change Code.wp _ _ _ _ (w1.alloc (.cells (zN 0 9000 false (some ⟨b,0,none⟩) 1 1) 27));have eU:=zS w1 0 9000 false (some ⟨b,0,none⟩) 1 1 27;have HS:=zh (dX.new w1 (zN 0 9000 false (some ⟨b,0,none⟩) 1 1) 27);replace HR:=zh (HR.out.below eU);replace HB:=zh (zA HB.out eU);clear eU;generalize w1.alloc (.cells (zN 0 9000 false (some ⟨b,0,none⟩) 1 1) 27) = w2 at *;generalize w1.heap.size = bS at *;have HM:=zh (ZI zLa b w2 HR.out none 0 0 [] (zK7 w2) rfl (by decide) (fun p hp => by cases hp));obtain ⟨k0,k1,k2,k3⟩:=(dX.iu HS.out).q;go_wp2_with fail;refine HM.out.mono ?_;rintro e w3 ⟨eN,ka,kn,kc,na,nc,ra,rc,rfl,U1,hb⟩;replace HS:=zh (HS.out.below hb);replace HR:=zh (HR.out.below hb)
 replace HB:=zh (zA HB.out hb);clear hb U1 HM k0 k1 k2 k3;go_upto_region 3 with fail;change Code.wp _ _ _ _ (w3.alloc (.cells (wt eN 0 (.slice ka kn kc) (.slice na 0 nc) (.slice ra 0 rc)) 71));have eU:=(aj w3.heap.size w3).alloc (ai _) (.cells (wt eN 0 (.slice ka kn kc) (.slice na 0 nc) (.slice ra 0 rc)) 71);have HP:=zh (dX.new w3 (wt eN 0 (.slice ka kn kc) (.slice na 0 nc) (.slice ra 0 rc)) 71);replace HS:=zh (HS.out.below eU);replace HR:=zh (HR.out.below eU);replace HB:=zh (zA HB.out eU);clear eU;generalize w3.alloc (.cells (wt eN 0 (.slice ka kn kc) (.slice na 0 nc) (.slice ra 0 rc)) 71) = w4 at *;generalize w3.heap.size = bP at *
 -- the second
 have eU:=(aj w4.heap.size w4).alloc (ai _) (.cells (P9.flatMap CD).toArray 85);have gT:=zh (zGZ w4 P9 85 (fun p hp => by simp [P9] at hp; rcases hp with rfl | rfl <;> exact ⟨rfl,rfl⟩) (by decide));have CO:=zh (ZI zK5 b _ (HR.out.below eU) _ _ _ P9 gT.out rfl (by decide) (fun p hp => by simp [P9] at hp; rcases hp with rfl | rfl <;> rfl));obtain ⟨k0,k1,k2,k3⟩:=(dX.iu HS.out).q;go_wp2_with fail;change Calls _ _ _ (w4.alloc (.cells (P9.flatMap CD).toArray 85)) _;refine CO.out.mono ?_;rintro e w5 ⟨LL,Sq,U2,Sr,SX,SY,SZ,S1,rfl,OI,hb⟩;have fF:=zA eU hb;replace HS:=zh (HS.out.below fF);replace HR:=zh (HR.out.below fF);replace HP:=zh (HP.out.below fF);replace HB:=zh (zA HB.out fF);clear hb fF eU CO gT k0 k1 k2 k3;dsimp only [List.length_cons,List.length_nil,List.map_cons,List.map_nil] at OI ⊢;go_upto_region 4 with fail
 change Code.wp _ _ _ _ (w5.alloc (.cells (wt LL 2 (.slice Sq U2 Sr) (.slice SX 2 SY) (.slice SZ 2 S1)) 71));have eU:=(aj w5.heap.size w5).alloc (ai _) (.cells (wt LL 2 (.slice Sq U2 Sr) (.slice SX 2 SY) (.slice SZ 2 S1)) 71);have DS:=zh (dX.new w5 (wt LL 2 (.slice Sq U2 Sr) (.slice SX 2 SY) (.slice SZ 2 S1)) 71);replace HS:=zh (HS.out.below eU);replace HR:=zh (HR.out.below eU);replace HP:=zh (HP.out.below eU);replace HB:=zh (zA HB.out eU);have J3:=zh (OI.below eU);clear eU OI;generalize w5.alloc (.cells (wt LL 2 (.slice Sq U2 Sr) (.slice SX 2 SY) (.slice SZ 2 S1)) 71) = w6 at *;generalize w5.heap.size = ZJ at *;have eU:=(aj w6.heap.size w6).alloc (ai _) (.cells (P_.flatMap CD).toArray 85);have Ow:=zh (zGZ w6 P_ 85 (fun p hp => by simp [P_] at hp; subst hp; exact ⟨rfl,rfl⟩) (by decide))
 have TF:=zh (ZI zKw b _ (HR.out.below eU) _ _ _ P_ Ow.out rfl (by decide) (fun p hp => by simp [P_] at hp; subst hp; rfl));obtain ⟨k0,k1,k2,k3⟩:=(dX.iu HS.out).q;go_wp2_with fail;change Calls _ _ _ (w6.alloc (.cells (P_.flatMap CD).toArray 85)) _;refine TF.out.mono ?_;rintro e w7 ⟨LM,FN,U3,FO,S2,S3,S4,S5,rfl,OJ,hb⟩;have fF:=zA eU hb;replace HS:=zh (HS.out.below fF);replace HR:=zh (HR.out.below fF);replace HP:=zh (HP.out.below fF);replace DS:=zh (DS.out.below fF);replace J3:=zh (J3.out.below fF);replace HB:=zh (zA HB.out fF);clear hb fF eU TF Ow k0 k1 k2 k3;dsimp only [List.length_cons,List.length_nil,List.map_cons,List.map_nil] at OJ ⊢;go_upto_region 5 with fail;change Code.wp _ _ _ _ (w7.alloc (.cells (wt LM 1 (.slice FN U3 FO) (.slice S2 0 S3) (.slice S4 1 S5)) 71))
 have eU:=(aj w7.heap.size w7).alloc (ai _) (.cells (wt LM 1 (.slice FN U3 FO) (.slice S2 0 S3) (.slice S4 1 S5)) 71);have ZK:=zh (dX.new w7 (wt LM 1 (.slice FN U3 FO) (.slice S2 0 S3) (.slice S4 1 S5)) 71);replace HS:=zh (HS.out.below eU);replace HR:=zh (HR.out.below eU);replace HP:=zh (HP.out.below eU);replace DS:=zh (DS.out.below eU);replace J3:=zh (J3.out.below eU);replace HB:=zh (zA HB.out eU);have ZL:=zh (OJ.below eU);clear eU OJ;generalize w7.alloc (.cells (wt LM 1 (.slice FN U3 FO) (.slice S2 0 S3) (.slice S4 1 S5)) 71) = w8 at *;generalize w7.heap.size = ZM at *;have p0 : w8.cell? ⟨bP,1,none⟩ = some (.int .i64 0):=dX.cell HP.out rfl;have p1 : w8.cell? ⟨ZJ,1,none⟩ = some (.int .i64 2):=dX.cell DS.out rfl;have p3 : w8.cell? ⟨ZJ,3,none⟩ = some (.slice SX 2 SY):=dX.cell DS.out rfl
 have p4 : w8.cell? ⟨ZJ,4,none⟩ = some (.slice SZ 2 S1):=dX.cell DS.out rfl;have s1 : w8.cell? ⟨ZM,1,none⟩ = some (.int .i64 1):=dX.cell ZK.out rfl;have s3 : w8.cell? ⟨ZM,3,none⟩ = some (.slice S2 0 S3):=dX.cell ZK.out rfl;have s4 : w8.cell? ⟨ZM,4,none⟩ = some (.slice S4 1 S5):=dX.cell ZK.out rfl;obtain ⟨_,_,_,e2,_,_,_,hc2⟩:=J3.out;injection e2 with e2 _ _;obtain ⟨bx,ox,e3,hc2⟩:=hc2 (by decide);obtain rfl:=e2.trans e3;have r0 : w8.cell? ⟨bx,ox,none⟩ = some (.int .i64 0):=hc2 0 _ rfl;have r1 : w8.cell? ⟨bx,ox + 1,none⟩ = some (.int .i64 0):=hc2 1 _ rfl;obtain ⟨_,_,_,e4,_,_,_,hc3⟩:=ZL.out;injection e4 with e4 _ _;obtain ⟨mg,oy,e5,hc3⟩:=hc3 (by decide);obtain rfl:=e4.trans e5;have t0 : w8.cell? ⟨mg,oy,none⟩ = some (.int .i64 6):=hc3 0 _ rfl;clear e2 e3 hc2 e4 e5 hc3;go_wp2_with fail;go_ret;exact ⟨rfl,HB.out⟩
def KQ (x : Nd) : Nd:=⟨x.key % 8,x.ck % 4,x.del,if x.del then [] else x.data.take 30⟩
def Ja (n : Nat) (l : List Nd) : List Nd:=(l.take n).map KQ
theorem zK6 (x : Nd) : (KQ x).data.length ≤ 30:=by
 unfold KQ;dsimp only
 split
 ·
  simp
 rw [ay]; omega
theorem ZN (n : Nat) (l : List Nd) : (Ja n l).length ≤ n:=by unfold Ja; rw [aI,ay]; omega
theorem zFN (n : Nat) (l : List Nd) : ∀ x ∈ Ja n l,x.data.length ≤ 30:=fun x hx => by
 obtain ⟨y,_,rfl⟩:=List.mem_map.1 hx;exact zK6 y
theorem zMO (l : List Nd) : fU (Ja 6 l) ≤ 400:=by
 have key : ∀ k : List Nd,(∀ x ∈ k,x.data.length ≤ 30) → fU k ≤ k.length * 56:=by
  intro k
  induction k with
  | nil => intro _; exact aq _
  | cons x r ih =>
   intro h;have h1:=ih fun y hy => h y (by simp [hy])
   have h2:=h x (by simp);have h3 : eP x.data.length ≤ 56:=by rw [Qh (by omega)]; unfold CJ; omega
   rw [wi,aW]; omega
 have h1:=key _ (zFN 6 l);have h2:=ZN 6 l;omega
noncomputable def tN (s : eL) (kd : Int) (ns : List Nd) (gen : Int) (keys : List Int) : eL:=
 if kd = 4 ∨ kd = 5 then (if (vZ s).2 = 0 then (vZ s).1 else s)
 else if kd = 6 then uE s (yY (eB s.dW (gen % (s.dW.length : Int)).toNat) (keys.take 8))
 else if kd = 7 then uE s (xl (eB s.dW (gen % (s.dW.length : Int)).toNat) 2)
 else uE s (xQ (zK s) (Ja 6 ns))
noncomputable def ZO (s : eL) (x : Bp) : eL:=tN s (x.kind % 8) (x.l.map (·.1)) x.gen x.keys
noncomputable def wN (s : eL) (l : List Bp) : eL:=l.foldl ZO s
noncomputable def OM (l : List Bp) : eL:=wN H_ (l.take 8)
theorem zAB (l : List Bp) (i : Nat) (h : i < l.length) : wN H_ (l.take (i + 1)) = ZO (wN H_ (l.take i)) (kY l i):=by
 unfold wN kY;rw [cz,aw,aB h,dy]
 rfl
theorem zCk {g : Gn} {m : Int} (h : (xl g m).1 = 0) : (xl g m).2 = { g with mode:=m + 1 }:=by
 unfold xl at h ⊢
 split
 ·
  rename_i h1;rw [ag h1] at h
  split
  ·
   rfl
  rename_i h2; rw [ah h2] at h; cases h
 rename_i h1; rw [ah h1] at h; cases h
theorem zFo {n : Nat} {s : eL} (h : iG n s) (kd : Int) (ns : List Nd) (gen : Int) (keys : List Int) : iG (n + 1) (tN s kd ns gen keys):=by
 have hg : eB s.dW (gen % (s.dW.length : Int)).toNat ∈ s.dW:=ux (by
  have h1:=h.v.len
  have h2:=Int.emod_lt_of_pos gen (show (0 : Int) < (s.dW.length : Int) by omega)
  have h3:=Int.emod_nonneg gen (show (s.dW.length : Int) ≠ 0 by omega)
  omega)
 unfold tN
 split
 ·
  have:=zDE h 2 ns gen keys;unfold Rx at this;exact this
 split
 ·
  have:=zDE h 3 ns gen keys;unfold Rx at this;exact this
 split
 ·
  unfold uE
  split
  ·
   rename_i hr;obtain ⟨h1,h2⟩:=hr;refine h.Ue h2 ?_ ?_
   ·
    rw [zCk h1];intro i hi;exact ak (h.len _ hg i hi) (by omega)
   rw [zCk h1];have:=h.My _ hg;dsimp only; omega
  exact h.up
 unfold uE
 split
 ·
  rename_i hr;obtain ⟨h1,h2⟩:=hr;have ht:=uw h.v;refine h.Ue h2 ?_ ?_
  ·
   rw [ko h1];intro i hi;have:=xg (Ja 6 ns) _ (h.len _ ht) i hi;have:=ZN 6 ns;omega
  rw [ko h1,yy];have:=h.My _ ht;have:=zMO ns;omega
 exact h.up
theorem tt (l : List Bp) : ∀ i,i ≤ l.length → iG i (wN H_ (l.take i))
 | 0,_ => zGU
 | i + 1,h => by
  rw [zAB l i (by omega)];exact zFo (tt l i (by omega)) _ _ _ _
theorem zHP (l : List Bp) : iG 8 (OM l):=by
 have h1 : ∀ i j,i ≤ j → ∀ s,iG i s → iG j s:=by
  intro i j hij;obtain ⟨d,rfl⟩ : ∃ d,j = i + d:=⟨j - i,by omega⟩
  clear hij
  induction d with
  | zero => exact fun s h => h
  | succ d ih => exact fun s h => (ih s h).up
 have h2:=tt (l.take 8) (l.take 8).length (ai _);rw [aH (ai _)] at h2;exact h1 _ 8 (by rw [ay]; omega) _ h2
theorem zL8 : wK Tryz.prog 74 85 5 56:=by
 obtain ⟨i,hi,hz,hs,hb⟩:=b_ (P:=Tryz.prog) (e:=85) (z:=.agg #[.int .i64 0,.int .i64 0,.int .u64 0,.int .u32 0,.slice none 0 0]) (size:=5) (bytes:=56) (by kernel_rfl);exact ⟨Tryz.underlying74,by decide,i,_,hi,hz,hs,hb,rfl⟩
theorem zLO (qs : List (Rq × Value)) (i : Nat) (h : i < qs.length) : (qs.take (i + 1)).flatMap CD = (qs.take i).flatMap CD ++ CD (gZ qs i):=by
 rw [cz,aB h,cC]
 congr 1
 unfold gZ;rw [aw,aB h];simp
theorem zEI (v : Value) (qs : List (Rq × Value)) (w : World) (h : Dc w v qs) (Pt : qs.length ≤ 1000000) :
  Calls Tryz.prog 24 #[v] w fun e w' => ∃ v',e = .returned v' ∧ w'.ownsRow w.heap.size 85 5 v' qs.length (qs.flatMap CD) ∧ Below w.heap.size w w':=by
 obtain ⟨a,cap,rfl,h1,h2⟩:=h.shape;have HQ:=zh h;have HT:=zh (zLO qs);have HE:=zh (show (qs.take qs.length).flatMap CD = qs.flatMap CD by rw [cm]);clear h;generalize hn : qs.length = n at *;clear hn
 go_enter Tryz.func24,Tryz.ntmps24
 go_wp2_with fail
 go_loopw [3,8] (fun ov iv W => ∃ i : Nat,iv = .int .i64 (i : Int) ∧ i ≤ n ∧ Hid (W.ownsRow w.heap.size 85 5 ov i ((qs.take i).flatMap CD)) ∧ Hid (Below w.heap.size w W)) (fun _ iv _ => n - (intOf iv).toNat)
 case atStart => exact ⟨0,rfl,aq _,zh (aU _ _ _ _),zh (aj _ _)⟩
 obtain ⟨i,rfl,hi,HO,HB⟩:=hrel;obtain ⟨oa,oc,Ec,ho1,ho2,_⟩:=zM HO.out;subst Ec
 by_cases hin : i < n
 ·
  have i1 : (i : Int) < (n : Int):=by omega
  obtain ⟨qb,qo,e0,hd,c0,c1,c2,c3,c4⟩:=(HQ.out.below HB.out).at (j:=i) hin;subst e0;have hT:=HT.out i hin;obtain ⟨da,dc,ZP,_⟩:=hd.gl;rw [ZP] at c4;have hX : CD (gZ qs i) = [.int .i64 (gZ qs i).1.tk,.int .i64 (gZ qs i).1.kind,.int .u64 ((gZ qs i).1.key : Int),.int .u32 ((gZ qs i).1.ck : Int),.slice da (gZ qs i).1.data.length dc]:=by show [_,_,_,_,_] = _; rw [ZP]
  rw [hX] at hT;have PG:=zh hT;clear hX hT hd ZP;generalize (gZ qs i).1.data.length = dn at *;generalize (gZ qs i).1.tk = tk at *;generalize (gZ qs i).1.kind = kd at *;generalize ((gZ qs i).1.key : Int) = ky at *;generalize ((gZ qs i).1.ck : Int) = ck at *;have hsz : w.heap.size ≤ wr.heap.size:=HB.out.size;have hb5:=(aj wr.heap.size wr).alloc (ai _) (.cells #[.int .i64 tk,.int .i64 kd,.int .u64 ky,.int .u32 ck,.slice da dn dc] 63);have HX:=zh (dX.new wr #[.int .i64 tk,.int .i64 kd,.int .u64 ky,.int .u32 ck,.slice da dn dc] 63);have iV:=zh (zI HO.out hb5);have gw:=zh (HB.out.trans (hb5.mono hsz));have Ir:=ak hsz hb5.size;clear hb5;go_upto_region 5 with fail;change Code.wp _ _ _ _ (wr.alloc (.cells #[.int .i64 tk,.int .i64 kd,.int .u64 ky,.int .u32 ck,.slice da dn dc] 63))
  generalize wr.alloc (.cells #[.int .i64 tk,.int .i64 kd,.int .u64 ky,.int .u32 ck,.slice da dn dc] 63) = w5 at *;have x0:=HX.out.cell (i:=0) rfl;have x1:=HX.out.cell (i:=1) rfl;have x2:=HX.out.cell (i:=2) rfl;have x3:=HX.out.cell (i:=3) rfl;have x4:=HX.out.cell (i:=4) rfl;clear c0 c1 c2 c3 c4 HB HO;have l9:=(aj w5.heap.size w5).alloc (ai _) (.cells #[.int .i64 tk,.int .i64 kd,.int .u64 ky,.int .u32 ck,.slice da dn dc] 85);have mC:=zh (zI iV.out l9);have jK:=zh (gw.out.trans (l9.mono Ir));have S6:=ak Ir l9.size;clear l9
  go_wp2_with (at_builtin; go_must (refine zi (n:=i) (m:=1) rfl (.tmp 12) (.tmp 24) 74 rfl zL8 w.heap.size rfl mC.out rfl (Rd.Da w5.heap.size w5 rfl 5 [.int .i64 tk,.int .i64 kd,.int .u64 ky,.int .u32 ck,.slice da dn dc] 85 1 rfl (by decide)) (fun u hu => by simp only [cA,cB,or_false] at hu; rcases hu with h | h | h | h | h <;> rw [h] <;> rfl) (by unfold maxLen; omega) (by omega) S6 ?_); intro v3 w7 eu fh hv3; clear hv3);have Fk:=zh (show w7.ownsRow w.heap.size 85 5 v3 (i + 1) ((qs.take (i + 1)).flatMap CD) by rw [PG.out]; exact eu);have Hx:=zh (zL jK.out mC.out S6 fh);clear eu fh;go_wp2_with fail;exact ⟨⟨i + 1,by go_num,by omega,Fk,Hx⟩,by simp [intOf]; omega⟩
 have i1 : ¬ (i : Int) < (n : Int):=by omega
 obtain rfl : i = n:=by omega
 go_wp2_with fail;go_ret;exact ⟨_,rfl,by rw [← HE.out]; exact HO.out,HB.out⟩
def KR (much : Bool) (q : Rq) : Rq:=⟨q.tk,1 + q.kind % 2,q.key % 8,q.ck % 2,(if (much && decide (q.tk % 4 = 0)) = true then List.replicate 4076 0 else []) ++ q.data.take 30⟩
theorem zMP (n : Int) : bits .and .i64 n 1 = n % 2:=by
 have hm : (BitVec.ofInt 64 1).toNat = 2 ^ 1 - 1:=by decide
 have key : (BitVec.ofInt 64 n &&& BitVec.ofInt 64 1).toNat = (n % ((2 ^ 64 : Nat) : Int)).toNat % 2 ^ 1:=by
  rw [BitVec.toNat_and,BitVec.toNat_ofInt,hm,dU]
 show IntKind.i64.wrap ((BitVec.ofInt 64 n &&& BitVec.ofInt 64 1).toNat : Nat) = n % 2
 rw [key,IntKind.wrap_i64];omega
theorem zMM (n : Int) : bits .and .i64 n 3 = n % 4:=by
 have hm : (BitVec.ofInt 64 3).toNat = 2 ^ 2 - 1:=by decide
 have key : (BitVec.ofInt 64 n &&& BitVec.ofInt 64 3).toNat = (n % ((2 ^ 64 : Nat) : Int)).toNat % 2 ^ 2:=by
  rw [BitVec.toNat_and,BitVec.toNat_ofInt,hm,dU]
 show IntKind.i64.wrap ((BitVec.ofInt 64 n &&& BitVec.ofInt 64 3).toNat : Nat) = n % 4
 rw [key,IntKind.wrap_i64];omega
theorem zKM (n : Nat) : bits .and .u64 (n : Int) 7 = ((n % 8 : Nat) : Int):=by
 have hm : (BitVec.ofInt 64 7).toNat = 2 ^ 3 - 1:=by decide
 have key : (BitVec.ofInt 64 (n : Int) &&& BitVec.ofInt 64 7).toNat = ((n : Int) % ((2 ^ 64 : Nat) : Int)).toNat % 2 ^ 3:=by
  rw [BitVec.toNat_and,BitVec.toNat_ofInt,hm,dU]
 show IntKind.u64.wrap ((BitVec.ofInt 64 (n : Int) &&& BitVec.ofInt 64 7).toNat : Nat) = _
 rw [key];simp [IntKind.wrap,IntKind.signed,IntKind.bits];omega
theorem zKH (n : Nat) : bits .and .u32 (n : Int) 1 = ((n % 2 : Nat) : Int):=by
 have hm : (BitVec.ofInt 32 1).toNat = 2 ^ 1 - 1:=by decide
 have key : (BitVec.ofInt 32 (n : Int) &&& BitVec.ofInt 32 1).toNat = ((n : Int) % ((2 ^ 32 : Nat) : Int)).toNat % 2 ^ 1:=by
  rw [BitVec.toNat_and,BitVec.toNat_ofInt,hm,dU]
 show IntKind.u32.wrap ((BitVec.ofInt 32 (n : Int) &&& BitVec.ofInt 32 1).toNat : Nat) = _
 rw [key];simp [IntKind.wrap,IntKind.signed,IntKind.bits];omega
theorem zMK : wK Tryz.prog 60 63 5 56:=by
 obtain ⟨i,hi,hz,hs,hb⟩:=b_ (P:=Tryz.prog) (e:=63) (z:=.agg #[.int .i64 0,.int .i64 0,.int .u64 0,.int .u32 0,.slice none 0 0]) (size:=5) (bytes:=56) (by kernel_rfl);exact ⟨Tryz.underlying60,by decide,i,_,hi,hz,hs,hb,rfl⟩
theorem zKd : ∃ zc : Array Value,zc.size = 4076 ∧ zc.toList = (List.replicate 4076 (0 : UInt8)).map td ∧ ∀ w : World,(Instr.makeSlice 54 (.int .i64 4076) (.int .i64 4076)).run Tryz.prog w = .ok (.slice (some ⟨w.heap.size,0,none⟩) 4076 4076) (w.alloc (.cells zc 5)):=by
 obtain ⟨i,hi,hz,hs,hb⟩:=b_ (P:=Tryz.prog) (e:=5) (z:=.int .u8 0) (size:=1) (bytes:=1) (by kernel_rfl);refine ⟨madeCells (Value.int .u8 0).cells (4076 * i.size),?_,?_,fun w => ?_⟩
 ·
  rw [hs]; simp [madeCells]
 ·
  rw [hs,List.map_replicate];unfold madeCells;rw [Array.toList_map,Array.toList_range];refine List.eq_replicate_iff.2 ⟨by rw [aI,List.length_range],fun b hb => ?_⟩;obtain ⟨j,_,rfl⟩:=List.mem_map.1 hb
  show (#[Value.int .u8 0])[j % 1]! = _
  rw [Nat.mod_one]
  rfl
 have h:=run_make (P:=Tryz.prog) w 54 5 i (.int .u8 0) Tryz.underlying54 hi hz .i64 .i64 4076 4076 (by decide) (by decide) (by rw [hb]; decide) (by decide);exact h
structure ia (W : World) (B : Nat) (v : Value) (qs : List (Rq × Value)) : Prop where
 row : W.ownsRow B 63 5 v qs.length (qs.flatMap CD)
 dat : ∀ p ∈ qs,gF W B p.2 p.1.data
theorem ia.nil (W : World) (B : Nat) : ia W B (.slice none 0 0) []:=⟨aU _ _ _ _,fun p hp => by cases hp⟩
theorem ia.below {W W' : World} {B : Nat} {v : Value} {qs : List (Rq × Value)} (h : ia W B v qs) (hb : Below W.heap.size W W') : ia W' B v qs:=⟨zI h.row hb,fun p hp => iA.below (h.dat p hp) hb⟩
theorem ia.jB {W W' : World} {B b : Nat} {T' : TypeId} {v : Value} {qs : List (Rq × Value)} (h : ia W B v qs) (ho : iH W W' B b T') (h1 : v.ownBlock ≠ some b) (h2 : 5 ≠ T') : ia W' B v qs:=by
 obtain ⟨h3,h4⟩:=h;refine ⟨⟨h3.1,?_⟩,fun p hp => iA.jB (h4 p hp) ho h2⟩;rcases h3.2 with h5 | ⟨g,cap,cur,e,hb,hg,h6⟩
 ·
  exact .inl h5
 exact .inr ⟨g,cap,cur,e,hb,by rw [ho.blk g (Array.getElem?_eq_some_iff.1 hg).1 (fun e2 => h1 (by rw [e,e2]; rfl))]; exact hg,h6⟩
theorem gF.J4 {W : World} {B : Nat} {a : Option Addr} {n c : Nat} {d : List UInt8} (h : gF W B (.slice a n c) d) (hk : 30 ≤ n) : gF W B (.slice a 30 c) (d.take 30):=by
 have hn : d.length = n:=by obtain ⟨⟨_,_,_,e,_⟩,_⟩:=h; injection e with _ e _; exact e.symm
 have h1 : CZ W (.slice a 30 c) (d.take 30):=iw.take h.rd 30 (by omega);refine ⟨h1,fun g hg => ?_⟩;have NF : (Value.slice a n c).ownBlock = some g:=by
  cases a with
  | none => cases hg
  | some y => simpa [Value.ownBlock] using hg
 rcases h.2 g NF with h2 | h2
 ·
  left
  have : d = []:=List.map_eq_nil_iff.1 h2;rw [this]; rfl
 exact .inr h2
theorem ia.push {W W' : World} {B : Nat} {v v' : Value} {qs : List (Rq × Value)} {p : Rq × Value} (h : ia W B v qs) (hd : gF W B p.2 p.1.data) (ho : W'.ownsRow B 63 5 v' (qs.length + 1) (qs.flatMap CD ++ CD p)) (hg : W.grownBy W' v.ownBlock) : ia W' B v' (qs ++ [p]):=by
 have hO : gM W W' B 63:=gM.row h.row hg (ai _);refine ⟨?_,fun x hx => ?_⟩
 ·
  rw [ax,cC,cN,List.flatMap_nil,bB]; exact ho
 rcases List.mem_append.1 hx with hx | hx
 ·
  exact iA.gD (h.dat x hx) hO (by decide)
 obtain rfl:=List.mem_singleton.1 hx;exact iA.gD hd hO (by decide)
theorem zDk (l : List Rq) (much : Bool) (most i : Nat) (h : i < l.length) (q : Rq) (hq : l[i]? = some q) : ((l.take (i + 1)).map (KR much)) = (l.take i).map (KR much) ++ [KR much q]:=by
 rw [cz,hq,bE]; rfl
theorem zE8 (v : Value) (qs : List (Rq × Value)) (most : Nat) (much : Bool) (w : World) (h : Dc w v qs) (hm : most ≤ 1000) :
  Calls Tryz.prog 21 #[v,.int .i64 (most : Int),.bool much] w fun e w' => ∃ v' Fa,e = .returned v' ∧ ia w' w.heap.size v' Fa ∧ Fa.map (·.1) = ((qs.map (·.1)).take most).map (KR much) ∧ Below w.heap.size w w':=by
 obtain ⟨a,cap,rfl,h1,h2⟩:=h.shape;have HQ:=zh h;have Dl:=zh (fun i (hi : i < qs.length) => h.dat _ (YA hi));have jM:=zh (fun i (hi : i < qs.length) => zDk (qs.map (·.1)) much most i (by rw [aI]; exact hi) (gZ qs i).1 (by rw [b9]; unfold gZ; rw [aw,aB hi]; rfl))
 have HE:=zh (show ∀ i,i ≤ qs.length → i ≤ most → ¬ (i < qs.length ∧ i < most) → (qs.map (·.1)).take i = (qs.map (·.1)).take most from fun i h1 h2 h3 => by
  by_cases e : i = most
  ·
   rw [e]
  rw [aH (by rw [aI]; omega),aH (by rw [aI]; omega)])
 clear h;generalize hn : qs.length = n at *;clear hn;generalize qs.map (·.1) = N at *
 go_enter Tryz.func21,Tryz.ntmps21
 go_wp2_with fail
 go_loopw [7,8] (fun ov iv W => ∃ (i : Nat) (Fa : List (Rq × Value)),iv = .int .i64 (i : Int) ∧ i ≤ n ∧ i ≤ most ∧ Fa.length = i ∧ Hid (ia W w.heap.size ov Fa) ∧ Hid (Fa.map (·.1) = (N.take i).map (KR much)) ∧ Hid (Below w.heap.size w W)) (fun _ iv _ => n - (intOf iv).toNat)
 case atStart => exact ⟨0,[],rfl,aq _,aq _,rfl,zh (ia.nil _ _),zh rfl,zh (aj _ _)⟩
 obtain ⟨i,Fa,rfl,hi,hi2,hl,HO,LD,HB⟩:=hrel;have hsz : w.heap.size ≤ wr.heap.size:=HB.out.size
 by_cases hin : i < n ∧ i < most
 ·
  obtain ⟨hin,him⟩:=hin;have i1 : (i : Int) < (n : Int):=by omega
  have i2 : decide ((i : Int) < (n : Int)) = true:=aD i1;have i3 : decide ((i : Int) < (most : Int)) = true:=aD (by omega);obtain ⟨qb,qo,e0,_,c0,c1,c2,c3,c4⟩:=(HQ.out.below HB.out).at (j:=i) hin;subst e0;have J5:=Dl.out i hin;have hst:=jM.out i hin;generalize gZ qs i = X at *;obtain ⟨⟨tk,kd,ky,ck,dl⟩,dv⟩:=X;dsimp only at *;obtain ⟨da,dc,rfl,Bf,hd2⟩:=J5.gl;have S7:=zh J5;have OO:=zh hst;have e1:=zMP kd;have e2:=zKM ky;have e3:=zKH ck;clear J5 hst;go_upto_if 41 with fail;have eO:=(aj wr.heap.size wr).alloc (ai _) (.cells #[.int .i64 tk,.int .i64 (1 + kd % 2),.int .u64 ((ky : Int) % 8),.int .u32 ((ck : Int) % 2),.slice da dl.length dc] 63);have HX:=zh (dX.new wr #[.int .i64 tk,.int .i64 (1 + kd % 2),.int .u64 ((ky : Int) % 8),.int .u32 ((ck : Int) % 2),.slice da dl.length dc] 63)
  have hnb : ∀ g,u7.ownBlock = some g → g ≠ wr.heap.size:=fun g hg e => by have:=(HO.out.row.lt g hg).2; omega
  have iV:=zh (HO.out.below eO);have gw:=zh (HB.out.trans (eO.mono hsz));have LO:=zh (show gF _ w.heap.size (.slice da dl.length dc) dl from iA.below (iA.below (iA.old S7.out (ai _)) HB.out) eO);change Code.wp _ _ _ _ (wr.alloc (.cells #[.int .i64 tk,.int .i64 (1 + kd % 2),.int .u64 ((ky : Int) % 8),.int .u32 ((ck : Int) % 2),.slice da dl.length dc] 63));clear eO HO HB S7 c0 c1 c2 c3 c4;generalize KN : wr.heap.size = bR at *;clear KN;generalize wr.alloc (.cells #[.int .i64 tk,.int .i64 (1 + kd % 2),.int .u64 ((ky : Int) % 8),.int .u32 ((ck : Int) % 2),.slice da dl.length dc] 63) = w5 at *
  go_cut [9] (fun pv wx => pv = .pointer (some ⟨bR,0,none⟩) ∧ ∃ (J6 : Option Addr) (J7 : Nat),Hid (dX wx bR #[.int .i64 tk,.int .i64 (1 + kd % 2),.int .u64 ((ky : Int) % 8),.int .u32 ((ck : Int) % 2),.slice J6 (dl.take 30).length J7] 63) ∧ Hid (gF wx w.heap.size (.slice J6 (dl.take 30).length J7) (dl.take 30)) ∧ Hid (ia wx w.heap.size u7 Fa) ∧ Hid (Below w.heap.size w wx))
  case first =>
   have x4:=HX.out.cell (i:=4) rfl
   by_cases h30 : 30 < dl.length
   ·
    have L_:=fun W kh => yX (P:=Tryz.prog) Tp (a:=da) (n:=dl.length) (cap:=dc) (iw.spot LO.out.rd (by omega)) 30 (by omega) W kh
    rw [show ((30 : Nat) : Int) = 30 from rfl] at L_;have hdd : decide ((30 : Int) < (dl.length : Int)) = true:=by simp; omega
    have J8 : (dl.take 30).length = 30:=by rw [ay]; omega
    have FP : dX (w5.setCell ⟨bR,4,none⟩ (.slice da 30 dc)) bR #[.int .i64 tk,.int .i64 (1 + kd % 2),.int .u64 ((ky : Int) % 8),.int .u32 ((ck : Int) % 2),.slice da 30 dc] 63:=by
     have h:=HX.out.set 4 (.slice da 30 dc);simp only [aM,aN,aK] at h;exact h
    have Bk:=zh FP;have CH : iH w5 (w5.setCell ⟨bR,4,none⟩ (.slice da 30 dc)) w.heap.size bR 63:=iH.pts hsz ⟨_,_,HX.out⟩ [(4,.slice da 30 dc)];have ic:=zh (iV.out.jB CH (fun e => hnb _ e rfl) (by decide));have KT:=zh (iA.jB (show gF w5 w.heap.size (.slice da 30 dc) (dl.take 30) from LO.out.J4 (by omega)) CH (by decide));have lL:=zh (zD (B:=w.heap.size) (b:=bR) hsz [(4,.slice da 30 dc)] gw.out);have f4:=HX.out.frozen 4;clear FP CH;go_wp2_with fail;go_meet
    case rel => exact ⟨rfl,da,dc,by rw [J8]; exact Bk,by rw [J8]; exact KT,ic,lL⟩
   have hdd : decide ((30 : Int) < (dl.length : Int)) = false:=by simp; omega
   have he : dl.take 30 = dl:=aH (by omega);go_wp2_with fail;go_meet
   case rel => exact ⟨rfl,da,dc,by rw [he]; exact HX,by rw [he]; exact LO,iV,gw⟩
  clear HX LO iV gw;obtain ⟨rfl,J6,J7,HX,HK,HO,HB⟩:=hcut;generalize wc = w6 at *;have aqX : (dl.take 30).length ≤ 30:=by rw [ay]; omega
  have Ew:=zh (show KR much ⟨tk,kd,ky,ck,dl⟩ = ⟨tk,1 + kd % 2,ky % 8,ck % 2,(if (much && decide (tk % 4 = 0)) = true then List.replicate 4076 0 else []) ++ dl.take 30⟩ from rfl);generalize dl.take 30 = D at *;obtain ⟨pre,hpre⟩ : ∃ pre : List UInt8,(if (much && decide (tk % 4 = 0)) = true then List.replicate 4076 0 else []) = pre:=⟨_,rfl⟩
  rw [hpre] at Ew;have lU:=zh hpre;clear hpre;have e4:=zMM tk;have x0:=HX.out.cell (i:=0) rfl;have x4:=HX.out.cell (i:=4) rfl;obtain ⟨mb,ZQ⟩ : ∃ mb,(much && decide (tk % 4 = 0)) = mb:=⟨_,rfl⟩
  rw [ZQ] at lU;have HMb:=zh ZQ;clear ZQ;go_upto_region 9 with fail
  go_cut [52] (fun bv wx => bv = .bool mb ∧ w6 = wx)
  case first =>
   cases much
   ·
    have ZR:=HMb.out;rw [Bool.false_and] at ZR;subst ZR;go_wp2_with fail;go_meet
    case rel => exact ⟨rfl,rfl⟩
   have ZR : (tk % 4 == 0) = mb:=by
    rw [← HMb.out,cT]
    by_cases h : tk % 4 = 0
    ·
     simp [h]
    simp [h]
   go_wp2_with fail;go_meet
   case rel => exact ⟨rfl,rfl⟩
  obtain ⟨rfl,rfl⟩:=hcut;go_upto_if 52 with fail
  go_cut [9] (fun pv wx => pv = .pointer (some ⟨bR,0,none⟩) ∧ ∃ (D7 : Option Addr) (D8 : Nat) (D2 : List UInt8),Hid (D2 = pre ++ D) ∧ Hid (dX wx bR #[.int .i64 tk,.int .i64 (1 + kd % 2),.int .u64 ((ky : Int) % 8),.int .u32 ((ck : Int) % 2),.slice D7 D2.length D8] 63) ∧ Hid (gF wx w.heap.size (.slice D7 D2.length D8) D2) ∧ Hid (ia wx w.heap.size u7 Fa) ∧ Hid (Below w.heap.size w wx))
  case first =>
   cases mb
   ·
    have S8 : [] = pre:=lU.out;subst S8;go_wp2_with fail;go_meet
    case rel => exact ⟨rfl,J6,J7,D,zh rfl,HX,HK,HO,HB⟩
   have S8 : List.replicate 4076 0 = pre:=lU.out;obtain ⟨zc,hz1,hz2,hmk⟩:=zKd;rw [S8] at hz2;have hpl : pre.length = 4076:=by rw [← S8,dB]
   clear S8 lU;have eO:=zy ((aj w6.heap.size w6).alloc (ai _) (.cells zc 5));have J9 : (World.drew (w6.alloc (.cells zc 5))).ownsRow w6.heap.size 5 1 (.slice (some ⟨w6.heap.size,0,none⟩) 4076 4076) 4076 (pre.map td):=⟨by rw [aI,hpl],.inr ⟨w6.heap.size,4076,zc,rfl,ai _,dg w6 _,ai _,by decide,hz1,by rw [hz2,aH (by rw [aI,hpl]; decide)]⟩⟩
   have HZ:=zh J9;have PV:=zh (HX.out.below eO);have Oc:=zh (iA.below HK.out eO);have hs6 : w6.heap.size ≤ (World.drew (w6.alloc (.cells zc 5))).heap.size:=eO.size
   have Ci:=zh (fun W9 va vc (hown : World.ownsRow W9 w6.heap.size 5 1 (.slice va (4076 + D.length) vc) (4076 + D.length) (pre.map td ++ D.map td)) (hgr : (World.drew (w6.alloc (.cells zc 5))).grownBy W9 (Value.slice (some ⟨w6.heap.size,0,none⟩) 4076 4076).ownBlock) => show dX W9 bR #[.int .i64 tk,.int .i64 (1 + kd % 2),.int .u64 ((ky : Int) % 8),.int .u32 ((ck : Int) % 2),.slice J6 D.length J7] 63 ∧ gF W9 w.heap.size (.slice va (pre ++ D).length vc) (pre ++ D) ∧ ia W9 w.heap.size u7 Fa ∧ Below w6.heap.size w6 W9 by
    have hb:=zL eO J9 hs6 hgr
    refine ⟨HX.out.below hb,?_,HO.out.below hb,hb⟩
    have e : (pre ++ D).length = 4076 + D.length:=by rw [ax,hpl]
    unfold gF
    rw [e,bE]
    exact iA.own hown)
   clear J9 eO hz2;have xa4:=PV.out.cell (i:=4) rfl;have ZS:=zh (show Rd (World.drew (w6.alloc (.cells zc 5))) 1 (.slice J6 D.length J7) D.length (D.map td) from Oc.out.1);go_upto_region 10 with fail
   go_region_law ((refine vP (n:=4076) (m:=D.length) (by rfl) (.tmp 53) (.tmp 55) 54 (by rfl) Tp w6.heap.size (by rfl) HZ.out (by rfl) ZS.out (zC9 D) (by unfold maxLen; omega) (by omega) hs6 ?_; intro v9 w9 eC fB hv2; clear hv2; obtain ⟨pV,pW,hv2,_,_,_⟩:=zM eC; subst hv2; obtain ⟨r1,r2,r3,r4⟩:=Ci.out _ _ _ eC fB; have x9:=r1.cell (i:=4) rfl; have f9:=r1.frozen 4))
   all_goals
    have e : (pre ++ D).length = 4076 + D.length:=by rw [ax,hpl]
    rw [e] at r2;have CH : iH w9 (w9.setCell ⟨bR,4,none⟩ (.slice pV (4076 + D.length) pW)) w.heap.size bR 63:=iH.pts hsz ⟨_,_,r1⟩ [(4,.slice pV (4076 + D.length) pW)];have FP : dX (w9.setCell ⟨bR,4,none⟩ (.slice pV (4076 + D.length) pW)) bR #[.int .i64 tk,.int .i64 (1 + kd % 2),.int .u64 ((ky : Int) % 8),.int .u32 ((ck : Int) % 2),.slice pV (4076 + D.length) pW] 63:=by
     have h:=r1.set 4 (.slice pV (4076 + D.length) pW);simp only [aM,aN,aK] at h;exact h
    have Bk:=zh FP;have KT:=zh (iA.jB r2 CH (by decide));have ic:=zh (r3.jB CH (fun e => hnb _ e rfl) (by decide));have lL:=zh (zD (B:=w.heap.size) (b:=bR) hsz [(4,.slice pV (4076 + D.length) pW)] (HB.out.trans (r4.mono HB.out.size)));clear r1 r2 r3 r4 CH FP x9 f9 eC fB;go_wp2_with fail;go_meet
    case rel => exact ⟨rfl,pV,pW,pre ++ D,zh rfl,by rw [e]; exact Bk,by rw [e]; exact KT,ic,lL⟩
  clear HX HK HO HB lU;obtain ⟨rfl,D7,D8,D2,Pk,HX,HK,HO,HB⟩:=hcut;generalize wc = w7 at *;obtain ⟨oa,oc,Ec,_,_,_⟩:=zM HO.out.row;subst Ec;have S9 : w.heap.size ≤ w7.heap.size:=HB.out.size;have x0:=HX.out.cell (i:=0) rfl;have x1:=HX.out.cell (i:=1) rfl;have x2:=HX.out.cell (i:=2) rfl;have x3:=HX.out.cell (i:=3) rfl;have x4:=HX.out.cell (i:=4) rfl;have eO:=(aj w7.heap.size w7).alloc (ai _) (.cells #[.int .i64 tk,.int .i64 (1 + kd % 2),.int .u64 ((ky : Int) % 8),.int .u32 ((ck : Int) % 2),.slice D7 D2.length D8] 63);have A_:=zh (HO.out.below eO);have ZT:=zh (iA.below HK.out eO);have mF:=zh (HB.out.trans (eO.mono S9));have J_:=zh A_.out.row;have S_:=ak S9 eO.size;clear eO HX HK HO HB
  go_wp2_with (at_builtin; go_must (refine zi (n:=Fa.length) (m:=1) rfl (.tmp 58) (.tmp 60) 60 rfl zMK w.heap.size rfl J_.out rfl (Rd.Da w7.heap.size w7 rfl 5 [.int .i64 tk,.int .i64 (1 + kd % 2),.int .u64 ((ky : Int) % 8),.int .u32 ((ck : Int) % 2),.slice D7 D2.length D8] 63 1 rfl (by decide)) (fun u hu => by simp only [cA,cB,or_false] at hu; rcases hu with h | h | h | h | h <;> rw [h] <;> rfl) (by unfold maxLen; omega) (by omega) S_ ?_); intro v3 w9 eu fh hv3; clear hv3);have ic:=zh (A_.out.push (p:=((⟨tk,1 + kd % 2,ky % 8,ck % 2,D2⟩ : Rq),(.slice D7 D2.length D8 : Value))) ZT.out eu fh);have lL:=zh (zL mF.out J_.out S_ fh);have ZU:=zh (show (Fa ++ [((⟨tk,1 + kd % 2,ky % 8,ck % 2,D2⟩ : Rq),(.slice D7 D2.length D8 : Value))]).map (·.1) = (N.take (i + 1)).map (KR much) by rw [bE,LD.out,OO.out,Ew.out,Pk.out]; rfl)
  have LH : (Fa ++ [((⟨tk,1 + kd % 2,ky % 8,ck % 2,D2⟩ : Rq),(.slice D7 D2.length D8 : Value))]).length = i + 1:=by rw [ax,hl]; rfl
  clear eu fh;go_wp2_with fail;exact ⟨⟨i + 1,_,by go_num,by omega,by omega,LH,ic,ZU,lL⟩,by simp [intOf]; omega⟩
 have Kq:=zh (HE.out i hi hi2 hin)
 by_cases h5 : i < n
 ·
  have i2 : decide ((i : Int) < (n : Int)) = true:=aD (by omega);have i3 : decide ((i : Int) < (most : Int)) = false:=aC (by omega);go_wp2_with fail;go_ret;exact ⟨_,Fa,rfl,HO.out,by rw [LD.out,Kq.out],HB.out⟩
 have i2 : decide ((i : Int) < (n : Int)) = false:=aC (by omega);go_wp2_with fail;go_ret;exact ⟨_,Fa,rfl,HO.out,by rw [LD.out,Kq.out],HB.out⟩
theorem zKU (n : Nat) : bits .and .u32 (n : Int) 3 = ((n % 4 : Nat) : Int):=by
 have hm : (BitVec.ofInt 32 3).toNat = 2 ^ 2 - 1:=by decide
 have key : (BitVec.ofInt 32 (n : Int) &&& BitVec.ofInt 32 3).toNat = ((n : Int) % ((2 ^ 32 : Nat) : Int)).toNat % 2 ^ 2:=by
  rw [BitVec.toNat_and,BitVec.toNat_ofInt,hm,dU]
 show IntKind.u32.wrap ((BitVec.ofInt 32 (n : Int) &&& BitVec.ofInt 32 3).toNat : Nat) = _
 rw [key];simp [IntKind.wrap,IntKind.signed,IntKind.bits];omega
theorem fW.OP {W W' : World} {B b : Nat} {T' : TypeId} {v : Value} {es : List (Nd × Value)} (h : fW W B v es) (ho : iH W W' B b T') (h1 : v.ownBlock ≠ some b) (h2 : 5 ≠ T') : fW W' B v es:=by
 obtain ⟨h3,h4⟩:=h;refine ⟨⟨h3.1,?_⟩,fun p hp => iA.jB (h4 p hp) ho h2⟩;rcases h3.2 with h5 | ⟨g,cap,cur,e,hb,hg,h6⟩
 ·
  exact .inl h5
 exact .inr ⟨g,cap,cur,e,hb,by rw [ho.blk g (Array.getElem?_eq_some_iff.1 hg).1 (fun e2 => h1 (by rw [e,e2]; rfl))]; exact hg,h6⟩
theorem fW.nil (W : World) (B : Nat) : fW W B (.slice none 0 0) []:=⟨aU _ _ _ _,fun p hp => by cases hp⟩
theorem fW.push {W W' : World} {B : Nat} {v v' : Value} {es : List (Nd × Value)} {p : Nd × Value} (h : fW W B v es) (hd : gF W B p.2 p.1.data) (ho : W'.ownsRow B 56 4 v' (es.length + 1) (wU es ++ uB p)) (hg : W.grownBy W' v.ownBlock) : fW W' B v' (es ++ [p]):=by
 have hO : gM W W' B 56:=gM.row h.row hg (ai _);refine ⟨?_,fun x hx => ?_⟩
 ·
  have e : wU (es ++ [p]) = wU es ++ uB p:=by unfold wU; rw [cC]; simp
  rw [e,ax]; exact ho
 rcases List.mem_append.1 hx with hx | hx
 ·
  exact iA.gD (h.dat x hx) hO (by decide)
 obtain rfl:=List.mem_singleton.1 hx;exact iA.gD hd hO (by decide)
theorem zFe (v : Value) (ns : List (Nd × Value)) (most : Nat) (w : World) (h : mr w v ns) (hm : most ≤ 1000) :
  Calls Tryz.prog 37 #[v,.int .i64 (most : Int)] w fun e w' => ∃ v' es,e = .returned v' ∧ fW w' w.heap.size v' es ∧ es.map (·.1) = Ja most (ns.map (·.1)) ∧ Below w.heap.size w w':=by
 obtain ⟨a,cap,rfl,h1,h2⟩:=h.shape;have HQ:=zh h;have Dl:=zh (fun i (hi : i < ns.length) => h.dat _ (uk hi))
 have jM:=zh (show ∀ i,i < ns.length → ((ns.map (·.1)).take (i + 1)).map KQ = ((ns.map (·.1)).take i).map KQ ++ [KQ (xW ns i).1] from fun i hi => by
  rw [cz,b9,aB hi,bE]
  unfold xW
  rw [aw,aB hi]; rfl)
 have HE:=zh (show ∀ i,i ≤ ns.length → i ≤ most → ¬ (i < ns.length ∧ i < most) → ((ns.map (·.1)).take i).map KQ = Ja most (ns.map (·.1)) from fun i h1 h2 h3 => by
  unfold Ja
  by_cases e : i = most
  ·
   rw [e]
  rw [aH (by rw [aI]; omega),aH (by rw [aI]; omega)])
 clear h;generalize hn : ns.length = n at *;clear hn;generalize ns.map (·.1) = N at *
 go_enter Tryz.func37,Tryz.ntmps37
 go_wp2_with fail
 go_loopw [5,6] (fun ov iv W => ∃ (i : Nat) (es : List (Nd × Value)),iv = .int .i64 (i : Int) ∧ i ≤ n ∧ i ≤ most ∧ es.length = i ∧ Hid (fW W w.heap.size ov es) ∧ Hid (es.map (·.1) = (N.take i).map KQ) ∧ Hid (Below w.heap.size w W)) (fun _ iv _ => n - (intOf iv).toNat)
 case atStart => exact ⟨0,[],rfl,aq _,aq _,rfl,zh (fW.nil _ _),zh rfl,zh (aj _ _)⟩
 obtain ⟨i,es,rfl,hi,hi2,hl,HO,LD,HB⟩:=hrel;have hsz : w.heap.size ≤ wr.heap.size:=HB.out.size
 by_cases hin : i < n ∧ i < most
 ·
  obtain ⟨hin,him⟩:=hin;have i1 : (i : Int) < (n : Int):=by omega
  have i2 : decide ((i : Int) < (n : Int)) = true:=aD i1;have i3 : decide ((i : Int) < (most : Int)) = true:=aD (by omega);obtain ⟨qb,qo,e0,_,c0,c1,c2,c3⟩:=(HQ.out.below HB.out).at (j:=i) hin;subst e0;have J5:=Dl.out i hin;have hst:=jM.out i hin;generalize xW ns i = X at *;obtain ⟨⟨ky,ck,dd,dl⟩,dv⟩:=X;dsimp only at *;obtain ⟨da,dc,rfl,Bf,hd2⟩:=J5.gl;have S7:=zh J5;have OO:=zh hst;have e2:=zKM ky;have e3:=zKU ck;clear J5 hst;go_upto_if 26 with fail;have eO:=(aj wr.heap.size wr).alloc (ai _) (.cells #[.int .u64 (ky : Int),.int .u32 (ck : Int),.bool dd,.slice da dl.length dc] 56);have HX:=zh (dX.new wr #[.int .u64 (ky : Int),.int .u32 (ck : Int),.bool dd,.slice da dl.length dc] 56);have hnb : ∀ g,u5.ownBlock = some g → g ≠ wr.heap.size:=fun g hg e => by have:=(HO.out.row.lt g hg).2; omega
  have iV:=zh (HO.out.below eO);have gw:=zh (HB.out.trans (eO.mono hsz));have LO:=zh (show gF _ w.heap.size (.slice da dl.length dc) dl from iA.below (iA.below (iA.old S7.out (ai _)) HB.out) eO);change Code.wp _ _ _ _ (wr.alloc (.cells #[.int .u64 (ky : Int),.int .u32 (ck : Int),.bool dd,.slice da dl.length dc] 56));clear eO HO HB S7 c0 c1 c2 c3;generalize KN : wr.heap.size = bR at *;clear KN;generalize wr.alloc (.cells #[.int .u64 (ky : Int),.int .u32 (ck : Int),.bool dd,.slice da dl.length dc] 56) = w5 at *
  go_cut [7] (fun pv wx => pv = .pointer (some ⟨bR,0,none⟩) ∧ ∃ (J6 : Option Addr) (J7 : Nat),Hid (dX wx bR #[.int .u64 (ky : Int),.int .u32 (ck : Int),.bool dd,.slice J6 (dl.take 30).length J7] 56) ∧ Hid (gF wx w.heap.size (.slice J6 (dl.take 30).length J7) (dl.take 30)) ∧ Hid (fW wx w.heap.size u5 es) ∧ Hid (Below w.heap.size w wx))
  case first =>
   have x4:=HX.out.cell (i:=3) rfl
   by_cases h30 : 30 < dl.length
   ·
    have L_:=fun W kh => yX (P:=Tryz.prog) Tp (a:=da) (n:=dl.length) (cap:=dc) (iw.spot LO.out.rd (by omega)) 30 (by omega) W kh
    rw [show ((30 : Nat) : Int) = 30 from rfl] at L_;have hdd : decide ((30 : Int) < (dl.length : Int)) = true:=by simp; omega
    have J8 : (dl.take 30).length = 30:=by rw [ay]; omega
    have FP : dX (w5.setCell ⟨bR,3,none⟩ (.slice da 30 dc)) bR #[.int .u64 (ky : Int),.int .u32 (ck : Int),.bool dd,.slice da 30 dc] 56:=by
     have h:=HX.out.set 3 (.slice da 30 dc);simp only [aM,aN,aK] at h;exact h
    have Bk:=zh FP;have CH : iH w5 (w5.setCell ⟨bR,3,none⟩ (.slice da 30 dc)) w.heap.size bR 56:=iH.pts hsz ⟨_,_,HX.out⟩ [(3,.slice da 30 dc)];have ic:=zh (iV.out.OP CH (fun e => hnb _ e rfl) (by decide));have KT:=zh (iA.jB (show gF w5 w.heap.size (.slice da 30 dc) (dl.take 30) from LO.out.J4 (by omega)) CH (by decide));have lL:=zh (zD (B:=w.heap.size) (b:=bR) hsz [(3,.slice da 30 dc)] gw.out);have f4:=HX.out.frozen 3;clear FP CH;go_wp2_with fail;go_meet
    case rel => exact ⟨rfl,da,dc,by rw [J8]; exact Bk,by rw [J8]; exact KT,ic,lL⟩
   have hdd : decide ((30 : Int) < (dl.length : Int)) = false:=by simp; omega
   have he : dl.take 30 = dl:=aH (by omega);go_wp2_with fail;go_meet
   case rel => exact ⟨rfl,da,dc,by rw [he]; exact HX,by rw [he]; exact LO,iV,gw⟩
  clear HX LO iV gw;obtain ⟨rfl,J6,J7,HX,HK,HO,HB⟩:=hcut;generalize wc = w6 at *;have Ew:=zh (show KQ ⟨ky,ck,dd,dl⟩ = ⟨ky % 8,ck % 4,dd,if dd then [] else dl.take 30⟩ from rfl);generalize dl.take 30 = D at *;have x2:=HX.out.cell (i:=2) rfl;go_upto_if 32 with fail
  go_cut [7] (fun pv wx => pv = .pointer (some ⟨bR,0,none⟩) ∧ ∃ (D7 : Option Addr) (D8 : Nat) (D2 : List UInt8),Hid (D2 = if dd then [] else D) ∧ Hid (dX wx bR #[.int .u64 (ky : Int),.int .u32 (ck : Int),.bool dd,.slice D7 D2.length D8] 56) ∧ Hid (gF wx w.heap.size (.slice D7 D2.length D8) D2) ∧ Hid (fW wx w.heap.size u5 es) ∧ Hid (Below w.heap.size w wx))
  case first =>
   cases dd
   ·
    go_wp2_with fail;go_meet
    case rel => exact ⟨rfl,J6,J7,D,zh rfl,HX,HK,HO,HB⟩
   have x3:=HX.out.cell (i:=3) rfl;have f3:=HX.out.frozen 3;have FP : dX (w6.setCell ⟨bR,3,none⟩ (.slice none 0 0)) bR #[.int .u64 (ky : Int),.int .u32 (ck : Int),.bool true,.slice none 0 0] 56:=by
    have h:=HX.out.set 3 (.slice none 0 0);simp only [aM,aN,aK] at h;exact h
   have Bk:=zh FP;have CH : iH w6 (w6.setCell ⟨bR,3,none⟩ (.slice none 0 0)) w.heap.size bR 56:=iH.pts hsz ⟨_,_,HX.out⟩ [(3,.slice none 0 0)];have ic:=zh (HO.out.OP CH (fun e => hnb _ e rfl) (by decide));have KT:=zh (show gF (w6.setCell ⟨bR,3,none⟩ (.slice none 0 0)) w.heap.size (.slice none 0 0) [] from ⟨⟨rfl,none,0,rfl,ai _,aq _,fun _ => rfl,fun h => (by cases h)⟩,fun g hg => (by cases hg)⟩);have lL:=zh (zD (B:=w.heap.size) (b:=bR) hsz [(3,.slice none 0 0)] HB.out);clear FP CH;go_wp2_with fail;go_meet
   case rel => exact ⟨rfl,none,0,[],zh rfl,Bk,KT,ic,lL⟩
  clear HX HK HO HB;obtain ⟨rfl,D7,D8,D2,Pk,HX,HK,HO,HB⟩:=hcut;generalize wc = w7 at *;have x0:=HX.out.cell (i:=0) rfl;have x1:=HX.out.cell (i:=1) rfl;have f0:=HX.out.frozen 0;have f1:=HX.out.frozen 1;have FP : dX (pts w7 bR [(0,.int .u64 ((ky : Int) % 8)),(1,.int .u32 ((ck : Int) % 4))]) bR #[.int .u64 ((ky : Int) % 8),.int .u32 ((ck : Int) % 4),.bool dd,.slice D7 D2.length D8] 56:=by
   have h:=dX.sets [(0,.int .u64 ((ky : Int) % 8)),(1,.int .u32 ((ck : Int) % 4))] HX.out;simp only [cG,cV,aM,aN,aK] at h;exact h
  have CH : iH w7 (pts w7 bR [(0,.int .u64 ((ky : Int) % 8)),(1,.int .u32 ((ck : Int) % 4))]) w.heap.size bR 56:=iH.pts hsz ⟨_,_,HX.out⟩ _;have ic:=zh (HO.out.OP CH (fun e => hnb _ e rfl) (by decide));have KT:=zh (iA.jB HK.out CH (by decide));have lL:=zh (zD (B:=w.heap.size) (b:=bR) hsz [(0,.int .u64 ((ky : Int) % 8)),(1,.int .u32 ((ck : Int) % 4))] HB.out);have Bk:=zh FP;clear FP CH HX HK HO HB;go_upto_region 12 with fail;change Code.wp _ _ _ _ (pts w7 bR [(0,.int .u64 ((ky : Int) % 8)),(1,.int .u32 ((ck : Int) % 4))]);generalize pts w7 bR [(0,.int .u64 ((ky : Int) % 8)),(1,.int .u32 ((ck : Int) % 4))] = w8 at *;clear x0 x1 f0 f1;have x0:=Bk.out.cell (i:=0) rfl;have x1:=Bk.out.cell (i:=1) rfl;have x2:=Bk.out.cell (i:=2) rfl;have x3:=Bk.out.cell (i:=3) rfl;obtain ⟨oa,oc,Ec,_,_,_⟩:=zM ic.out.row;subst Ec
  have S9 : w.heap.size ≤ w8.heap.size:=lL.out.size;have eO:=(aj w8.heap.size w8).alloc (ai _) (.cells #[.int .u64 ((ky : Int) % 8),.int .u32 ((ck : Int) % 4),.bool dd,.slice D7 D2.length D8] 56);have A_:=zh (ic.out.below eO);have ZT:=zh (iA.below KT.out eO);have mF:=zh (lL.out.trans (eO.mono S9));have J_:=zh A_.out.row;have S_:=ak S9 eO.size;clear eO Bk KT ic lL;go_wp2_with (at_builtin; go_must (refine zi (n:=es.length) (m:=1) rfl (.tmp 42) (.tmp 44) 23 rfl Xj w.heap.size rfl J_.out rfl (Rd.Da w8.heap.size w8 rfl 4 [.int .u64 ((ky : Int) % 8),.int .u32 ((ck : Int) % 4),.bool dd,.slice D7 D2.length D8] 56 1 rfl (by decide)) (fun u hu => by simp only [cA,cB,or_false] at hu; rcases hu with h | h | h | h <;> rw [h] <;> rfl) (by unfold maxLen; omega) (by omega) S_ ?_); intro v3 w9 eu fh hv3; clear hv3)
  have ic:=zh (A_.out.push (p:=((⟨ky % 8,ck % 4,dd,D2⟩ : Nd),(.slice D7 D2.length D8 : Value))) ZT.out eu fh);have lL:=zh (zL mF.out J_.out S_ fh);have ZU:=zh (show (es ++ [((⟨ky % 8,ck % 4,dd,D2⟩ : Nd),(.slice D7 D2.length D8 : Value))]).map (·.1) = (N.take (i + 1)).map KQ by rw [bE,LD.out,OO.out,Ew.out,Pk.out]; rfl);have LH : (es ++ [((⟨ky % 8,ck % 4,dd,D2⟩ : Nd),(.slice D7 D2.length D8 : Value))]).length = i + 1:=by rw [ax,hl]; rfl
  clear eu fh;go_wp2_with fail;exact ⟨⟨i + 1,_,by go_num,by omega,by omega,LH,ic,ZU,lL⟩,by simp [intOf]; omega⟩
 have Kq:=zh (HE.out i hi hi2 hin)
 by_cases h5 : i < n
 ·
  have i2 : decide ((i : Int) < (n : Int)) = true:=aD (by omega);have i3 : decide ((i : Int) < (most : Int)) = false:=aC (by omega);go_wp2_with fail;go_ret;exact ⟨_,es,rfl,HO.out,by rw [LD.out,Kq.out],HB.out⟩
 have i2 : decide ((i : Int) < (n : Int)) = false:=aC (by omega);go_wp2_with fail;go_ret;exact ⟨_,es,rfl,HO.out,by rw [LD.out,Kq.out],HB.out⟩
end Go.Proofs.YtcgfilmmokmdjaaGreat
