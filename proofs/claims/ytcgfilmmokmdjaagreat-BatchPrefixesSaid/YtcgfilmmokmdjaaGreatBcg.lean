/- A part of the walk. -/
import Derived.Test.YtcgfilmmokmdjaaGreatQAZ
set_option linter.all false
set_option maxRecDepth 100000
set_option maxHeartbeats 32000000
namespace Go.Proofs.YtcgfilmmokmdjaaGreat
open Go.RowKit Go.Maps
theorem zNC {u0 u1 u2 u3 u4 u5 u6 u7 u8 u9 u10 u11 u12 u13 u14 u15 u16 FR FT FU FV u23 u24 FW u26 Jd u28 KW Iu Ke u32 u33 Iv FX u36 Iw u38 Iy Iz FY FZ F0 u44 u45 F2 F3 F4 F5 F6 F7 F8 F9 Ga Gb Gc Gd Ge Gf Gg Gh Gi Gj u64 Gk Gl Gm Gq Gr Gs Gt Gu Gv Gw Gx Gy Gz GD GF GG GH GI GK GM GN GQ GR GU GV GX GY GZ G0 G1 G4 G5 G6 G7 G8 mN mO mP mQ mR mS mU mV mW mX mY mZ ng nh ni nj nk np nt nu nw ny nz nA nB nC nD nE nG nH nI nJ nK nL nM nN nO nP u138 nQ nR nU nV nW nX nY nZ n9 n_ od oh ou oz oA oB oC oD oF oG oH oI oJ oK oL oM oO oP oQ oT oU oV oW oZ o5 o6 o7 rD rE rF rG rH rI rJ rK rL rM rO rP rQ rR BA u193 BD BF BG BH u198 BI BJ BK BL BM BN rS rT rU rV rW rX rY rZ r_ sj sq sr BO BP BQ BR BS BU BV BW su o8 o9 o_ pd pg pj sw sx sB sD sF sI sJ sK sL pq px pE pF pH pI pJ pK pM pN pO pP sM sN sP sR sS sU sV sW sX sY sZ t_ u_ w_ y_ z_ Aa Ab Ac Ad Ae Af Ag Ah Ai Aj Ak Al Am Ao Ap Aq Ar Au Av Aw Ay Az AB AE AG AH AI AK AL AO AP AQ AU AV AW AX AY AZ A0 A1 A2 A3 A4 A5 A6 A7 pQ : Value} {K : Act → World → Prop} {Q : Exit → Act → World → Prop} {v0 wB : World} {jF bk ok kc : Nat} {num : Int} {a1 lH : Option Addr} {n1 c1 lI l0 r k kn : Nat} {L1 : List GP} {keys : List Int} {t0 t1 : eL}
  (i1 : (k : Int) < (kn : Int)) (Em : n1 ≤ 8) (hr1 : r + 1 < n1) (LH : l0 ≤ 9000) (Md : L1.length = n1) (O_ : keys.length ≤ 1000) (Tf : keys.length ≤ lI)
  (c0 : v0.cell? ⟨bk,ok + k * 2,none⟩ = some (.int .i64 num)) (Tg : v0.cell? ⟨bk,ok + k * 2 + 1,none⟩ = some (.slice lH keys.length lI))
  (OD : Hid (∀ x,lH = some x → ∃ b off,x = ⟨b,off,none⟩)) (U9 : Hid (∀ W2,Below jF wB W2 → lJ W2 (.slice lH keys.length lI) keys))
  (HO : Hid (dX v0 jF (zN 1 9000 false a1 n1 c1) 27)) (eY : Hid (fH v0 (.slice a1 n1 c1) L1)) (p_ : Hid (ea L1 = t0.dW)) (fg : Hid (Below jF wB v0))
  (U_ : Hid (∀ q,q < n1 → q ≠ r → (eB t0.dW q).num ≠ num)) (gj : Hid (num = (eB t0.dW r).num)) (ED : Hid (yY (eB t0.dW r) (keys.take l0) = (0,yR (eB t0.dW r) (keys.take l0))))
  (Va : Hid (yM t0 (yR (eB t0.dW r) (keys.take l0)) = (t1,0))) (LX : Hid ((⟨1,9000,false,t0.dW⟩ : eL) = t0)) (Vb : Hid ((⟨1,9000,false,t1.dW⟩ : eL) = t1)) (KY : Hid (fA 700 t0.dW))
  (HK : Hid (∀ (v6 v24 v26 v27 v28 v29 v30 abt abu abv abw v182 v183 abx aby abz abA abB abC abD abE OW v193 v194 OX v196 OY v198 OZ O0 v201 O1 v203 O2 abF v206 abG v208 abH v210 abI v212 abJ abK abL abM O3 v218 O4 O5 O6 v222 O7 O8 abN : Value) (a2 : Option Addr) (n2 c2 : Nat) (L2 : List GP) (W' : World),Hid (dX W' jF (zN 1 9000 false a2 n2 c2) 27) → Hid (fH W' (.slice a2 n2 c2) L2) → Hid (ea L2 = t1.dW) → Hid (Below jF wB W') → K ⟨#[u0,u1,u2,u3,u4,u5,v6,u7,u8,u9,u10,u11,u12,u13,u14,u15,u16,FR,FT,FU,FV,.int .i64 ((l0 - keys.length : Nat) : Int),.pointer (some ⟨jF,0,none⟩),u23,v24,FW,v26,v27,v28,v29,v30,Ke,u32,u33,Iv,FX,u36,Iw,u38,Iy,Iz,FY,FZ,F0,u44,u45,F2,F3,F4,F5,F6,F7,F8,F9,Ga,Gb,Gc,Gd,Ge,Gf,Gg,Gh,Gi,Gj,u64,Gk,Gl,Gm,Gq,Gr,Gs,Gt,Gu,Gv,Gw,Gx,Gy,Gz,GD,GF,GG,GH,GI,GK,GM,GN,GQ,GR,GU,GV,GX,GY,GZ,G0,G1,G4,G5,G6,G7,G8,mN,mO,mP,mQ,mR,mS,mU,mV,mW,mX,mY,mZ,ng,nh,ni,nj,nk,np,nt,nu,nw,ny,nz,nA,nB,nC,nD,nE,nG,nH,nI,nJ,nK,nL,nM,nN,nO,nP,u138,nQ,nR,nU,nV,nW,nX,nY,nZ,n9,n_,od,oh,ou,oz,oA,oB,oC,oD,oF,oG,oH,oI,oJ,oK,oL,oM,oO,oP,oQ,oT,oU,oV,oW,oZ,o5,.slice (some ⟨bk,ok,none⟩) kn kc,o6,.int .i64 (k : Int),o7,abt,abu,abv,abw,v182,v183,abx,aby,abz,abA,abB,abC,abD,abE,OW,v193,v194,OX,v196,OY,v198,OZ,O0,v201,O1,v203,O2,abF,v206,abG,v208,abH,v210,abI,v212,abJ,abK,abL,abM,O3,v218,O4,O5,O6,v222,O7,O8,abN,o8,o9,o_,pd,pg,pj,sw,sx,sB,sD,sF,sI,sJ,sK,sL,pq,px,pE,pF,pH,pI,pJ,pK,pM,pN,pO,pP,sM,sN,sP,sR,sS,sU,sV,sW,sX,sY,sZ,t_,u_,w_,y_,z_,Aa,Ab,Ac,Ad,Ae,Af,Ag,Ah,Ai,Aj,Ak,Al,Am,Ao,Ap,Aq,Ar,Au,Av,Aw,Ay,Az,AB,AE,AG,AH,AI,AK,AL,AO,AP,AQ,AU,AV,AW,AX,AY,AZ,A0,A1,A2,A3,A4,A5,A6,A7,pQ],[]⟩ W')) :
  Code.wp Tryz.prog (pfB 5) (Exit.then K Q) ⟨#[u0,u1,u2,u3,u4,u5,u6,u7,u8,u9,u10,u11,u12,u13,u14,u15,u16,FR,FT,FU,FV,.int .i64 (l0 : Int),.pointer (some ⟨jF,0,none⟩),u23,u24,FW,u26,Jd,u28,KW,Iu,Ke,u32,u33,Iv,FX,u36,Iw,u38,Iy,Iz,FY,FZ,F0,u44,u45,F2,F3,F4,F5,F6,F7,F8,F9,Ga,Gb,Gc,Gd,Ge,Gf,Gg,Gh,Gi,Gj,u64,Gk,Gl,Gm,Gq,Gr,Gs,Gt,Gu,Gv,Gw,Gx,Gy,Gz,GD,GF,GG,GH,GI,GK,GM,GN,GQ,GR,GU,GV,GX,GY,GZ,G0,G1,G4,G5,G6,G7,G8,mN,mO,mP,mQ,mR,mS,mU,mV,mW,mX,mY,mZ,ng,nh,ni,nj,nk,np,nt,nu,nw,ny,nz,nA,nB,nC,nD,nE,nG,nH,nI,nJ,nK,nL,nM,nN,nO,nP,u138,nQ,nR,nU,nV,nW,nX,nY,nZ,n9,n_,od,oh,ou,oz,oA,oB,oC,oD,oF,oG,oH,oI,oJ,oK,oL,oM,oO,oP,oQ,oT,oU,oV,oW,oZ,o5,.slice (some ⟨bk,ok,none⟩) kn kc,o6,.int .i64 (k : Int),o7,rD,rE,rF,rG,rH,rI,rJ,rK,rL,rM,rO,rP,rQ,rR,BA,u193,BD,BF,BG,BH,u198,BI,BJ,BK,BL,BM,BN,rS,rT,rU,rV,rW,rX,rY,rZ,r_,sj,sq,sr,BO,BP,BQ,BR,BS,BU,BV,BW,su,o8,o9,o_,pd,pg,pj,sw,sx,sB,sD,sF,sI,sJ,sK,sL,pq,px,pE,pF,pH,pI,pJ,pK,pM,pN,pO,pP,sM,sN,sP,sR,sS,sU,sV,sW,sX,sY,sZ,t_,u_,w_,y_,z_,Aa,Ab,Ac,Ad,Ae,Af,Ag,Ah,Ai,Aj,Ak,Al,Am,Ao,Ap,Aq,Ar,Au,Av,Aw,Ay,Az,AB,AE,AG,AH,AI,AK,AL,AO,AP,AQ,AU,AV,AW,AX,AY,AZ,A0,A1,A2,A3,A4,A5,A6,A7,pQ],[]⟩ v0:=by
 conv => arg 2; whnf
 go_upto_region 31 with fail;clear c0 Tg;change Code.wp _ _ _ _ (v0.alloc (.cells #[.int .i64 num,.slice lH keys.length lI] 89));have eU:=(aj v0.heap.size v0).alloc (ai _) (.cells #[.int .i64 num,.slice lH keys.length lI] 89);have l7:=zh (dX.new v0 #[.int .i64 num,.slice lH keys.length lI] 89);have KX:=HO.out.lt;replace HO:=zh (HO.out.below eU);replace eY:=zh (eY.out.below eU);replace fg:=zh (fg.out.trans (eU.mono (by omega)));clear eU;generalize v0.alloc (.cells #[.int .i64 num,.slice lH keys.length lI] 89) = wD at *;generalize v0.heap.size = Ey at *;have MU:=KX;have k3:=(dX.iu HO.out).c3;go_wp2_with fail
 go_loopw [21,183] (fun lv jv V => ∃ (j l2 : Nat) (a2 : Option Addr) (n2 c2 : Nat) (L2 : List GP),lv = .int .i64 (l2 : Int) ∧ jv = .int .i64 (j : Int) ∧ j ≤ n1 ∧ Hid (dX V jF (zN 1 9000 false a2 n2 c2) 27) ∧ Hid (fH V (.slice a2 n2 c2) L2) ∧ Hid ((j ≤ r ∧ l2 = l0 ∧ ea L2 = t0.dW) ∨ (r < j ∧ l2 = l0 - keys.length ∧ ea L2 = t1.dW)) ∧ Hid (fH V (.slice a1 n1 c1) L1) ∧ Hid (dX V Ey #[.int .i64 num,.slice lH keys.length lI] 89) ∧ Hid (Below jF wB V)) (fun _ jv _ => n1 - (intOf jv).toNat)
 case atStart => exact ⟨0,l0,a1,n1,c1,L1,rfl,rfl,aq _,HO,eY,zh (.inl ⟨aq _,rfl,p_.out⟩),eY,l7,fg⟩
 clear HO eY l7 fg;obtain ⟨j,l2,a2,n2,c2,L2,rfl,rfl,hj,HO,Ez,HDj,eY,l7,fg⟩:=hrel
 by_cases hjn : j < n1
 ·
  have i2 : (j : Int) < (n1 : Int):=by omega
  obtain ⟨gb,go,e0,hat⟩:=eY.out.at hjn;subst e0;have Ti : (eB t0.dW j) = (pat L1 j).1:=by rw [← p_.out]; exact xJ
  have hmp:=eY.out.m _ (xN (show j < L1.length by omega));have hne:=U_.out j hjn;rw [Ti] at hne;generalize pat L1 j = p at *;obtain ⟨⟨pn,pr,pm,pz,⟨pf,pL,pG⟩⟩,ps⟩:=p;dsimp only at Ti hmp hne hat;obtain ⟨q0,q1,q2,q3,q4,q5,q6,q7,q8,q9,FC,FD,FE,FF⟩:=hat.q;dsimp only at q0 q1 q2 q3 q4 q5 q6 q7 q8 q9 FC FD FE FF;clear hat;go_upto_region 34 with fail;clear q0 q1 q2 q3 q4 q5 q6 q7 q8 q9 FC FD FE FF;change Code.wp _ _ _ _ (wr.alloc (.cells (zQ pn pr pm pz ps pL pG) 38));have eU:=zb wr pn pr pm pz ps pL pG 38;have HX:=zh (dX.new wr (zQ pn pr pm pz ps pL pG) 38);have KX:=HO.out.lt;replace HO:=zh (HO.out.below eU);replace Ez:=zh (Ez.out.below eU);replace eY:=zh (eY.out.below eU);replace l7:=zh (l7.out.below eU);replace fg:=zh (fg.out.trans (eU.mono (by omega)));have Bc:=zh (hmp.below eU);clear eU hmp
  generalize wr.alloc (.cells (zQ pn pr pm pz ps pL pG) 38) = vN at *;generalize wr.heap.size = bX at *;have x0:=HX.out.cell (i:=0) rfl;have y0:=l7.out.cell (i:=0) rfl
  by_cases Pn : j = r
  ·
   subst Pn;obtain ⟨_,h2,h3⟩ | ⟨h,_⟩:=HDj.out
   ·
    subst h2;have e1 : (pn != num) = false:=by
     have epn : num = pn:=by rw [gj.out,Ti]
     simp [epn]
    have Kg:=ED.out;have Kh:=Va.out;rw [Ti] at Kg Kh
    have HS7:=zh (show ∀ i,i < 8 → (pf i).length ≤ 700 from by
     have h1:=KY.out (eB t0.dW j) (ux (by rw [← p_.out,yB]; omega))
     rw [Ti] at h1; exact h1)
    have N3:=zh (show ∀ i,i < 8 → ((yR ⟨pn,pr,pm,pz,⟨pf,pL,pG⟩⟩ (keys.take l2)).m.st i).length ≤ 10000 from by
     have h1:=zBw ⟨pn,pr,pm,pz,⟨pf,pL,pG⟩⟩ (keys.take l2) (K:=700) HS7.out
     rw [Kg] at h1
     exact fun i hi => ak (h1 i hi) (by decide))
    generalize yR ⟨pn,pr,pm,pz,⟨pf,pL,pG⟩⟩ (keys.take l2) = D at *;obtain ⟨dn,dr,dm,dz,⟨df,dL,dG⟩⟩:=D;obtain ⟨mn,hmn⟩ : ∃ mn,mn = min l2 keys.length:=⟨_,rfl⟩
    have hmk : keys.take mn = keys.take l2:=by
     rw [hmn]
     by_cases h : l2 ≤ keys.length
     ·
      rw [bJ h]
     rw [Nat.min_eq_right (by omega),aH (ai _),aH (by omega)]
    have OV : min (l2 : Int) (keys.length : Int) = (mn : Int):=by omega
    have abQ : mn ≤ keys.length:=by omega
    have DN:=zh (yX (P:=Tryz.prog) Yy (a:=lH) (n:=keys.length) (cap:=lI) OD.out mn (by omega))
    have IZ:=zh (fun W2 (hb : Below vN.heap.size vN W2) => show Calls Tryz.prog 29 #[zV pn pr pm pz ps pL pG,.slice lH mn lI] W2 (Kv W2 (0,⟨dn,dr,dm,dz,⟨df,dL,dG⟩⟩)) from by
     have hU:=iw.take (U9.out W2 (fg.out.trans (hb.mono (by have:=HX.out.lt; have:=HO.out.lt; omega)))) mn abQ
     rw [hmk] at hU
     have h:=zFF ⟨pn,pr,pm,pz,⟨pf,pL,pG⟩⟩ ps (.slice lH mn lI) (keys.take l2) W2 (Bc.out.below hb) (fun i hi => ak (HS7.out i hi) (by decide)) hU (by rw [ay]; omega)
     rw [Kg] at h; exact h)
    clear Kg hmk;go_upto_region 35 with fail;clear x0 y0;refine zM4 HX l7 OV DN IZ (zh ?_);intro _ _ _ _ _ _ _ _ _ _ _ _ _ bG s9 w3 hlo JA Og fK;have KX:=HO.out.lt;replace HO:=zh (HO.out.below fK.out);replace Ez:=zh (Ez.out.below fK.out);replace eY:=zh (eY.out.below fK.out);replace l7:=zh (l7.out.below fK.out);replace fg:=zh (fg.out.trans (fK.out.mono (by omega)));clear fK IZ HX Bc DN HS7;have hct : yM ⟨1,9000,false,ea L2⟩ ⟨dn,dr,dm,dz,⟨df,dL,dG⟩⟩ = ((⟨1,9000,false,t1.dW⟩ : eL),0):=by
     rw [h3,LX.out,Kh,← Vb.out]
    have Bz:=zh (zEu 1 9000 false a2 n2 c2 L2 w3 Ez.out (vI (show fA 700 (ea L2) from by rw [h3]; exact KY.out) (by decide)) (⟨dn,dr,dm,dz,⟨df,dL,dG⟩⟩,s9) Og.out N3.out);rw [hct] at Bz;dsimp only at Bz;clear hct Kh;obtain ⟨k0,k1,k2,k3⟩:=(dX.iu HO.out).q;obtain ⟨g0,g1,g2,g3,g4,g5,g6,g7,g8,g9,g10,g11,g12,g13⟩:=JA.out.gen.q;go_wp2_with fail;refine Bz.out.mono ?_;rintro e w4 ⟨⟨xa,xn,xc,xL,rfl,Kc,Fb⟩,hb⟩;dsimp only at Fb ⊢;clear k0 k1 k2 k3 g0 g1 g2 g3 g4 g5 g6 g7 g8 g9 g10 g11 g12 g13 Bz JA Og Ez;have arz:=HO.out.lt;have jy:=zh Kc;have gC:=zh Fb;replace HO:=zh (HO.out.below hb);replace eY:=zh (eY.out.below hb);replace l7:=zh (l7.out.below hb);replace fg:=zh (fg.out.trans (hb.mono (by omega)));clear hb Kc Fb;go_upto_region 37 with fail;change Code.wp _ _ _ _ (w4.alloc (.cells (zN 1 9000 false xa xn xc) 27))
    have eU:=zS w4 1 9000 false xa xn xc 27;have HZ:=zh (dX.new w4 (zN 1 9000 false xa xn xc) 27);have KX:=HO.out.lt;replace HO:=zh (HO.out.below eU);replace jy:=zh (jy.out.below eU);replace eY:=zh (eY.out.below eU);replace l7:=zh (l7.out.below eU);replace fg:=zh (fg.out.trans (eU.mono (by omega)));clear eU;generalize w4.alloc (.cells (zN 1 9000 false xa xn xc) 27) = w5 at *;generalize w4.heap.size = U7 at *;have LS : (l2 : Int) - (mn : Int) = ((l2 - keys.length : Nat) : Int):=by omega
    go_upto_region 39 with fail;refine zM1 OV LS MU LH HO HZ jy eY l7 fg (zh ?_);clear HO HZ jy eY l7 fg;intro _ _ _ _ _ _ _ _ w6 HO jy eY l7 fg;clear OV LS;go_wp2_with fail;exact ⟨⟨j + 1,l2 - keys.length,xa,xn,xc,xL,rfl,by go_num,by omega,HO,jy,zh (.inr ⟨by omega,rfl,gC.out⟩),eY,l7,fg⟩,by simp [intOf]; omega⟩
   omega
  have e1 : (pn != num) = true:=by simpa using hne Pn
  go_wp2_with fail
  exact ⟨⟨j + 1,l2,a2,n2,c2,L2,rfl,by go_num,by omega,HO,Ez,zh (by
   rcases HDj.out with h | h
   ·
    exact .inl ⟨by omega,h.2⟩
   exact .inr ⟨by omega,h.2⟩),eY,l7,fg⟩,by simp [intOf]; omega⟩
 obtain rfl : j = n1:=by omega
 have i2 : ¬ (j : Int) < (j : Int):=by omega
 obtain ⟨h,_⟩ | ⟨_,h2,h3⟩:=HDj.out
 ·
  omega
 subst h2;go_wp2_with fail;exact HK.out _ _ _ _ _ _ _ _ _ _ _ _ _ _ _ _ _ _ _ _ _ _ _ _ _ _ _ _ _ _ _ _ _ _ _ _ _ _ _ _ _ _ _ _ _ _ _ _ _ _ _ _ _ _ _ a2 n2 c2 L2 _ HO Ez (zh h3) fg
end Go.Proofs.YtcgfilmmokmdjaaGreat
