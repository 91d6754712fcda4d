/- A part of the walk. -/
import Derived.Test.YtcgfilmmokmdjaaGreatQAW
import Derived.Test.YtcgfilmmokmdjaaGreatQAX
import Derived.Test.YtcgfilmmokmdjaaGreatQAY
import Derived.Test.YtcgfilmmokmdjaaGreatBw
import Derived.Test.YtcgfilmmokmdjaaGreatBab
import Derived.Test.YtcgfilmmokmdjaaGreatSle
import Derived.Test.YtcgfilmmokmdjaaGreatBah
import Derived.Deep.CutBlock
set_option linter.all false
set_option maxRecDepth 100000
set_option maxHeartbeats 32000000
namespace Go.Proofs.YtcgfilmmokmdjaaGreat
open Go.RowKit
/-! ### One request of a row -/
/-! ### Values for the drawn regions -/
structure PlW (w : World) (M : fG) (kv : Value) (ks : List KP) (nv : Value) (es : List (Nd × Value)) (rv : Value) : Prop where
 kr : w.ownsRow 0 89 2 kv ks.length (ks.flatMap jQ)
 ky : ∀ p ∈ ks,w.ownsRow 0 24 1 p.2.1 p.2.2.length (p.2.2.map Pm)
 kk : jo ks = M.dY
 nr : w.ownsRow 0 56 4 nv es.length (wU es)
 nd : ∀ p ∈ es,CZ w p.2 p.1.data
 nn : es.map (·.1) = M.needs
 r : w.ownsRow 0 39 1 rv M.res.length (M.res.map I3)
theorem rC.w {W : World} {B : Nat} {P : fG} {kv : Value} {ks : List KP} {nv : Value} {es : List (Nd × Value)} {rv : Value} (h : rC W B P kv ks nv es rv) : PlW W P kv ks nv es rv:=
 ⟨Go.Joins.ownsRow_le h.k.row (aq _),fun p hp => Go.Joins.ownsRow_le (h.k.keys p hp) (aq _),h.kk,Go.Joins.ownsRow_le h.n.row (aq _),fun p hp => (h.n.dat p hp).rd,h.nn,Go.Joins.ownsRow_le h.r (aq _)⟩
def PlA (M : fG) (v : Value) (w : World) : Prop:=∃ ka kc ks na nc es ra rc,v = zLu M.eN (M.res.length : Int) (.slice ka ks.length kc) (.slice na es.length nc) (.slice ra M.res.length rc) ∧ PlW w M (.slice ka ks.length kc) ks (.slice na es.length nc) es (.slice ra M.res.length rc)
theorem zJB {S : eL} (hS : eA S) {ga : Option Addr} {gn gc : Nat} {L : List GP} {qa : Option Addr} {qn qc : Nat} {qs : List (Rq × Value)} {w : World} (hr : fH w (.slice ga gn gc) L) (hg : ea L = S.dW) (hl : fA 700 S.dW) (hq : Dc w (.slice qa qn qc) qs) (Pt : qs.length ≤ 1000) (iy : ∀ p ∈ qs,p.1.data.length ≤ 1000000) :
  Calls Tryz.prog 22 #[ze S.id S.lim S.ro ga gn gc,.slice qa qn qc] w fun e w' => (∃ p,e = .returned (.tuple #[p,.int .i64 0]) ∧ PlA (yA S (qs.map (·.1))).1 p w') ∧ Below w.heap.size w w':=by
 have TI : qs.length = qn:=by
  obtain ⟨_,_,e,_⟩:=hq.shape;injection e with _ e _; exact e.symm
 subst TI;have Co:=hS.len;refine (zC1 S ga gn gc L qa qc qs w hr hg hl (by omega) hq (by omega) iy).mono ?_;rintro e w' ⟨kv,ks,nv,es,rv,rfl,hp,hb⟩;obtain ⟨ka,kc,rfl,_⟩:=zM hp.k.row;obtain ⟨na,nc,rfl,_⟩:=zM hp.n.row;obtain ⟨ra,rc,rfl,_⟩:=zM hp.r;rw [(zEd hS (qs.map (·.1))).1];exact ⟨⟨_,rfl,ka,kc,ks,na,nc,es,ra,rc,rfl,hp.w⟩,hb⟩
theorem zFn {S : eL} (hS : eA S) (hl : fA 700 S.dW) (K : List Rq) : (∀ x ∈ (yA S K).1.dY,x.2.length ≤ 1000) ∧ (yA S K).1.needs.length ≤ 16:=by
 have hi:=Zu (K:=700) (G:=S.dW.length) K (xB S) ⟨hl,Bt.nil _,ai _,⟨cq _,cq _⟩,ai _⟩ (aq _);have e : (yA S K).1 = tq K (xB S):=by unfold yA; rw [ag ((zZ S).2 hS)]
 rw [e];refine ⟨fun x hx => ?_,?_⟩
 ·
  have:=hi.2.k.len x hx;have:=hi.1;omega
 have:=hi.2.e;have:=hi.1;omega
end Go.Proofs.YtcgfilmmokmdjaaGreat
namespace Go.Proofs.YtcgfilmmokmdjaaGreat
open Go.RowKit Go.Maps
def MQ (n : Nat) : Code → Option Code
 | .region k ops d => if k = n then some (.region k ops d) else none
 | .seq a b => match MQ n a with
  | some c => some c
  | none => MQ n b
 | .cond _ a b => match MQ n a with
  | some c => some c
  | none => MQ n b
 | .block _ c => MQ n c
 | .loop c => MQ n c
 | .scope c => MQ n c
 | _ => none
def MR (n : Nat) : Code → Option Code
 | .block k c => if k = n then some (.block k c) else MR n c
 | .seq a b => match MR n a with
  | some c => some c
  | none => MR n b
 | .cond _ a b => match MR n a with
  | some c => some c
  | none => MR n b
 | .loop c => MR n c
 | .scope c => MR n c
 | _ => none
theorem zFi (a b : Bool) (c d e f g h : Int) (w : World) : (binOp .eql 92 (.agg #[.bool a,.int .i64 c,.int .i64 e,.int .i64 g]) (.agg #[.bool b,.int .i64 d,.int .i64 f,.int .i64 h])).run Tryz.prog w = .ok (.bool (decide (a = b) && (decide (c = d) && (decide (e = f) && decide (g = h))))) w:=by
 by_cases h1 : a = b
 ·
  subst h1
  by_cases h2 : c = d
  ·
   subst h2
   by_cases h3 : e = f
   ·
    subst h3
    by_cases h4 : g = h
    ·
     subst h4;simp [go_sem]
    simp [go_sem,h4]
   simp [go_sem,h3]
  simp [go_sem,h2]
 simp [go_sem,h1]
def MT (T S0 : Vl) (C : Nat → Prop) (D : Nat → Vl) (j : Nat) : Prop:=T = S0 ∨ ∃ i,i < j ∧ C i ∧ T = D i
theorem zH2 (b a : Bool) (d c f e h g : Int) (C : Nat → Prop) (D : Nat → Vl) : (decide (a = b) && (decide (c = d) && (decide (e = f) && decide (g = h)))) = true ↔ MT (b,d,f,h) (a,c,e,g) C D 0:=by
 have e0 : (decide (a = b) && (decide (c = d) && (decide (e = f) && decide (g = h)))) = true ↔ (b,d,f,h) = (a,c,e,g):=by
  simp only [aO,aS,Prod.mk.injEq];exact ⟨fun ⟨h1,h2,h3,h4⟩ => ⟨h1.symm,h2.symm,h3.symm,h4.symm⟩,fun ⟨h1,h2,h3,h4⟩ => ⟨h1.symm,h2.symm,h3.symm,h4.symm⟩⟩
 rw [e0]
 exact ⟨fun h => .inl h,fun h => by
  rcases h with h | ⟨i,h,_⟩
  ·
   exact h
  omega⟩
theorem zKI {T S0 : Vl} {C : Nat → Prop} {D : Nat → Vl} {j : Nat} {ob : Bool} (h : ob = true ↔ MT T S0 C D j) (hc : ¬ C j) : ob = true ↔ MT T S0 C D (j + 1):=by
 rw [h];refine ⟨fun h => h.imp id (fun ⟨i,h1,h2⟩ => ⟨i,by omega,h2⟩),fun h => h.imp id (fun ⟨i,h1,h2⟩ => ⟨i,?_,h2⟩)⟩
 by_cases e : i = j
 ·
  subst e; exact absurd h2.1 hc
 omega
theorem U6 {T S0 : Vl} {C : Nat → Prop} {D : Nat → Vl} {j : Nat} {ob b : Bool} (h : ob = true ↔ MT T S0 C D j) (hc : C j) (hb : b = true ↔ ob = true ∨ D j = T) : b = true ↔ MT T S0 C D (j + 1):=by
 rw [hb,h];refine ⟨fun h => ?_,fun h => ?_⟩
 ·
  rcases h with (h | ⟨i,h1,h2⟩) | h
  ·
   exact .inl h
  ·
   exact .inr ⟨i,by omega,h2⟩
  exact .inr ⟨j,by omega,hc,h.symm⟩
 rcases h with h | ⟨i,h1,h2,h3⟩
 ·
  exact .inl (.inl h)
 by_cases e : i = j
 ·
  subst e; exact .inr h3.symm
 exact .inl (.inr ⟨i,by omega,h2,h3⟩)
theorem zLK {T S0 : Vl} {q4 : List (Rq × Value)} {res : List Int} {key rN : Nat} (h : T = S0 ∨ ∃ j,j < rN ∧ (gZ q4 j).1.key = key ∧ xT res j = 0 ∧ T = (if (gZ q4 j).1.kind = 1 then (true,1 + (j : Int),0,0) else (false,0,0,0))) : MT T S0 (fun i => (gZ q4 i).1.key = key ∧ xT res i = 0) (fun i => if (gZ q4 i).1.kind = 1 then (true,1 + (i : Int),0,0) else (false,0,0,0)) rN:=
 h.imp id fun ⟨j,h1,h2,h3,h4⟩ => ⟨j,h1,⟨h2,h3⟩,h4⟩
noncomputable def pfR (n : Nat) : Code:=(Tryz.f5.body.bind (MQ n)).getD .skip
noncomputable def pfB (n : Nat) : Code:=(Tryz.f5.body.bind (MR n)).getD .skip
theorem zM4 {u0 u1 u2 u3 u4 u5 u6 u7 u8 u9 u10 u11 u12 u13 u14 u15 u16 FR FT FU FV Te u23 FW Jd u28 KW Iu Ke u32 u33 Iv FX u36 Iw u38 Iy Iz FY FZ F0 u44 u45 F2 F3 F4 F5 F6 F7 F8 F9 Ga Gb Gc Gd Ge Gf Gg Gh Gi Gj u64 Gk Gl Gm Gq Gr Gs Gt Gu Gv Gw Gx Gy Gz GD GF GG GH GI GK GM GN GQ GR GU GV GX GY GZ G0 G1 G4 G5 G6 G7 G8 mN mO mP mQ mR mS mU mV mW mX mY mZ ng nh ni nj nk np nt nu nw ny nz nA nB nC nD nE nG nH nI nJ nK nL nM nN nO nP u138 nQ nR nU nV nW nX nY nZ n9 n_ od oh ou oz oA oB oC oD oF oG oH oI oJ oK oL oM oO oP oQ oT oU oV oW oZ o5 Cy o6 Cz o7 rD rE rF rG rH rI rJ rK rL rM rO rP rQ rR BA u193 BD BF BG BH u198 BI BJ BK BL BM BN rS rT rU rV rW rX rY rZ r_ sj sq sr BO BP BQ BR BS BU BV BW su o8 o9 o_ pd pg pj sw sx sB sD sF sI sJ sK sL pq px pE pF pH pI pJ pK pM pN pO pP sM sN sP sR sS sU sV sW sX sY sZ t_ u_ w_ y_ z_ Aa Ab Ac Ad Ae Af Ag Ah Ai Aj Ak Al Am Ao Ap Aq Ar Au Av Aw Ay Az AB AE AG AH AI AK AL AO AP AQ AU AV AW AX AY AZ A0 A1 A2 A3 A4 A5 A6 A7 pQ : Value} {K : Act → World → Prop} {Q : Exit → Act → World → Prop} {v0 : World} {bX Ey : Nat} {pn pr pm pz pL pG : Int} {ps : Sl} {num : Int} {lH : Option Addr} {kn lI l2 mn : Nat} {dn dr dm dz dL dG : Int} {df : Nat → List It}
  (HX : Hid (dX v0 bX (zQ pn pr pm pz ps pL pG) 38)) (l7 : Hid (dX v0 Ey #[.int .i64 num,.slice lH kn lI] 89)) (OV : min (l2 : Int) (kn : Int) = (mn : Int))
  (DN : Hid (∀ (W : World) (kh : IntKind),(Instr.slice 87 (.slice lH kn lI) none (some (.int kh (mn : Int))) none).run Tryz.prog W = .ok (.slice lH mn lI) W))
  (IZ : Hid (∀ W2,Below v0.heap.size v0 W2 → Calls Tryz.prog 29 #[zV pn pr pm pz ps pL pG,.slice lH mn lI] W2 (Kv W2 (0,⟨dn,dr,dm,dz,⟨df,dL,dG⟩⟩))))
  (HK : Hid (∀ (OW v193 v194 OX v196 OY v198 OZ O0 v201 O1 v203 O2 : Value) (bG : Nat) (s9 : Sl) (W' : World),v0.heap.size ≤ bG → Hid (dX W' bG (zQ dn dr dm dz s9 dL dG) 38) → Hid (fq W' s9 df) → Hid (Below v0.heap.size v0 W') → K ⟨#[u0,u1,u2,u3,u4,u5,u6,u7,u8,u9,u10,u11,u12,u13,u14,u15,u16,FR,FT,FU,FV,.int .i64 (l2 : Int),Te,u23,.pointer (some ⟨Ey,0,none⟩),FW,.pointer (some ⟨bX,0,none⟩),.pointer (some ⟨bG,0,none⟩),.int .i64 0,KW,Iu,Ke,u32,u33,Iv,FX,u36,Iw,u38,Iy,Iz,FY,FZ,F0,u44,u45,F2,F3,F4,F5,F6,F7,F8,F9,Ga,Gb,Gc,Gd,Ge,Gf,Gg,Gh,Gi,Gj,u64,Gk,Gl,Gm,Gq,Gr,Gs,Gt,Gu,Gv,Gw,Gx,Gy,Gz,GD,GF,GG,GH,GI,GK,GM,GN,GQ,GR,GU,GV,GX,GY,GZ,G0,G1,G4,G5,G6,G7,G8,mN,mO,mP,mQ,mR,mS,mU,mV,mW,mX,mY,mZ,ng,nh,ni,nj,nk,np,nt,nu,nw,ny,nz,nA,nB,nC,nD,nE,nG,nH,nI,nJ,nK,nL,nM,nN,nO,nP,u138,nQ,nR,nU,nV,nW,nX,nY,nZ,n9,n_,od,oh,ou,oz,oA,oB,oC,oD,oF,oG,oH,oI,oJ,oK,oL,oM,oO,oP,oQ,oT,oU,oV,oW,oZ,o5,Cy,o6,Cz,o7,rD,rE,rF,rG,rH,rI,rJ,rK,rL,rM,rO,rP,rQ,rR,OW,v193,v194,OX,v196,OY,v198,OZ,O0,v201,O1,v203,O2,rS,rT,rU,rV,rW,rX,rY,rZ,r_,sj,sq,sr,BO,BP,BQ,BR,BS,BU,BV,BW,su,o8,o9,o_,pd,pg,pj,sw,sx,sB,sD,sF,sI,sJ,sK,sL,pq,px,pE,pF,pH,pI,pJ,pK,pM,pN,pO,pP,sM,sN,sP,sR,sS,sU,sV,sW,sX,sY,sZ,t_,u_,w_,y_,z_,Aa,Ab,Ac,Ad,Ae,Af,Ag,Ah,Ai,Aj,Ak,Al,Am,Ao,Ap,Aq,Ar,Au,Av,Aw,Ay,Az,AB,AE,AG,AH,AI,AK,AL,AO,AP,AQ,AU,AV,AW,AX,AY,AZ,A0,A1,A2,A3,A4,A5,A6,A7,pQ],[]⟩ W')) :
  Code.wp Tryz.prog (pfR 35) (Exit.then K Q) ⟨#[u0,u1,u2,u3,u4,u5,u6,u7,u8,u9,u10,u11,u12,u13,u14,u15,u16,FR,FT,FU,FV,.int .i64 (l2 : Int),Te,u23,.pointer (some ⟨Ey,0,none⟩),FW,.pointer (some ⟨bX,0,none⟩),Jd,u28,KW,Iu,Ke,u32,u33,Iv,FX,u36,Iw,u38,Iy,Iz,FY,FZ,F0,u44,u45,F2,F3,F4,F5,F6,F7,F8,F9,Ga,Gb,Gc,Gd,Ge,Gf,Gg,Gh,Gi,Gj,u64,Gk,Gl,Gm,Gq,Gr,Gs,Gt,Gu,Gv,Gw,Gx,Gy,Gz,GD,GF,GG,GH,GI,GK,GM,GN,GQ,GR,GU,GV,GX,GY,GZ,G0,G1,G4,G5,G6,G7,G8,mN,mO,mP,mQ,mR,mS,mU,mV,mW,mX,mY,mZ,ng,nh,ni,nj,nk,np,nt,nu,nw,ny,nz,nA,nB,nC,nD,nE,nG,nH,nI,nJ,nK,nL,nM,nN,nO,nP,u138,nQ,nR,nU,nV,nW,nX,nY,nZ,n9,n_,od,oh,ou,oz,oA,oB,oC,oD,oF,oG,oH,oI,oJ,oK,oL,oM,oO,oP,oQ,oT,oU,oV,oW,oZ,o5,Cy,o6,Cz,o7,rD,rE,rF,rG,rH,rI,rJ,rK,rL,rM,rO,rP,rQ,rR,BA,u193,BD,BF,BG,BH,u198,BI,BJ,BK,BL,BM,BN,rS,rT,rU,rV,rW,rX,rY,rZ,r_,sj,sq,sr,BO,BP,BQ,BR,BS,BU,BV,BW,su,o8,o9,o_,pd,pg,pj,sw,sx,sB,sD,sF,sI,sJ,sK,sL,pq,px,pE,pF,pH,pI,pJ,pK,pM,pN,pO,pP,sM,sN,sP,sR,sS,sU,sV,sW,sX,sY,sZ,t_,u_,w_,y_,z_,Aa,Ab,Ac,Ad,Ae,Af,Ag,Ah,Ai,Aj,Ak,Al,Am,Ao,Ap,Aq,Ar,Au,Av,Aw,Ay,Az,AB,AE,AG,AH,AI,AK,AL,AO,AP,AQ,AU,AV,AW,AX,AY,AZ,A0,A1,A2,A3,A4,A5,A6,A7,pQ],[]⟩ v0:=by
 conv => arg 2; whnf
 refine yh [eX (zV pn pr pm pz ps pL pG),eX (.pointer (some ⟨Ey,1,none⟩)),eX (.slice lH kn lI),eX (.int .i64 (l2 : Int)),eX (.pointer (some ⟨Ey,1,none⟩)),eX (.slice lH kn lI),eX (.int .i64 (kn : Int)),eX (.int .i64 (mn : Int)),eX (.slice lH mn lI),PW 0 dn dr dm dz df dL dG,PW 0 dn dr dm dz df dL dG,YJ dn dr dm dz df dL dG,eX (.int .i64 0),Yq 38 v0.heap.size] [13] 316 12 (by kernel_rfl) (by kernel_rfl) rfl rfl (by decide) (by rfl) (by kernel_rfl) (fun f => by simp [fD,zW,Act.put]; exact rfl) ?_ ?_ ?_
 ·
  refine ⟨?_,?_,?_,?_,?_,?_,?_,?_,?_,?_,?_,?_,?_,?_,trivial⟩
  ·
   intro f w2 hb hd;clear hd;dsimp only;have hx:=(HX.out.below hb).gen;obtain ⟨q0,q1,q2,q3,q4,q5,q6,q7,q8,q9,FC,FD,FE,FF⟩:=hx.q;clear hx;go_wp2_with fail;exact ⟨rfl,Below.refl _ _,fun t ht => by injection ht with ht;subst ht;exact ⟨rfl,fun h => by simp at h⟩⟩
  ·
   intro f w2 hb hd;clear hd;dsimp only;go_wp2_with fail;exact ⟨rfl,Below.refl _ _,fun t ht => by injection ht with ht;subst ht;exact ⟨rfl,fun h => by simp at h⟩⟩
  ·
   intro f w2 hb hd;have d1 : f 1 = (.pointer (some ⟨Ey,1,none⟩)):=hd 1 (by kernel_rfl);clear hd;dsimp only;rw [d1];have q1:=(l7.out.below hb).cell (i:=1) rfl;go_wp2_with fail;exact ⟨rfl,Below.refl _ _,fun t ht => by injection ht with ht;subst ht;exact ⟨rfl,fun h => by simp at h⟩⟩
  ·
   intro f w2 hb hd;clear hd;dsimp only;go_wp2_with fail;exact ⟨rfl,Below.refl _ _,fun t ht => by injection ht with ht;subst ht;exact ⟨rfl,fun h => by simp at h⟩⟩
  ·
   intro f w2 hb hd;clear hd;dsimp only;go_wp2_with fail;exact ⟨rfl,Below.refl _ _,fun t ht => by injection ht with ht;subst ht;exact ⟨rfl,fun h => by simp at h⟩⟩
  ·
   intro f w2 hb hd;have d4 : f 4 = (.pointer (some ⟨Ey,1,none⟩)):=hd 4 (by kernel_rfl);clear hd;dsimp only;rw [d4];have q1:=(l7.out.below hb).cell (i:=1) rfl;go_wp2_with fail;exact ⟨rfl,Below.refl _ _,fun t ht => by injection ht with ht;subst ht;exact ⟨rfl,fun h => by simp at h⟩⟩
  ·
   intro f w2 hb hd;have d5 : f 5 = (.slice lH kn lI):=hd 5 (by kernel_rfl);clear hd;dsimp only;rw [d5];go_wp2_with fail;exact ⟨rfl,Below.refl _ _,fun t ht => by injection ht with ht;subst ht;exact ⟨rfl,fun h => by simp at h⟩⟩
  ·
   intro f w2 hb hd;have d3 : f 3 = (.int .i64 (l2 : Int)):=hd 3 (by kernel_rfl);have d6 : f 6 = (.int .i64 (kn : Int)):=hd 6 (by kernel_rfl);clear hd;dsimp only;rw [d3];rw [d6];have j0:=OV;go_wp2_with fail;exact ⟨rfl,Below.refl _ _,fun t ht => by injection ht with ht;subst ht;exact ⟨rfl,fun h => by simp at h⟩⟩
  ·
   intro f w2 hb hd;have d2 : f 2 = (.slice lH kn lI):=hd 2 (by kernel_rfl);have d7 : f 7 = (.int .i64 (mn : Int)):=hd 7 (by kernel_rfl);clear hd;dsimp only;rw [d2];rw [d7];have j0:=DN.out;go_wp2_with fail;exact ⟨rfl,Below.refl _ _,fun t ht => by injection ht with ht;subst ht;exact ⟨rfl,fun h => by simp at h⟩⟩
  ·
   intro f w2 hb hd;have d0 : f 0 = (zV pn pr pm pz ps pL pG):=hd 0 (by kernel_rfl);have d8 : f 8 = (.slice lH mn lI):=hd 8 (by kernel_rfl);clear hd;dsimp only;rw [d0];rw [d8];go_wp2_with fail;refine (IZ.out w2 hb).mono ?_;rintro e w9 ⟨⟨s9,rfl,B5⟩,gL⟩;have ic:=zh B5.rd;clear B5;go_wp2_with fail;exact ⟨rfl,gL,fun t ht => by injection ht with ht; subst ht; exact ⟨⟨s9,rfl,ic.out⟩,fun h => by simp at h⟩⟩
  ·
   intro f w2 hb hd;obtain ⟨s9,d9,r9⟩:=show ∃ s,f 9 = .tuple #[zV dn dr dm dz s dL dG,.int .i64 0] ∧ fq w2 s df from hd 9 (by kernel_rfl);clear hd;dsimp only;rw [d9];have ic:=zh r9;clear r9;go_wp2_with fail;exact ⟨rfl,aj _ _,fun t ht => by injection ht with ht; subst ht; exact ⟨⟨s9,rfl,ic.out⟩,fun h => by simp at h⟩⟩
  ·
   intro f w2 hb hd;obtain ⟨s10,d10,jU⟩:=show ∃ s,f 10 = .tuple #[zV dn dr dm dz s dL dG,.int .i64 0] ∧ fq w2 s df from hd 10 (by kernel_rfl);clear hd;dsimp only;rw [d10];have ic:=zh jU;clear jU;go_wp2_with fail;exact ⟨rfl,aj _ _,fun t ht => by injection ht with ht; subst ht; exact ⟨⟨s10,rfl,ic.out⟩,fun h => by simp at h⟩⟩
  ·
   intro f w2 hb hd;obtain ⟨s10,d10,jU⟩:=show ∃ s,f 10 = .tuple #[zV dn dr dm dz s dL dG,.int .i64 0] ∧ fq w2 s df from hd 10 (by kernel_rfl);clear hd;dsimp only;rw [d10];clear jU;go_wp2_with fail;exact ⟨rfl,Below.refl _ _,fun t ht => by injection ht with ht;subst ht;exact ⟨rfl,fun h => by simp at h⟩⟩
  intro f w2 hb hd;clear hd;dsimp only;have Cm:=hb.size;have I5:=dX.new w2 (zQ 0 0 0 0 Sl.nil 0 0) 38;go_wp2_with fail;exact ⟨rfl,(aj _ _).alloc (ai _) _,fun t ht => by injection ht with ht; subst ht; exact ⟨⟨_,rfl,Cm,I5⟩,fun _ => ⟨ai _,by simp [blk]⟩⟩⟩
 ·
  intro f w8 hb hd iD;clear iD;obtain ⟨s9,d9,r9⟩:=show ∃ s,f 11 = zV dn dr dm dz s dL dG ∧ fq w8 s df from hd 11 (show 11 < 14 by decide);obtain ⟨bG,d11,lo,bx⟩:=show ∃ b,f 13 = .pointer (some ⟨b,0,none⟩) ∧ v0.heap.size ≤ b ∧ dX w8 b (zQ 0 0 0 0 Sl.nil 0 0) 38 from hd 13 (show 13 < 14 by decide);have d10 : f 12 = .int .i64 0:=hd 12 (show 12 < 14 by decide)
  try dsimp only
  rw [d9,d10,d11];clear hd d9 d10 d11;have jm:=zh (show dX (pts w8 bG (zJ dn dr dm dz s9 dL dG)) bG (zQ dn dr dm dz s9 dL dG) 38 from (by have h:=dX.sets (zJ dn dr dm dz s9 dL dG) bx; rw [us] at h; exact h));have iQ:=zh (fq.gen r9 bx (zJ dn dr dm dz s9 dL dG));have fK:=zh (zD (B:=v0.heap.size) (b:=bG) lo (zJ dn dr dm dz s9 dL dG) hb);have bg:=bx.gen;obtain ⟨g0,g1,g2,g3,g4,g5,g6,g7,g8,g9,g10,g11,g12,g13⟩:=bg.q;have gf:=bg.f;clear r9 bx bg hb;generalize f 0 = D3,f 1 = Dy,f 2 = Dz,f 3 = DC,f 4 = DF,f 5 = DG,f 6 = E7,f 7 = Ii,f 8 = MF,f 9 = KI,f 10 = Es;clear f;change wpList _ _ _ (_ :: _ :: []) _ _;go_wp2_with fail;exact HK.out _ _ _ _ _ _ _ _ _ _ _ _ _ bG s9 _ lo jm iQ fK
 intro f w8 hb hd iD;clear iD;obtain ⟨s9,d9,r9⟩:=show ∃ s,f 11 = zV dn dr dm dz s dL dG ∧ fq w8 s df from hd 11 (show 11 < 14 by decide) (show 11 ≠ 12 by decide);obtain ⟨bG,d11,lo,bx⟩:=show ∃ b,f 13 = .pointer (some ⟨b,0,none⟩) ∧ v0.heap.size ≤ b ∧ dX w8 b (zQ 0 0 0 0 Sl.nil 0 0) 38 from hd 13 (show 13 < 14 by decide) (show 13 ≠ 12 by decide);obtain ⟨s8,d8,r8⟩:=show ∃ s,f 10 = .tuple #[zV dn dr dm dz s dL dG,.int .i64 0] ∧ fq w8 s df from hd 10 (show 10 < 14 by decide) (show 10 ≠ 12 by decide);clear r8
 try dsimp only
 rw [d8,d9,d11];clear hd d8 d9 d11;have jm:=zh (show dX (pts w8 bG (zJ dn dr dm dz s9 dL dG)) bG (zQ dn dr dm dz s9 dL dG) 38 from (by have h:=dX.sets (zJ dn dr dm dz s9 dL dG) bx; rw [us] at h; exact h));have iQ:=zh (fq.gen r9 bx (zJ dn dr dm dz s9 dL dG));have fK:=zh (zD (B:=v0.heap.size) (b:=bG) lo (zJ dn dr dm dz s9 dL dG) hb);have bg:=bx.gen;obtain ⟨g0,g1,g2,g3,g4,g5,g6,g7,g8,g9,g10,g11,g12,g13⟩:=bg.q;have gf:=bg.f;clear r9 bx bg hb;generalize f 0 = D3,f 1 = Dy,f 2 = Dz,f 3 = DC,f 4 = DF,f 5 = DG,f 6 = E7,f 7 = Ii,f 8 = MF,f 9 = KI,f 12 = ZX;clear f;change wpList _ _ _ (_ :: _ :: _ :: []) _ _;go_wp2_with fail;exact HK.out _ _ _ _ _ _ _ _ _ _ _ _ _ bG s9 _ lo jm iQ fK
theorem zM1 {u0 u1 u2 u3 u4 u5 u6 u7 u8 u9 u10 u11 u12 u13 u14 u15 u16 FR FT FU FV u23 FW u26 Jd u28 Iu Ke u32 u33 Iv FX u36 Iw u38 Iy Iz FY FZ F0 u44 u45 F2 F3 F4 F5 F6 F7 F8 F9 Ga Gb Gc Gd Ge Gf Gg Gh Gi Gj u64 Gk Gl Gm Gq Gr Gs Gt Gu Gv Gw Gx Gy Gz GD GF GG GH GI GK GM GN GQ GR GU GV GX GY GZ G0 G1 G4 G5 G6 G7 G8 mN mO mP mQ mR mS mU mV mW mX mY mZ ng nh ni nj nk np nt nu nw ny nz nA nB nC nD nE nG nH nI nJ nK nL nM nN nO nP u138 nQ nR nU nV nW nX nY nZ n9 n_ od oh ou oz oA oB oC oD oF oG oH oI oJ oK oL oM oO oP oQ oT oU oV oW oZ o5 Cy o6 Cz o7 rD rE rF rG rH rI rJ rK rL rM rO rP rQ rR BA u193 BD BF BG BH u198 BI BJ BK BL BM BN rS rT rU rV rW rX rY rZ r_ sj sq sr BO BP BQ BR BS BU BV BW su o8 o9 o_ pd pg pj sw sx sB sD sF sI sJ sK sL pq px pE pF pH pI pJ pK pM pN pO pP sM sN sP sR sS sU sV sW sX sY sZ t_ u_ w_ y_ z_ Aa Ab Ac Ad Ae Af Ag Ah Ai Aj Ak Al Am Ao Ap Aq Ar Au Av Aw Ay Az AB AE AG AH AI AK AL AO AP AQ AU AV AW AX AY AZ A0 A1 A2 A3 A4 A5 A6 A7 pQ : Value} {K : Act → World → Prop} {Q : Exit → Act → World → Prop} {v0 wB : World} {jF Ey U7 : Nat} {num : Int} {lH xa a2 a1 : Option Addr} {kn lI l2 mn xn xc n2 c2 n1 c1 : Nat} {xL L1 : List GP}
  (OV : min (l2 : Int) (kn : Int) = (mn : Int)) (LS : (l2 : Int) - (mn : Int) = ((l2 - kn : Nat) : Int)) (MU : jF < Ey) (LH : l2 ≤ 9000)
  (HO : Hid (dX v0 jF (zN 1 9000 false a2 n2 c2) 27)) (HZ : Hid (dX v0 U7 (zN 1 9000 false xa xn xc) 27)) (jy : Hid (fH v0 (.slice xa xn xc) xL)) (eY : Hid (fH v0 (.slice a1 n1 c1) L1))
  (l7 : Hid (dX v0 Ey #[.int .i64 num,.slice lH kn lI] 89)) (fg : Hid (Below jF wB v0))
  (HK : Hid (∀ (O3 v218 O4 O5 O6 v222 O7 O8 : Value) (W' : World),Hid (dX W' jF (zN 1 9000 false xa xn xc) 27) → Hid (fH W' (.slice xa xn xc) xL) → Hid (fH W' (.slice a1 n1 c1) L1) → Hid (dX W' Ey #[.int .i64 num,.slice lH kn lI] 89) → Hid (Below jF wB W') → K ⟨#[u0,u1,u2,u3,u4,u5,u6,u7,u8,u9,u10,u11,u12,u13,u14,u15,u16,FR,FT,FU,FV,.int .i64 ((l2 - kn : Nat) : Int),.pointer (some ⟨jF,0,none⟩),u23,.pointer (some ⟨Ey,0,none⟩),FW,u26,Jd,u28,.pointer (some ⟨U7,0,none⟩),Iu,Ke,u32,u33,Iv,FX,u36,Iw,u38,Iy,Iz,FY,FZ,F0,u44,u45,F2,F3,F4,F5,F6,F7,F8,F9,Ga,Gb,Gc,Gd,Ge,Gf,Gg,Gh,Gi,Gj,u64,Gk,Gl,Gm,Gq,Gr,Gs,Gt,Gu,Gv,Gw,Gx,Gy,Gz,GD,GF,GG,GH,GI,GK,GM,GN,GQ,GR,GU,GV,GX,GY,GZ,G0,G1,G4,G5,G6,G7,G8,mN,mO,mP,mQ,mR,mS,mU,mV,mW,mX,mY,mZ,ng,nh,ni,nj,nk,np,nt,nu,nw,ny,nz,nA,nB,nC,nD,nE,nG,nH,nI,nJ,nK,nL,nM,nN,nO,nP,u138,nQ,nR,nU,nV,nW,nX,nY,nZ,n9,n_,od,oh,ou,oz,oA,oB,oC,oD,oF,oG,oH,oI,oJ,oK,oL,oM,oO,oP,oQ,oT,oU,oV,oW,oZ,o5,Cy,o6,Cz,o7,rD,rE,rF,rG,rH,rI,rJ,rK,rL,rM,rO,rP,rQ,rR,BA,u193,BD,BF,BG,BH,u198,BI,BJ,BK,BL,BM,BN,rS,rT,rU,rV,rW,rX,rY,rZ,r_,sj,sq,sr,O3,v218,O4,O5,O6,v222,O7,O8,su,o8,o9,o_,pd,pg,pj,sw,sx,sB,sD,sF,sI,sJ,sK,sL,pq,px,pE,pF,pH,pI,pJ,pK,pM,pN,pO,pP,sM,sN,sP,sR,sS,sU,sV,sW,sX,sY,sZ,t_,u_,w_,y_,z_,Aa,Ab,Ac,Ad,Ae,Af,Ag,Ah,Ai,Aj,Ak,Al,Am,Ao,Ap,Aq,Ar,Au,Av,Aw,Ay,Az,AB,AE,AG,AH,AI,AK,AL,AO,AP,AQ,AU,AV,AW,AX,AY,AZ,A0,A1,A2,A3,A4,A5,A6,A7,pQ],[]⟩ W')) :
  Code.wp Tryz.prog (pfR 39) (Exit.inBlock 7 (Exit.then K Q)) ⟨#[u0,u1,u2,u3,u4,u5,u6,u7,u8,u9,u10,u11,u12,u13,u14,u15,u16,FR,FT,FU,FV,.int .i64 (l2 : Int),.pointer (some ⟨jF,0,none⟩),u23,.pointer (some ⟨Ey,0,none⟩),FW,u26,Jd,u28,.pointer (some ⟨U7,0,none⟩),Iu,Ke,u32,u33,Iv,FX,u36,Iw,u38,Iy,Iz,FY,FZ,F0,u44,u45,F2,F3,F4,F5,F6,F7,F8,F9,Ga,Gb,Gc,Gd,Ge,Gf,Gg,Gh,Gi,Gj,u64,Gk,Gl,Gm,Gq,Gr,Gs,Gt,Gu,Gv,Gw,Gx,Gy,Gz,GD,GF,GG,GH,GI,GK,GM,GN,GQ,GR,GU,GV,GX,GY,GZ,G0,G1,G4,G5,G6,G7,G8,mN,mO,mP,mQ,mR,mS,mU,mV,mW,mX,mY,mZ,ng,nh,ni,nj,nk,np,nt,nu,nw,ny,nz,nA,nB,nC,nD,nE,nG,nH,nI,nJ,nK,nL,nM,nN,nO,nP,u138,nQ,nR,nU,nV,nW,nX,nY,nZ,n9,n_,od,oh,ou,oz,oA,oB,oC,oD,oF,oG,oH,oI,oJ,oK,oL,oM,oO,oP,oQ,oT,oU,oV,oW,oZ,o5,Cy,o6,Cz,o7,rD,rE,rF,rG,rH,rI,rJ,rK,rL,rM,rO,rP,rQ,rR,BA,u193,BD,BF,BG,BH,u198,BI,BJ,BK,BL,BM,BN,rS,rT,rU,rV,rW,rX,rY,rZ,r_,sj,sq,sr,BO,BP,BQ,BR,BS,BU,BV,BW,su,o8,o9,o_,pd,pg,pj,sw,sx,sB,sD,sF,sI,sJ,sK,sL,pq,px,pE,pF,pH,pI,pJ,pK,pM,pN,pO,pP,sM,sN,sP,sR,sS,sU,sV,sW,sX,sY,sZ,t_,u_,w_,y_,z_,Aa,Ab,Ac,Ad,Ae,Af,Ag,Ah,Ai,Aj,Ak,Al,Am,Ao,Ap,Aq,Ar,Au,Av,Aw,Ay,Az,AB,AE,AG,AH,AI,AK,AL,AO,AP,AQ,AU,AV,AW,AX,AY,AZ,A0,A1,A2,A3,A4,A5,A6,A7,pQ],[]⟩ v0:=by
 conv => arg 2; whnf
 refine yh [eX (.int .i64 (l2 : Int)),eX (.int .i64 (l2 : Int)),eX (.pointer (some ⟨Ey,1,none⟩)),eX (.slice lH kn lI),eX (.int .i64 (kn : Int)),eX (.int .i64 (mn : Int)),eX (.int .i64 ((l2 - kn : Nat) : Int)),eX (ze 1 9000 false xa xn xc)] [] 316 7 (by kernel_rfl) (by kernel_rfl) rfl rfl (by decide) (by rfl) (by kernel_rfl) (fun f => by simp [fD,zW,Act.put]; exact rfl) ?_ ?_ ?_
 ·
  refine ⟨?_,?_,?_,?_,?_,?_,?_,?_,trivial⟩
  ·
   intro f w1 hb hd;clear hd;dsimp only;go_wp2_with fail;exact ⟨rfl,Below.refl _ _,fun t ht => by injection ht with ht;subst ht;exact ⟨rfl,fun h => by simp at h⟩⟩
  ·
   intro f w1 hb hd;clear hd;dsimp only;go_wp2_with fail;exact ⟨rfl,Below.refl _ _,fun t ht => by injection ht with ht;subst ht;exact ⟨rfl,fun h => by simp at h⟩⟩
  ·
   intro f w1 hb hd;clear hd;dsimp only;go_wp2_with fail;exact ⟨rfl,Below.refl _ _,fun t ht => by injection ht with ht;subst ht;exact ⟨rfl,fun h => by simp at h⟩⟩
  ·
   intro f w1 hb hd;have d2 : f 2 = (.pointer (some ⟨Ey,1,none⟩)):=hd 2 (by kernel_rfl);clear hd;dsimp only;rw [d2];have q1:=(l7.out.below hb).cell (i:=1) rfl;go_wp2_with fail;exact ⟨rfl,Below.refl _ _,fun t ht => by injection ht with ht;subst ht;exact ⟨rfl,fun h => by simp at h⟩⟩
  ·
   intro f w1 hb hd;have d3 : f 3 = (.slice lH kn lI):=hd 3 (by kernel_rfl);clear hd;dsimp only;rw [d3];go_wp2_with fail;exact ⟨rfl,Below.refl _ _,fun t ht => by injection ht with ht;subst ht;exact ⟨rfl,fun h => by simp at h⟩⟩
  ·
   intro f w1 hb hd;have d1 : f 1 = (.int .i64 (l2 : Int)):=hd 1 (by kernel_rfl);have d4 : f 4 = (.int .i64 (kn : Int)):=hd 4 (by kernel_rfl);clear hd;dsimp only;rw [d1];rw [d4];have j0:=OV;go_wp2_with fail;exact ⟨rfl,Below.refl _ _,fun t ht => by injection ht with ht;subst ht;exact ⟨rfl,fun h => by simp at h⟩⟩
  ·
   intro f w1 hb hd;have d0 : f 0 = (.int .i64 (l2 : Int)):=hd 0 (by kernel_rfl);have d5 : f 5 = (.int .i64 (mn : Int)):=hd 5 (by kernel_rfl);clear hd;dsimp only;rw [d0];rw [d5];have j0:=LS;go_wp2_with fail;exact ⟨rfl,Below.refl _ _,fun t ht => by injection ht with ht;subst ht;exact ⟨rfl,fun h => by simp at h⟩⟩
  intro f w1 hb hd;clear hd;dsimp only;have zo:=dX.iu (HZ.out.below hb);obtain ⟨y0,y1,y2,y3⟩:=zo.q;clear zo;go_wp2_with fail;exact ⟨rfl,Below.refl _ _,fun t ht => by injection ht with ht;subst ht;exact ⟨rfl,fun h => by simp at h⟩⟩
 ·
  intro f w8 hb hd iD;clear iD;have d6 : f 6 = .int .i64 ((l2 - kn : Nat) : Int):=hd 6 (show 6 < 8 by decide);have d7 : f 7 = ze 1 9000 false xa xn xc:=hd 7 (show 7 < 8 by decide)
  try dsimp only
  rw [d6,d7];clear hd d6 d7;have KX:=HO.out.lt;replace HO:=zh (HO.out.below hb);replace jy:=zh (jy.out.below hb);replace eY:=zh (eY.out.below hb);replace l7:=zh (l7.out.below hb);replace fg:=zh (fg.out.trans (hb.mono (by omega)));clear hb;obtain ⟨z0,z1,z2,z3⟩:=(dX.iu HO.out).q;have zf:=(dX.iu HO.out).f;have Dr:=zh (dX.Ct HO.out 1 9000 false xa xn xc);have JR:=zh (fH.iu jy.out HO.out (zP 1 9000 false xa xn xc));have iQ:=zh (fH.iu eY.out HO.out (zP 1 9000 false xa xn xc));have HKn:=zh (dX.eD (c:=jF) (by omega) (zP 1 9000 false xa xn xc) l7.out);have fK:=zh (zD (B:=jF) (b:=jF) (ai _) (zP 1 9000 false xa xn xc) fg.out);generalize f 0 = D3,f 1 = Dy,f 2 = Dz,f 3 = DC,f 4 = DF,f 5 = DG;clear f;change wpList _ _ _ (_ :: _ :: []) _ _;go_wp2_with fail;exact HK.out _ _ _ _ _ _ _ _ _ Dr JR iQ HKn fK
 intro f w8 hb hd iD;clear iD;have d6 : f 6 = .int .i64 ((l2 - kn : Nat) : Int):=hd 6 (show 6 < 8 by decide) (show 6 ≠ 7 by decide)
 try dsimp only
 rw [d6];clear hd d6;have KX:=HO.out.lt;replace HO:=zh (HO.out.below hb);replace jy:=zh (jy.out.below hb);replace eY:=zh (eY.out.below hb);replace l7:=zh (l7.out.below hb);replace fg:=zh (fg.out.trans (hb.mono (by omega)));have zo:=dX.iu (HZ.out.below hb);obtain ⟨y0,y1,y2,y3⟩:=zo.q;clear zo;clear hb;obtain ⟨z0,z1,z2,z3⟩:=(dX.iu HO.out).q;have zf:=(dX.iu HO.out).f;have Dr:=zh (dX.Ct HO.out 1 9000 false xa xn xc);have JR:=zh (fH.iu jy.out HO.out (zP 1 9000 false xa xn xc));have iQ:=zh (fH.iu eY.out HO.out (zP 1 9000 false xa xn xc));have HKn:=zh (dX.eD (c:=jF) (by omega) (zP 1 9000 false xa xn xc) l7.out);have fK:=zh (zD (B:=jF) (b:=jF) (ai _) (zP 1 9000 false xa xn xc) fg.out);generalize f 0 = D3,f 1 = Dy,f 2 = Dz,f 3 = DC,f 4 = DF,f 5 = DG,f 7 = Ii;clear f;change wpList _ _ _ (_ :: _ :: _ :: []) _ _;go_wp2_with fail
 exact HK.out _ _ _ _ _ _ _ _ _ Dr JR iQ HKn fK
theorem zMr {u0 u1 u2 u3 u4 u5 u6 u7 u8 u10 u11 u12 u13 u14 u15 u16 FR FT FU FV Te u23 u24 FW u26 Jd u28 KW Iu u32 u33 Iv FX u36 Iw u38 Iy Iz FY FZ F0 u44 u45 F2 F3 F4 F5 F6 F7 F8 F9 Ga Gb Gc Gd Ge Gf Gg Gh Gi Gj u64 Gk Gl Gm Gq Gr Gs Gt Gu Gv Gw Gx Gy Gz GD GF GG GH GI GK GM GN GQ GR GU GV GX GY GZ G0 G1 G4 G5 G6 G7 G8 mN mO mP mQ mR mS mU mV mW mX mY mZ ng nh ni nj nk np nt nu nw ny nz nA nB nC nD nE nG nH nI nJ nK nL nM nN nO nP u138 nQ nR nU nV nW nX nY nZ n9 n_ od oh ou oz oA oB oC oD oF oG oH oI oJ oK oL oM oO oP oQ oT oU oV oW oZ o5 Cy o6 Cz o7 rD rE rF rG rH rI rJ rK rL rM rO rP rQ rR BA u193 BD BF BG BH u198 BI BJ BK BL BM BN rS rT rU rV rW rX rY rZ r_ sj sq sr BO BP BQ BR BS BU BV BW su o8 o9 o_ pd pg pj sw sx sB sD sF sI sJ sK sL pq px pE pF pH pI pJ pK pM pN pO pP sM sN sP sR sS sU sV sW sX sY sZ t_ u_ w_ y_ z_ Aa Ab Ac Ad Ae Af Ag Ah Ai Aj Ak Al Am Ao Ap Aq Ar Au Av Aw Ay Az AB AE AG AH AI AK AL AO AP AQ AU AV AW AX AY AZ A0 A1 A2 A3 A4 A5 A6 A7 pQ : Value} {K : Act → World → Prop} {Q : Exit → Act → World → Prop} {v0 : World} {bX bP : Nat} {tn tr tm tz tL tG : Int} {s2 : Sl} {kv rv : Value} {eN : Bool} {tk : Int} {na : Option Addr} {nn nc m : Nat} {dn dr dm dz dL dG : Int} {df : Nat → List It}
  (HX : Hid (dX v0 bX (zQ tn tr tm tz s2 tL tG) 38)) (U8 : Hid (dX v0 bP (wt eN tk kv (.slice na nn nc) rv) 71))
  (DN : Hid (∀ (W : World) (kh : IntKind),(Instr.slice 23 (.slice na nn nc) none (some (.int kh (m : Int))) none).run Tryz.prog W = .ok (.slice na m nc) W))
  (CW : Hid (∀ W2,Below v0.heap.size v0 W2 → Calls Tryz.prog 12 #[zV tn tr tm tz s2 tL tG,.slice na m nc] W2 (Kv W2 (0,⟨dn,dr,dm,dz,⟨df,dL,dG⟩⟩))))
  (HK : Hid (∀ (v232 v233 v234 aaj v236 aak aal aam aan : Value) (bG : Nat) (s9 : Sl) (W' : World),v0.heap.size ≤ bG → Hid (dX W' bG (zQ dn dr dm dz s9 dL dG) 38) → Hid (fq W' s9 df) → Hid (Below v0.heap.size v0 W') → K ⟨#[u0,u1,u2,u3,u4,u5,u6,u7,u8,.pointer (some ⟨bP,0,none⟩),u10,u11,u12,u13,u14,u15,u16,FR,FT,FU,FV,.int .i64 (m : Int),Te,u23,u24,FW,u26,Jd,u28,KW,Iu,.pointer (some ⟨bX,0,none⟩),u32,.pointer (some ⟨bG,0,none⟩),.int .i64 0,FX,u36,Iw,u38,Iy,Iz,FY,FZ,F0,u44,u45,F2,F3,F4,F5,F6,F7,F8,F9,Ga,Gb,Gc,Gd,Ge,Gf,Gg,Gh,Gi,Gj,u64,Gk,Gl,Gm,Gq,Gr,Gs,Gt,Gu,Gv,Gw,Gx,Gy,Gz,GD,GF,GG,GH,GI,GK,GM,GN,GQ,GR,GU,GV,GX,GY,GZ,G0,G1,G4,G5,G6,G7,G8,mN,mO,mP,mQ,mR,mS,mU,mV,mW,mX,mY,mZ,ng,nh,ni,nj,nk,np,nt,nu,nw,ny,nz,nA,nB,nC,nD,nE,nG,nH,nI,nJ,nK,nL,nM,nN,nO,nP,u138,nQ,nR,nU,nV,nW,nX,nY,nZ,n9,n_,od,oh,ou,oz,oA,oB,oC,oD,oF,oG,oH,oI,oJ,oK,oL,oM,oO,oP,oQ,oT,oU,oV,oW,oZ,o5,Cy,o6,Cz,o7,rD,rE,rF,rG,rH,rI,rJ,rK,rL,rM,rO,rP,rQ,rR,BA,u193,BD,BF,BG,BH,u198,BI,BJ,BK,BL,BM,BN,rS,rT,rU,rV,rW,rX,rY,rZ,r_,sj,sq,sr,BO,BP,BQ,BR,BS,BU,BV,BW,su,o8,o9,o_,pd,pg,pj,v232,v233,v234,aaj,v236,aak,aal,aam,aan,pq,px,pE,pF,pH,pI,pJ,pK,pM,pN,pO,pP,sM,sN,sP,sR,sS,sU,sV,sW,sX,sY,sZ,t_,u_,w_,y_,z_,Aa,Ab,Ac,Ad,Ae,Af,Ag,Ah,Ai,Aj,Ak,Al,Am,Ao,Ap,Aq,Ar,Au,Av,Aw,Ay,Az,AB,AE,AG,AH,AI,AK,AL,AO,AP,AQ,AU,AV,AW,AX,AY,AZ,A0,A1,A2,A3,A4,A5,A6,A7,pQ],[]⟩ W')) :
  Code.wp Tryz.prog (pfR 43) (Exit.then K Q) ⟨#[u0,u1,u2,u3,u4,u5,u6,u7,u8,.pointer (some ⟨bP,0,none⟩),u10,u11,u12,u13,u14,u15,u16,FR,FT,FU,FV,.int .i64 (m : Int),Te,u23,u24,FW,u26,Jd,u28,KW,Iu,.pointer (some ⟨bX,0,none⟩),u32,u33,Iv,FX,u36,Iw,u38,Iy,Iz,FY,FZ,F0,u44,u45,F2,F3,F4,F5,F6,F7,F8,F9,Ga,Gb,Gc,Gd,Ge,Gf,Gg,Gh,Gi,Gj,u64,Gk,Gl,Gm,Gq,Gr,Gs,Gt,Gu,Gv,Gw,Gx,Gy,Gz,GD,GF,GG,GH,GI,GK,GM,GN,GQ,GR,GU,GV,GX,GY,GZ,G0,G1,G4,G5,G6,G7,G8,mN,mO,mP,mQ,mR,mS,mU,mV,mW,mX,mY,mZ,ng,nh,ni,nj,nk,np,nt,nu,nw,ny,nz,nA,nB,nC,nD,nE,nG,nH,nI,nJ,nK,nL,nM,nN,nO,nP,u138,nQ,nR,nU,nV,nW,nX,nY,nZ,n9,n_,od,oh,ou,oz,oA,oB,oC,oD,oF,oG,oH,oI,oJ,oK,oL,oM,oO,oP,oQ,oT,oU,oV,oW,oZ,o5,Cy,o6,Cz,o7,rD,rE,rF,rG,rH,rI,rJ,rK,rL,rM,rO,rP,rQ,rR,BA,u193,BD,BF,BG,BH,u198,BI,BJ,BK,BL,BM,BN,rS,rT,rU,rV,rW,rX,rY,rZ,r_,sj,sq,sr,BO,BP,BQ,BR,BS,BU,BV,BW,su,o8,o9,o_,pd,pg,pj,sw,sx,sB,sD,sF,sI,sJ,sK,sL,pq,px,pE,pF,pH,pI,pJ,pK,pM,pN,pO,pP,sM,sN,sP,sR,sS,sU,sV,sW,sX,sY,sZ,t_,u_,w_,y_,z_,Aa,Ab,Ac,Ad,Ae,Af,Ag,Ah,Ai,Aj,Ak,Al,Am,Ao,Ap,Aq,Ar,Au,Av,Aw,Ay,Az,AB,AE,AG,AH,AI,AK,AL,AO,AP,AQ,AU,AV,AW,AX,AY,AZ,A0,A1,A2,A3,A4,A5,A6,A7,pQ],[]⟩ v0:=by
 conv => arg 2; whnf
 refine yh [eX (zV tn tr tm tz s2 tL tG),eX (.pointer (some ⟨bP,3,none⟩)),eX (.slice na nn nc),eX (.int .i64 (m : Int)),eX (.slice na m nc),PW 0 dn dr dm dz df dL dG,PW 0 dn dr dm dz df dL dG,YJ dn dr dm dz df dL dG,eX (.int .i64 0),Yq 38 v0.heap.size] [9] 316 8 (by kernel_rfl) (by kernel_rfl) rfl rfl (by decide) (by rfl) (by kernel_rfl) (fun f => by simp [fD,zW,Act.put]; exact rfl) ?_ ?_ ?_
 ·
  refine ⟨?_,?_,?_,?_,?_,?_,?_,?_,?_,?_,trivial⟩
  ·
   intro f w2 hb hd;clear hd;dsimp only;have hx:=(HX.out.below hb).gen;obtain ⟨q0,q1,q2,q3,q4,q5,q6,q7,q8,q9,FC,FD,FE,FF⟩:=hx.q;clear hx;go_wp2_with fail;exact ⟨rfl,Below.refl _ _,fun t ht => by injection ht with ht;subst ht;exact ⟨rfl,fun h => by simp at h⟩⟩
  ·
   intro f w2 hb hd;clear hd;dsimp only;go_wp2_with fail;exact ⟨rfl,Below.refl _ _,fun t ht => by injection ht with ht;subst ht;exact ⟨rfl,fun h => by simp at h⟩⟩
  ·
   intro f w2 hb hd;have d1 : f 1 = (.pointer (some ⟨bP,3,none⟩)):=hd 1 (by kernel_rfl);clear hd;dsimp only;rw [d1];have q3:=dX.cell (U8.out.below hb) (i:=3) rfl;go_wp2_with fail;exact ⟨rfl,Below.refl _ _,fun t ht => by injection ht with ht;subst ht;exact ⟨rfl,fun h => by simp at h⟩⟩
  ·
   intro f w2 hb hd;clear hd;dsimp only;go_wp2_with fail;exact ⟨rfl,Below.refl _ _,fun t ht => by injection ht with ht;subst ht;exact ⟨rfl,fun h => by simp at h⟩⟩
  ·
   intro f w2 hb hd;have d2 : f 2 = (.slice na nn nc):=hd 2 (by kernel_rfl);have d3 : f 3 = (.int .i64 (m : Int)):=hd 3 (by kernel_rfl);clear hd;dsimp only;rw [d2];rw [d3];have j0:=DN.out;go_wp2_with fail;exact ⟨rfl,Below.refl _ _,fun t ht => by injection ht with ht;subst ht;exact ⟨rfl,fun h => by simp at h⟩⟩
  ·
   intro f w2 hb hd;have d0 : f 0 = (zV tn tr tm tz s2 tL tG):=hd 0 (by kernel_rfl);have d4 : f 4 = (.slice na m nc):=hd 4 (by kernel_rfl);clear hd;dsimp only;rw [d0];rw [d4];go_wp2_with fail;refine (CW.out w2 hb).mono ?_;rintro e w9 ⟨⟨s9,rfl,B5⟩,gL⟩;have ic:=zh B5.rd;clear B5;go_wp2_with fail;exact ⟨rfl,gL,fun t ht => by injection ht with ht; subst ht; exact ⟨⟨s9,rfl,ic.out⟩,fun h => by simp at h⟩⟩
  ·
   intro f w2 hb hd;obtain ⟨s5,d5,r5⟩:=show ∃ s,f 5 = .tuple #[zV dn dr dm dz s dL dG,.int .i64 0] ∧ fq w2 s df from hd 5 (by kernel_rfl);clear hd;dsimp only;rw [d5];have ic:=zh r5;clear r5;go_wp2_with fail;exact ⟨rfl,aj _ _,fun t ht => by injection ht with ht; subst ht; exact ⟨⟨s5,rfl,ic.out⟩,fun h => by simp at h⟩⟩
  ·
   intro f w2 hb hd;obtain ⟨s6,d6,r6⟩:=show ∃ s,f 6 = .tuple #[zV dn dr dm dz s dL dG,.int .i64 0] ∧ fq w2 s df from hd 6 (by kernel_rfl);clear hd;dsimp only;rw [d6];have ic:=zh r6;clear r6;go_wp2_with fail;exact ⟨rfl,aj _ _,fun t ht => by injection ht with ht; subst ht; exact ⟨⟨s6,rfl,ic.out⟩,fun h => by simp at h⟩⟩
  ·
   intro f w2 hb hd;obtain ⟨s6,d6,r6⟩:=show ∃ s,f 6 = .tuple #[zV dn dr dm dz s dL dG,.int .i64 0] ∧ fq w2 s df from hd 6 (by kernel_rfl);clear hd;dsimp only;rw [d6];clear r6;go_wp2_with fail;exact ⟨rfl,Below.refl _ _,fun t ht => by injection ht with ht;subst ht;exact ⟨rfl,fun h => by simp at h⟩⟩
  intro f w2 hb hd;clear hd;dsimp only;have Cm:=hb.size;have I5:=dX.new w2 (zQ 0 0 0 0 Sl.nil 0 0) 38;go_wp2_with fail;exact ⟨rfl,(aj _ _).alloc (ai _) _,fun t ht => by injection ht with ht; subst ht; exact ⟨⟨_,rfl,Cm,I5⟩,fun _ => ⟨ai _,by simp [blk]⟩⟩⟩
 ·
  intro f w8 hb hd iD;clear iD;obtain ⟨s9,d9,r9⟩:=show ∃ s,f 7 = zV dn dr dm dz s dL dG ∧ fq w8 s df from hd 7 (show 7 < 10 by decide);obtain ⟨bG,d11,lo,bx⟩:=show ∃ b,f 9 = .pointer (some ⟨b,0,none⟩) ∧ v0.heap.size ≤ b ∧ dX w8 b (zQ 0 0 0 0 Sl.nil 0 0) 38 from hd 9 (show 9 < 10 by decide);have d10 : f 8 = .int .i64 0:=hd 8 (show 8 < 10 by decide)
  try dsimp only
  rw [d9,d10,d11];clear hd d9 d10 d11;have jm:=zh (show dX (pts w8 bG (zJ dn dr dm dz s9 dL dG)) bG (zQ dn dr dm dz s9 dL dG) 38 from (by have h:=dX.sets (zJ dn dr dm dz s9 dL dG) bx; rw [us] at h; exact h));have iQ:=zh (fq.gen r9 bx (zJ dn dr dm dz s9 dL dG));have fK:=zh (zD (B:=v0.heap.size) (b:=bG) lo (zJ dn dr dm dz s9 dL dG) hb);have bg:=bx.gen;obtain ⟨g0,g1,g2,g3,g4,g5,g6,g7,g8,g9,g10,g11,g12,g13⟩:=bg.q;have gf:=bg.f;clear r9 bx bg hb;generalize f 0 = D3,f 1 = Dy,f 2 = Dz,f 3 = DC,f 4 = DF,f 5 = DG,f 6 = E7;clear f;change wpList _ _ _ (_ :: _ :: []) _ _;go_wp2_with fail;exact HK.out _ _ _ _ _ _ _ _ _ bG s9 _ lo jm iQ fK
 intro f w8 hb hd iD;clear iD;obtain ⟨s9,d9,r9⟩:=show ∃ s,f 7 = zV dn dr dm dz s dL dG ∧ fq w8 s df from hd 7 (show 7 < 10 by decide) (show 7 ≠ 8 by decide);obtain ⟨bG,d11,lo,bx⟩:=show ∃ b,f 9 = .pointer (some ⟨b,0,none⟩) ∧ v0.heap.size ≤ b ∧ dX w8 b (zQ 0 0 0 0 Sl.nil 0 0) 38 from hd 9 (show 9 < 10 by decide) (show 9 ≠ 8 by decide);obtain ⟨s8,d8,r8⟩:=show ∃ s,f 6 = .tuple #[zV dn dr dm dz s dL dG,.int .i64 0] ∧ fq w8 s df from hd 6 (show 6 < 10 by decide) (show 6 ≠ 8 by decide);clear r8
 try dsimp only
 rw [d8,d9,d11];clear hd d8 d9 d11;have jm:=zh (show dX (pts w8 bG (zJ dn dr dm dz s9 dL dG)) bG (zQ dn dr dm dz s9 dL dG) 38 from (by have h:=dX.sets (zJ dn dr dm dz s9 dL dG) bx; rw [us] at h; exact h));have iQ:=zh (fq.gen r9 bx (zJ dn dr dm dz s9 dL dG));have fK:=zh (zD (B:=v0.heap.size) (b:=bG) lo (zJ dn dr dm dz s9 dL dG) hb);have bg:=bx.gen;obtain ⟨g0,g1,g2,g3,g4,g5,g6,g7,g8,g9,g10,g11,g12,g13⟩:=bg.q;have gf:=bg.f;clear r9 bx bg hb;generalize f 0 = D3,f 1 = Dy,f 2 = Dz,f 3 = DC,f 4 = DF,f 5 = DG,f 8 = MF;clear f;change wpList _ _ _ (_ :: _ :: _ :: []) _ _;go_wp2_with fail;exact HK.out _ _ _ _ _ _ _ _ _ bG s9 _ lo jm iQ fK
theorem zM9 {u0 u1 u2 u3 u4 u5 u6 u10 u12 u14 u15 u16 FR FT FU FV u21 u23 u24 FW u26 Jd u28 KW Iu Ke u32 u33 Iv FX Iw u38 Iy Iz FY FZ F0 u44 u45 F2 F3 F4 F5 F6 F7 F8 F9 Ga Gb Gc Gd Ge Gf Gg Gh Gi Gj u64 Gk Gl Gm Gq Gr Gs Gt Gu Gv Gw Gx Gy Gz GD GF GG GH GI GK GM GN GQ GR GU GV GX GY GZ G0 G1 G4 G5 G6 G7 G8 mN mO mP mQ mR mS mU mV mW mX mY mZ ng nh ni nj nk np nt nu nw ny nz nA nB nC nD nE nG nH nI nJ nK nL nM nN nO nP u138 nQ nR nU nV nW nX nY nZ n9 n_ od oh ou oz oA oB oC oD oF oG oH oI oJ oK oL oM oO oP oQ oT oU oV oW oZ o5 Cy o6 Cz o7 rD rE rF rG rH rI rJ rK rL rM rO rP rQ rR BA u193 BD BF BG BH u198 BI BJ BK BL BM BN rS rT rU rV rW rX rY rZ r_ sj sq sr BO BP BQ BR BS BU BV BW su o8 o9 o_ pd pg pj sw sx sB sD sF sI sJ sK sL pq px pE pF pH pI pJ pK pM pN pO pP sM sN sP sR sS sU sV sW sX sY sZ t_ u_ w_ y_ z_ Aa Ab Ac Ad Ae Af Ag Ah Ai Aj Ak Al Am Ao Ap Aq Ar Au Av Aw Ay Az AB AE AG AH AI AK AL AO AP AQ AU AV AW AX AY AZ A0 A1 A2 A3 A4 A5 A6 A7 pQ : Value} {K : Act → World → Prop} {Q : Exit → Act → World → Prop} {v0 : World} {bS bP bT jF bm : Nat} {n c xn xc kk kc nn nc rN rc qc : Nat} {a' xa ka na ra qa : Option Addr} {tn tr tm tz tL tG : Int} {sT : Sl} {res : List Int} {q4 : List (Rq × Value)} {NS NT : Nat → Vl}
  (LI : rN ≤ 16) (hrq : rN ≤ q4.length) (hrl : res.length = rN)
  (LU : Hid (dX v0 bS (zN 1 9000 false a' n c) 27)) (Dr : Hid (dX v0 jF (zN 1 9000 false xa xn xc) 27)) (Kf : Hid (dX v0 bT (zQ tn tr tm tz sT tL tG) 38))
  (IA : Hid (dX v0 bP (wt false (rN : Int) (.slice ka kk kc) (.slice na nn nc) (.slice ra rN rc)) 71)) (MV : Hid (Rd v0 1 (.slice ra res.length rc) res.length (res.map I3))) (LW : Hid (Dc v0 (.slice qa q4.length qc) q4))
  (Hl : Hid (∀ key,key < 8 → ∀ W,Below v0.heap.size v0 W → Calls Tryz.prog 30 #[ze 1 9000 false a' n c,.int .u64 (key : Nat),.int .i64 tn,.int .i64 tz,.map (some bm)] W fun e w' => e = .returned (ML (NS key)) ∧ Below W.heap.size W w'))
  (Dh : Hid (∀ key,key < 8 → ∀ W,Below v0.heap.size v0 W → Calls Tryz.prog 30 #[ze 1 9000 false xa xn xc,.int .u64 (key : Nat),.int .i64 tn,.int .i64 tz,.map (some bm)] W fun e w' => e = .returned (ML (NT key)) ∧ Below W.heap.size W w'))
  (DV : Hid (∀ key,NT key = NS key ∨ ∃ j,j < rN ∧ (gZ q4 j).1.key = key ∧ xT res j = 0 ∧ NT key = (if (gZ q4 j).1.kind = 1 then (true,1 + (j : Int),0,0) else (false,0,0,0))))
  (HK : Hid (∀ (v6 v36 v37 v38 v39 v40 aao aap aaq aar aas aat aau aav aaw aax aay aaz aaA aaB aaC aaD aaE aaF aaG aaH aaI aaJ aaK aaL aaM aaN aaO aaP aaQ aaR aaS aaT aaU aaV aaW aaX aaY aaZ aa0 aa1 aa2 aa3 aa4 aa5 aa6 aa7 aa8 aa9 aa_ abb abd abe abf abg abh abj abk abl abm abn abo abp : Value) (W' : World),Hid (Below v0.heap.size v0 W') → K ⟨#[u0,u1,u2,u3,u4,u5,v6,.pointer (some ⟨bS,0,none⟩),.slice qa q4.length qc,.pointer (some ⟨bP,0,none⟩),u10,.pointer (some ⟨bT,0,none⟩),u12,.map (some bm),u14,u15,u16,FR,FT,FU,FV,u21,.pointer (some ⟨jF,0,none⟩),u23,u24,FW,u26,Jd,u28,KW,Iu,Ke,u32,u33,Iv,FX,v36,v37,v38,v39,v40,FY,FZ,F0,u44,u45,F2,F3,F4,F5,F6,F7,F8,F9,Ga,Gb,Gc,Gd,Ge,Gf,Gg,Gh,Gi,Gj,u64,Gk,Gl,Gm,Gq,Gr,Gs,Gt,Gu,Gv,Gw,Gx,Gy,Gz,GD,GF,GG,GH,GI,GK,GM,GN,GQ,GR,GU,GV,GX,GY,GZ,G0,G1,G4,G5,G6,G7,G8,mN,mO,mP,mQ,mR,mS,mU,mV,mW,mX,mY,mZ,ng,nh,ni,nj,nk,np,nt,nu,nw,ny,nz,nA,nB,nC,nD,nE,nG,nH,nI,nJ,nK,nL,nM,nN,nO,nP,u138,nQ,nR,nU,nV,nW,nX,nY,nZ,n9,n_,od,oh,ou,oz,oA,oB,oC,oD,oF,oG,oH,oI,oJ,oK,oL,oM,oO,oP,oQ,oT,oU,oV,oW,oZ,o5,Cy,o6,Cz,o7,rD,rE,rF,rG,rH,rI,rJ,rK,rL,rM,rO,rP,rQ,rR,BA,u193,BD,BF,BG,BH,u198,BI,BJ,BK,BL,BM,BN,rS,rT,rU,rV,rW,rX,rY,rZ,r_,sj,sq,sr,BO,BP,BQ,BR,BS,BU,BV,BW,su,o8,o9,o_,pd,pg,pj,sw,sx,sB,sD,sF,sI,sJ,sK,sL,pq,px,pE,pF,pH,pI,pJ,pK,pM,pN,pO,pP,aao,aap,aaq,aar,aas,aat,aau,aav,aaw,aax,aay,aaz,aaA,aaB,aaC,aaD,aaE,aaF,aaG,aaH,aaI,aaJ,aaK,aaL,aaM,aaN,aaO,aaP,aaQ,aaR,aaS,aaT,aaU,aaV,aaW,aaX,aaY,aaZ,aa0,aa1,aa2,aa3,aa4,aa5,aa6,aa7,aa8,aa9,aa_,abb,abd,abe,abf,abg,abh,abj,abk,abl,abm,abn,abo,abp,pQ],[]⟩ W')) :
  Code.wp Tryz.prog (pfB 8) (Exit.then K Q) ⟨#[u0,u1,u2,u3,u4,u5,u6,.pointer (some ⟨bS,0,none⟩),.slice qa q4.length qc,.pointer (some ⟨bP,0,none⟩),u10,.pointer (some ⟨bT,0,none⟩),u12,.map (some bm),u14,u15,u16,FR,FT,FU,FV,u21,.pointer (some ⟨jF,0,none⟩),u23,u24,FW,u26,Jd,u28,KW,Iu,Ke,u32,u33,Iv,FX,.int .u64 0,Iw,u38,Iy,Iz,FY,FZ,F0,u44,u45,F2,F3,F4,F5,F6,F7,F8,F9,Ga,Gb,Gc,Gd,Ge,Gf,Gg,Gh,Gi,Gj,u64,Gk,Gl,Gm,Gq,Gr,Gs,Gt,Gu,Gv,Gw,Gx,Gy,Gz,GD,GF,GG,GH,GI,GK,GM,GN,GQ,GR,GU,GV,GX,GY,GZ,G0,G1,G4,G5,G6,G7,G8,mN,mO,mP,mQ,mR,mS,mU,mV,mW,mX,mY,mZ,ng,nh,ni,nj,nk,np,nt,nu,nw,ny,nz,nA,nB,nC,nD,nE,nG,nH,nI,nJ,nK,nL,nM,nN,nO,nP,u138,nQ,nR,nU,nV,nW,nX,nY,nZ,n9,n_,od,oh,ou,oz,oA,oB,oC,oD,oF,oG,oH,oI,oJ,oK,oL,oM,oO,oP,oQ,oT,oU,oV,oW,oZ,o5,Cy,o6,Cz,o7,rD,rE,rF,rG,rH,rI,rJ,rK,rL,rM,rO,rP,rQ,rR,BA,u193,BD,BF,BG,BH,u198,BI,BJ,BK,BL,BM,BN,rS,rT,rU,rV,rW,rX,rY,rZ,r_,sj,sq,sr,BO,BP,BQ,BR,BS,BU,BV,BW,su,o8,o9,o_,pd,pg,pj,sw,sx,sB,sD,sF,sI,sJ,sK,sL,pq,px,pE,pF,pH,pI,pJ,pK,pM,pN,pO,pP,sM,sN,sP,sR,sS,sU,sV,sW,sX,sY,sZ,t_,u_,w_,y_,z_,Aa,Ab,Ac,Ad,Ae,Af,Ag,Ah,Ai,Aj,Ak,Al,Am,Ao,Ap,Aq,Ar,Au,Av,Aw,Ay,Az,AB,AE,AG,AH,AI,AK,AL,AO,AP,AQ,AU,AV,AW,AX,AY,AZ,A0,A1,A2,A3,A4,A5,A6,A7,pQ],[]⟩ v0:=by
 conv => arg 2; whnf
 go_wp2_with fail
 go_loopw [36] (fun kv V => ∃ key : Nat,kv = .int .u64 (key : Int) ∧ key ≤ 8 ∧ Hid (Below v0.heap.size v0 V)) (fun kv _ => 8 - (intOf kv).toNat)
 case atStart => exact ⟨0,rfl,by omega,zh (aj _ _)⟩
 obtain ⟨key,rfl,hkey,fg⟩:=hrel
 by_cases hlt : key < 8
 ·
  have i1 : (key : Int) < 8:=by omega
  have Hs:=zh (Hl.out key hlt);have CO:=zh (Dh.out key hlt);have HPz:=zh (DV.out key);generalize NS key = nS at *;generalize NT key = nT at *;obtain ⟨sH,sQ,sG,sO⟩:=nS;obtain ⟨uH,uQ,uG,uO⟩:=nT;dsimp only [ML,KO] at Hs CO;obtain ⟨k0,k1,k2,k3⟩:=(dX.iu (LU.out.below fg.out)).q;have g0:=(Kf.out.below fg.out).cell (i:=0) rfl;have g3:=(Kf.out.below fg.out).cell (i:=3) rfl;go_wp2_with fail;refine (Hs.out wr fg.out).mono ?_;rintro e v1 ⟨rfl,hb⟩;clear k0 k1 k2 k3 g0 g3 Hs;replace fg:=zh (zA fg.out hb);clear hb;go_upto_region 51 with fail;change Code.wp _ _ _ _ (v1.alloc (.cells #[.bool sH,.int .i64 sQ,.int .i64 sG,.int .i64 sO] 92));have eU:=(aj v1.heap.size v1).alloc (ai _) (.cells #[.bool sH,.int .i64 sQ,.int .i64 sG,.int .i64 sO] 92);have HV:=zh (dX.new v1 #[.bool sH,.int .i64 sQ,.int .i64 sG,.int .i64 sO] 92);have hvl:=fg.out.size
  replace fg:=zh (zA fg.out eU);clear eU;generalize v1.alloc (.cells #[.bool sH,.int .i64 sQ,.int .i64 sG,.int .i64 sO] 92) = v2 at *;generalize v1.heap.size = G9 at *;obtain ⟨k0,k1,k2,k3⟩:=(dX.iu (Dr.out.below fg.out)).q;have g0:=(Kf.out.below fg.out).cell (i:=0) rfl;have g3:=(Kf.out.below fg.out).cell (i:=3) rfl;go_wp2_with fail;refine (CO.out v2 fg.out).mono ?_;rintro e v3 ⟨rfl,hb⟩;clear k0 k1 k2 k3 g0 g3 CO;replace fg:=zh (zA fg.out hb);replace HV:=zh (HV.out.below hb);clear hb;go_upto_region 52 with fail;change Code.wp _ _ _ _ (v3.alloc (.cells #[.bool uH,.int .i64 uQ,.int .i64 uG,.int .i64 uO] 92));have eU:=(aj v3.heap.size v3).alloc (ai _) (.cells #[.bool uH,.int .i64 uQ,.int .i64 uG,.int .i64 uO] 92);have HU:=zh (dX.new v3 #[.bool uH,.int .i64 uQ,.int .i64 uG,.int .i64 uO] 92);have h37:=HV.out.lt;replace HV:=zh (HV.out.below eU)
  replace fg:=zh (zA fg.out eU);clear eU;generalize v3.alloc (.cells #[.bool uH,.int .i64 uQ,.int .i64 uG,.int .i64 uO] 92) = v4 at *;generalize v3.heap.size = b38 at *;have y0:=HV.out.cell (i:=0) rfl;have y1:=HV.out.cell (i:=1) rfl;have y2:=HV.out.cell (i:=2) rfl;have y3:=HV.out.cell (i:=3) rfl;have z0:=HU.out.cell (i:=0) rfl;have z1:=HU.out.cell (i:=1) rfl;have z2:=HU.out.cell (i:=2) rfl;have z3:=HU.out.cell (i:=3) rfl;have hq:=zFi sH uH sQ uQ sG uG sO uO;go_upto_region 53 with fail;clear hq;clear y0 y1 y2 y3 z0 z1 z2 z3
  have HO0:=zh (show ((decide (sH = uH) && (decide (sQ = uQ) && (decide (sG = uG) && decide (sO = uO)))) = true ↔ MT (uH,uQ,uG,uO) (sH,sQ,sG,sO) (fun i => (gZ q4 i).1.key = key ∧ xT res i = 0) (fun i => if (gZ q4 i).1.kind = 1 then (true,1 + (i : Int),0,0) else (false,0,0,0)) 0) from zH2 uH sH uQ sQ uG sG uO sO (fun i => (gZ q4 i).1.key = key ∧ xT res i = 0) (fun i => if (gZ q4 i).1.kind = 1 then (true,1 + (i : Int),0,0) else (false,0,0,0)));generalize (decide (sH = uH) && (decide (sQ = uQ) && (decide (sG = uG) && decide (sO = uO)))) = ob0 at *;have HVe:=zh (show ∃ st : Vl,dX v4 G9 (KO st) 92 from ⟨(sH,sQ,sG,sO),HV.out⟩);go_wp2_with fail
  go_loopw [39,40] (fun ov jv V => ∃ (j : Nat) (ob : Bool),ov = .bool ob ∧ jv = .int .i64 (j : Int) ∧ j ≤ rN ∧ Hid (ob = true ↔ MT (uH,uQ,uG,uO) (sH,sQ,sG,sO) (fun i => (gZ q4 i).1.key = key ∧ xT res i = 0) (fun i => if (gZ q4 i).1.kind = 1 then (true,1 + (i : Int),0,0) else (false,0,0,0)) j) ∧ Hid (∃ st : Vl,dX V G9 (KO st) 92) ∧ Hid (dX V b38 #[.bool uH,.int .i64 uQ,.int .i64 uG,.int .i64 uO] 92) ∧ Hid (Below v0.heap.size v0 V)) (fun _ jv _ => rN - (intOf jv).toNat)
  case atStart => exact ⟨0,ob0,rfl,rfl,aq _,HO0,HVe,HU,fg⟩
  clear HO0 HVe HU fg HV;obtain ⟨j,ob,rfl,rfl,hj,HO,HV,HU,fg⟩:=hrel;have lU:=zh (IA.out.below fg.out);have p1:=lU.out.cell (i:=1) rfl
  by_cases Pn : j < rN
  ·
   have i2 : (j : Int) < (rN : Int):=by omega
   have p4:=lU.out.cell (i:=4) rfl;obtain ⟨br,or_,rfl,hrc⟩:=zLv (MV.out.below fg.out) (show j < res.length by omega);obtain ⟨bq,oq,rfl,_,_,hq1,Nk,_,_⟩:=(LW.out.below fg.out).at (show j < q4.length by omega);have i3 : (j : Int) < (q4.length : Int):=by omega
   by_cases e1 : (gZ q4 j).1.key = key
   ·
    have b1 : (((gZ q4 j).1.key : Int) != (key : Int)) = false:=by simp [e1]
    by_cases e0 : xT res j = 0
    ·
     have b0 : (xT res j != 0) = false:=by simp [e0]
     obtain ⟨st,hst⟩:=HV.out;have O9:=zh hst;clear hst;have w0:=O9.out.cell (i:=0) rfl;have w1:=O9.out.cell (i:=1) rfl;have w2:=O9.out.cell (i:=2) rfl;have w3:=O9.out.cell (i:=3) rfl;have wf:=O9.out.frozen;have j3 : (j : Int) ≤ 16:=by omega
     go_upto_region 58 with fail;clear w0 w1 w2 w3 wf p1 p4 hq1 Nk hrc;change Code.wp _ _ _ _ (pts wr G9 [(0,.bool false),(1,.int .i64 0),(2,.int .i64 0),(3,.int .i64 0)]);have hv:=dX.sets [(0,.bool false),(1,.int .i64 0),(2,.int .i64 0),(3,.int .i64 0)] O9.out;simp only [cG,cV,aM,aN,aK] at hv;have HW:=zh hv;replace HU:=zh (dX.eD (c:=G9) (by omega) [(0,.bool false),(1,.int .i64 0),(2,.int .i64 0),(3,.int .i64 0)] HU.out);replace fg:=zh (zD (B:=v0.heap.size) (b:=G9) hvl [(0,.bool false),(1,.int .i64 0),(2,.int .i64 0),(3,.int .i64 0)] fg.out);clear hv HV O9 lU;generalize pts wr G9 [(0,.bool false),(1,.int .i64 0),(2,.int .i64 0),(3,.int .i64 0)] = wq at *;obtain ⟨bq2,oq2,eq2,_,_,hq1,_,_,_⟩:=(LW.out.below fg.out).at (show j < q4.length by omega);injection eq2 with eq2;injection eq2 with eq3 eq4 _;subst eq3 eq4
     by_cases ek : (gZ q4 j).1.kind = 1
     ·
      have b2 : ((gZ q4 j).1.kind == 1) = true:=by simp [ek]
      have w0:=HW.out.cell (i:=0) rfl;have w1:=HW.out.cell (i:=1) rfl;have w2:=HW.out.cell (i:=2) rfl;have w3:=HW.out.cell (i:=3) rfl;have wf:=HW.out.frozen;go_upto_region 60 with fail;clear w0 w1 w2 w3 wf hq1;change Code.wp _ _ _ _ (pts wq G9 [(0,.bool true),(1,.int .i64 (1 + (j : Int))),(2,.int .i64 0),(3,.int .i64 0)]);have hv:=dX.sets [(0,.bool true),(1,.int .i64 (1 + (j : Int))),(2,.int .i64 0),(3,.int .i64 0)] HW.out;simp only [cG,cV,aM,aN,aK] at hv;replace HW:=zh hv;replace HU:=zh (dX.eD (c:=G9) (by omega) [(0,.bool true),(1,.int .i64 (1 + (j : Int))),(2,.int .i64 0),(3,.int .i64 0)] HU.out);replace fg:=zh (zD (B:=v0.heap.size) (b:=G9) hvl [(0,.bool true),(1,.int .i64 (1 + (j : Int))),(2,.int .i64 0),(3,.int .i64 0)] fg.out);clear hv
      generalize pts wq G9 [(0,.bool true),(1,.int .i64 (1 + (j : Int))),(2,.int .i64 0),(3,.int .i64 0)] = wz at *;obtain ⟨⟨t0,t1,t2,t3⟩,hv2,hst⟩ : ∃ st : Vl,dX wz G9 (KO st) 92 ∧ st = (true,1 + (j : Int),0,0):=⟨(true,1 + (j : Int),0,0),HW.out,rfl⟩
      dsimp only [KO] at hv2;have Ek:=zh (show ∃ st : Vl,dX wz G9 (KO st) 92 from ⟨(t0,t1,t2,t3),hv2⟩);have Lk:=zh hst;clear hst;have y0:=hv2.cell (i:=0) rfl;have y1:=hv2.cell (i:=1) rfl;have y2:=hv2.cell (i:=2) rfl;have y3:=hv2.cell (i:=3) rfl;have z0:=HU.out.cell (i:=0) rfl;have z1:=HU.out.cell (i:=1) rfl;have z2:=HU.out.cell (i:=2) rfl;have z3:=HU.out.cell (i:=3) rfl;clear hv2 HW;have hq:=zFi t0 uH t1 uQ t2 uG t3 uO
      cases ob
      ·
       go_wp2_with fail;exact ⟨⟨j + 1,decide (t0 = uH) && (decide (t1 = uQ) && (decide (t2 = uG) && decide (t3 = uO))),rfl,by go_num,by omega,zh (U6 HO.out ⟨e1,e0⟩ (by show _ ↔ _ ∨ (if (gZ q4 j).1.kind = 1 then (true,1 + (j : Int),0,0) else (false,0,0,0)) = (uH,uQ,uG,uO); rw [ag ek,← Lk.out]; simp)),Ek,HU,fg⟩,by simp [intOf]; omega⟩
      clear hq;go_wp2_with fail;exact ⟨⟨j + 1,true,rfl,by go_num,by omega,zh (U6 HO.out ⟨e1,e0⟩ (by simp)),Ek,HU,fg⟩,by simp [intOf]; omega⟩
     have b2 : ((gZ q4 j).1.kind == 1) = false:=by simp [ek]
     go_upto_region 60 with fail;clear hq1;obtain ⟨⟨t0,t1,t2,t3⟩,hv2,hst⟩ : ∃ st : Vl,dX wq G9 (KO st) 92 ∧ st = (false,0,0,0):=⟨(false,0,0,0),HW.out,rfl⟩
     dsimp only [KO] at hv2;have Ek:=zh (show ∃ st : Vl,dX wq G9 (KO st) 92 from ⟨(t0,t1,t2,t3),hv2⟩);have Lk:=zh hst;clear hst;have y0:=hv2.cell (i:=0) rfl;have y1:=hv2.cell (i:=1) rfl;have y2:=hv2.cell (i:=2) rfl;have y3:=hv2.cell (i:=3) rfl;have z0:=HU.out.cell (i:=0) rfl;have z1:=HU.out.cell (i:=1) rfl;have z2:=HU.out.cell (i:=2) rfl;have z3:=HU.out.cell (i:=3) rfl;clear hv2 HW;have hq:=zFi t0 uH t1 uQ t2 uG t3 uO
     cases ob
     ·
      go_wp2_with fail;exact ⟨⟨j + 1,decide (t0 = uH) && (decide (t1 = uQ) && (decide (t2 = uG) && decide (t3 = uO))),rfl,by go_num,by omega,zh (U6 HO.out ⟨e1,e0⟩ (by show _ ↔ _ ∨ (if (gZ q4 j).1.kind = 1 then (true,1 + (j : Int),0,0) else (false,0,0,0)) = (uH,uQ,uG,uO); rw [ah ek,← Lk.out]; simp)),Ek,HU,fg⟩,by simp [intOf]; omega⟩
     clear hq;go_wp2_with fail;exact ⟨⟨j + 1,true,rfl,by go_num,by omega,zh (U6 HO.out ⟨e1,e0⟩ (by simp)),Ek,HU,fg⟩,by simp [intOf]; omega⟩
    have b0 : (xT res j != 0) = true:=by simp [e0]
    have lZ:=zh (zKI HO.out (fun h => e0 h.2));go_wp2_with fail;exact ⟨⟨j + 1,ob,rfl,by go_num,by omega,lZ,HV,HU,fg⟩,by simp [intOf]; omega⟩
   have b1 : (((gZ q4 j).1.key : Int) != (key : Int)) = true:=by simp; omega
   have lZ:=zh (zKI HO.out (fun h => e1 h.1));go_wp2_with fail;exact ⟨⟨j + 1,ob,rfl,by go_num,by omega,lZ,HV,HU,fg⟩,by simp [intOf]; omega⟩
  obtain rfl : j = rN:=by omega
  have i2 : ¬ (j : Int) < (j : Int):=by omega
  have NB : ob = true:=HO.out.2 (zLK HPz.out);subst NB;go_wp2_with fail;exact ⟨⟨key + 1,by go_num,by omega,fg⟩,by simp [intOf]; omega⟩
 obtain rfl : key = 8:=by omega
 have i1 : ¬ (8 : Int) < 8:=by omega
 go_wp2_with fail;exact HK.out _ _ _ _ _ _ _ _ _ _ _ _ _ _ _ _ _ _ _ _ _ _ _ _ _ _ _ _ _ _ _ _ _ _ _ _ _ _ _ _ _ _ _ _ _ _ _ _ _ _ _ _ _ _ _ _ _ _ _ _ _ _ _ _ _ _ _ _ _ fg
end Go.Proofs.YtcgfilmmokmdjaaGreat
