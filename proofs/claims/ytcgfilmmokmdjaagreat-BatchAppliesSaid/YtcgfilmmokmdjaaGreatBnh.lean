import Derived.Test.YtcgfilmmokmdjaaGreatBwx
import Derived.Test.YtcgfilmmokmdjaaGreatQBB
import Derived.Test.YtcgfilmmokmdjaaGreatBab
set_option linter.all false
set_option maxRecDepth 100000
set_option maxHeartbeats 32000000
namespace Go.Proofs.YtcgfilmmokmdjaaGreat
open Go.Proofs.Tryz
open Go.RowKit
def zDx (P:fP) (eH:Bool) (tk:Int) (ka na ra:Option Addr) (kc nc rn rc:Nat) (ks:List KP) (es:List (Nd×Value)) (v vl:Value) (ac:List rj) (qs:List (Rq×Value)) (much:Bool) (w:World) (h:jF w P (.slice ka ks.length kc) ks (.slice na es.length nc) es (.slice ra rn rc)) (El:∀ p∈es,p.1.Wf) (hA:Gy w v ac) (hq:AW w vl qs) :
  Calls prog 8 #[.agg #[.bool eH,.int .i64 tk,.slice ka ks.length kc,.slice na es.length nc,.slice ra rn rc],v,vl,.bool much] w fun e w'=>e=.returned (.bool true)/\Below w.heap.size w w':=by
 obtain ⟨va,vc,rfl,Ai,hv2⟩:=hA.shape;obtain ⟨qa,qc,rfl,hq1,Va⟩:=hq.shape;have Fa:ks.length<=9223372036854775807:=(by obtain ⟨_,_,e,h1,h2⟩:=h.k.shape;exact ak h1 h2)
 have hem:es.length<=9223372036854775807:=(by obtain ⟨_,_,e,h1,h2⟩:=h.n.shape;exact ak h1 h2)
 have HMa:=zh (fun W (hb:Below w.heap.size w W)=>zOc _ ac W (hA.bb hb));have RH:=zh (fun W=>zOW W);have iu:=zh h;have HWf:=zh El;have HQ:=zh hq;generalize ac.length=an at *;clear h hA Ai hv2 hq El;have eO:=zh (eu.new w #[.bool eH,.int .i64 tk,.slice ka ks.length kc,.slice na es.length nc,.slice ra rn rc] 78);have HB:=zh ((aj w.heap.size w).alloc (ag _) (.cells #[.bool eH,.int .i64 tk,.slice ka ks.length kc,.slice na es.length nc,.slice ra rn rc] 78));have DR:=zh (iu.o.bb HB.o);have FE:=zh (HQ.o.bb HB.o);clear HQ
 go_enter func8,ntmps8
 go_upto_region 1 with fail;change Code.wp _ _ _ _ (.alloc _ (.cells _ 78));generalize w.alloc (.cells #[.bool eH,.int .i64 tk,.slice ka ks.length kc,.slice na es.length nc,.slice ra rn rc] 78)=W0 at *;have p0:=eu.cell (i:=0) eO.o rfl;have p1:=eu.cell (i:=1) eO.o rfl;have p2:=eu.cell (i:=2) eO.o rfl;have p3:=eu.cell (i:=3) eO.o rfl;have p4:=eu.cell (i:=4) eO.o rfl
 by_cases mh:8<ks.length
 ·have i1:(8:Int)<(ks.length:Int):=by omega
  go_wp2_with fail;refine (RH.o _).mono ?_;rintro e w2 ⟨rfl,hb⟩;go_wp2_with fail;go_ret;exact ⟨rfl,zA HB.o hb⟩
 have i1:¬ (8:Int)<(ks.length:Int):=by omega
 by_cases oA:8<es.length
 ·have i2:(8:Int)<(es.length:Int):=by omega
  go_wp2_with fail;refine (RH.o _).mono ?_;rintro e w2 ⟨rfl,hb⟩;go_wp2_with fail;go_ret;exact ⟨rfl,zA HB.o hb⟩
 have i2:¬ (8:Int)<(es.length:Int):=by omega
 go_upto_region 3 with fail;clear i1 i2;go_wp2_with fail;clear p0 p1 p2 p3 p4
 go_loopw [38] (fun iv W=>∃ k:Nat,iv=.int .i64 (k:Int)/\k<=es.length/\Hid (∀ j,j<k->(yw es j).1.data.length<=5000)/\Hid (Below W0.heap.size W0 W)) (fun iv _=>es.length-(intOf iv).toNat)
 case atStart=>exact ⟨0,rfl,aq _,zh (fun j hj=>absurd hj (by omega)),zh (aj _ _)⟩
 obtain ⟨k,rfl,hk,HD,jZ⟩:=hrel
 by_cases hlt:k<es.length
 ·have i2:(k:Int)<(es.length:Int):=by omega
  have p3:=eu.cell (i:=3) (eO.o.bb jZ.o) rfl;obtain ⟨qb,qo,rfl,hd,_,_,_,c4⟩:=(DR.o.n.bb jZ.o).at (j:=k) hlt;obtain ⟨da,dc,e5,_,_⟩:=hd.fO;rw[e5] at c4;have hlen:(yw es k).1.data.length=(yw es k).1.data.length:=rfl;generalize iz:(yw es k).1.data.length=dl at *;have BR:=zh iz;clear iz hlen hd e5
  by_cases h5:5000<dl
  ·have i3:(5000:Int)<(dl:Int):=by omega
   replace HB:=zh (zA HB.o jZ.o);go_wp2_with fail;refine (RH.o _).mono ?_;rintro e w2 ⟨rfl,hb⟩;go_wp2_with fail;go_ret;exact ⟨rfl,zA HB.o hb⟩
  have i3:¬ (5000:Int)<(dl:Int):=by omega
  have Iv:=zh (show ∀ j,j<k+1->(yw es j).1.data.length<=5000 from fun j hj=>by
   by_cases e:j=k
   ·subst e;rw[BR.o];omega
   exact HD.o j (by omega))
  go_wp2_with fail;exact ⟨⟨k+1,by go_num,by omega,Iv,jZ⟩,by simp[intOf];omega⟩
 have i2:¬ (k:Int)<(es.length:Int):=by omega
 have HD5:=zh (show ∀ p∈es,FL p.1 from fun p hp=>by
  refine ⟨HWf.o p hp,?_⟩
  obtain ⟨j,hj,rfl⟩:=cO hp
  have:=HD.o j (by omega)
  unfold yw at this
  rw[aw,aA hj] at this
  exact this)
 replace HB:=zh (zA HB.o jZ.o);replace eO:=zh (eO.o.bb jZ.o);replace DR:=zh (DR.o.bb jZ.o);replace FE:=zh (FE.o.bb jZ.o);clear HD jZ HWf;have p2:=eu.cell (i:=2) eO.o rfl;go_upto_region 9 with fail;clear i2 hlt hk;generalize hw1:wr=w1 at *;clear hw1;go_wp2_with fail;clear p2
 go_loopw [54] (fun iv W=>∃ k:Nat,iv=.int .i64 (k:Int)/\k<=ks.length/\Hid (∀ j,j<k->(iG ks j).2.2.length<=20)/\Hid (Below w1.heap.size w1 W)) (fun iv _=>ks.length-(intOf iv).toNat)
 case atStart=>exact ⟨0,rfl,aq _,zh (fun j hj=>absurd hj (by omega)),zh (aj _ _)⟩
 obtain ⟨k,rfl,hk,HD,jZ⟩:=hrel
 by_cases hlt:k<ks.length
 ·have i2:(k:Int)<(ks.length:Int):=by omega
  have p2:=eu.cell (i:=2) (eO.o.bb jZ.o) rfl;obtain ⟨qb,qo,rfl,hd,_,c4⟩:=(DR.o.k.bb jZ.o).at (j:=k) hlt;obtain ⟨da,dc,e5,_,_⟩:=hd.fO;rw[e5] at c4;have hlen:(iG ks k).2.2.length=(iG ks k).2.2.length:=rfl;generalize iz:(iG ks k).2.2.length=dl at *;have BR:=zh iz;clear iz hlen hd e5
  by_cases h5:20<dl
  ·have i3:(20:Int)<(dl:Int):=by omega
   replace HB:=zh (zA HB.o jZ.o);go_wp2_with fail;refine (RH.o _).mono ?_;rintro e w2 ⟨rfl,hb⟩;go_wp2_with fail;go_ret;exact ⟨rfl,zA HB.o hb⟩
  have i3:¬ (20:Int)<(dl:Int):=by omega
  have Iv:=zh (show ∀ j,j<k+1->(iG ks j).2.2.length<=20 from fun j hj=>by
   by_cases e:j=k
   ·subst e;rw[BR.o];omega
   exact HD.o j (by omega))
  go_wp2_with fail;exact ⟨⟨k+1,by go_num,by omega,Iv,jZ⟩,by simp[intOf];omega⟩
 have i2:¬ (k:Int)<(ks.length:Int):=by omega
 have Ge:=zh (show ∀ p∈ks,p.2.2.length<=1000 from fun p hp=>by
  obtain ⟨j,hj,rfl⟩:=cO hp
  have:=HD.o j (by omega)
  unfold iG at this
  rw[aw,aA hj] at this
  exact ak this (by decide))
 replace HB:=zh (zA HB.o jZ.o);replace eO:=zh (eO.o.bb jZ.o);replace DR:=zh (DR.o.bb jZ.o);replace FE:=zh (FE.o.bb jZ.o);clear HD jZ;go_upto_region 15 with fail;clear i2 hlt hk;go_wp2_with fail;refine (HMa.o wr HB.o).mono ?_;rintro e v1 ⟨⟨a,n,c,L,rfl,hmr,T_⟩,hb⟩;obtain ⟨Kh,hL8⟩:=zI0 ac T_;have BZ:=zh T_;have jJ:=zh hmr.len;have oA:n<=1000000:=by rw[<- jJ.o];omega
 have HR:=zh hmr;rw[T_] at Kh;clear hmr T_ HMa;clear DR;have hbS:w.heap.size<v1.heap.size:=(eO.o.bb hb).lt;generalize K2 ac=S at *;have HL6:Hid (fF 600 S.ep):=zh (Kh.mono (by decide));have HL7:Hid (fF 700 S.ep):=zh (Kh.mono (by decide));clear Kh;replace eO:=zh (eO.o.bb hb);replace FE:=zh (FE.o.bb hb);replace HB:=zh (zA HB.o hb);clear hb;go_upto_region 16 with fail;change Code.wp _ _ _ _ (v1.alloc (.cells (zM S.id S.lim S.ro a n c) 31));obtain ⟨v2,hV,hb,HS⟩:=dY v1 (zM S.id S.lim S.ro a n c) 31;rw[hV];clear hV;replace eO:=zh (eO.o.bb hb);replace FE:=zh (FE.o.bb hb);replace HR:=zh (HR.o.bb hb);replace HB:=zh (zA HB.o hb);clear hb;have hsS:v1.heap.size<(v2).heap.size:=HS.o.lt;generalize v1.heap.size=bS at *
 go_cut [12,13] (fun vb ve wx=>∃ bq z DS Ni Zw Zx Zy Nj Nk,vb=.pointer (some ⟨bq,0,none⟩)/\ve=.int .i64 z/\v2.heap.size<=bq/\Hid (eu wx bq #[.bool DS,.int .i64 Ni,Zw,Zx,Zy] 78)/\Hid (mF wx Zw Zx Zy Nj Nk)/\Hid (Below v2.heap.size v2 wx))
 case first =>
  refine yQ [eT (zQ S.id S.lim S.ro a n c),eT (.slice qa qs.length qc),eT (.bool much),rqG,plE,plE,plG,zOK,zNZ 78 v2.heap.size #[.bool false,.int .i64 0,.slice none 0 0,.slice none 0 0,.slice none 0 0]] [8] 141 7 (by kernel_rfl) (by kernel_rfl) rfl rfl (by decide) (by rfl) (by kernel_rfl) (fun f=>by simp[fU,zW,Act.put];exact rfl) ?_ ?_ ?_
  ·refine ⟨?_,?_,?_,?_,?_,?_,?_,?_,?_,trivial⟩
   ·intro f w1 hb hd;clear hd;dsimp only;have hx:=eu.g_ (HS.o.bb hb);obtain ⟨q0,q1,q2,q3⟩:=hx.q;clear hx;go_wp2_with fail;exact pS rfl (by simp)
   ·intro f w1 hb hd;clear hd;dsimp only;go_wp2_with fail;exact pS rfl (by simp)
   ·intro f w1 hb hd;clear hd;dsimp only;go_wp2_with fail;exact pS rfl (by simp)
   ·intro f w1 hb hd;have d1:f 1=_:=hd 1 (by kernel_rfl);have d2:f 2=_:=hd 2 (by kernel_rfl);clear hd;dsimp only;rw[d1];rw[d2];go_wp2_with fail;refine (zFc (.slice qa qs.length qc) qs 12 much w1 (FE.o.bb hb) (by decide)).mono ?_;rintro e w8 ⟨v4,q4,rfl,KO,hm4,gy⟩;have HQ4:=zh KO.rd;have Zz:q4.length<=12:=by
     have:=aM List.length hm4;rw[aH,aH,aB] at this;omega
    have Dw:=zh (show ∀ p∈q4,p.1.Wf/\p.1.data.length<=5000 from fun p hp=>by
     have h1:p.1∈q4.map (·.1):=cB hp
     rw[hm4] at h1
     obtain ⟨y,_,e⟩:=List.mem_map.1 h1
     rw[<- e]
     exact zMI _ _)
    obtain ⟨qa4,qc4,rfl,_⟩:=HQ4.o.shape;clear KO hm4;go_wp2_with fail;exact pRg gy ⟨_,_,_,rfl,HQ4.o,Zz,Dw.o⟩ (by simp)
   ·intro f w1 hb hd;have d0:f 0=_:=hd 0 (by kernel_rfl);obtain ⟨a3,c3,r3,d3,x3,y3,u3⟩:=hd 3 (by kernel_rfl);clear hd;dsimp only;rw[d0];rw[d3];go_wp2_with fail;refine (zGF S a n c L a3 c3 r3 w1 (HR.o.bb hb) BZ.o HL6.o x3 (by omega) (fun p hp=>ak (u3 p hp).2 (by decide))).mono ?_;rintro e w8 ⟨T1,ks9,nv9,es9,rv9,rfl,hpl,gy⟩
    have oQ:=zh (zJV HL6.o (fun q hq=>by
     obtain ⟨p,hp,rfl⟩:=List.mem_map.1 hq
     exact u3 p hp) hpl)
    clear hpl x3 u3;go_wp2_with fail;exact pRg gy ⟨_,_,_,_,_,_,_,_,rfl,oQ.o⟩ (by simp)
   ·intro f w1 hb hd;obtain ⟨o4,t4,k4,n4,r4,s4,e4,z4,d4,x4⟩:=hd 4 (by kernel_rfl);clear hd;dsimp only;rw[d4];have HO:=zh x4;clear x4;go_wp2_with fail;exact pRg (aj _ _) ⟨_,_,_,_,_,_,_,_,rfl,HO.o⟩ (by simp)
   ·intro f w1 hb hd;obtain ⟨o5,t5,k5,n5,r5,s5,e5,z5,d5,x5⟩:=hd 5 (by kernel_rfl);clear hd;dsimp only;rw[d5];have HO:=zh x5;clear x5;go_wp2_with fail;exact pRg (aj _ _) ⟨_,_,_,_,_,_,_,rfl,HO.o⟩ (by simp)
   ·intro f w1 hb hd;obtain ⟨o5,t5,k5,n5,r5,s5,e5,z5,d5,x5⟩:=hd 5 (by kernel_rfl);clear hd;dsimp only;rw[d5];clear x5;go_wp2_with fail;exact pRg (aj _ _) ⟨_,rfl⟩ (by simp)
   intro f w1 hb hd;clear hd;dsimp only;have pJ:=hb.size;have Ar:=eu.new w1 #[.bool false,.int .i64 0,.slice none 0 0,.slice none 0 0,.slice none 0 0] 78;go_wp2_with fail;exact ⟨rfl,(aj _ _).alloc (ag _) _,fun t ht=>by injection ht with ht;subst ht;exact ⟨⟨_,rfl,pJ,Ar⟩,fun _=>⟨ag _,by simp[blk]⟩⟩⟩
  ·intro f w8 hb hd iX;clear iX;obtain ⟨o6,t6,k6,n6,r6,s6,e6,d6,x6⟩:=hd 6 (by simp);obtain ⟨Ig,Ih,Ii,Ij,Ik,Il,Io,rfl,rfl,rfl⟩:=x6.rd.lN;obtain ⟨bG,d8,lo,bx⟩:=hd 8 (by simp);obtain ⟨z7,d7⟩:=hd 7 (by simp)
   try dsimp only
   rw[d6,d7,d8];clear hd d6 d7 d8;have iZ:Hid (eu (pts w8 bG [(0,.bool o6),(1,.int .i64 t6),(2,.slice Ig s6.length Ih),(3,.slice Ii e6.length Ij),(4,.slice Ik Il Io)]) bG #[.bool o6,.int .i64 t6,.slice Ig s6.length Ih,.slice Ii e6.length Ij,.slice Ik Il Io] 78):=zh ((by have h:=eu.sets [(0,.bool o6),(1,.int .i64 t6),(2,.slice Ig s6.length Ih),(3,.slice Ii e6.length Ij),(4,.slice Ik Il Io)] bx;simp only[cZ,dD,aJ,aK,aI] at h;exact h));have iw:=zh (x6.box bx [(0,.bool o6),(1,.int .i64 t6),(2,.slice Ig s6.length Ih),(3,.slice Ii e6.length Ij),(4,.slice Ik Il Io)]);have fH:=zh (zC (B:=v2.heap.size) (b:=bG) lo [(0,.bool o6),(1,.int .i64 t6),(2,.slice Ig s6.length Ih),(3,.slice Ii e6.length Ij),(4,.slice Ik Il Io)] hb);have g0:=bx.cell (i:=0) rfl;have g1:=bx.cell (i:=1) rfl;have g2:=bx.cell (i:=2) rfl
   have g3:=bx.cell (i:=3) rfl;have g4:=bx.cell (i:=4) rfl;have gf:=bx.frozen;clear x6 bx hb;change wpList _ _ _ (_::_::[]) _ _;go_wp2_with fail;go_meet
   case rel=>exact ⟨bG,_,o6,t6,_,_,_,s6,e6,rfl,rfl,lo,iZ,iw,fH⟩
  intro f w8 hb hd iX;clear iX;obtain ⟨o6,t6,k6,n6,r6,s6,e6,d6,x6⟩:=hd 6 (by simp) (by decide);obtain ⟨Ig,Ih,Ii,Ij,Ik,Il,Io,rfl,rfl,rfl⟩:=x6.rd.lN;obtain ⟨bG,d8,lo,bx⟩:=hd 8 (by simp) (by decide);obtain ⟨o5,t5,k5,n5,r5,s5,e5,z5,d5,x5⟩:=hd 5 (by simp) (by decide);clear x5
  try dsimp only
  rw[d5,d6,d8];clear hd d5 d6 d8;have iZ:Hid (eu (pts w8 bG [(0,.bool o6),(1,.int .i64 t6),(2,.slice Ig s6.length Ih),(3,.slice Ii e6.length Ij),(4,.slice Ik Il Io)]) bG #[.bool o6,.int .i64 t6,.slice Ig s6.length Ih,.slice Ii e6.length Ij,.slice Ik Il Io] 78):=zh ((by have h:=eu.sets [(0,.bool o6),(1,.int .i64 t6),(2,.slice Ig s6.length Ih),(3,.slice Ii e6.length Ij),(4,.slice Ik Il Io)] bx;simp only[cZ,dD,aJ,aK,aI] at h;exact h));have iw:=zh (x6.box bx [(0,.bool o6),(1,.int .i64 t6),(2,.slice Ig s6.length Ih),(3,.slice Ii e6.length Ij),(4,.slice Ik Il Io)]);have fH:=zh (zC (B:=v2.heap.size) (b:=bG) lo [(0,.bool o6),(1,.int .i64 t6),(2,.slice Ig s6.length Ih),(3,.slice Ii e6.length Ij),(4,.slice Ik Il Io)] hb);have g0:=bx.cell (i:=0) rfl;have g1:=bx.cell (i:=1) rfl;have g2:=bx.cell (i:=2) rfl
  have g3:=bx.cell (i:=3) rfl;have g4:=bx.cell (i:=4) rfl;have gf:=bx.frozen;clear x6 bx hb;change wpList _ _ _ (_::_::_::[]) _ _;go_wp2_with fail;go_meet
  case rel=>exact ⟨bG,_,o6,t6,_,_,_,s6,e6,rfl,rfl,lo,iZ,iw,fH⟩
 obtain ⟨bq,qz,DS,Ni,Zw,Zx,Zy,Nj,Nk,rfl,rfl,fq,Ip,K6,fH⟩:=hcut;generalize wc=v3 at *;replace HS:=zh (HS.o.bb fH.o);replace eO:=zh (eO.o.bb fH.o);replace HR:=zh (HR.o.bb fH.o);replace HB:=zh (zA HB.o fH.o);have aq5:w.heap.size<bq:=cH (Nat.lt_trans hbS hsS) fq;clear fH;go_upto_region 17 with fail;replace eO:=zh (eO.o.bb (zV (aj v3.heap.size v3)));replace HS:=zh (HS.o.bb (zV (aj v3.heap.size v3)));replace Ip:=zh (Ip.o.bb (zV (aj v3.heap.size v3)));replace K6:=zh (K6.o.bb (zV (aj v3.heap.size v3)));replace HR:=zh (HR.o.bb (zV (aj v3.heap.size v3)));replace HB:=zh (HB.o.trans ((zV (aj v3.heap.size v3)).mono HB.o.size));obtain ⟨v30,Nl⟩:∃ v30,v3.drew=v30:=⟨_,rfl⟩
 rw[Nl] at eO HS Ip K6 HR HB;refine wi 7 (fun L f' W=>BD [(0,.pointer (some ⟨w.heap.size,3,none⟩)),(1,.slice na es.length nc),(3,.pointer (some ⟨w.heap.size,3,none⟩)),(4,.slice na es.length nc),(6,.pointer (some ⟨w.heap.size,3,none⟩))] v30 (SmQ v30 es) (ApQ v30 es) L f' W) 141 (by kernel_rfl) (by kernel_rfl) (by rfl) (by kernel_rfl) (fun f=>by simp[fU,zW,Act.put];exact rfl) (fun f=>by rw[Nl];exact BD.start f) ?_ ?_
 ·refine ⟨?_,?_,?_,?_,?_,?_,?_,trivial⟩
  ·intro L f' w7 h0 hd hI;have gl:=zh hI;clear hI hd;dsimp only;go_wp2_with fail;exact pIv (gl.o.pure (i:=0) (v:=.pointer (some ⟨w.heap.size,3,none⟩)) (by decide) (by decide) (by simp))
  ·intro L f' w7 h0 hd hI;have gl:=zh hI;have d0:f' 0=.pointer (some ⟨w.heap.size,3,none⟩):=hI.ji (0,.pointer (some ⟨w.heap.size,3,none⟩)) (by simp) (hd 0 (by kernel_rfl));have q3:=eu.cell (i:=3) (eO.o.bb (hI.early (hI.Zk (.inl (hI.no2 h0))) (fun _ _ h=>h.elim fun _ h=>h.2.2))) rfl;clear hI hd;dsimp only;rw[d0];go_wp2_with fail;exact pIv (gl.o.pure (i:=1) (v:=.slice na es.length nc) (by decide) (by decide) (by simp))
  ·intro L f' w7 h0 hd hI;have d1:f' 1=.slice na es.length nc:=hI.ji (1,.slice na es.length nc) (by simp) (hd 1 (by kernel_rfl));obtain ⟨hW,hk⟩:=hI.two h0 (hd 1 (by kernel_rfl)) (by simp);subst hW;have HK:=zh hk;clear hI hd hk;dsimp only;rw[d1];go_wp2_with fail;refine (zBv (.slice na es.length nc) es 3 w7 (iu.o.n.bb HB.o) (by decide)).mono ?_;rintro e w8 ⟨v8,RI,rfl,ho,hm,hb⟩;have HQ:=zh (HK.o v8 w8 ⟨RI,ho,hm,hb⟩);clear ho hm hb HK;go_wp2_with fail;exact pIv (HQ.o)
  ·intro L f' w7 h0 hd hI;have gl:=zh hI;clear hI hd;dsimp only;go_wp2_with fail;exact pIv (gl.o.pure (i:=3) (v:=.pointer (some ⟨w.heap.size,3,none⟩)) (by decide) (by decide) (by simp))
  ·intro L f' w7 h0 hd hI;have gl:=zh hI;have d3:f' 3=.pointer (some ⟨w.heap.size,3,none⟩):=hI.ji (3,.pointer (some ⟨w.heap.size,3,none⟩)) (by simp) (hd 3 (by kernel_rfl));have q3:=eu.cell (i:=3) (eO.o.bb (hI.early (hI.Zk (.inr h0)) (fun _ _ h=>h.elim fun _ h=>h.2.2))) rfl;clear hI hd;dsimp only;rw[d3];go_wp2_with fail;exact pIv (gl.o.pure (i:=4) (v:=.slice na es.length nc) (by decide) (by decide) (by simp))
  ·intro L f' w7 h0 hd hI;have d4:f' 4=.slice na es.length nc:=hI.ji (4,.slice na es.length nc) (by simp) (hd 4 (by kernel_rfl));obtain ⟨⟨RI,ho,hm,hb⟩,hk⟩:=hI.five h0 (hd 2 (by kernel_rfl)) (hd 4 (by kernel_rfl)) (by simp);obtain ⟨jD,jE,e2,_⟩:=zG ho.row;rw[e2] at ho;have HK:=zh hk;have HO:=zh ho;have oO:=zh hb;have hl3:RI.length<=3:=by
    have:=aM List.length hm;rw[aH] at this;have:=(zHv 3 (es.map (·.1))).1;omega
   have HM:=zh hm;have hsz:v30.heap.size<=w7.heap.size:=hb.size;have HS7:=zh (iu.o.n.bb (zA HB.o hb));clear hI hd hk ho hb hm;dsimp only;rw[d4,e2];refine zP (n:=RI.length) (m:=es.length) rfl (.tmp 79) (.tmp 81) 23 rfl SY v30.heap.size rfl HO.o.row rfl HS7.o.row (zIq HS7.o) (by unfold maxLen;omega) (by omega) hsz ?_;intro v' w8 hown' Bg _;obtain ⟨oa3,oc3,hv3,_⟩:=zG hown';subst hv3;have HQ:=zh (HK.o _ _ ⟨oa3,oc3,RI,rfl,hown',fun p hp=>(iI.fC (HO.o.dat p hp) (fM.row HO.o.row Bg (ag _)) (by decide)).1,HM.o,zK oO.o HO.o.row hsz Bg⟩);exact pIv (HQ.o)
  intro L f' w7 h0 hd hI;have gl:=zh hI;clear hI hd;dsimp only;go_wp2_with fail;exact pIv (gl.o.pure (i:=6) (v:=.pointer (some ⟨w.heap.size,3,none⟩)) (by decide) (by decide) (by simp))
 intro LL f' w7 hA hI;obtain ⟨oa,oc,r_,e5,hown,lj,hm,hb⟩:=hI.s2 (hA 5 (by decide));have d6:f' 6=.pointer (some ⟨w.heap.size,3,none⟩):=hI.ji (6,.pointer (some ⟨w.heap.size,3,none⟩)) (by simp) (hA 6 (by decide));clear hI hA Nl;rw[<- ax] at e5 hown;have fJ:=eO.o.bb hb;have q3:=eu.cell (i:=3) fJ rfl;have f3:=fJ.frozen 3;have hl:=(zHv 3 (es.map (·.1)))
 rw[<- hm,aH] at hl;have ho:=gO.pts (B:=0) (aq w.heap.size) ⟨_,_,fJ⟩ [(3,.slice oa (r_++es).length oc)];have fH:=zh (zC (B:=w.heap.size) (b:=w.heap.size) (ag _) [(3,.slice oa (r_++es).length oc)] (zA HB.o hb))
 have HX:=zh (show eu (w7.setCell ⟨w.heap.size,3,none⟩ (.slice oa (r_++es).length oc)) w.heap.size #[.bool eH,.int .i64 tk,.slice ka ks.length kc,.slice oa (r_++es).length oc,.slice ra rn rc] 78 from (by
  have h:=eu.sets [(3,.slice oa (r_++es).length oc)] fJ
  simp only[cZ,dD,aJ,aK,aI] at h;exact h))
 replace HS:=zh (eu.eL (c:=w.heap.size) (by omega) [(3,.slice oa (r_++es).length oc)] (HS.o.bb hb));replace Ip:=zh (eu.eL (c:=w.heap.size) (by omega) [(3,.slice oa (r_++es).length oc)] (Ip.o.bb hb));replace K6:=zh ((K6.o.bb hb).box fJ [(3,.slice oa (r_++es).length oc)]).rd;replace HR:=zh ((HR.o.bb hb).plan fJ [(3,.slice oa (r_++es).length oc)])
 have jM:=zh (show CL (pts w7 w.heap.size [(3,.slice oa (r_++es).length oc)]) (.slice ka ks.length kc) (.slice oa (r_++es).length oc) (.slice ra rn rc) ks (r_++es) from ⟨⟨{P with needs:=(r_++es).map (·.1)},(iu.o.bb fH.o).k,iu.o.kk,⟨by
   have h:=zr (yT hown ho (by decide))
   unfold xI at h |-
   rw[cn];exact h,fun p hp=>by
   rcases List.mem_append.1 hp with hp|hp
   ·exact uG (lj p hp) fJ (fun hp=>Zi _ _ _ _ _ _ _ _ _ _ _ _ hp (zFu hp)) _
   ·exact (iu.o.bb fH.o).n.dat p hp⟩,rfl,(iu.o.bb fH.o).r⟩,by omega,Ge.o,by rw[ax];omega,fun p hp=>by
   rcases List.mem_append.1 hp with hp|hp
   ·exact hl.2 p.1 (cB hp)
   exact HD5.o p hp⟩)
 clear eO HB hown lj hm hb ho fJ iu;generalize r_++es=K8 at *
 try dsimp only
 rw[d6,e5];clear d6 e5;go_upto_region 18 with fail;change Code.wp _ _ _ _ (pts w7 w.heap.size [(3,.slice oa K8.length oc)]);change Hid (eu (pts w7 w.heap.size [(3,.slice oa K8.length oc)]) _ _ _) at HX;generalize pts w7 w.heap.size [(3,.slice oa K8.length oc)]=v4 at *;clear q3 f3;obtain ⟨Ua,Ub,Uc,Ud,Ue,Uf,Ug,rfl,rfl,rfl⟩:=K6.o.lN;have p0:=eu.cell (i:=0) HX.o rfl;have p1:=eu.cell (i:=1) HX.o rfl;have p2:=eu.cell (i:=2) HX.o rfl;have p3:=eu.cell (i:=3) HX.o rfl;have p4:=eu.cell (i:=4) HX.o rfl;have y0:=eu.cell (i:=0) Ip.o rfl;have y1:=eu.cell (i:=1) Ip.o rfl;have y2:=eu.cell (i:=2) Ip.o rfl;have y3:=eu.cell (i:=3) Ip.o rfl;have y4:=eu.cell (i:=4) Ip.o rfl
 have hb:=(aj v4.heap.size v4).alloc (ag _) (.cells #[.bool eH,.int .i64 tk,.slice ka ks.length kc,.slice oa K8.length oc,.slice ra rn rc,.bool DS,.int .i64 Ni,.slice Ua Nj.length Ub,.slice Uc Nk.length Ud,.slice Ue Uf Ug] 78);have hE:=eu.new v4 #[.bool eH,.int .i64 tk,.slice ka ks.length kc,.slice oa K8.length oc,.slice ra rn rc,.bool DS,.int .i64 Ni,.slice Ua Nj.length Ub,.slice Uc Nk.length Ud,.slice Ue Uf Ug] 78
 have Cm:=zh (show ∀ j,j<2->Kb (v4.alloc (.cells #[.bool eH,.int .i64 tk,.slice ka ks.length kc,.slice oa K8.length oc,.slice ra rn rc,.bool DS,.int .i64 Ni,.slice Ua Nj.length Ub,.slice Uc Nk.length Ud,.slice Ue Uf Ug] 78)) v4.heap.size j from fun j hj=>by
  rcases (show j=0∨j=1 by omega) with rfl|rfl
  ·exact ⟨eH,tk,_,_,_,ks,K8,hE.cell rfl,hE.cell rfl,hE.cell rfl,hE.cell rfl,hE.cell rfl,jM.o.bb hb⟩
  exact ⟨DS,Ni,_,_,_,Nj,Nk,hE.cell rfl,hE.cell rfl,hE.cell rfl,hE.cell rfl,hE.cell rfl,K6.o.bb hb⟩)
 have HB:=zh (zA fH.o hb);replace HS:=zh (HS.o.bb hb);replace HR:=zh (HR.o.bb hb);clear hb hE fH;go_wp2_with fail;clear p0 p1 p2 p3 p4 y0 y1 y2 y3 y4 HX Ip jM K6;generalize v4.alloc (.cells #[.bool eH,.int .i64 tk,.slice ka ks.length kc,.slice oa K8.length oc,.slice ra rn rc,.bool DS,.int .i64 Ni,.slice Ua Nj.length Ub,.slice Uc Nk.length Ud,.slice Ue Uf Ug] 78)=v5 at *;generalize v4.heap.size=bR at *
 go_loopw [88] (fun jv V=>∃ j:Nat,jv=.int .i64 (j:Int)/\j<=2/\Hid (Below v5.heap.size v5 V)) (fun jv _=>2-(intOf jv).toNat)
 case atStart=>exact ⟨0,rfl,aq _,zh (aj _ _)⟩
 obtain ⟨j,rfl,hj,ic⟩:=hrel
 by_cases ZA:j<2
 ·have j2:(j:Int)<2:=by omega
  obtain ⟨xo,xt,T1,nv9,rv9,rO,np,c0,c1,c2,c3,c4,hx⟩:=(Cm.o j ZA).bb ic.o;obtain ⟨Iq,Ir,BF,BG,CM,CN,CO,rfl,rfl,rfl⟩:=hx.lN;obtain ⟨⟨XP,hxp⟩,aq8,nw,aq9,hnd⟩:=hx;have DT:=zh hxp;have ZB:=zh nw;have F7:=zh hnd;clear hxp nw hnd;go_upto_region 21 with fail;change Code.wp _ _ _ _ (.alloc _ (.cells _ 78));obtain ⟨u1,hV,hb,fK⟩:=dY wr #[.bool xo,.int .i64 xt,.slice Iq rO.length Ir,.slice BF np.length BG,.slice CM CN CO] 78;rw[hV];clear hV;replace DT:=zh (DT.o.bb hb);replace ic:=zh (zA ic.o hb);clear hb c0 c1 c2 c3 c4;generalize wr.heap.size=b15 at *
  have Aw:=zh (fun W (hn:mJ W (.slice BF np.length BG) np)=>zGY xo xt (.slice Iq rO.length Ir) (.slice BF np.length BG) (.slice CM CN CO) np W ⟨_,_,_,rfl⟩ ⟨_,_,_,rfl⟩ hn (fun p hp=>(F7.o p hp).1) (by omega));have jK:=zh (fun a c W (hn:mJ W (.slice BF np.length BG) np)=>zGX xo xt (.slice a rO.length c) (.slice BF np.length BG) (.slice CM CN CO) np W ⟨_,_,_,rfl⟩ ⟨_,_,_,rfl⟩ hn (fun p hp=>(F7.o p hp).1) (by omega));have HAb:=zh (fun a n c L ka kc W (hr:fB W (.slice a n c) L) (hg:ey L=S.ep) (hn:n<=1000000) (hp:jF W XP (.slice ka rO.length kc) rO (.slice BF np.length BG) np (.slice CM CN CO))=>zGV S a n c L xo xt (.slice ka rO.length kc) (.slice BF np.length BG) (.slice CM CN CO) rO np W hr hg HL7.o hn hp.k ZB.o hp.n (by omega) ⟨_,_,_,rfl⟩)
  have HAr:=zh (fun W (hr:fB W (.slice a n c) L) (hp:jF W XP (.slice Iq rO.length Ir) rO (.slice BF np.length BG) np (.slice CM CN CO))=>zOX S a n c L xo xt (.slice Iq rO.length Ir) (.slice BF np.length BG) (.slice CM CN CO) rO np W hr BZ.o HL7.o hp.k ZB.o hp.n (by omega) (fun p hp=>ak (F7.o p hp).2 (by decide)) ⟨_,_,_,rfl⟩);have EG:=zh (zGq S xo (gV rO) (np.map (·.1)));generalize vP S xo (gV rO) (np.map (·.1))=AP at *;generalize xh (np.map (·.1))=BP at *;obtain ⟨BE,BL⟩:=BP;dsimp only at Aw jK;clear F7 ZB;have p0:=eu.cell (i:=0) fK.o rfl;have p1:=eu.cell (i:=1) fK.o rfl;have p2:=eu.cell (i:=2) fK.o rfl;have p3:=eu.cell (i:=3) fK.o rfl;have p4:=eu.cell (i:=4) fK.o rfl;go_wp2_with fail;refine (zDP XP xo xt Iq BF CM Ir np.length BG CN CO rO np u1 DT.o (by omega)).mono ?_;rintro e u2 ⟨fa,fc,rfl,hp2,hb⟩;clear p0 p1 p2 p3 p4
  have nt:=zh hp2;replace DT:=zh (DT.o.bb hb);replace fK:=zh (fK.o.bb hb);replace ic:=zh (zA ic.o hb);clear hb hp2;go_wp2_with fail;refine (jK.o fa fc u2 nt.o.n).mono ?_;rintro e u3 ⟨⟨bv,rfl,Ez⟩,hb⟩;obtain ⟨ba,bc,rfl,_⟩:=zG Ez;have ja:=zh (vR Ez);replace DT:=zh (DT.o.bb hb);replace fK:=zh (fK.o.bb hb);replace ic:=zh (zA ic.o hb);clear hb Ez nt jK;go_upto_region 22 with fail;have p0:=eu.cell (i:=0) fK.o rfl;have p1:=eu.cell (i:=1) fK.o rfl;have p2:=eu.cell (i:=2) fK.o rfl;have p3:=eu.cell (i:=3) fK.o rfl;have p4:=eu.cell (i:=4) fK.o rfl;go_wp2_with fail;refine (Aw.o u3 DT.o.n).mono ?_;rintro e u4 ⟨⟨bv,rfl,Ez⟩,hb⟩;obtain ⟨da,dc,rfl,_⟩:=zG Ez;clear p0 p1 p2 p3 p4;have gp:=zh (vR Ez);replace ja:=zh (il.bb ja.o hb);replace DT:=zh (DT.o.bb hb);replace fK:=zh (fK.o.bb hb)
  replace ic:=zh (zA ic.o hb);clear hb Ez Aw;go_upto_region 23 with fail
  go_cut [20,21] (fun vb ve wx=>∃ bA ya yn yc yL,vb=.pointer (some ⟨bA,0,none⟩)/\ve=.int .i64 AP.2/\ey yL=AP.1.ep/\Hid (eu wx bA (zM AP.1.id AP.1.lim AP.1.ro ya yn yc) 27)/\Hid (fB wx (.slice ya yn yc) yL)/\Hid (Below u4.heap.size u4 wx))
  case first =>
   refine yQ [eT (zQ S.id S.lim S.ro a n c),slV S 1000000,eT (.agg #[.bool xo,.int .i64 xt,.slice Iq rO.length Ir,.slice BF np.length BG,.slice CM CN CO]),zOD XP xo xt rO.length rO (.slice BF np.length BG) np (.slice CM CN CO),zNq AP.1 AP.2,zNq AP.1 AP.2,zOB AP.1,eT (.int .i64 AP.2),zNZ 27 u4.heap.size (zM 0 0 false none 0 0)] [8] 141 7 (by kernel_rfl) (by kernel_rfl) rfl rfl (by decide) (by rfl) (by kernel_rfl) (fun f=>by simp[fU,zW,Act.put];exact rfl) ?_ ?_ ?_
   ·refine ⟨?_,?_,?_,?_,?_,?_,?_,?_,?_,trivial⟩
    ·intro f w1 hb hd;clear hd;dsimp only;have hx:=eu.g_ (HS.o.bb (zA ic.o hb));obtain ⟨q0,q1,q2,q3⟩:=hx.q;clear hx;go_wp2_with fail;exact pS rfl (by simp)
    ·intro f w1 hb hd;have d0:f 0=_:=hd 0 (by kernel_rfl);clear hd;dsimp only;rw[d0];go_wp2_with fail;refine (zIb S.id S.lim S.ro a n c L w1 (HR.o.bb (zA ic.o hb)) (by omega)).mono ?_;rintro e w9 ⟨⟨b1,b2,rfl,RJ⟩,gy⟩;have Rh:n<=1000000:=by omega
     go_wp2_with fail;exact pRg gy ⟨_,_,_,_,rfl,RJ,BZ.o,Rh⟩ (by simp)
    ·intro f w1 hb hd;clear hd;dsimp only;have q0:=eu.cell (i:=0) (fK.o.bb hb) rfl;have q1:=eu.cell (i:=1) (fK.o.bb hb) rfl;have q2:=eu.cell (i:=2) (fK.o.bb hb) rfl;have q3:=eu.cell (i:=3) (fK.o.bb hb) rfl;have q4:=eu.cell (i:=4) (fK.o.bb hb) rfl;go_wp2_with fail;exact pS rfl (by simp)
    ·intro f w1 hb hd;have d2:f 2=_:=hd 2 (by kernel_rfl);clear hd;dsimp only;rw[d2];go_wp2_with fail;refine (zDP XP xo xt Iq BF CM Ir np.length BG CN CO rO np w1 (DT.o.bb hb) (by omega)).mono ?_;rintro e w9 ⟨ta,tc,rfl,htr,gy⟩;go_wp2_with fail;exact pRg gy ⟨ta,tc,rfl,htr⟩ (by simp)
    ·intro f w1 hb hd;obtain ⟨a1,n1,c1,L1,d1,r1,g1,m1⟩:=hd 1 (by kernel_rfl);obtain ⟨a3,c3,d3,r3⟩:=hd 3 (by kernel_rfl);clear hd;dsimp only;rw[d1];rw[d3];go_wp2_with fail;refine (HAb.o a1 n1 c1 L1 a3 c3 w1 r1 g1 m1 r3).mono ?_;rintro e w9 ⟨⟨b1,b2,b3,b4,rfl,RJ,hg9⟩,gy⟩;clear r1 r3;go_wp2_with fail;exact pRg gy ⟨_,_,_,_,rfl,RJ,hg9⟩ (by simp)
    ·intro f w1 hb hd;obtain ⟨a4,n4,c4,L4,d4,r4,g4⟩:=hd 4 (by kernel_rfl);clear hd;dsimp only;rw[d4];have HO:=zh r4;clear r4;go_wp2_with fail;exact pRg (aj _ _) ⟨_,_,_,_,rfl,HO.o,g4⟩ (by simp)
    ·intro f w1 hb hd;obtain ⟨a5,n5,c5,L5,d5,r5,g5⟩:=hd 5 (by kernel_rfl);clear hd;dsimp only;rw[d5];have HO:=zh r5;clear r5;go_wp2_with fail;exact pRg (aj _ _) ⟨_,_,_,_,rfl,HO.o,g5⟩ (by simp)
    ·intro f w1 hb hd;obtain ⟨a5,n5,c5,L5,d5,r5,g5⟩:=hd 5 (by kernel_rfl);clear hd;dsimp only;rw[d5];clear r5;go_wp2_with fail;exact pS rfl (by simp)
    intro f w1 hb hd;clear hd;dsimp only;have pJ:=hb.size;have Ar:=eu.new w1 (zM 0 0 false none 0 0) 27;go_wp2_with fail;exact ⟨rfl,(aj _ _).alloc (ag _) _,fun t ht=>by injection ht with ht;subst ht;exact ⟨⟨_,rfl,pJ,Ar⟩,fun _=>⟨ag _,by simp[blk]⟩⟩⟩
   ·intro f w8 hb hd iX;clear iX;obtain ⟨a6,n6,c6,L6,d6,r6,g6⟩:=hd 6 (by simp);obtain ⟨bG,d8,lo,bx⟩:=hd 8 (by simp);have d7:f 7=_:=hd 7 (by simp)
    try dsimp only
    rw[d6,d7,d8];clear hd d6 d7 d8;have iZ:=zh (bx.mV AP.1.id AP.1.lim AP.1.ro a6 n6 c6);have iw:=zh (fB.g_ r6 bx (zI AP.1.id AP.1.lim AP.1.ro a6 n6 c6));have fH:=zh (zC (B:=u4.heap.size) (b:=bG) lo (zI AP.1.id AP.1.lim AP.1.ro a6 n6 c6) hb);have bg:=bx.g_;obtain ⟨g0,g1,g2,g3⟩:=bg.q;have gf:=bg.f;clear r6 bx bg hb;change wpList _ _ _ (_::_::[]) _ _;go_wp2_with fail;go_meet
    case rel=>exact ⟨bG,_,_,_,L6,rfl,rfl,g6,iZ,iw,fH⟩
   intro f w8 hb hd iX;clear iX;obtain ⟨a6,n6,c6,L6,d6,r6,g6⟩:=hd 6 (by simp) (by decide);obtain ⟨bG,d8,lo,bx⟩:=hd 8 (by simp) (by decide);obtain ⟨a5,n5,c5,L5,d5,r5,g5⟩:=hd 5 (by simp) (by decide);clear r5
   try dsimp only
   rw[d5,d6,d8];clear hd d5 d6 d8;have iZ:=zh (bx.mV AP.1.id AP.1.lim AP.1.ro a6 n6 c6);have iw:=zh (fB.g_ r6 bx (zI AP.1.id AP.1.lim AP.1.ro a6 n6 c6));have fH:=zh (zC (B:=u4.heap.size) (b:=bG) lo (zI AP.1.id AP.1.lim AP.1.ro a6 n6 c6) hb);have bg:=bx.g_;obtain ⟨g0,g1,g2,g3⟩:=bg.q;have gf:=bg.f;clear r6 bx bg hb;change wpList _ _ _ (_::_::_::[]) _ _;go_wp2_with fail;go_meet
   case rel=>exact ⟨bG,_,_,_,L6,rfl,rfl,g6,iZ,iw,fH⟩
  obtain ⟨bA,ya,yn,yc,yL,rfl,rfl,ZC,HY,N_,fH⟩:=hcut;generalize wc=u5 at *;have SK:=zh ZC;have hyn:yn<=1000000:=by
   have h1:=N_.o.len;have h2:=aM List.length ZC;rw[zk] at h2;have:=EG.o;omega
  replace ja:=zh (il.bb ja.o fH.o);replace gp:=zh (il.bb gp.o fH.o);replace DT:=zh (DT.o.bb fH.o);replace fK:=zh (fK.o.bb fH.o);replace ic:=zh (zA ic.o fH.o);clear fH ZC HAb;have p0:=eu.cell (i:=0) fK.o rfl;have p1:=eu.cell (i:=1) fK.o rfl;have p2:=eu.cell (i:=2) fK.o rfl;have p3:=eu.cell (i:=3) fK.o rfl;have p4:=eu.cell (i:=4) fK.o rfl;have hx:=eu.g_ (HS.o.bb ic.o);obtain ⟨q0,q1,q2,q3⟩:=hx.q;clear hx;go_wp2_with fail;refine (HAr.o u5 (HR.o.bb ic.o) DT.o).mono ?_;rintro e u6 ⟨⟨za,zn,zc,zL,rfl,hzr,hzg⟩,hb⟩;clear p0 p1 p2 p3 p4 q0 q1 q2 q3;have ZD:=zh hzr;have HZg:=zh hzg;replace ja:=zh (il.bb ja.o hb);replace gp:=zh (il.bb gp.o hb);replace HY:=zh (HY.o.bb hb);replace N_:=zh (N_.o.bb hb);replace ic:=zh (zA ic.o hb);clear hb hzr hzg HAr DT
  go_upto_region 25 with fail;change Code.wp _ _ _ _ (u6.alloc (.cells (zM AP.1.id AP.1.lim AP.1.ro za zn zc) 31));obtain ⟨u7,hV,hb,HZ⟩:=dY u6 (zM AP.1.id AP.1.lim AP.1.ro za zn zc) 31;rw[hV];clear hV;replace ja:=zh (il.bb ja.o hb);replace gp:=zh (il.bb gp.o hb);replace HY:=zh (HY.o.bb hb);replace N_:=zh (N_.o.bb hb);replace ZD:=zh (ZD.o.bb hb);replace ic:=zh (zA ic.o hb);clear hb;generalize u6.heap.size=bZ at *;have HCv:=zh (fun W a c (h:ll W (.slice a BL.length c) BL)=>zCy (P:=prog) 54 9 5 underlying54 underlying5 underlying9 h);generalize (⟨BL.toArray⟩:ByteArray)=bs at *
  refine vD [eT (.int .i64 BE),eT (.int .i64 BE),eT (.bool false),eT (.bool false),eT (.int .i64 AP.2),eT (.int .i64 AP.2),eT (.bool false),eT (.bool false),eT (.bool false),eT (.slice ba BL.length bc),eT (.string bs),eT (.slice da BL.length dc),eT (.string bs),eT (.bool false),eT (.bool false),eT (.bool false),eT (zQ AP.1.id AP.1.lim AP.1.ro ya yn yc),zN9 AP.1 yn,eT (zQ AP.1.id AP.1.lim AP.1.ro za zn zc),eT (.bool true),eT (.bool false),eT (.bool false)] 141 (by kernel_rfl) (by kernel_rfl) (by kernel_rfl) (by rfl) (by kernel_rfl) (fun f=>by simp[fU,zW,Act.put];exact rfl) ?_ ?_
  ·refine ⟨?_,?_,?_,?_,?_,?_,?_,?_,?_,?_,?_,?_,?_,?_,?_,?_,?_,?_,?_,?_,?_,?_,trivial⟩
   ·intro f w1 hb hd;clear hd;dsimp only;go_wp2_with fail;exact pS rfl (by simp)
   ·intro f w1 hb hd;clear hd;dsimp only;go_wp2_with fail;exact pS rfl (by simp)
   ·intro f w1 hb hd;have d0:f 0=_:=hd 0 (by kernel_rfl);have d1:f 1=_:=hd 1 (by kernel_rfl);clear hd;dsimp only;rw[d0];rw[d1];go_wp2_with fail;exact pS rfl (by simp)
   ·intro f w1 hb hd;have d2:f 2=_:=hd 2 (by kernel_rfl);clear hd;dsimp only;rw[d2];go_wp2_with fail;exact pS rfl (by simp)
   ·intro f w1 hb hd;have d3:f 3=_:=hd 3 (by kernel_rfl);clear hd;dsimp only;rw[d3];go_wp2_with fail;exact pS rfl (by simp)
   ·intro f w1 hb hd;have d3:f 3=_:=hd 3 (by kernel_rfl);clear hd;dsimp only;rw[d3];go_wp2_with fail;exact pS rfl (by simp)
   ·intro f w1 hb hd;have d3:f 3=_:=hd 3 (by kernel_rfl);have d4:f 4=_:=hd 4 (by kernel_rfl);have d5:f 5=_:=hd 5 (by kernel_rfl);clear hd;dsimp only;rw[d3];rw[d4];rw[d5];go_wp2_with fail;exact pS rfl (by simp)
   ·intro f w1 hb hd;have d3:f 3=_:=hd 3 (by kernel_rfl);have d6:f 6=_:=hd 6 (by kernel_rfl);clear hd;dsimp only;rw[d3];rw[d6];go_wp2_with fail;exact pS rfl (by simp)
   ·intro f w1 hb hd;have d7:f 7=_:=hd 7 (by kernel_rfl);clear hd;dsimp only;rw[d7];go_wp2_with fail;exact pS rfl (by simp)
   ·intro f w1 hb hd;have d8:f 8=_:=hd 8 (by kernel_rfl);clear hd;dsimp only;rw[d8];go_wp2_with fail;exact pS rfl (by simp)
   ·intro f w1 hb hd;have d8:f 8=_:=hd 8 (by kernel_rfl);have d9:f 9=_:=hd 9 (by kernel_rfl);clear hd;dsimp only;rw[d8];rw[d9];have hc:=HCv.o _ _ _ (il.bb ja.o hb);go_wp2_with fail;exact pS rfl (by simp)
   ·intro f w1 hb hd;have d8:f 8=_:=hd 8 (by kernel_rfl);clear hd;dsimp only;rw[d8];go_wp2_with fail;exact pS rfl (by simp)
   ·intro f w1 hb hd;have d8:f 8=_:=hd 8 (by kernel_rfl);have d11:f 11=_:=hd 11 (by kernel_rfl);clear hd;dsimp only;rw[d8];rw[d11];have hc:=HCv.o _ _ _ (il.bb gp.o hb);go_wp2_with fail;exact pS rfl (by simp)
   ·intro f w1 hb hd;have d8:f 8=_:=hd 8 (by kernel_rfl);have d10:f 10=_:=hd 10 (by kernel_rfl);have d12:f 12=_:=hd 12 (by kernel_rfl);clear hd;dsimp only;rw[d8];rw[d10];rw[d12];go_wp2_with fail;exact pS rfl (by simp)
   ·intro f w1 hb hd;have d8:f 8=_:=hd 8 (by kernel_rfl);have d13:f 13=_:=hd 13 (by kernel_rfl);clear hd;dsimp only;rw[d8];rw[d13];go_wp2_with fail;exact pS rfl (by simp)
   ·intro f w1 hb hd;have d14:f 14=_:=hd 14 (by kernel_rfl);clear hd;dsimp only;rw[d14];go_wp2_with fail;exact pS rfl (by simp)
   ·intro f w1 hb hd;have d15:f 15=_:=hd 15 (by kernel_rfl);clear hd;dsimp only;rw[d15];have hx:=eu.g_ (HY.o.bb hb);obtain ⟨q0,q1,q2,q3⟩:=hx.q;clear hx;go_wp2_with fail;exact pS rfl (by simp)
   ·intro f w1 hb hd;have d15:f 15=_:=hd 15 (by kernel_rfl);have d16:f 16=_:=hd 16 (by kernel_rfl);clear hd;dsimp only;rw[d15];rw[d16];go_wp2_with fail;refine (zG6 AP.1.id AP.1.lim AP.1.ro ya yn yc yL w1 (N_.o.bb hb) (by omega)).mono ?_;rintro e w9 ⟨⟨b1,b2,rfl,RJ⟩,gy⟩;go_wp2_with fail;exact pRg gy ⟨_,_,_,rfl,RJ,SK.o⟩ (by simp)
   ·intro f w1 hb hd;have d15:f 15=_:=hd 15 (by kernel_rfl);clear hd;dsimp only;rw[d15];have hx:=eu.g_ (HZ.o.bb hb);obtain ⟨q0,q1,q2,q3⟩:=hx.q;clear hx;go_wp2_with fail;exact pS rfl (by simp)
   ·intro f w1 hb hd;have d15:f 15=_:=hd 15 (by kernel_rfl);obtain ⟨a17,c17,L17,d17,r17,g17⟩:=hd 17 (by kernel_rfl);have d18:f 18=_:=hd 18 (by kernel_rfl);clear hd;dsimp only;rw[d15];rw[d17];rw[d18];go_wp2_with fail;refine (zIH AP.1.id AP.1.lim AP.1.ro a17 za yn zn c17 zc L17 zL w1 r17 (ZD.o.bb hb) (g17.trans HZg.o.symm) (by omega)).mono ?_;rintro e w9 ⟨rfl,gy⟩;clear r17;go_wp2_with fail;exact pT rfl (by simp) gy
   ·intro f w1 hb hd;have d15:f 15=_:=hd 15 (by kernel_rfl);have d19:f 19=_:=hd 19 (by kernel_rfl);clear hd;dsimp only;rw[d15];rw[d19];go_wp2_with fail;exact pS rfl (by simp)
   intro f w1 hb hd;have d15:f 15=_:=hd 15 (by kernel_rfl);have d20:f 20=_:=hd 20 (by kernel_rfl);clear hd;dsimp only;rw[d15];rw[d20];go_wp2_with fail;exact pS rfl (by simp)
  intro f w5 hb hA;have d21:f 21=_:=hA 21 (show 21<22 by decide);clear hA
  try dsimp only
  rw[d21];clear d21;have NM:=zh (zA ic.o hb);clear hb;go_wp2_with fail;exact ⟨⟨j+1,by go_num,by omega,NM⟩,by simp[intOf];omega⟩
 have j2:¬ (j:Int)<2:=by omega
 clear Cm;replace HB:=zh (zA HB.o ic.o);clear ic;go_wp2_with fail;refine (RH.o _).mono ?_;rintro e w2 ⟨rfl,hb⟩;go_wp2_with fail;go_ret;exact ⟨rfl,zA HB.o hb⟩
end Go.Proofs.YtcgfilmmokmdjaaGreat
