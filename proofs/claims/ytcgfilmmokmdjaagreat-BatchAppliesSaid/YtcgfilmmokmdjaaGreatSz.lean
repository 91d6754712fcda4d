import Derived.Test.YtcgfilmmokmdjaaGreatSy
set_option linter.all false
set_option maxRecDepth 100000
set_option maxHeartbeats 32000000
namespace Go.Proofs.YtcgfilmmokmdjaaGreat
open Go.RowKit
def zNc (g n cap a m b B:Nat) (d:List It) (w:World) (hown:w.ownsRow B 49 4 (.slice (some ⟨g,0,none⟩) n cap) n (zg d)) (hn:d.length=n) (hs:n<=1000000) (h1:a+1<m) (h2:m+1<b) (h3:b<=n) (na:jX d a m) (nb:jX d m b) (IH:∀ (a' m' b':Nat) (d':List It) (w':World),b'-a'<b-a->w'.ownsRow B 49 4 (.slice (some ⟨g,0,none⟩) n cap) n (zg d')->d'.length=n->a'<m'->m'<b'->b'<=n->jX d' a' m'->jX d' m' b'->Calls Tryz.prog 209 #[.slice (some ⟨g,0,none⟩) n cap,.int .i64 (a':Int),.int .i64 (m':Int),.int .i64 (b':Int),.func (.func 174) #[] #[]] w' fun e w''=>e=.returned (.tuple #[])/\Left w' g n cap a' b' B d' w'') :
  Calls Tryz.prog 209 #[.slice (some ⟨g,0,none⟩) n cap,.int .i64 (a:Int),.int .i64 (m:Int),.int .i64 (b:Int),.func (.func 174) #[] #[]] w fun e w'=>e=.returned (.tuple #[])/\Left w g n cap a b B d w':=by
 have HO:=zh hown;have hgr:w.grownBy w (some g):=⟨rfl,rfl,rfl,ag _,fun _ _ _=>rfl⟩
 have HG:=zh hgr;have HN:=zh hn;have HI:=zh IH;clear IH;have HA:=zh na;have HB:=zh nb;have hm1:((m:Int)-(a:Int)==1)=false:=beq_eq_false_iff_ne.2 (by omega);have lU:((b:Int)-(m:Int)==1)=false:=beq_eq_false_iff_ne.2 (by omega);obtain ⟨md,pF,hL6,hL7,hLi⟩:∃ md,(a+b)/2=md/\md<b/\a<md/\((a:Int)+(b:Int))/2=(md:Int):=⟨(a+b)/2,rfl,by omega,by omega,by omega⟩
 obtain ⟨lo,hlo,OG,hL5,hM1,hM2⟩:∃ lo,(if m>md then md+m-b else a)=lo/\a<=lo/\md+m<=lo+b/\(md<m->(md:Int)+(m:Int)-(b:Int)=(lo:Int))/\(¬ md<m->a=lo):=by
  refine ⟨_,rfl,?_,?_,fun h=>?_,fun h=>?_⟩
  ·split<;>omega
  ·split<;>omega
  ·rw[ah h];omega
  rw[ai h]
 obtain ⟨hi,hhi,hL2,hL3,hL4,X0,X2⟩:∃ hi,(if m>md then md else m)=hi/\lo<=hi/\hi<=m/\hi<=md/\(md<m->md=hi)/\(¬ md<m->m=hi):=by
  refine ⟨_,rfl,?_,?_,?_,fun h=>?_,fun h=>?_⟩
  ·rw[<- hlo];split<;>omega
  ·split<;>omega
  ·split<;>omega
  ·rw[ah h]
  rw[ai h]
 have Ff:=zh pF;have X3:=zh hlo;have X4:=zh hhi;have Ex:=zh hM1;have A6:=zh hM2;have Sd:=zh X0;have Vb:=zh X2;clear pF hlo hhi hM1 hM2 X0 X2 hown hgr hn na nb
 go_enter Tryz.func209,Tryz.ntmps209
 go_upto_if 140 with fail
 go_cut [20,21] (fun s20 s21 wx=>s20=.int .i64 (lo:Int)/\s21=.int .i64 (hi:Int)/\w=wx)
 case first=>as_aux_lemma =>
  by_cases hgt:md<m
  ·have e1:=zh (Ex.o hgt);have e2:=zh (Sd.o hgt);go_wp2_with fail;go_meet
   case rel=>exact ⟨by rw[e1.o],by rw[e2.o],rfl⟩
  have e1:=zh (A6.o hgt);have e2:=zh (Vb.o hgt);go_wp2_with fail;go_meet
  case rel=>exact ⟨by rw[e1.o],by rw[e2.o],rfl⟩
 obtain ⟨rfl,rfl,rfl⟩:=hcut;go_wp2_with fail
 go_loopw [20,21] (fun iv jv wr=>∃ i j:Nat,iv=.int .i64 (i:Int)/\jv=.int .i64 (j:Int)/\Bin (fun k=>(eA d k).key<=(eA d (md+m-1-k)).key) (lo) (hi) i j/\wr.ownsRow B 49 4 (.slice (some ⟨g,0,none⟩) n cap) n (zg d)/\w.grownBy wr (some g)) (fun iv jv _=>(intOf jv-intOf iv).toNat)
 case atStart=>exact ⟨lo,hi,by go_num,by go_num,Bin.start (by omega),HO.o,HG.o⟩
 obtain ⟨i,j,rfl,rfl,mP,ho,hg⟩:=hrel;have Ho:=zh ho;have Hg:=zh hg;have hq1:=mP.bl;have Va:=mP.ij;have XZ:=mP.bh;have nu:=zh mP;clear mP ho hg
 by_cases hlt:i<j
 ·obtain ⟨h,hh,Kn,Fe⟩:∃ h:Nat,(i+j)/2=h/\i<=h/\h<j:=⟨(i+j)/2,rfl,by omega,by omega⟩
  have RO:((i:Int)+(j:Int))/2=(h:Int):=by omega
  have Hh:=zh hh;clear hh;obtain ⟨x,y,c,o8,hcl,HV,f0,f1,f2,f3,f4,f5,f6,f7⟩:=U_ Ho.o (p:=md+m-1-h) (q:=h) (by omega) (by omega);have HY:=zh (fun hp:(fun k=>(eA d k).key<=(eA d (md+m-1-k)).key) h=>nu.o.yes Kn Fe hp);have CT:=zh (fun hp:¬ (fun k=>(eA d k).key<=(eA d (md+m-1-k)).key) h=>nu.o.no Kn Fe hp);have i1:(h:Int)<(n:Int):=by omega
  have q1:(0:Int)<=(md:Int)+(m:Int)-1-(h:Int):=by omega
  have q2:((md:Int)+(m:Int)-1-(h:Int)).toNat=md+m-1-h:=by omega
  have q3:(md:Int)+(m:Int)-1-(h:Int)<(n:Int):=by omega
  have q0:IntKind.i64.wrap ((md:Int)+(m:Int)-1-(h:Int))=(md:Int)+(m:Int)-1-(h:Int):=aF _ (by omega)
  by_cases hk:c<0
  ·as_aux_lemma =>
   have hkk:x.key<y.key:=by have:=hcl.o;rw[aD hk] at this;exact aZ this.symm
   have HK:=zh hkk;clear hkk;go_wp2_with fail;refine zD (by kernel_rfl) (by kernel_rfl) ?_
   repeat (go_big_quiet_step ((exact zH (HV.o _))))
   refine ay ?_;intro _ hw';obtain ⟨u,hw'⟩:=hw';subst hw';have Hp:=zh (zE Ho.o u.h);have Gp:=zh (zw Hg.o (wB (grown_of u.h) (some g)));generalize u.w'=wp at *;go_wp2_with fail;exact ⟨⟨i,h,rfl,rfl,CT.o (by simp only[o8.o.1,o8.o.2];have:=HK.o;omega),Hp.o,Gp.o⟩,by simp[intOf];omega⟩
  as_aux_lemma =>
  have hkk:¬ x.key<y.key:=by have:=hcl.o;rw[aC hk] at this;exact cN this.symm
  have HK:=zh hkk;have FY:decide (c<0)=false:=aC hk;clear hk hkk;go_wp2_with fail;refine zD (by kernel_rfl) (by kernel_rfl) ?_
  repeat (go_big_quiet_step ((exact zH (HV.o _))))
  refine ay ?_;intro _ hw';obtain ⟨u,hw'⟩:=hw';subst hw';have Hp:=zh (zE Ho.o u.h);have Gp:=zh (zw Hg.o (wB (grown_of u.h) (some g)));generalize u.w'=wp at *;go_wp2_with fail;exact ⟨⟨h+1,j,by go_num,rfl,HY.o (by simp only[o8.o.1,o8.o.2];have:=HK.o;omega),Hp.o,Gp.o⟩,by simp[intOf];omega⟩
 obtain rfl:i=j:=by omega
 have HO:=Ho;have HG:=Hg
 have X5:=zh (show Ja d a m b i from ⟨by rw[Ff.o,X3.o];exact nu.o.bl,by rw[Ff.o,X4.o];exact nu.o.bh,
  fun h=>by rw[Ff.o,X3.o] at h;rw[Ff.o];have:=nu.o.l h;rwa [show md+m-1-(i-1)=md+m-i by omega] at this,
  fun h=>by rw[Ff.o,X4.o] at h;rw[Ff.o];exact Int.not_le.1 (nu.o.r h)⟩)
 obtain ⟨hE1,hE2,hE3,Zq,Z2⟩:=X5.o.ends;rw[Ff.o] at hE3 Zq Z2;have hG:=zL6 X5.o (by omega) (by omega) (by rw[HN.o];exact h3) HA.o HB.o;rw[Ff.o] at hG;obtain ⟨e,he,hEe⟩:∃ e,md+m-i=e/\(md:Int)+(m:Int)-(i:Int)=(e:Int):=⟨md+m-i,rfl,by omega⟩
 rw[he] at Zq Z2 hG;have hE6:md<=e:=by omega
 have hX1:i=m↔e=md:=by omega
 have Z3:e=m↔i=md:=by omega
 have fL:Hid (i=m->eH d i m e=d):=zh (fun h=>by rw[h];exact (R1 (d:=d) (s:=m) (e:=e) (by omega)).2);have iq:Hid (m=e->eH d i m e=d):=zh (fun h=>by rw[h];exact (R1 (d:=d) (s:=i) (e:=e) (by omega)).1);have Vc:=zh (fun w h h1 h2=>zGZ g n cap i m e B d (.func (.func 174) #[] #[]) w h HN.o hs h1 h2 (by omega));have Ev:=zh (hG.1.len.trans HN.o);generalize eH d i m e=d1 at *;have Jg:=zh hG;have He:=zh he;have fG:=zh hX1;have fK:=zh Z3;clear hG he hX1 Z3 hlt;obtain ⟨t,ht⟩:∃ t,decide (i<m/\m<e)=t:=⟨_,rfl⟩
 have Ht:=zh ht;clear ht;go_upto_region 39 with fail
 go_cut [185] (fun s wx=>s=.bool t/\wr=wx)
 case first=>as_aux_lemma =>
  by_cases c1:i<m
  ·by_cases c2:m<e
   ·go_wp2_with fail;go_meet
    case rel=>exact ⟨by rw[<- Ht.o,aD ⟨c1,c2⟩],rfl⟩
   go_wp2_with fail;go_meet
   case rel=>exact ⟨by rw[<- Ht.o,aC (fun h=>c2 h.2)],rfl⟩
  go_wp2_with fail;go_meet
  case rel=>exact ⟨by rw[<- Ht.o,aC (fun h=>c1 h.1)],rfl⟩
 obtain ⟨rfl,rfl⟩:=hcut;go_upto_if 185 with fail
 go_cut [18] (fun Vd wx=>Vd=.int .i64 (md:Int)/\wx.ownsRow B 49 4 (.slice (some ⟨g,0,none⟩) n cap) n (zg d1)/\w.grownBy wx (some g))
 case first=>as_aux_lemma =>
  cases t
  ·have hc:=cN Ht.o
   have HE:Hid (d1=d):=zh (by
    by_cases c1:i=m
    ·exact fL.o c1
    exact iq.o (by omega))
   clear hc;go_wp2_with fail;go_meet
   case rel=>exact ⟨rfl,by rw[HE.o];exact HO.o,HG.o⟩
  have hc:=zh (aZ Ht.o);go_wp2_with fail;refine (Vc.o _ HO.o hc.o.1 hc.o.2).mono ?_;rintro _ w2 ⟨rfl,eM,fu⟩;have gp:=zh eM;have lW:=zh (zw HG.o fu);clear eM fu;go_wp2_with fail;go_meet
  case rel=>exact ⟨rfl,gp.o,lW.o⟩
 obtain ⟨rfl,ho,hg⟩:=hcut;have HO:=zh ho;have HG:=zh hg;clear ho hg;obtain ⟨t,ht⟩:∃ t,decide (a<i/\i<md)=t:=⟨_,rfl⟩
 have Ht:=zh ht;clear ht;go_upto_region 41 with fail
 go_cut [199] (fun s wx=>s=.bool t/\wc=wx)
 case first=>as_aux_lemma =>
  by_cases c1:a<i
  ·by_cases c2:i<md
   ·go_wp2_with fail;go_meet
    case rel=>exact ⟨by rw[<- Ht.o,aD ⟨c1,c2⟩],rfl⟩
   go_wp2_with fail;go_meet
   case rel=>exact ⟨by rw[<- Ht.o,aC (fun h=>c2 h.2)],rfl⟩
  go_wp2_with fail;go_meet
  case rel=>exact ⟨by rw[<- Ht.o,aC (fun h=>c1 h.1)],rfl⟩
 obtain ⟨rfl,rfl⟩:=hcut;go_upto_if 199 with fail
 go_cut [18] (fun Vd wx=>∃ d2,Vd=.int .i64 (md:Int)/\wx.ownsRow B 49 4 (.slice (some ⟨g,0,none⟩) n cap) n (zg d2)/\Moved d1 d2 a md/\jX d2 a md/\w.grownBy wx (some g))
 case first=>as_aux_lemma =>
  cases t
  ·have hc:=cN Ht.o
   have HE:=zh (show jX d1 a md from by
    by_cases c1:i=a
    ·exact c1▸Jg.o.2.2.1
    exact (show i=md by omega)▸Jg.o.2.1)
   clear hc;go_wp2_with fail;go_meet
   case rel=>exact ⟨d1,rfl,HO.o,Moved.refl _ _ _,HE.o,HG.o⟩
  have hc:=zh (aZ Ht.o);go_wp2_with fail;refine (HI.o a i md d1 _ (by omega) HO.o Ev.o hc.o.1 hc.o.2 (by omega) Jg.o.2.1 Jg.o.2.2.1).mono ?_;rintro _ w2 ⟨rfl,d2,eM,lU,nJ,fu⟩;have gp:=zh eM;have HM:=zh lU;have F7:=zh nJ;have lW:=zh (zw HG.o fu);clear eM fu lU nJ;go_wp2_with fail;go_meet
  case rel=>exact ⟨d2,rfl,gp.o,HM.o,F7.o,lW.o⟩
 obtain ⟨d2,rfl,ho,lU,nJ,hg⟩:=hcut;have HO:=zh ho;have HG:=zh hg;have HM:=zh lU;have F7:=zh nJ;have FX:=zh (lU.len.trans Ev.o);have Ch:Hid (jX d2 md e):=zh (fun x y x1 xy y1=>by rw[lU.o (Or.inr x1),lU.o (Or.inr (by omega))];exact Jg.o.2.2.2.1 x y x1 xy y1);have CT:Hid (jX d2 e b):=zh (fun x y x1 xy y1=>by rw[lU.o (Or.inr (by omega)),lU.o (Or.inr (by omega))];exact Jg.o.2.2.2.2.1 x y x1 xy y1);have HJ:=zh (fun d3 m3 n3=>zMK (d:=d1) (d2:=d2) (d3:=d3) (a:=a) (c:=md) (b:=b) (by omega) (by omega) (by rw[Ev.o];exact h3) lU nJ m3 n3 Jg.o.2.2.2.2.2);clear ho lU nJ hg;obtain ⟨t,ht⟩:∃ t,decide (md<e/\e<b)=t:=⟨_,rfl⟩
 have Ht:=zh ht;clear ht;go_upto_region 43 with fail
 go_cut [213] (fun s wx=>s=.bool t/\wc=wx)
 case first=>as_aux_lemma =>
  by_cases c1:md<e
  ·by_cases c2:e<b
   ·go_wp2_with fail;go_meet
    case rel=>exact ⟨by rw[<- Ht.o,aD ⟨c1,c2⟩],rfl⟩
   go_wp2_with fail;go_meet
   case rel=>exact ⟨by rw[<- Ht.o,aC (fun h=>c2 h.2)],rfl⟩
  go_wp2_with fail;go_meet
  case rel=>exact ⟨by rw[<- Ht.o,aC (fun h=>c1 h.1)],rfl⟩
 obtain ⟨rfl,rfl⟩:=hcut
 cases t
 ·have hc:=cN Ht.o
  have OH:=zh (HJ.o d2 (Moved.refl _ _ _) (by
   by_cases c1:md=e
   ·exact c1▸CT.o
   exact (show e=b by omega)▸Ch.o))
  clear hc;go_wp2_with fail;go_end0;exact ⟨rfl,d2,HO.o,Jg.o.1.trans OH.o.1,OH.o.2,HG.o⟩
 have hc:=zh (aZ Ht.o);go_wp2_with fail;refine (HI.o md e b d2 _ (by omega) HO.o FX.o hc.o.1 hc.o.2 h3 Ch.o CT.o).mono ?_;rintro _ w2 ⟨rfl,d3,eM,lU,nJ,fu⟩;have gp:=zh eM;have OH:=zh (HJ.o d3 lU nJ);have lW:=zh (zw HG.o fu);clear eM fu lU nJ;go_wp2_with fail;go_end0;exact ⟨rfl,d3,gp.o,Jg.o.1.trans OH.o.1,OH.o.2,lW.o⟩
def Ve (g n cap B:Nat) (hs:n<=1000000):∀ (N a m b:Nat) (d:List It) (w:World),b-a<=N->w.ownsRow B 49 4 (.slice (some ⟨g,0,none⟩) n cap) n (zg d)->d.length=n->a<m->m<b->b<=n->jX d a m->jX d m b ->
  Calls Tryz.prog 209 #[.slice (some ⟨g,0,none⟩) n cap,.int .i64 (a:Int),.int .i64 (m:Int),.int .i64 (b:Int),.func (.func 174) #[] #[]] w fun e w'=>e=.returned (.tuple #[])/\Left w g n cap a b B d w'
 |0,a,m,b,_,_,h,_,_,_,_,_,_,_=>by omega
 |N+1,a,m,b,d,w,h,hown,hn,h1,h2,h3,na,nb=>by
  rcases bD (a+1) m with c1|c1
  ·rcases bD (m+1) b with c2|c2
   ·exact zNc g n cap a m b B d w hown hn hs c1 c2 h3 na nb fun a' m' b' d' w' q1 q2 q3 q4 q5 q6 q7 q8=>Ve g n cap B hs N a' m' b' d' w' (by omega) q2 q3 q4 q5 q6 q7 q8
   exact zNz g n cap a m b B d w hown hn hs c1 (by omega) h3 na
  obtain rfl:m=a+1:=by omega
  exact zNp g n cap a b B d w hown hn hs h2 h3 nb
end Go.Proofs.YtcgfilmmokmdjaaGreat
