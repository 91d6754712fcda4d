import Derived.Test.YtcgfilmmokmdjaaGreatSy
set_option linter.all false
set_option maxRecDepth 100000
set_option maxHeartbeats 32000000
namespace Go.Proofs.YtcgfilmmokmdjaaGreat
open Go.RowKit
theorem zL5 (g n cap a m b B:Nat) (d:List It) (w:World) (hown:w.ownsRow B 49 4 (.slice (some ⟨g,0,none⟩) n cap) n (zU d)) (hn:d.length=n) (hs:n≤1000000) (h1:a+1<m) (h2:m+1<b) (h3:b≤n) (na:jk d a m) (nb:jk d m b) (IH:∀ (a' m' b':Nat) (d':List It) (w':World),b'-a'<b-a→w'.ownsRow B 49 4 (.slice (some ⟨g,0,none⟩) n cap) n (zU d')→d'.length=n→a'<m'→m'<b'→b'≤n→jk d' a' m'→jk d' m' b'→Calls Tryz.prog 209 #[.slice (some ⟨g,0,none⟩) n cap,.int .i64 (a':Int),.int .i64 (m':Int),.int .i64 (b':Int),.func (.func 174) #[] #[]] w' fun e w''=>e=.returned (.tuple #[])∧Left w' g n cap a' b' B d' w'') :
  Calls Tryz.prog 209 #[.slice (some ⟨g,0,none⟩) n cap,.int .i64 (a:Int),.int .i64 (m:Int),.int .i64 (b:Int),.func (.func 174) #[] #[]] w fun e w'=>e=.returned (.tuple #[])∧Left w g n cap a b B d w':=by
 have HO:=zh hown;have hgr:w.grownBy w (some g):=⟨rfl,rfl,rfl,ag _,fun _ _ _=>rfl⟩
 have HG:=zh hgr;have HN:=zh hn;have HI:=zh IH;clear IH;have HA:=zh na;have HB:=zh nb;have hm1:((m:Int)-(a:Int)==1)=false:=beq_eq_false_iff_ne.2 (by omega);have lB:((b:Int)-(m:Int)==1)=false:=beq_eq_false_iff_ne.2 (by omega);obtain ⟨md,nU,hL6,hL7,hLi⟩:∃ md,(a+b)/2=md∧md<b∧a<md∧((a:Int)+(b:Int))/2=(md:Int):=⟨(a+b)/2,rfl,by omega,by omega,by omega⟩
 obtain ⟨lo,hlo,Mb,hL5,hM1,hM2⟩:∃ lo,(if m>md then md+m-b else a)=lo∧a≤lo∧md+m≤lo+b∧(md<m→(md:Int)+(m:Int)-(b:Int)=(lo:Int))∧(¬ md<m→a=lo):=by
  refine ⟨_,rfl,?_,?_,fun h=>?_,fun h=>?_⟩
  ·
   split<;>omega
  ·
   split<;>omega
  ·
   rw[ah h];omega
  rw[ai h]
 obtain ⟨hi,hhi,hL2,hL3,hL4,XE,XH⟩:∃ hi,(if m>md then md else m)=hi∧lo≤hi∧hi≤m∧hi≤md∧(md<m→md=hi)∧(¬ md<m→m=hi):=by
  refine ⟨_,rfl,?_,?_,?_,fun h=>?_,fun h=>?_⟩
  ·
   rw[← hlo];split<;>omega
  ·
   split<;>omega
  ·
   split<;>omega
  ·
   rw[ah h]
  rw[ai h]
 have DS:=zh nU;have XI:=zh hlo;have XJ:=zh hhi;have C8:=zh hM1;have sQ:=zh hM2;have Pq:=zh XE;have RV:=zh XH;clear nU hlo hhi hM1 hM2 XE XH hown hgr hn na nb
 go_enter Tryz.func209,Tryz.ntmps209
 go_upto_if 140 with fail
 go_cut [20,21] (fun s20 s21 wx=>s20=.int .i64 (lo:Int)∧s21=.int .i64 (hi:Int)∧w=wx)
 case first=>as_aux_lemma =>
  by_cases hgt:md<m
  ·
   have e1:=zh (C8.out hgt);have e2:=zh (Pq.out hgt);go_wp2_with fail;go_meet
   case rel=>exact ⟨by rw[e1.out],by rw[e2.out],rfl⟩
  have e1:=zh (sQ.out hgt);have e2:=zh (RV.out hgt);go_wp2_with fail;go_meet
  case rel=>exact ⟨by rw[e1.out],by rw[e2.out],rfl⟩
 obtain ⟨rfl,rfl,rfl⟩:=hcut;go_wp2_with fail
 go_loopw [20,21] (fun iv jv wr=>∃ i j:Nat,iv=.int .i64 (i:Int)∧jv=.int .i64 (j:Int)∧Bin (fun k=>(ea d k).key≤(ea d (md+m-1-k)).key) (lo) (hi) i j∧wr.ownsRow B 49 4 (.slice (some ⟨g,0,none⟩) n cap) n (zU d)∧w.grownBy wr (some g)) (fun iv jv _=>(intOf jv-intOf iv).toNat)
 case atStart=>exact ⟨lo,hi,by go_num,by go_num,Bin.start (by omega),HO.out,HG.out⟩
 obtain ⟨i,j,rfl,rfl,lW,ho,hg⟩:=hrel;have Ho:=zh ho;have Hg:=zh hg;have hq1:=lW.bl;have Ji:=lW.ij;have Ma:=lW.bh;have mr:=zh lW;clear lW ho hg
 by_cases hlt:i<j
 ·
  obtain ⟨h,hh,Ii,DR⟩:∃ h:Nat,(i+j)/2=h∧i≤h∧h<j:=⟨(i+j)/2,rfl,by omega,by omega⟩
  have Pa:((i:Int)+(j:Int))/2=(h:Int):=by omega
  have Hh:=zh hh;clear hh;obtain ⟨x,y,c,nK,hcl,HV,f0,f1,f2,f3,f4,f5,f6,f7⟩:=RU Ho.out (p:=md+m-1-h) (q:=h) (by omega) (by omega);have HY:=zh (fun hp:(fun k=>(ea d k).key≤(ea d (md+m-1-k)).key) h=>mr.out.yes Ii DR hp);have Co:=zh (fun hp:¬ (fun k=>(ea d k).key≤(ea d (md+m-1-k)).key) h=>mr.out.no Ii DR hp);have i1:(h:Int)<(n:Int):=by omega
  have q1:(0:Int)≤(md:Int)+(m:Int)-1-(h:Int):=by omega
  have q2:((md:Int)+(m:Int)-1-(h:Int)).toNat=md+m-1-h:=by omega
  have q3:(md:Int)+(m:Int)-1-(h:Int)<(n:Int):=by omega
  have q0:IntKind.i64.wrap ((md:Int)+(m:Int)-1-(h:Int))=(md:Int)+(m:Int)-1-(h:Int):=aF _ (by omega)
  by_cases hk:c<0
  ·
   as_aux_lemma =>
   have hkk:x.key<y.key:=by have:=hcl.out;rw[aC hk] at this;exact bn this.symm
   have HK:=zh hkk;clear hkk;go_wp2_with fail;refine zC (by kernel_rfl) (by kernel_rfl) ?_
   repeat (go_big_quiet_step ((exact zE (HV.out _))))
   refine aA ?_;intro _ hw';obtain ⟨u,hw'⟩:=hw';subst hw';have Hp:=zh (zG Ho.out u.h);have Gp:=zh (zr Hg.out (xZ (grown_of u.h) (some g)));generalize u.w'=wp at *;go_wp2_with fail;exact ⟨⟨i,h,rfl,rfl,Co.out (by simp only[nK.out.1,nK.out.2];have:=HK.out;omega),Hp.out,Gp.out⟩,by simp[intOf];omega⟩
  as_aux_lemma =>
  have hkk:¬ x.key<y.key:=by have:=hcl.out;rw[aD hk] at this;exact cS this.symm
  have HK:=zh hkk;have Ek:decide (c<0)=false:=aD hk;clear hk hkk;go_wp2_with fail;refine zC (by kernel_rfl) (by kernel_rfl) ?_
  repeat (go_big_quiet_step ((exact zE (HV.out _))))
  refine aA ?_;intro _ hw';obtain ⟨u,hw'⟩:=hw';subst hw';have Hp:=zh (zG Ho.out u.h);have Gp:=zh (zr Hg.out (xZ (grown_of u.h) (some g)));generalize u.w'=wp at *;go_wp2_with fail;exact ⟨⟨h+1,j,by go_num,rfl,HY.out (by simp only[nK.out.1,nK.out.2];have:=HK.out;omega),Hp.out,Gp.out⟩,by simp[intOf];omega⟩
 obtain rfl:i=j:=by omega
 have HO:=Ho;have HG:=Hg
 have XK:=zh (show Gc d a m b i from ⟨by rw[DS.out,XI.out];exact mr.out.bl,by rw[DS.out,XJ.out];exact mr.out.bh,
  fun h=>by rw[DS.out,XI.out] at h;rw[DS.out];have:=mr.out.l h;rwa [show md+m-1-(i-1)=md+m-i by omega] at this,
  fun h=>by rw[DS.out,XJ.out] at h;rw[DS.out];exact Int.not_le.1 (mr.out.r h)⟩)
 obtain ⟨hE1,hE2,hE3,XL,XM⟩:=XK.out.ends;rw[DS.out] at hE3 XL XM;have hG:=zKW XK.out (by omega) (by omega) (by rw[HN.out];exact h3) HA.out HB.out;rw[DS.out] at hG;obtain ⟨e,he,hEe⟩:∃ e,md+m-i=e∧(md:Int)+(m:Int)-(i:Int)=(e:Int):=⟨md+m-i,rfl,by omega⟩
 rw[he] at XL XM hG;have hE6:md≤e:=by omega
 have hX1:i=m↔e=md:=by omega
 have XP:e=m↔i=md:=by omega
 have fq:=zh (show i=m→ey d i m e=d from fun h=>by rw[h];exact (kI (d:=d) (s:=m) (e:=e) (by omega)).2);have gN:=zh (show m=e→ey d i m e=d from fun h=>by rw[h];exact (kI (d:=d) (s:=i) (e:=e) (by omega)).1);have RX:=zh (fun w h h1 h2=>zFE g n cap i m e B d (.func (.func 174) #[] #[]) w h HN.out hs h1 h2 (by omega));have C5:=zh (hG.1.len.trans HN.out);generalize ey d i m e=d1 at *;have Gh:=zh hG;have He:=zh he;have fh:=zh hX1;have fW:=zh XP;clear hG he hX1 XP hlt;obtain ⟨t,ht⟩:∃ t,decide (i<m∧m<e)=t:=⟨_,rfl⟩
 have Ht:=zh ht;clear ht;go_upto_region 39 with fail
 go_cut [185] (fun s wx=>s=.bool t∧wr=wx)
 case first=>as_aux_lemma =>
  by_cases c1:i<m
  ·
   by_cases c2:m<e
   ·
    go_wp2_with fail;go_meet
    case rel=>exact ⟨by rw[← Ht.out,aC ⟨c1,c2⟩],rfl⟩
   go_wp2_with fail;go_meet
   case rel=>exact ⟨by rw[← Ht.out,aD (fun h=>c2 h.2)],rfl⟩
  go_wp2_with fail;go_meet
  case rel=>exact ⟨by rw[← Ht.out,aD (fun h=>c1 h.1)],rfl⟩
 obtain ⟨rfl,rfl⟩:=hcut;go_upto_if 185 with fail
 go_cut [18] (fun RY wx=>RY=.int .i64 (md:Int)∧wx.ownsRow B 49 4 (.slice (some ⟨g,0,none⟩) n cap) n (zU d1)∧w.grownBy wx (some g))
 case first=>as_aux_lemma =>
  cases t
  ·
   have hc:=cS Ht.out
   have HE:Hid (d1=d):=zh (by
    by_cases c1:i=m
    ·
     exact fq.out c1
    exact gN.out (by omega))
   clear hc;go_wp2_with fail;go_meet
   case rel=>exact ⟨rfl,by rw[HE.out];exact HO.out,HG.out⟩
  have hc:=zh (bn Ht.out);go_wp2_with fail;refine (RX.out _ HO.out hc.out.1 hc.out.2).mono ?_;rintro _ w2 ⟨rfl,eG,fp⟩;have gC:=zh eG;have j_:=zh (zr HG.out fp);clear eG fp;go_wp2_with fail;go_meet
  case rel=>exact ⟨rfl,gC.out,j_.out⟩
 obtain ⟨rfl,ho,hg⟩:=hcut;have HO:=zh ho;have HG:=zh hg;clear ho hg;obtain ⟨t,ht⟩:∃ t,decide (a<i∧i<md)=t:=⟨_,rfl⟩
 have Ht:=zh ht;clear ht;go_upto_region 41 with fail
 go_cut [199] (fun s wx=>s=.bool t∧wc=wx)
 case first=>as_aux_lemma =>
  by_cases c1:a<i
  ·
   by_cases c2:i<md
   ·
    go_wp2_with fail;go_meet
    case rel=>exact ⟨by rw[← Ht.out,aC ⟨c1,c2⟩],rfl⟩
   go_wp2_with fail;go_meet
   case rel=>exact ⟨by rw[← Ht.out,aD (fun h=>c2 h.2)],rfl⟩
  go_wp2_with fail;go_meet
  case rel=>exact ⟨by rw[← Ht.out,aD (fun h=>c1 h.1)],rfl⟩
 obtain ⟨rfl,rfl⟩:=hcut;go_upto_if 199 with fail
 go_cut [18] (fun RY wx=>∃ d2,RY=.int .i64 (md:Int)∧wx.ownsRow B 49 4 (.slice (some ⟨g,0,none⟩) n cap) n (zU d2)∧Moved d1 d2 a md∧jk d2 a md∧w.grownBy wx (some g))
 case first=>as_aux_lemma =>
  cases t
  ·
   have hc:=cS Ht.out
   have HE:=zh (show jk d1 a md from by
    by_cases c1:i=a
    ·
     exact c1▸Gh.out.2.2.1
    exact (show i=md by omega)▸Gh.out.2.1)
   clear hc;go_wp2_with fail;go_meet
   case rel=>exact ⟨d1,rfl,HO.out,Moved.refl _ _ _,HE.out,HG.out⟩
  have hc:=zh (bn Ht.out);go_wp2_with fail;refine (HI.out a i md d1 _ (by omega) HO.out C5.out hc.out.1 hc.out.2 (by omega) Gh.out.2.1 Gh.out.2.2.1).mono ?_;rintro _ w2 ⟨rfl,d2,eG,lB,mK,fp⟩;have gC:=zh eG;have HM:=zh lB;have XQ:=zh mK;have j_:=zh (zr HG.out fp);clear eG fp lB mK;go_wp2_with fail;go_meet
  case rel=>exact ⟨d2,rfl,gC.out,HM.out,XQ.out,j_.out⟩
 obtain ⟨d2,rfl,ho,lB,mK,hg⟩:=hcut;have HO:=zh ho;have HG:=zh hg;have HM:=zh lB;have XQ:=zh mK;have Ej:=zh (lB.len.trans C5.out);have C7:=zh (show jk d2 md e from fun x y x1 xy y1=>by rw[lB.out (Or.inr x1),lB.out (Or.inr (by omega))];exact Gh.out.2.2.2.1 x y x1 xy y1);have Co:=zh (show jk d2 e b from fun x y x1 xy y1=>by rw[lB.out (Or.inr (by omega)),lB.out (Or.inr (by omega))];exact Gh.out.2.2.2.2.1 x y x1 xy y1);have HJ:=zh (fun d3 m3 n3=>zKm (d:=d1) (d2:=d2) (d3:=d3) (a:=a) (c:=md) (b:=b) (by omega) (by omega) (by rw[C5.out];exact h3) lB mK m3 n3 Gh.out.2.2.2.2.2);clear ho lB mK hg;obtain ⟨t,ht⟩:∃ t,decide (md<e∧e<b)=t:=⟨_,rfl⟩
 have Ht:=zh ht;clear ht;go_upto_region 43 with fail
 go_cut [213] (fun s wx=>s=.bool t∧wc=wx)
 case first=>as_aux_lemma =>
  by_cases c1:md<e
  ·
   by_cases c2:e<b
   ·
    go_wp2_with fail;go_meet
    case rel=>exact ⟨by rw[← Ht.out,aC ⟨c1,c2⟩],rfl⟩
   go_wp2_with fail;go_meet
   case rel=>exact ⟨by rw[← Ht.out,aD (fun h=>c2 h.2)],rfl⟩
  go_wp2_with fail;go_meet
  case rel=>exact ⟨by rw[← Ht.out,aD (fun h=>c1 h.1)],rfl⟩
 obtain ⟨rfl,rfl⟩:=hcut
 cases t
 ·
  have hc:=cS Ht.out
  have Mc:=zh (HJ.out d2 (Moved.refl _ _ _) (by
   by_cases c1:md=e
   ·
    exact c1▸Co.out
   exact (show e=b by omega)▸C7.out))
  clear hc;go_wp2_with fail;go_end0;exact ⟨rfl,d2,HO.out,Gh.out.1.trans Mc.out.1,Mc.out.2,HG.out⟩
 have hc:=zh (bn Ht.out);go_wp2_with fail;refine (HI.out md e b d2 _ (by omega) HO.out Ej.out hc.out.1 hc.out.2 h3 C7.out Co.out).mono ?_;rintro _ w2 ⟨rfl,d3,eG,lB,mK,fp⟩;have gC:=zh eG;have Mc:=zh (HJ.out d3 lB mK);have j_:=zh (zr HG.out fp);clear eG fp lB mK;go_wp2_with fail;go_end0;exact ⟨rfl,d3,gC.out,Gh.out.1.trans Mc.out.1,Mc.out.2,j_.out⟩
theorem RZ (g n cap B:Nat) (hs:n≤1000000):∀ (N a m b:Nat) (d:List It) (w:World),b-a≤N→w.ownsRow B 49 4 (.slice (some ⟨g,0,none⟩) n cap) n (zU d)→d.length=n→a<m→m<b→b≤n→jk d a m→jk d m b →
  Calls Tryz.prog 209 #[.slice (some ⟨g,0,none⟩) n cap,.int .i64 (a:Int),.int .i64 (m:Int),.int .i64 (b:Int),.func (.func 174) #[] #[]] w fun e w'=>e=.returned (.tuple #[])∧Left w g n cap a b B d w'
 |0,a,m,b,_,_,h,_,_,_,_,_,_,_=>by omega
 |N+1,a,m,b,d,w,h,hown,hn,h1,h2,h3,na,nb=>by
  rcases bE (a+1) m with c1|c1
  ·
   rcases bE (m+1) b with c2|c2
   ·
    exact zL5 g n cap a m b B d w hown hn hs c1 c2 h3 na nb fun a' m' b' d' w' q1 q2 q3 q4 q5 q6 q7 q8=>RZ g n cap B hs N a' m' b' d' w' (by omega) q2 q3 q4 q5 q6 q7 q8
   exact zMS g n cap a m b B d w hown hn hs c1 (by omega) h3 na
  obtain rfl:m=a+1:=by omega
  exact zMI g n cap a b B d w hown hn hs h2 h3 nb
end Go.Proofs.YtcgfilmmokmdjaaGreat
