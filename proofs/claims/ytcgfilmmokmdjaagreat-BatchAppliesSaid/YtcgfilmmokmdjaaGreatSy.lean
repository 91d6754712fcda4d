import Derived.Test.YtcgfilmmokmdjaaGreatQAC
import Derived.Deep.DeepCutAuto
set_option linter.all false
set_option maxRecDepth 100000
set_option maxHeartbeats 32000000
namespace Go.Proofs.YtcgfilmmokmdjaaGreat
open Go.Proofs.Tryz
open Go.RowKit
def Left (w:World) (g n cap a b B:Nat) (d:List It) (w':World):Prop:=∃ d',w'.ownsRow B 49 4 (.slice (some ⟨g,0,none⟩) n cap) n (zg d')/\Moved d d' a b/\jX d' a b/\w.grownBy w' (some g)
structure Bin (P:Nat->Prop) (lo hi i j:Nat):Prop where
 bl:lo<=i
 ij:i<=j
 bh:j<=hi
 l:lo<i->P (i-1)
 r:j<hi->¬ P j
variable {P:Nat->Prop} {lo hi:Nat}
def Bin.start (h:lo<=hi):Bin P lo hi lo hi:=⟨ag _,h,ag _,fun h=>absurd h (Nat.lt_irrefl _),fun h=>absurd h (Nat.lt_irrefl _)⟩
def Bin.yes {i j m:Nat} (h:Bin P lo hi i j) (h1:i<=m) (h2:m<j) (hp:P m):Bin P lo hi (m+1) j:=⟨by have:=h.bl;omega,by omega,h.bh,fun _=>hp,h.r⟩
def Bin.no {i j m:Nat} (h:Bin P lo hi i j) (h1:i<=m) (h2:m<j) (hp:¬ P m):Bin P lo hi i m:=⟨h.bl,h1,by have:=h.bh;omega,h.l,fun _=>hp⟩
def U_ {w:World} {g n cap B:Nat} {d:List It} (ho:w.ownsRow B 49 4 (.slice (some ⟨g,0,none⟩) n cap) n (zg d)) {p q:Nat} (hp:p<n) (hq:q<n):∃ (x y:It) (c:Int),Hid (eA d p=x/\eA d q=y)/\Hid (decide (c<0)=decide (x.key<y.key)) /\
  Hid (∀ W,Calls prog 174 #[mg x,mg y] W fun e w'=>e=.returned (.int .i64 c)/\Below W.heap.size W w') /\
  (∀ u:eD w,u.w'.cell? ⟨g,p*4,none⟩=some (.int .u64 x.key))/\(∀ u:eD w,u.w'.cell? ⟨g,p*4+1,none⟩=some (.int .u32 x.ck))/\(∀ u:eD w,u.w'.cell? ⟨g,p*4+2,none⟩=some (.int .i64 x.off))/\(∀ u:eD w,u.w'.cell? ⟨g,p*4+3,none⟩=some (.int .i64 x.size)) /\
  (∀ u:eD w,u.w'.cell? ⟨g,q*4,none⟩=some (.int .u64 y.key))/\(∀ u:eD w,u.w'.cell? ⟨g,q*4+1,none⟩=some (.int .u32 y.ck))/\(∀ u:eD w,u.w'.cell? ⟨g,q*4+2,none⟩=some (.int .i64 y.off))/\(∀ u:eD w,u.w'.cell? ⟨g,q*4+3,none⟩=some (.int .i64 y.size)):=by
 obtain ⟨_,_,e,c0,c1,c2,c3⟩:=(xF (zr ho)).at hp;injection e with e;injection e with e1 e2;subst e1 e2;obtain ⟨_,_,e,d0,d1,d2,d3⟩:=(xF (zr ho)).at hq;injection e with e;injection e with e1 e2;subst e1 e2;simp only[aN] at c0 c1 c2 c3 d0 d1 d2 d3;exact ⟨eA d p,eA d q,Lh (eA d p).key (eA d q).key,⟨rfl,rfl⟩,G3 _ _,fun W=>JS _ _ W,zB c0,zB c1,zB c2,zB c3,zB d0,zB d1,zB d2,zB d3⟩
def XY {w:World} {g n cap B:Nat} {d:List It} (ho:w.ownsRow B 49 4 (.slice (some ⟨g,0,none⟩) n cap) n (zg d)) (hd:d.length=n) {p q:Nat} (hp:p<n) (hq:q<n):∃ (x y:It),
  (w.cell? ⟨g,p*4,none⟩=some (.int .u64 x.key))/\(w.cell? ⟨g,p*4+1,none⟩=some (.int .u32 x.ck))/\(w.cell? ⟨g,p*4+2,none⟩=some (.int .i64 x.off))/\(w.cell? ⟨g,p*4+3,none⟩=some (.int .i64 x.size)) /\
  (w.cell? ⟨g,q*4,none⟩=some (.int .u64 y.key))/\(w.cell? ⟨g,q*4+1,none⟩=some (.int .u32 y.ck))/\(w.cell? ⟨g,q*4+2,none⟩=some (.int .i64 y.off))/\(w.cell? ⟨g,q*4+3,none⟩=some (.int .i64 y.size)) /\
  w.frozen? ⟨g,p*4,none⟩=false/\w.frozen? ⟨g,p*4+1,none⟩=false/\w.frozen? ⟨g,p*4+2,none⟩=false/\w.frozen? ⟨g,p*4+3,none⟩=false/\w.frozen? ⟨g,q*4,none⟩=false/\w.frozen? ⟨g,q*4+1,none⟩=false/\w.frozen? ⟨g,q*4+2,none⟩=false/\w.frozen? ⟨g,q*4+3,none⟩=false /\
  Hid ((Iy (Iy w g p y) g q x).drew.ownsRow B 49 4 (.slice (some ⟨g,0,none⟩) n cap) n (zg (tw d p q))/\w.grownBy (Iy (Iy w g p y) g q x).drew (some g)):=by
 obtain ⟨_,_,e,c0,c1,c2,c3⟩:=(xF (zr ho)).at hp;injection e with e;injection e with e1 e2;subst e1 e2;obtain ⟨_,_,e,d0,d1,d2,d3⟩:=(xF (zr ho)).at hq;injection e with e;injection e with e1 e2;subst e1 e2;simp only[aN] at c0 c1 c2 c3 d0 d1 d2 d3;exact ⟨eA d p,eA d q,c0,c1,c2,c3,d0,d1,d2,d3,ho.frozenAt _,ho.frozenAt _,ho.frozenAt _,ho.frozenAt _,ho.frozenAt _,ho.frozenAt _,ho.frozenAt _,ho.frozenAt _,UH ho hd hp hq rfl rfl⟩
def zNp (g n cap a b B:Nat) (d:List It) (w:World) (hown:w.ownsRow B 49 4 (.slice (some ⟨g,0,none⟩) n cap) n (zg d)) (hn:d.length=n) (hs:n<=1000000) (h1:a+1<b) (h2:b<=n) (nb:jX d (a+1) b) :
  Calls prog 209 #[.slice (some ⟨g,0,none⟩) n cap,.int .i64 (a:Int),.int .i64 ((a:Int)+1),.int .i64 (b:Int),.func (.func 174) #[] #[]] w fun e w'=>e=.returned (.tuple #[])/\Left w g n cap a b B d w':=by
 have HO:=zh hown;have hgr:w.grownBy w (some g):=⟨rfl,rfl,rfl,ag _,fun _ _ _=>rfl⟩
 have HG:=zh hgr;have HN:=zh hn;have HB:=zh nb;have hm1:((a:Int)+1-(a:Int)==1)=true:=beq_iff_eq.2 (by omega);clear hown hgr hn nb
 go_enter func209,ntmps209
 go_wp2_with fail
 go_loopw [10,11] (fun iv jv wr=>∃ i j:Nat,iv=.int .i64 (i:Int)/\jv=.int .i64 (j:Int)/\Bin (fun k=>(eA d k).key<(eA d a).key) (a+1) (b) i j/\wr.ownsRow B 49 4 (.slice (some ⟨g,0,none⟩) n cap) n (zg d)/\w.grownBy wr (some g)) (fun iv jv _=>(intOf jv-intOf iv).toNat)
 case atStart=>exact ⟨a+1,b,by go_num,by go_num,Bin.start (by omega),HO.o,HG.o⟩
 obtain ⟨i,j,rfl,rfl,mP,ho,hg⟩:=hrel;have Ho:=zh ho;have Hg:=zh hg;have hq1:=mP.bl;have Va:=mP.ij;have XZ:=mP.bh;have nu:=zh mP;clear mP ho hg
 by_cases hlt:i<j
 ·obtain ⟨h,hh,Kn,Fe⟩:∃ h:Nat,(i+j)/2=h/\i<=h/\h<j:=⟨(i+j)/2,rfl,by omega,by omega⟩
  have RO:((i:Int)+(j:Int))/2=(h:Int):=by omega
  have Hh:=zh hh;clear hh;obtain ⟨x,y,c,o8,hcl,HV,f0,f1,f2,f3,f4,f5,f6,f7⟩:=U_ Ho.o (p:=h) (q:=a) (by omega) (by omega);have HY:=zh (fun hp:(fun k=>(eA d k).key<(eA d a).key) h=>nu.o.yes Kn Fe hp);have CT:=zh (fun hp:¬ (fun k=>(eA d k).key<(eA d a).key) h=>nu.o.no Kn Fe hp);have i1:(h:Int)<(n:Int):=by omega
  have i2:(a:Int)<(n:Int):=by omega
  by_cases hk:c<0
  ·have hkk:x.key<y.key:=by have:=hcl.o;rw[aD hk] at this;exact aZ this.symm
   have HK:=zh hkk;clear hkk;go_wp2_with fail;refine zD (by kernel_rfl) (by kernel_rfl) ?_
   repeat (go_big_quiet_step ((exact zH (HV.o _))))
   refine ay ?_;intro _ hw';obtain ⟨u,hw'⟩:=hw';subst hw';have Hp:=zh (zE Ho.o u.h);have Gp:=zh (zw Hg.o (wB (grown_of u.h) (some g)));generalize u.w'=wp at *;go_wp2_with fail;exact ⟨⟨h+1,j,by go_num,rfl,HY.o (by simp only[o8.o.1,o8.o.2];have:=HK.o;omega),Hp.o,Gp.o⟩,by simp[intOf];omega⟩
  have hkk:¬ x.key<y.key:=by have:=hcl.o;rw[aC hk] at this;exact cN this.symm
  have HK:=zh hkk;have FY:decide (c<0)=false:=aC hk;clear hk hkk;go_wp2_with fail;refine zD (by kernel_rfl) (by kernel_rfl) ?_
  repeat (go_big_quiet_step ((exact zH (HV.o _))))
  refine ay ?_;intro _ hw';obtain ⟨u,hw'⟩:=hw';subst hw';have Hp:=zh (zE Ho.o u.h);have Gp:=zh (zw Hg.o (wB (grown_of u.h) (some g)));generalize u.w'=wp at *;go_wp2_with fail;exact ⟨⟨i,h,rfl,rfl,CT.o (by simp only[o8.o.1,o8.o.2];have:=HK.o;omega),Hp.o,Gp.o⟩,by simp[intOf];omega⟩
 obtain rfl:i=j:=by omega
 have HO:=Ho;have HG:=Hg
 have HP:=zh (zLv (d:=d) (a:=a) (i:=i) (b:=b) (by omega) (by omega) (by rw[HN.o];exact h2) HB.o
  (fun j j1 j2=>by
   have:=nu.o.l (by omega)
   by_cases e:j=i-1
   ·rw[e];exact this
   exact Int.lt_of_le_of_lt (HB.o j (i-1) j1 (by omega) (by omega)) this)
  (fun j j1 j2=>by
   have:=nu.o.r (by omega)
   by_cases e:j=i
   ·rw[e];exact Int.not_lt.1 this
   exact Int.le_trans (Int.not_lt.1 this) (HB.o i j (by omega) (by omega) j2)))
 have H0:=zh (R1 (d:=d) (s:=a) (e:=a+1) (by omega)).1;go_wp2_with fail
 go_loopw [13] (fun kv wr=>∃ k:Nat,kv=.int .i64 (k:Int)/\a<=k/\k+1<=i/\wr.ownsRow B 49 4 (.slice (some ⟨g,0,none⟩) n cap) n (zg (eH d a (a+1) (k+1)))/\w.grownBy wr (some g)) (fun kv _=>i-(intOf kv).toNat)
 case atStart=>exact ⟨a,by go_num,by omega,by omega,by rw[H0.o];exact HO.o,HG.o⟩
 obtain ⟨k,rfl,nw,hk2,ho,hg⟩:=hrel;have Ho:=zh ho;have Hg:=zh hg;clear ho hg
 by_cases hlt:k+1<i
 ·have HL:Hid ((eH d a (a+1) (k+1)).length=n):=zh ((vK (by omega) (by omega) (by rw[HN.o];omega)).trans HN.o);have HS:=zh (zJb (d:=d) (a:=a) (k:=k) (by omega) (by rw[HN.o];omega));generalize eH d a (a+1) (k+1)=r at *;obtain ⟨x,y,c0,c1,c2,c3,d0,d1,d2,d3,z0,z1,z2,z3,z4,z5,z6,z7,HF⟩:=XY Ho.o HL.o (p:=k) (q:=k+1) (by omega) (by omega);have j1:IntKind.i64.wrap ((k:Int)+1)=(k:Int)+1:=aF _ (by omega);have j2:(0:Int)<=(k:Int)+1:=by omega
  have j3:((k:Int)+1).toNat=k+1:=by omega
  have j4:(k:Int)+1<(n:Int):=by omega
  have j5:(k:Int)<(n:Int):=by omega
  go_wp2_with fail
  go_region_with (fail)
  all_goals go_wp2_with fail
  all_goals exact ⟨⟨k+1,by go_num,by omega,by omega,by rw[<- HS.o];exact HF.o.1,zw Hg.o HF.o.2⟩,by simp[intOf];omega⟩
 obtain rfl:i=k+1:=by omega
 go_wp2_with fail;refine au (results_none rfl _ _ _) rfl ?_;exact ⟨rfl,_,Ho.o,HP.o.1,HP.o.2,Hg.o⟩
def zNz (g n cap a m b B:Nat) (d:List It) (w:World) (hown:w.ownsRow B 49 4 (.slice (some ⟨g,0,none⟩) n cap) n (zg d)) (hn:d.length=n) (hs:n<=1000000) (h1:a+1<m) (h2:m+1=b) (h3:b<=n) (na:jX d a m) :
  Calls prog 209 #[.slice (some ⟨g,0,none⟩) n cap,.int .i64 (a:Int),.int .i64 (m:Int),.int .i64 (b:Int),.func (.func 174) #[] #[]] w fun e w'=>e=.returned (.tuple #[])/\Left w g n cap a b B d w':=by
 have HO:=zh hown;have hgr:w.grownBy w (some g):=⟨rfl,rfl,rfl,ag _,fun _ _ _=>rfl⟩
 have HG:=zh hgr;have HN:=zh hn;have HA:=zh na;have hm1:((m:Int)-(a:Int)==1)=false:=beq_eq_false_iff_ne.2 (by omega);have lU:((b:Int)-(m:Int)==1)=true:=beq_iff_eq.2 (by omega);clear hown hgr hn na
 go_enter func209,ntmps209
 go_wp2_with fail
 go_loopw [14,15] (fun iv jv wr=>∃ i j:Nat,iv=.int .i64 (i:Int)/\jv=.int .i64 (j:Int)/\Bin (fun k=>(eA d k).key<=(eA d m).key) (a) (m) i j/\wr.ownsRow B 49 4 (.slice (some ⟨g,0,none⟩) n cap) n (zg d)/\w.grownBy wr (some g)) (fun iv jv _=>(intOf jv-intOf iv).toNat)
 case atStart=>exact ⟨a,m,by go_num,by go_num,Bin.start (by omega),HO.o,HG.o⟩
 obtain ⟨i,j,rfl,rfl,mP,ho,hg⟩:=hrel;have Ho:=zh ho;have Hg:=zh hg;have hq1:=mP.bl;have Va:=mP.ij;have XZ:=mP.bh;have nu:=zh mP;clear mP ho hg
 by_cases hlt:i<j
 ·obtain ⟨h,hh,Kn,Fe⟩:∃ h:Nat,(i+j)/2=h/\i<=h/\h<j:=⟨(i+j)/2,rfl,by omega,by omega⟩
  have RO:((i:Int)+(j:Int))/2=(h:Int):=by omega
  have Hh:=zh hh;clear hh;obtain ⟨x,y,c,o8,hcl,HV,f0,f1,f2,f3,f4,f5,f6,f7⟩:=U_ Ho.o (p:=m) (q:=h) (by omega) (by omega);have HY:=zh (fun hp:(fun k=>(eA d k).key<=(eA d m).key) h=>nu.o.yes Kn Fe hp);have CT:=zh (fun hp:¬ (fun k=>(eA d k).key<=(eA d m).key) h=>nu.o.no Kn Fe hp);have i1:(h:Int)<(n:Int):=by omega
  have i2:(m:Int)<(n:Int):=by omega
  by_cases hk:c<0
  ·have hkk:x.key<y.key:=by have:=hcl.o;rw[aD hk] at this;exact aZ this.symm
   have HK:=zh hkk;clear hkk;go_wp2_with fail;refine zD (by kernel_rfl) (by kernel_rfl) ?_
   repeat (go_big_quiet_step ((exact zH (HV.o _))))
   refine ay ?_;intro _ hw';obtain ⟨u,hw'⟩:=hw';subst hw';have Hp:=zh (zE Ho.o u.h);have Gp:=zh (zw Hg.o (wB (grown_of u.h) (some g)));generalize u.w'=wp at *;go_wp2_with fail;exact ⟨⟨i,h,rfl,rfl,CT.o (by simp only[o8.o.1,o8.o.2];have:=HK.o;omega),Hp.o,Gp.o⟩,by simp[intOf];omega⟩
  have hkk:¬ x.key<y.key:=by have:=hcl.o;rw[aC hk] at this;exact cN this.symm
  have HK:=zh hkk;have FY:decide (c<0)=false:=aC hk;clear hk hkk;go_wp2_with fail;refine zD (by kernel_rfl) (by kernel_rfl) ?_
  repeat (go_big_quiet_step ((exact zH (HV.o _))))
  refine ay ?_;intro _ hw';obtain ⟨u,hw'⟩:=hw';subst hw';have Hp:=zh (zE Ho.o u.h);have Gp:=zh (zw Hg.o (wB (grown_of u.h) (some g)));generalize u.w'=wp at *;go_wp2_with fail;exact ⟨⟨h+1,j,by go_num,rfl,HY.o (by simp only[o8.o.1,o8.o.2];have:=HK.o;omega),Hp.o,Gp.o⟩,by simp[intOf];omega⟩
 obtain rfl:i=j:=by omega
 have HO:=Ho;have HG:=Hg
 have HP:=zh (zKK (d:=d) (a:=a) (i:=i) (m:=m) (by omega) (by omega) (by rw[HN.o];omega) HA.o
  (fun j j1 j2=>by
   have:=nu.o.l (by omega)
   by_cases e:j=i-1
   ·rw[e];exact this
   exact Int.le_trans (HA.o j (i-1) j1 (by omega) (by omega)) this)
  (fun j j1 j2=>by
   have:=Int.not_le.1 (nu.o.r (by omega))
   by_cases e:j=i
   ·rw[e];exact this
   exact Int.lt_of_lt_of_le this (HA.o i j (by omega) (by omega) j2)))
 have H0:=zh (R1 (d:=d) (s:=m) (e:=m+1) (by omega)).2;go_wp2_with fail
 go_loopw [17] (fun kv wr=>∃ k:Nat,kv=.int .i64 (k:Int)/\i<=k/\k<=m/\wr.ownsRow B 49 4 (.slice (some ⟨g,0,none⟩) n cap) n (zg (eH d k m (m+1)))/\w.grownBy wr (some g)) (fun kv _=>(intOf kv).toNat)
 case atStart=>exact ⟨m,by go_num,by omega,by omega,by rw[H0.o];exact HO.o,HG.o⟩
 obtain ⟨k,rfl,nw,hk2,ho,hg⟩:=hrel;have Ho:=zh ho;have Hg:=zh hg;clear ho hg
 by_cases hlt:i<k
 ·have HL:Hid ((eH d k m (m+1)).length=n):=zh ((vK (by omega) (by omega) (by rw[HN.o];omega)).trans HN.o);have HS:Hid (tw (eH d k m (m+1)) k (k-1)=eH d (k-1) m (m+1)):=zh (by have:=zM0 (d:=d) (k:=k-1) (m:=m) (by omega) (by rw[HN.o];omega);rwa [show k-1+1=k by omega] at this);generalize eH d k m (m+1)=r at *;obtain ⟨x,y,c0,c1,c2,c3,d0,d1,d2,d3,z0,z1,z2,z3,z4,z5,z6,z7,HF⟩:=XY Ho.o HL.o (p:=k) (q:=k-1) (by omega) (by omega);have j1:IntKind.i64.wrap ((k:Int)-1)=(k:Int)-1:=aF _ (by omega);have j2:(0:Int)<=(k:Int)-1:=by omega
  have j3:((k:Int)-1).toNat=k-1:=by omega
  have j4:(k:Int)-1<(n:Int):=by omega
  have j5:(k:Int)<(n:Int):=by omega
  go_wp2_with fail
  go_region_with (fail)
  all_goals go_wp2_with fail
  all_goals exact ⟨⟨k-1,by go_num,by omega,by omega,by rw[<- HS.o];exact HF.o.1,zw Hg.o HF.o.2⟩,by simp[intOf];omega⟩
 obtain rfl:i=k:=by omega
 go_wp2_with fail;refine au (results_none rfl _ _ _) rfl ?_;exact ⟨rfl,_,Ho.o,(by rw[<- h2];exact HP.o.1),(by rw[<- h2];exact HP.o.2),Hg.o⟩
end Go.Proofs.YtcgfilmmokmdjaaGreat
