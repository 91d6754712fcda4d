import Derived.Test.YtcgfilmmokmdjaaGreatQAC
import Derived.Laws.BitsAllLaws
import Derived.Deep.DeepCutAuto
set_option linter.all false
set_option maxRecDepth 100000
set_option maxHeartbeats 32000000
namespace Go.Proofs.YtcgfilmmokmdjaaGreat
open Go.RowKit
def Left (w:World) (g n cap a b B:Nat) (d:List It) (w':World):Prop:=∃ d',w'.ownsRow B 49 4 (.slice (some ⟨g,0,none⟩) n cap) n (zU d')∧Moved d d' a b∧jk d' a b∧w.grownBy w' (some g)
structure Bin (P:Nat→Prop) (lo hi i j:Nat):Prop where
 bl:lo≤i
 ij:i≤j
 bh:j≤hi
 l:lo<i→P (i-1)
 r:j<hi→¬ P j
theorem Bin.start {P:Nat→Prop} {lo hi:Nat} (h:lo≤hi):Bin P lo hi lo hi:=⟨ag _,h,ag _,fun h=>absurd h (Nat.lt_irrefl _),fun h=>absurd h (Nat.lt_irrefl _)⟩
theorem Bin.yes {P:Nat→Prop} {lo hi i j m:Nat} (h:Bin P lo hi i j) (h1:i≤m) (h2:m<j) (hp:P m):Bin P lo hi (m+1) j:=⟨by have:=h.bl;omega,by omega,h.bh,fun _=>hp,h.r⟩
theorem Bin.no {P:Nat→Prop} {lo hi i j m:Nat} (h:Bin P lo hi i j) (h1:i≤m) (h2:m<j) (hp:¬ P m):Bin P lo hi i m:=⟨h.bl,h1,by have:=h.bh;omega,h.l,fun _=>hp⟩
theorem RU {w:World} {g n cap B:Nat} {d:List It} (ho:w.ownsRow B 49 4 (.slice (some ⟨g,0,none⟩) n cap) n (zU d)) {p q:Nat} (hp:p<n) (hq:q<n):∃ (x y:It) (c:Int),Hid (ea d p=x∧ea d q=y)∧Hid (decide (c<0)=decide (x.key<y.key)) ∧
  Hid (∀ W,Calls Tryz.prog 174 #[lN x,lN y] W fun e w'=>e=.returned (.int .i64 c)∧Below W.heap.size W w') ∧
  (∀ u:eo w,u.w'.cell? ⟨g,p*4,none⟩=some (.int .u64 x.key))∧(∀ u:eo w,u.w'.cell? ⟨g,p*4+1,none⟩=some (.int .u32 x.ck))∧(∀ u:eo w,u.w'.cell? ⟨g,p*4+2,none⟩=some (.int .i64 x.off))∧(∀ u:eo w,u.w'.cell? ⟨g,p*4+3,none⟩=some (.int .i64 x.size)) ∧
  (∀ u:eo w,u.w'.cell? ⟨g,q*4,none⟩=some (.int .u64 y.key))∧(∀ u:eo w,u.w'.cell? ⟨g,q*4+1,none⟩=some (.int .u32 y.ck))∧(∀ u:eo w,u.w'.cell? ⟨g,q*4+2,none⟩=some (.int .i64 y.off))∧(∀ u:eo w,u.w'.cell? ⟨g,q*4+3,none⟩=some (.int .i64 y.size)):=by
 obtain ⟨_,_,e,c0,c1,c2,c3⟩:=(yh (zk ho)).at hp;injection e with e;injection e with e1 e2;subst e1 e2;obtain ⟨_,_,e,d0,d1,d2,d3⟩:=(yh (zk ho)).at hq;injection e with e;injection e with e1 e2;subst e1 e2;simp only[aI] at c0 c1 c2 c3 d0 d1 d2 d3;exact ⟨ea d p,ea d q,Ja (ea d p).key (ea d q).key,⟨rfl,rfl⟩,WN _ _,fun W=>WO _ _ W,zB c0,zB c1,zB c2,zB c3,zB d0,zB d1,zB d2,zB d3⟩
theorem XD {w:World} {g n cap B:Nat} {d:List It} (ho:w.ownsRow B 49 4 (.slice (some ⟨g,0,none⟩) n cap) n (zU d)) (hd:d.length=n) {p q:Nat} (hp:p<n) (hq:q<n):∃ (x y:It),
  (w.cell? ⟨g,p*4,none⟩=some (.int .u64 x.key))∧(w.cell? ⟨g,p*4+1,none⟩=some (.int .u32 x.ck))∧(w.cell? ⟨g,p*4+2,none⟩=some (.int .i64 x.off))∧(w.cell? ⟨g,p*4+3,none⟩=some (.int .i64 x.size)) ∧
  (w.cell? ⟨g,q*4,none⟩=some (.int .u64 y.key))∧(w.cell? ⟨g,q*4+1,none⟩=some (.int .u32 y.ck))∧(w.cell? ⟨g,q*4+2,none⟩=some (.int .i64 y.off))∧(w.cell? ⟨g,q*4+3,none⟩=some (.int .i64 y.size)) ∧
  w.frozen? ⟨g,p*4,none⟩=false∧w.frozen? ⟨g,p*4+1,none⟩=false∧w.frozen? ⟨g,p*4+2,none⟩=false∧w.frozen? ⟨g,p*4+3,none⟩=false∧w.frozen? ⟨g,q*4,none⟩=false∧w.frozen? ⟨g,q*4+1,none⟩=false∧w.frozen? ⟨g,q*4+2,none⟩=false∧w.frozen? ⟨g,q*4+3,none⟩=false ∧
  Hid ((FA (FA w g p y) g q x).drew.ownsRow B 49 4 (.slice (some ⟨g,0,none⟩) n cap) n (zU (tF d p q))∧w.grownBy (FA (FA w g p y) g q x).drew (some g)):=by
 obtain ⟨_,_,e,c0,c1,c2,c3⟩:=(yh (zk ho)).at hp;injection e with e;injection e with e1 e2;subst e1 e2;obtain ⟨_,_,e,d0,d1,d2,d3⟩:=(yh (zk ho)).at hq;injection e with e;injection e with e1 e2;subst e1 e2;simp only[aI] at c0 c1 c2 c3 d0 d1 d2 d3;exact ⟨ea d p,ea d q,c0,c1,c2,c3,d0,d1,d2,d3,ho.frozenAt _,ho.frozenAt _,ho.frozenAt _,ho.frozenAt _,ho.frozenAt _,ho.frozenAt _,ho.frozenAt _,ho.frozenAt _,Ro ho hd hp hq rfl rfl⟩
theorem zMI (g n cap a b B:Nat) (d:List It) (w:World) (hown:w.ownsRow B 49 4 (.slice (some ⟨g,0,none⟩) n cap) n (zU d)) (hn:d.length=n) (hs:n≤1000000) (h1:a+1<b) (h2:b≤n) (nb:jk d (a+1) b) :
  Calls Tryz.prog 209 #[.slice (some ⟨g,0,none⟩) n cap,.int .i64 (a:Int),.int .i64 ((a:Int)+1),.int .i64 (b:Int),.func (.func 174) #[] #[]] w fun e w'=>e=.returned (.tuple #[])∧Left w g n cap a b B d w':=by
 have HO:=zh hown;have hgr:w.grownBy w (some g):=⟨rfl,rfl,rfl,ag _,fun _ _ _=>rfl⟩
 have HG:=zh hgr;have HN:=zh hn;have HB:=zh nb;have hm1:((a:Int)+1-(a:Int)==1)=true:=beq_iff_eq.2 (by omega);clear hown hgr hn nb
 go_enter Tryz.func209,Tryz.ntmps209
 go_wp2_with fail
 go_loopw [10,11] (fun iv jv wr=>∃ i j:Nat,iv=.int .i64 (i:Int)∧jv=.int .i64 (j:Int)∧Bin (fun k=>(ea d k).key<(ea d a).key) (a+1) (b) i j∧wr.ownsRow B 49 4 (.slice (some ⟨g,0,none⟩) n cap) n (zU d)∧w.grownBy wr (some g)) (fun iv jv _=>(intOf jv-intOf iv).toNat)
 case atStart=>exact ⟨a+1,b,by go_num,by go_num,Bin.start (by omega),HO.out,HG.out⟩
 obtain ⟨i,j,rfl,rfl,lW,ho,hg⟩:=hrel;have Ho:=zh ho;have Hg:=zh hg;have hq1:=lW.bl;have Ji:=lW.ij;have Ma:=lW.bh;have mr:=zh lW;clear lW ho hg
 by_cases hlt:i<j
 ·
  obtain ⟨h,hh,Ii,DR⟩:∃ h:Nat,(i+j)/2=h∧i≤h∧h<j:=⟨(i+j)/2,rfl,by omega,by omega⟩
  have Pa:((i:Int)+(j:Int))/2=(h:Int):=by omega
  have Hh:=zh hh;clear hh;obtain ⟨x,y,c,nK,hcl,HV,f0,f1,f2,f3,f4,f5,f6,f7⟩:=RU Ho.out (p:=h) (q:=a) (by omega) (by omega);have HY:=zh (fun hp:(fun k=>(ea d k).key<(ea d a).key) h=>mr.out.yes Ii DR hp);have Co:=zh (fun hp:¬ (fun k=>(ea d k).key<(ea d a).key) h=>mr.out.no Ii DR hp);have i1:(h:Int)<(n:Int):=by omega
  have i2:(a:Int)<(n:Int):=by omega
  by_cases hk:c<0
  ·
   have hkk:x.key<y.key:=by have:=hcl.out;rw[aC hk] at this;exact bn this.symm
   have HK:=zh hkk;clear hkk;go_wp2_with fail;refine zC (by kernel_rfl) (by kernel_rfl) ?_
   repeat (go_big_quiet_step ((exact zE (HV.out _))))
   refine aA ?_;intro _ hw';obtain ⟨u,hw'⟩:=hw';subst hw';have Hp:=zh (zG Ho.out u.h);have Gp:=zh (zr Hg.out (xZ (grown_of u.h) (some g)));generalize u.w'=wp at *;go_wp2_with fail;exact ⟨⟨h+1,j,by go_num,rfl,HY.out (by simp only[nK.out.1,nK.out.2];have:=HK.out;omega),Hp.out,Gp.out⟩,by simp[intOf];omega⟩
  have hkk:¬ x.key<y.key:=by have:=hcl.out;rw[aD hk] at this;exact cS this.symm
  have HK:=zh hkk;have Ek:decide (c<0)=false:=aD hk;clear hk hkk;go_wp2_with fail;refine zC (by kernel_rfl) (by kernel_rfl) ?_
  repeat (go_big_quiet_step ((exact zE (HV.out _))))
  refine aA ?_;intro _ hw';obtain ⟨u,hw'⟩:=hw';subst hw';have Hp:=zh (zG Ho.out u.h);have Gp:=zh (zr Hg.out (xZ (grown_of u.h) (some g)));generalize u.w'=wp at *;go_wp2_with fail;exact ⟨⟨i,h,rfl,rfl,Co.out (by simp only[nK.out.1,nK.out.2];have:=HK.out;omega),Hp.out,Gp.out⟩,by simp[intOf];omega⟩
 obtain rfl:i=j:=by omega
 have HO:=Ho;have HG:=Hg
 have HP:=zh (zKN (d:=d) (a:=a) (i:=i) (b:=b) (by omega) (by omega) (by rw[HN.out];exact h2) HB.out
  (fun j j1 j2=>by
   have:=mr.out.l (by omega)
   by_cases e:j=i-1
   ·
    rw[e];exact this
   exact Int.lt_of_le_of_lt (HB.out j (i-1) j1 (by omega) (by omega)) this)
  (fun j j1 j2=>by
   have:=mr.out.r (by omega)
   by_cases e:j=i
   ·
    rw[e];exact Int.not_lt.1 this
   exact Int.le_trans (Int.not_lt.1 this) (HB.out i j (by omega) (by omega) j2)))
 have H0:=zh (kI (d:=d) (s:=a) (e:=a+1) (by omega)).1;go_wp2_with fail
 go_loopw [13] (fun kv wr=>∃ k:Nat,kv=.int .i64 (k:Int)∧a≤k∧k+1≤i∧wr.ownsRow B 49 4 (.slice (some ⟨g,0,none⟩) n cap) n (zU (ey d a (a+1) (k+1)))∧w.grownBy wr (some g)) (fun kv _=>i-(intOf kv).toNat)
 case atStart=>exact ⟨a,by go_num,by omega,by omega,by rw[H0.out];exact HO.out,HG.out⟩
 obtain ⟨k,rfl,oD,hk2,ho,hg⟩:=hrel;have Ho:=zh ho;have Hg:=zh hg;clear ho hg
 by_cases hlt:k+1<i
 ·
  have HL:=zh (show (ey d a (a+1) (k+1)).length=n from (ws (by omega) (by omega) (by rw[HN.out];omega)).trans HN.out);have HS:=zh (zH7 (d:=d) (a:=a) (k:=k) (by omega) (by rw[HN.out];omega));generalize ey d a (a+1) (k+1)=r at *;obtain ⟨x,y,c0,c1,c2,c3,d0,d1,d2,d3,z0,z1,z2,z3,z4,z5,z6,z7,HF⟩:=XD Ho.out HL.out (p:=k) (q:=k+1) (by omega) (by omega);have j1:IntKind.i64.wrap ((k:Int)+1)=(k:Int)+1:=aF _ (by omega);have j2:(0:Int)≤(k:Int)+1:=by omega
  have j3:((k:Int)+1).toNat=k+1:=by omega
  have j4:(k:Int)+1<(n:Int):=by omega
  have j5:(k:Int)<(n:Int):=by omega
  go_wp2_with fail
  go_region_with (fail)
  all_goals go_wp2_with fail
  all_goals exact ⟨⟨k+1,by go_num,by omega,by omega,by rw[← HS.out];exact HF.out.1,zr Hg.out HF.out.2⟩,by simp[intOf];omega⟩
 obtain rfl:i=k+1:=by omega
 go_wp2_with fail;refine au (results_none rfl _ _ _) rfl ?_;exact ⟨rfl,_,Ho.out,HP.out.1,HP.out.2,Hg.out⟩
theorem zMS (g n cap a m b B:Nat) (d:List It) (w:World) (hown:w.ownsRow B 49 4 (.slice (some ⟨g,0,none⟩) n cap) n (zU d)) (hn:d.length=n) (hs:n≤1000000) (h1:a+1<m) (h2:m+1=b) (h3:b≤n) (na:jk d a m) :
  Calls Tryz.prog 209 #[.slice (some ⟨g,0,none⟩) n cap,.int .i64 (a:Int),.int .i64 (m:Int),.int .i64 (b:Int),.func (.func 174) #[] #[]] w fun e w'=>e=.returned (.tuple #[])∧Left w g n cap a b B d w':=by
 have HO:=zh hown;have hgr:w.grownBy w (some g):=⟨rfl,rfl,rfl,ag _,fun _ _ _=>rfl⟩
 have HG:=zh hgr;have HN:=zh hn;have HA:=zh na;have hm1:((m:Int)-(a:Int)==1)=false:=beq_eq_false_iff_ne.2 (by omega);have lB:((b:Int)-(m:Int)==1)=true:=beq_iff_eq.2 (by omega);clear hown hgr hn na
 go_enter Tryz.func209,Tryz.ntmps209
 go_wp2_with fail
 go_loopw [14,15] (fun iv jv wr=>∃ i j:Nat,iv=.int .i64 (i:Int)∧jv=.int .i64 (j:Int)∧Bin (fun k=>(ea d k).key≤(ea d m).key) (a) (m) i j∧wr.ownsRow B 49 4 (.slice (some ⟨g,0,none⟩) n cap) n (zU d)∧w.grownBy wr (some g)) (fun iv jv _=>(intOf jv-intOf iv).toNat)
 case atStart=>exact ⟨a,m,by go_num,by go_num,Bin.start (by omega),HO.out,HG.out⟩
 obtain ⟨i,j,rfl,rfl,lW,ho,hg⟩:=hrel;have Ho:=zh ho;have Hg:=zh hg;have hq1:=lW.bl;have Ji:=lW.ij;have Ma:=lW.bh;have mr:=zh lW;clear lW ho hg
 by_cases hlt:i<j
 ·
  obtain ⟨h,hh,Ii,DR⟩:∃ h:Nat,(i+j)/2=h∧i≤h∧h<j:=⟨(i+j)/2,rfl,by omega,by omega⟩
  have Pa:((i:Int)+(j:Int))/2=(h:Int):=by omega
  have Hh:=zh hh;clear hh;obtain ⟨x,y,c,nK,hcl,HV,f0,f1,f2,f3,f4,f5,f6,f7⟩:=RU Ho.out (p:=m) (q:=h) (by omega) (by omega);have HY:=zh (fun hp:(fun k=>(ea d k).key≤(ea d m).key) h=>mr.out.yes Ii DR hp);have Co:=zh (fun hp:¬ (fun k=>(ea d k).key≤(ea d m).key) h=>mr.out.no Ii DR hp);have i1:(h:Int)<(n:Int):=by omega
  have i2:(m:Int)<(n:Int):=by omega
  by_cases hk:c<0
  ·
   have hkk:x.key<y.key:=by have:=hcl.out;rw[aC hk] at this;exact bn this.symm
   have HK:=zh hkk;clear hkk;go_wp2_with fail;refine zC (by kernel_rfl) (by kernel_rfl) ?_
   repeat (go_big_quiet_step ((exact zE (HV.out _))))
   refine aA ?_;intro _ hw';obtain ⟨u,hw'⟩:=hw';subst hw';have Hp:=zh (zG Ho.out u.h);have Gp:=zh (zr Hg.out (xZ (grown_of u.h) (some g)));generalize u.w'=wp at *;go_wp2_with fail;exact ⟨⟨i,h,rfl,rfl,Co.out (by simp only[nK.out.1,nK.out.2];have:=HK.out;omega),Hp.out,Gp.out⟩,by simp[intOf];omega⟩
  have hkk:¬ x.key<y.key:=by have:=hcl.out;rw[aD hk] at this;exact cS this.symm
  have HK:=zh hkk;have Ek:decide (c<0)=false:=aD hk;clear hk hkk;go_wp2_with fail;refine zC (by kernel_rfl) (by kernel_rfl) ?_
  repeat (go_big_quiet_step ((exact zE (HV.out _))))
  refine aA ?_;intro _ hw';obtain ⟨u,hw'⟩:=hw';subst hw';have Hp:=zh (zG Ho.out u.h);have Gp:=zh (zr Hg.out (xZ (grown_of u.h) (some g)));generalize u.w'=wp at *;go_wp2_with fail;exact ⟨⟨h+1,j,by go_num,rfl,HY.out (by simp only[nK.out.1,nK.out.2];have:=HK.out;omega),Hp.out,Gp.out⟩,by simp[intOf];omega⟩
 obtain rfl:i=j:=by omega
 have HO:=Ho;have HG:=Hg
 have HP:=zh (zIq (d:=d) (a:=a) (i:=i) (m:=m) (by omega) (by omega) (by rw[HN.out];omega) HA.out
  (fun j j1 j2=>by
   have:=mr.out.l (by omega)
   by_cases e:j=i-1
   ·
    rw[e];exact this
   exact Int.le_trans (HA.out j (i-1) j1 (by omega) (by omega)) this)
  (fun j j1 j2=>by
   have:=Int.not_le.1 (mr.out.r (by omega))
   by_cases e:j=i
   ·
    rw[e];exact this
   exact Int.lt_of_lt_of_le this (HA.out i j (by omega) (by omega) j2)))
 have H0:=zh (kI (d:=d) (s:=m) (e:=m+1) (by omega)).2;go_wp2_with fail
 go_loopw [17] (fun kv wr=>∃ k:Nat,kv=.int .i64 (k:Int)∧i≤k∧k≤m∧wr.ownsRow B 49 4 (.slice (some ⟨g,0,none⟩) n cap) n (zU (ey d k m (m+1)))∧w.grownBy wr (some g)) (fun kv _=>(intOf kv).toNat)
 case atStart=>exact ⟨m,by go_num,by omega,by omega,by rw[H0.out];exact HO.out,HG.out⟩
 obtain ⟨k,rfl,oD,hk2,ho,hg⟩:=hrel;have Ho:=zh ho;have Hg:=zh hg;clear ho hg
 by_cases hlt:i<k
 ·
  have HL:=zh (show (ey d k m (m+1)).length=n from (ws (by omega) (by omega) (by rw[HN.out];omega)).trans HN.out);have HS:=zh (show tF (ey d k m (m+1)) k (k-1)=ey d (k-1) m (m+1) from by have:=zLS (d:=d) (k:=k-1) (m:=m) (by omega) (by rw[HN.out];omega);rwa [show k-1+1=k by omega] at this);generalize ey d k m (m+1)=r at *;obtain ⟨x,y,c0,c1,c2,c3,d0,d1,d2,d3,z0,z1,z2,z3,z4,z5,z6,z7,HF⟩:=XD Ho.out HL.out (p:=k) (q:=k-1) (by omega) (by omega);have j1:IntKind.i64.wrap ((k:Int)-1)=(k:Int)-1:=aF _ (by omega);have j2:(0:Int)≤(k:Int)-1:=by omega
  have j3:((k:Int)-1).toNat=k-1:=by omega
  have j4:(k:Int)-1<(n:Int):=by omega
  have j5:(k:Int)<(n:Int):=by omega
  go_wp2_with fail
  go_region_with (fail)
  all_goals go_wp2_with fail
  all_goals exact ⟨⟨k-1,by go_num,by omega,by omega,by rw[← HS.out];exact HF.out.1,zr Hg.out HF.out.2⟩,by simp[intOf];omega⟩
 obtain rfl:i=k:=by omega
 go_wp2_with fail;refine au (results_none rfl _ _ _) rfl ?_;exact ⟨rfl,_,Ho.out,(by rw[← h2];exact HP.out.1),(by rw[← h2];exact HP.out.2),Hg.out⟩
end Go.Proofs.YtcgfilmmokmdjaaGreat
