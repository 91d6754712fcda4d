import Derived.Test.YtcgfilmmokmdjaaGreatQAB
import Derived.Test.YtcgfilmmokmdjaaGreatQAA
import Derived.Laws.BitsAllLaws
import Derived.Laws.OwnMore
import Derived.Deep.RegionWith
import Derived.Deep.RegionLaw
import Derived.Lib.OwnKind
import Derived.OneCell
set_option linter.all false
set_option maxRecDepth 100000
set_option maxHeartbeats 32000000
namespace Go.Proofs.YtcgfilmmokmdjaaGreat
open Go.RowKit
theorem zFQ {q:List It} {j:Nat} (h0:0<j) (hj:j<q.length) (hk:(ea q j).key<(ea q (j-1)).key):Moved q (tF q j (j-1)) (j-1) (j+1):=by
 have M:=qP (d:=q) (s:=j-1) (m:=j) (e:=j+1) (by omega) (by omega) (by omega) (fun i i1 i2 k k1 k2=>by
  obtain rfl:i=j-1:=by omega
  obtain rfl:k=j:=by omega
  omega)
 have e:tF q j (j-1)=ey q (j-1) j (j+1):=by
  refine kY (by rw[uF,M.len]) fun i _=>?_
  rw[kD hj (by omega)]
  by_cases e1:i=j-1
  ·
   rw[ah e1,vD (by omega) (by omega) (by omega) (by omega) (by omega)];congr 1;omega
  rw[ai e1]
  by_cases e2:i=j
  ·
   rw[ah e2,vB (by omega) (by omega) (by omega) (by omega) (by omega)];congr 1;omega
  rw[ai e2,M.out (by omega)]
 rw[e];exact M
structure Way (d q:List It) (a b i j:Nat):Prop where
 mv:Moved d q a b
 rest:∀ x y,a≤x→x<y→y≤i→x≠j→y≠j→(ea q x).key≤(ea q y).key
 up:∀ y,j<y→y≤i→(ea q j).key≤(ea q y).key
 lo:a≤j
 hi:j≤i
 ib:i<b
theorem Way.start {d q:List It} {a b i:Nat} (m:Moved d q a b) (n:jk q a i) (h:a≤i) (hb:i<b):Way d q a b i i:=
 ⟨m,fun x y x1 xy y1 _ y2=>n x y x1 xy (by omega),fun y y1 y2=>by omega,h,ag _,hb⟩
theorem Way.done {d q:List It} {a b i j:Nat} (h:Way d q a b i j) (hs:j=a∨(ea q (j-1)).key≤(ea q j).key):jk q a (i+1):=fun x y x1 xy y2=>by
 by_cases e1:x=j
 ·
  subst e1;exact h.up y xy (by omega)
 by_cases e2:y=j
 ·
  subst e2;rcases hs with hs|hs
  ·
   omega
  by_cases e3:x=y-1
  ·
   subst e3;exact hs
  exact Int.le_trans (h.rest x (y-1) x1 (by omega) (by have:=h.hi;omega) e1 (by omega)) hs
 exact h.rest x y x1 xy (by omega) e1 e2
theorem Way.step {d q:List It} {a b i j:Nat} (h:Way d q a b i j) (hb:b≤q.length) (ha:a<j) (hk:(ea q j).key<(ea q (j-1)).key):Way d (tF q j (j-1)) a b i (j-1):=by
 have hib:=h.ib;have hji:=h.hi;have at_:=kD (d:=q) (i:=j) (j:=j-1) (by omega) (by omega);have M:=zFQ (q:=q) (j:=j) (by omega) (by omega) hk;refine ⟨h.mv.trans (M.wide (by omega) (by omega) (by omega)),fun x y x1 xy y1 x2 y2=>?_,fun y y1 y2=>?_,by omega,by omega,hib⟩
 ·
  rw[at_,at_,ai x2,ai y2]
  by_cases e1:x=j
  ·
   rw[ah e1,ai (by omega)];exact h.rest (j-1) y (by omega) (by omega) y1 (by omega) (by omega)
  rw[ai e1]
  by_cases e2:y=j
  ·
   rw[ah e2];exact h.rest x (j-1) x1 (by omega) (by omega) e1 (by omega)
  rw[ai e2];exact h.rest x y x1 xy y1 e1 e2
 rw[at_,at_,ah rfl,ai (by omega)]
 by_cases e1:y=j
 ·
  rw[ah e1];omega
 rw[ai e1];exact h.up y (by omega) y2
theorem xZ {a b:World} (h:a.grownBy b none) (r:Option Nat):a.grownBy b r:=⟨h.os,h.tape,h.output,h.size,fun k hk _=>h.block k hk (by simp)⟩
theorem qW (g n cap a b B:Nat) (d:List It) (w:World) (hown:w.ownsRow B 49 4 (.slice (some ⟨g,0,none⟩) n cap) n (zU d)) (hn:d.length=n) (hs:n≤1000000) (h1:a≤b) (h2:b≤n) :
  Calls Tryz.prog 186 #[.slice (some ⟨g,0,none⟩) n cap,.int .i64 (a:Int),.int .i64 (b:Int),.func (.func 174) #[] #[]] w fun e w'=>e=.returned (.tuple #[])∧∃ d',w'.ownsRow B 49 4 (.slice (some ⟨g,0,none⟩) n cap) n (zU d')∧Moved d d' a b∧jk d' a b∧w.grownBy w' (some g):=by
 have HO:=zh hown;have hgr:w.grownBy w (some g):=⟨rfl,rfl,rfl,ag _,fun _ _ _=>rfl⟩
 have HG:=zh hgr;have HN:=zh hn;have HM:=zh (Moved.refl d a b);have HL:=zh (fun q (h:Moved d q a b)=>h.len.trans hn);clear hown hgr hn
 go_enter Tryz.func186,Tryz.ntmps186
 go_wp2_with fail
 go_loopw [8] (fun iv wr=>∃ (i:Nat) (q:List It),iv=.int .i64 (i:Int)∧a<i∧(i≤b∨i=a+1)∧Moved d q a b∧jk q a i∧wr.ownsRow B 49 4 (.slice (some ⟨g,0,none⟩) n cap) n (zU q)∧w.grownBy wr (some g)) (fun iv _=>n+1-(intOf iv).toNat)
 case atStart=>exact ⟨a+1,d,by go_num,by omega,by omega,HM.out,fun i j i1 ij j2=>by omega,HO.out,HG.out⟩
 obtain ⟨i,q,rfl,hi,hib,hm,hnd,ho,hg⟩:=hrel;have Hm:=zh hm;have Ig:=zh hnd;have Ho:=zh ho;have Hg:=zh hg;clear hm hnd ho hg
 by_cases hlt:i<b
 ·
  have HW:=zh (Way.start Hm.out Ig.out (by omega) hlt);go_wp2_with fail
  go_loopw [9] (fun jv wj=>∃ (j:Nat) (q:List It),jv=.int .i64 (j:Int)∧a≤j∧j≤i∧Way d q a b i j∧wj.ownsRow B 49 4 (.slice (some ⟨g,0,none⟩) n cap) n (zU q)∧w.grownBy wj (some g)) (fun jv _=>(intOf jv).toNat)
  case atStart=>exact ⟨i,q,rfl,by omega,by omega,HW.out,Ho.out,Hg.out⟩
  obtain ⟨j,r,rfl,hja,hji,hw,ho,hg⟩:=hrel;have Hw:=zh hw;have Ho:=zh ho;have Hg:=zh hg;have hlr:=HL.out _ hw.mv;have WT:=zh hlr;clear hw ho hg hlr
  by_cases hgt:a<j
  ·
   obtain ⟨_,_,e,c0,c1,c2,c3⟩:=(yh (zk Ho.out)).at (show j<n by omega);injection e with e;injection e with e1 e2;subst e1 e2;obtain ⟨_,_,e,d0,d1,d2,d3⟩:=(yh (zk Ho.out)).at (show j-1<n by omega);injection e with e;injection e with e1 e2;subst e1 e2;simp only[aI] at c0 c1 c2 c3 d0 d1 d2 d3;have HV:=zh (fun W=>WO (ea r j) (ea r (j-1)) W);have hcl:=WN (ea r j).key (ea r (j-1)).key;obtain ⟨x,hx⟩:∃ x,ea r j=x:=⟨_,rfl⟩
   obtain ⟨y,hy⟩:∃ y,ea r (j-1)=y:=⟨_,rfl⟩
   have nK:=zh (And.intro hx hy);rw[hx] at c0 c1 c2 c3 HV hcl;rw[hy] at d0 d1 d2 d3 HV hcl;clear hx hy;obtain ⟨c,hc⟩:∃ c,Ja x.key y.key=c:=⟨_,rfl⟩
   rw[hc] at HV hcl;clear hc;have hcl:=zh hcl;have j1:IntKind.i64.wrap ((j:Int)-1)=(j:Int)-1:=aF _ (by omega);have j2:(0:Int)≤(j:Int)-1:=by omega
   have j3:((j:Int)-1).toNat=j-1:=by omega
   have j4:(j:Int)-1<(n:Int):=by omega
   have j5:(j:Int)<(n:Int):=by omega
   have f0:=zB c0;have f1:=zB c1;have f2:=zB c2;have f3:=zB c3;have f4:=zB d0;have f5:=zB d1;have f6:=zB d2;have f7:=zB d3;clear c0 c1 c2 c3 d0 d1 d2 d3
   by_cases hk:c<0
   ·
    have hkk:x.key<y.key:=by have:=hcl.out;rw[aC hk] at this;exact bn this.symm
    go_wp2_with fail;refine zC (by kernel_rfl) (by kernel_rfl) ?_
    repeat (go_big_quiet_step ((exact zE (HV.out _))))
    refine aA ?_;intro _ hw';obtain ⟨p,hw'⟩:=hw';subst hw';have Hp:=zh (zG Ho.out p.h);have Gp:=zh (zr Hg.out (xZ (grown_of p.h) (some g)));obtain ⟨_,_,e,c0,c1,c2,c3⟩:=(yh (zk Hp.out)).at (show j<n by omega);injection e with e;injection e with e1 e2;subst e1 e2;obtain ⟨_,_,e,d0,d1,d2,d3⟩:=(yh (zk Hp.out)).at (show j-1<n by omega);injection e with e;injection e with e1 e2;subst e1 e2;simp only[aI] at c0 c1 c2 c3 d0 d1 d2 d3;rw[nK.out.1] at c0 c1 c2 c3;rw[nK.out.2] at d0 d1 d2 d3;have fz:=fun k=>Hp.out.frozenAt k
    have z0:=fz (j*4);have z1:=fz (j*4+1);have z2:=fz (j*4+2);have z3:=fz (j*4+3);have z4:=fz ((j-1)*4);have z5:=fz ((j-1)*4+1);have z6:=fz ((j-1)*4+2);have z7:=fz ((j-1)*4+3);clear fz f0 f1 f2 f3 f4 f5 f6 f7;have HF:=zh (Ro Hp.out WT.out (i:=j) (j:=j-1) (by omega) (by omega) nK.out.1 nK.out.2);have HS:=zh (Hw.out.step (by rw[WT.out];exact h2) hgt (by rw[nK.out.1,nK.out.2];exact hkk));generalize p.w'=wp at *;clear hkk;go_wp2_with fail
    go_region_with (fail)
    all_goals go_wp2_with fail
    all_goals exact ⟨⟨j-1,tF r j (j-1),by go_num,by omega,by omega,HS.out,HF.out.1,zr Gp.out HF.out.2⟩,by simp[intOf];omega⟩
   have hkk:¬ x.key<y.key:=by have:=hcl.out;rw[aD hk] at this;exact cS this.symm
   have HD:=zh (Hw.out.done (Or.inr (by rw[nK.out.1,nK.out.2];omega)));have Ek:decide (c<0)=false:=aD hk;have adl:decide (x.key<y.key)=false:=aD hkk;clear hk;go_wp2_with fail;refine zC (by kernel_rfl) (by kernel_rfl) ?_
   repeat (go_big_quiet_step ((exact zE (HV.out _))))
   refine aA ?_;intro _ hw';obtain ⟨p,hw'⟩:=hw';subst hw';have Hp:=zh (zG Ho.out p.h);have Gp:=zh (zr Hg.out (xZ (grown_of p.h) (some g)));generalize p.w'=wp at *;go_wp2_with fail;exact ⟨⟨i+1,r,by go_num,by omega,by omega,Hw.out.mv,HD.out,Hp.out,Gp.out⟩,by simp[intOf];omega⟩
  obtain rfl:j=a:=by omega
  have HD:=zh (Hw.out.done (Or.inl rfl));go_wp2_with fail;refine zC (by kernel_rfl) (by kernel_rfl) ?_
  repeat (go_big_quiet_step (fail))
  refine aA ?_;intro _ hw';obtain ⟨p,hw'⟩:=hw';subst hw';have Hp:=zh (zG Ho.out p.h);have Gp:=zh (zr Hg.out (xZ (grown_of p.h) (some g)));generalize p.w'=wp at *;go_wp2_with fail;exact ⟨⟨i+1,r,by go_num,by omega,by omega,Hw.out.mv,HD.out,Hp.out,Gp.out⟩,by simp[intOf];omega⟩
 have HD:=zh (show jk q a b from fun x y x1 xy y2=>Ig.out x y x1 xy (by omega));go_wp2_with fail;go_end0;exact ⟨rfl,q,Ho.out,Hm.out,HD.out,Hg.out⟩
end Go.Proofs.YtcgfilmmokmdjaaGreat
namespace Go.Proofs.YtcgfilmmokmdjaaGreat
theorem qG {d:List It} {s m e:Nat} (h1:s≤m) (h2:m≤e) (h3:e≤d.length) {i:Nat} (hi:i<s∨e≤i):ea (ey d s m e) i=ea d i:=by
 have l1:(d.take s).length=s:=by rw[ay];omega
 have l2:(jZ d m e++jZ d s m).length=e-s:=by rw[aw,yt h3,yt (by omega)];omega
 unfold ey;rcases hi with hi|hi
 ·
  rw[bt,xJ (by omega),wl hi]
 rw[zw (by rw[aw,l1,l2];omega),aw,l1,l2,wA]
 congr 1;omega
theorem ws {d:List It} {s m e:Nat} (h1:s≤m) (h2:m≤e) (h3:e≤d.length):(ey d s m e).length=d.length:=by
 have l1:(d.take s).length=s:=by rw[ay];omega
 unfold ey;rw[aw,aw,aw,l1,yt h3,yt (by omega),aP];omega
theorem kI {d:List It} {s e:Nat} (h1:s≤e):ey d s e e=d∧ey d s s e=d:=by
 have e0:∀ x,jZ d x x=[]:=fun x=>by unfold jZ;rw[Nat.sub_self,List.take_zero]
 have p:=parts (d:=d) h1
 constructor<;>· unfold ey;rw[e0];simpa using p.symm
theorem zH7 {d:List It} {a k:Nat} (h1:a≤k) (h2:k+2≤d.length):tF (ey d a (a+1) (k+1)) k (k+1)=ey d a (a+1) (k+2):=by
 have hl:=ws (d:=d) (s:=a) (m:=a+1) (e:=k+1) (by omega) (by omega) (by omega);have hl2:=ws (d:=d) (s:=a) (m:=a+1) (e:=k+2) (by omega) (by omega) (by omega);refine kY (by rw[uF,hl,hl2]) fun i _=>?_
 rw[kD (by rw[hl];omega) (by rw[hl];omega)]
 by_cases e1:i=k+1
 ·
  rw[ah e1,vB (by omega) (by omega) (by omega) (by omega) (by omega),vB (by omega) (by omega) (by omega) (by omega) (by omega)]
  congr 1;omega
 rw[ai e1]
 by_cases e2:i=k
 ·
  rw[ah e2,qG (by omega) (by omega) (by omega) (by omega),vD (by omega) (by omega) (by omega) (by omega) (by omega)]
  congr 1;omega
 rw[ai e2]
 by_cases e3:i<a∨k+2≤i
 ·
  rw[qG (by omega) (by omega) (by omega) (by omega),qG (by omega) (by omega) (by omega) (by omega)]
 rw[vD (by omega) (by omega) (by omega) (by omega) (by omega),vD (by omega) (by omega) (by omega) (by omega) (by omega)]
theorem zLS {d:List It} {k m:Nat} (h1:k+1≤m) (h2:m+1≤d.length):tF (ey d (k+1) m (m+1)) (k+1) k=ey d k m (m+1):=by
 have hl:=ws (d:=d) (s:=k+1) (m:=m) (e:=m+1) (by omega) (by omega) (by omega);have hl2:=ws (d:=d) (s:=k) (m:=m) (e:=m+1) (by omega) (by omega) (by omega);refine kY (by rw[uF,hl,hl2]) fun i _=>?_
 rw[kD (by rw[hl];omega) (by rw[hl];omega)]
 by_cases e1:i=k
 ·
  rw[ah e1,vD (by omega) (by omega) (by omega) (by omega) (by omega),vD (by omega) (by omega) (by omega) (by omega) (by omega)]
  congr 1;omega
 rw[ai e1]
 by_cases e2:i=k+1
 ·
  rw[ah e2,qG (by omega) (by omega) (by omega) (by omega),vB (by omega) (by omega) (by omega) (by omega) (by omega)]
  congr 1;omega
 rw[ai e2]
 by_cases e3:i<k∨m+1≤i
 ·
  rw[qG (by omega) (by omega) (by omega) (by omega),qG (by omega) (by omega) (by omega) (by omega)]
 rw[vB (by omega) (by omega) (by omega) (by omega) (by omega),vB (by omega) (by omega) (by omega) (by omega) (by omega)]
 congr 1;omega
theorem zKN {d:List It} {a i b:Nat} (h1:a+1≤i) (h2:i≤b) (hb:b≤d.length) (nb:jk d (a+1) b)
  (H1:∀ j,a+1≤j→j<i→(ea d j).key<(ea d a).key) (H2:∀ j,i≤j→j<b→(ea d a).key≤(ea d j).key) :
  Moved d (ey d a (a+1) i) a b∧jk (ey d a (a+1) i) a b:=by
 have R:=Rn (d:=d) (a:=a) (s:=a) (m:=a+1) (e:=i) (b:=b) (c:=a+(i-(a+1))) (ag _) (by omega) h1 h2 hb rfl (fun x y x1 xy y1=>by omega) nb
  (fun x x1 x2=>by omega) (fun x x1 x2 j j1 j2=>(show x=a by omega)▸H1 j j1 j2)
 obtain ⟨m,n1,n2,n3,n4,hx⟩:=R;refine ⟨m,fun x y x1 xy y2=>?_⟩;rcases bE x (a+(i-(a+1))) with xc|xc
 ·
  rcases bE y (a+(i-(a+1))) with yc|yc
  ·
   exact n2 x y x1 xy yc
  exact hx x x1 xc y yc y2
 have hxi:∀ z,i≤z→ea (ey d a (a+1) i) z=ea d z:=fun z hz=>(qP (by omega) h1 (ak h2 hb) (fun p p1 p2 q q1 q2=>by
  obtain rfl:p=a:=by omega
  have:=H1 q q1 q2;omega)).out (Or.inr hz)
 rcases bE x i with xi|xi
 ·
  rcases bE y i with yi|yi
  ·
   omega
  rw[hxi y yi,vB (by omega) h1 (ak h2 hb) xc xi];have:a+(x-(a+(i-(a+1))))=a:=by omega
  rw[this];exact H2 y yi y2
 exact n4 x y xi xy y2
theorem zIq {d:List It} {a i m:Nat} (h1:a≤i) (h2:i≤m) (hb:m+1≤d.length) (na:jk d a m)
  (H1:∀ j,a≤j→j<i→(ea d j).key≤(ea d m).key) (H2:∀ j,i≤j→j<m→(ea d m).key<(ea d j).key) :
  Moved d (ey d i m (m+1)) a (m+1)∧jk (ey d i m (m+1)) a (m+1):=by
 have R:=Rn (d:=d) (a:=a) (s:=i) (m:=m) (e:=m+1) (b:=m+1) (c:=i+1) h1 h2 (by omega) (ag _) hb (by omega) na (fun x y x1 xy y1=>by omega)
  (fun x x1 x2 j j1 j2=>by omega) (fun x x1 x2 j j1 j2=>(show j=m by omega)▸H2 x x1 x2)
 obtain ⟨mv,n1,n2,n3,n4,hx⟩:=R;refine ⟨mv,fun x y x1 xy y2=>?_⟩;rcases bE x (i+1) with xc|xc
 ·
  rcases bE y (i+1) with yc|yc
  ·
   rcases bE y i with yi|yi
   ·
    exact n1 x y x1 xy yi
   obtain rfl:y=i:=by omega
   have ho:ea (ey d y m (m+1)) x=ea d x:=(qP h2 (by omega) hb (fun p p1 p2 q q1 q2=>by
    obtain rfl:q=m:=by omega
    have:=H2 p p1 p2;omega)).out (Or.inl (by omega))
   rw[ho,vD h2 (by omega) hb (ag _) (by omega)];have:m+(y-y)=m:=by omega
   rw[this];exact H1 x x1 (by omega)
  exact hx x x1 xc y yc y2
 exact n3 x y xc xy y2
structure Gc (d:List It) (a m b s:Nat):Prop where
 lo:(if m>(a+b)/2 then (a+b)/2+m-b else a)≤s
 hi:s≤(if m>(a+b)/2 then (a+b)/2 else m)
 l:(if m>(a+b)/2 then (a+b)/2+m-b else a)<s→(ea d (s-1)).key≤(ea d ((a+b)/2+m-s)).key
 r:s<(if m>(a+b)/2 then (a+b)/2 else m)→(ea d ((a+b)/2+m-1-s)).key<(ea d s).key
theorem Gc.ends {d:List It} {a m b s:Nat} (h:Gc d a m b s):a≤s∧s≤m∧s≤(a+b)/2∧m≤(a+b)/2+m-s∧(a+b)/2+m-s≤b:=by
 have:=h.lo;have:=h.hi
 split at this<;>split at*<;> omega
theorem zKW {d:List It} {a m b s:Nat} (h:Gc d a m b s) (h1:a<m) (h2:m<b) (hb:b≤d.length) (na:jk d a m) (nb:jk d m b) :
  Moved d (ey d s m ((a+b)/2+m-s)) a b∧jk (ey d s m ((a+b)/2+m-s)) a s∧jk (ey d s m ((a+b)/2+m-s)) s ((a+b)/2)∧jk (ey d s m ((a+b)/2+m-s)) ((a+b)/2) ((a+b)/2+m-s)∧jk (ey d s m ((a+b)/2+m-s)) ((a+b)/2+m-s) b ∧
  ∀ i,a≤i→i<(a+b)/2→∀ j,(a+b)/2≤j→j<b→(ea (ey d s m ((a+b)/2+m-s)) i).key≤(ea (ey d s m ((a+b)/2+m-s)) j).key:=by
 obtain ⟨e1,e2,e3,e4,e5⟩:=h.ends;have WU:∀ {x y},a≤x→x≤y→y<m→(ea d x).key≤(ea d y).key:=fun {x y} x1 xy y1=>by
  rcases bE x y with q|q
  ·
   exact na x y x1 q y1
  rw[show x=y by omega];exact cD _
 have WW:∀ {x y},m≤x→x≤y→y<b→(ea d x).key≤(ea d y).key:=fun {x y} x1 xy y1=>by
  rcases bE x y with q|q
  ·
   exact nb x y x1 q y1
  rw[show x=y by omega];exact cD _
 refine Rn e1 e2 e4 e5 hb (by omega) na nb (fun i i1 i2 j j1 j2=>?_) (fun i i1 i2 j j1 j2=>?_)
 ·
  have hl:=h.l
  by_cases q:(if m>(a+b)/2 then (a+b)/2+m-b else a)<s
  ·
   exact Int.le_trans (WU i1 (show i≤s-1 by omega) (by omega)) (Int.le_trans (hl q) (WW e4 j1 j2))
  exfalso;split at q<;>omega
 have hr:=h.r
 by_cases q:s<(if m>(a+b)/2 then (a+b)/2 else m)
 ·
  exact Int.lt_of_le_of_lt (WW j1 (show j≤(a+b)/2+m-1-s by omega) (by omega)) (Int.lt_of_lt_of_le (hr q) (WU e1 i1 i2))
 exfalso;split at q<;>omega
def uQ:List It→List It
 |[]=>[]
 |[x]=>[x]
 |x::y::r=>if y.key=x.key then uQ (y::r) else x::uQ (y::r)
def Rp (d:List It):Prop:=d.Pairwise fun a b=>a.key≤b.key
theorem zLX {d:List It} (h:jk d 0 d.length):Rp d:=by
 refine List.pairwise_iff_getElem.2 fun i j hi hj hij=>?_
 rw[vS hi,vS hj];exact h i j (aq _) hij hj
theorem WX (k:Int):fT [] k=none:=rfl
theorem WY (x:It) {f:List It} (h:f≠[]):(x::f).getLast?=f.getLast?:=by
 cases f with
 |nil=>exact absurd rfl h
 |cons y f=>rw[List.getLast?_cons_cons]
theorem WZ:∀ (d:List It),Rp d→∀ k:Int,fT (uQ d) k=(d.filter fun y=>y.key==k).getLast?
 |[],_,k=>rfl
 |[x],_,k=>by
  unfold uQ;rw[zp,cC]
  by_cases h:x.key=k
  ·
   rw[ah h,ah (by simp[h])];rfl
  rw[ai h,ai (by simp[h])];rfl
 |x::y::r,hp,k=>by
  obtain ⟨h1,h2⟩:=List.pairwise_cons.1 hp;have ih:=WZ (y::r) h2 k;unfold uQ;rw[cC]
  by_cases e:y.key=x.key
  ·
   rw[ah e,ih]
   by_cases hk:x.key=k
   ·
    rw[ah (by simp[hk]),WY];intro h0;have:y∈(y::r).filter fun y=>y.key==k:=List.mem_filter.2 ⟨by simp,by simp;omega⟩
    rw[h0] at this;cases this
   rw[ai (by simp[hk])]
  rw[ai e,zp]
  by_cases hk:x.key=k
  ·
   rw[ah hk,ah (by simp[hk])];have h0:(y::r).filter (fun y=>y.key==k)=[]:=by
    rw[List.filter_eq_nil_iff];intro z hz;have hxy:=h1 y (by simp);have hyz:y.key≤z.key:=by
     rcases List.mem_cons.1 hz with rfl|hz
     ·
      exact cD _
     exact (List.pairwise_cons.1 h2).1 z hz
    simp;omega
   rw[h0];rfl
  rw[ai hk,ai (by simp[hk]),ih]
theorem Rs:∀ (d:List It),∀ z∈uQ d,z∈d
 |[],_,h=>h
 |[x],z,h=>h
 |x::y::r,z,h=>by
  unfold uQ at h
  split at h
  ·
   exact List.mem_cons_of_mem _ (Rs (y::r) z h)
  rcases List.mem_cons.1 h with rfl|h
  ·
   simp
  exact List.mem_cons_of_mem _ (Rs (y::r) z h)
theorem W5:∀ (d:List It),Rp d→(uQ d).Pairwise fun a b=>a.key<b.key
 |[],_=>.nil
 |[x],_=>.cons (fun _ h=>by cases h) .nil
 |x::y::r,hp=>by
  obtain ⟨h1,h2⟩:=List.pairwise_cons.1 hp;have ih:=W5 (y::r) h2;unfold uQ
  split
  ·
   exact ih
  rename_i e;refine .cons (fun z hz=>?_) ih;have hz:=Rs _ z hz;have hxy:=h1 y (by simp);rcases List.mem_cons.1 hz with rfl|hz
  ·
   omega
  have:=(List.pairwise_cons.1 h2).1 z hz;omega
theorem wg {l:List It} {k:Int} {x:It} (h:fT l k=some x):x∈l∧x.key=k:=by
 unfold fT at h;exact ⟨List.mem_of_find?_eq_some h,by simpa using List.find?_some h⟩
theorem vE {l:List It} {k:Int} (h:∀ x∈l,x.key≠k):fT l k=none:=by
 unfold fT;rw[List.find?_eq_none];intro x hx;simpa using h x hx
theorem qC:∀ (u v:List It),(u.Pairwise fun a b=>a.key<b.key)→(v.Pairwise fun a b=>a.key<b.key)→(∀ k,fT u k=fT v k)→u=v
 |[],[],_,_,_=>rfl
 |[],y::v,_,_,h=>by
  have:=h y.key;rw[WX,zp,ah rfl] at this;cases this
 |x::u,[],_,_,h=>by
  have:=h x.key;rw[WX,zp,ah rfl] at this;cases this
 |x::u,y::v,hu,hv,h=>by
  obtain ⟨u1,u2⟩:=List.pairwise_cons.1 hu;obtain ⟨v1,v2⟩:=List.pairwise_cons.1 hv;have hx:=h x.key;rw[zp,ah rfl] at hx;have hy:=h y.key;rw[zp (y:=y),ah rfl] at hy;have m1:=wg hx.symm;have m2:=wg hy;have e:x.key=y.key:=by
   rcases List.mem_cons.1 m1.1 with e|m1
   ·
    rw[e]
   have:=v1 _ m1;rcases List.mem_cons.1 m2.1 with e|m2
   ·
    rw[e]
   have:=u1 _ m2;omega
  have exy:x=y:=by
   rw[zp,ah e.symm] at hx;exact Option.some.inj hx
  subst exy
  congr 1
  refine qC u v u2 v2 fun k=>?_
  by_cases hk:x.key=k
  ·
   rw[vE fun z hz=>by have:=u1 z hz;omega,vE fun z hz=>by have:=v1 z hz;omega]
  have:=h k
  rwa [zp,zp,ai hk,ai hk] at this
theorem W6:∀ (l out:List It) (k:Int),fT (l.foldl ins out) k=match (l.filter fun y=>y.key==k).getLast? with|some x=>some x|none=>fT out k
 |[],out,k=>rfl
 |x::l,out,k=>by
  rw[List.foldl_cons,W6 l (ins out x) k,cC]
  by_cases h:x.key=k
  ·
   rw[ah (by simp[h])]
   by_cases h0:l.filter (fun y=>y.key==k)=[]
   ·
    rw[h0]
    show fT (ins out x) k=some x
    rw[← h];exact vU x out
   rw[WY x h0]
   cases e:(l.filter fun y=>y.key==k).getLast? with
   |none=>rw[List.getLast?_eq_none_iff] at e;exact absurd e h0
   |some y=>rfl
  rw[ai (by simp[h]),wz x k (aQ h)]
theorem Rt (l:List It) (k:Int):fT (fN l) k=(l.filter fun y=>y.key==k).getLast?:=by
 unfold fN;rw[W6]
 cases (l.filter fun y=>y.key==k).getLast?<;>rfl
theorem zJ8 {l d:List It} (h:pF l d) (hn:jk d 0 d.length):uQ d=fN l:=by
 have hp:=zLX hn;refine qC _ _ (W5 d hp) (uy ((xe _).2 (ww l))) fun k=>?_
 rw[WZ d hp,Rt,h k]
theorem vZ {d:List It} {i:Nat} (h:i<d.length):d.drop i=ea d i::d.drop (i+1):=by
 rw[dO h,vS h]
theorem zIe {d:List It} {i:Nat} (h:i+1=d.length):uQ (d.drop i)=[ea d i]++uQ (d.drop (i+1)):=by
 rw[vZ (by omega),List.drop_eq_nil_of_le (by omega)];rfl
theorem zH0 {d:List It} {i:Nat} (h:i+1<d.length) (hk:(ea d (i+1)).key≠(ea d i).key):uQ (d.drop i)=[ea d i]++uQ (d.drop (i+1)):=by
 rw[vZ (show i<d.length by omega),vZ h]
 conv=>lhs;unfold uQ
 rw[ai hk];rfl
theorem zGz {d:List It} {i:Nat} (h:i+1<d.length) (hk:(ea d (i+1)).key=(ea d i).key):uQ (d.drop i)=uQ (d.drop (i+1)):=by
 rw[vZ (show i<d.length by omega),vZ h]
 conv=>lhs;unfold uQ
 rw[ah hk]
/-! ### Ru -/
def rM (d:List It) (bs lo hi:Nat):Prop:=∀ k i j,lo≤i→i<j→j<hi→k*bs≤i→j<k*bs+bs→(ea d i).key≤(ea d j).key
theorem rM.nd {d:List It} {bs lo hi k a b:Nat} (h:rM d bs lo hi) (h1:lo≤a) (h2:b≤hi) (h3:k*bs≤a) (h4:b≤k*bs+bs):jk d a b:=fun i j i1 ij j1=>h k i j (by omega) ij (by omega) (by omega) (by omega)
theorem rM.sub {d:List It} {bs lo hi lo' hi':Nat} (h:rM d bs lo hi) (h1:lo≤lo') (h2:hi'≤hi):rM d bs lo' hi':=fun k i j i1 ij j1 a b=>h k i j (by omega) ij (by omega) a b
theorem rM.none (d:List It) (bs lo:Nat):rM d bs lo lo:=fun k i j i1 ij j1=>by omega
theorem rM.keep {d d':List It} {bs lo hi a b:Nat} (h:rM d bs lo hi) (m:Moved d d' a b) (hh:hi≤a∨b≤lo):rM d' bs lo hi:=fun k i j i1 ij j1 p q=>by
 rw[m.out (by omega),m.out (by omega)];exact h k i j i1 ij j1 p q
theorem rM.more {d:List It} {bs a b k:Nat} (h:rM d bs 0 a) (hk:a=k*bs) (n:jk d a b):rM d bs 0 b:=fun c i j i1 ij j1 p q=>by
 by_cases e:j<a
 ·
  exact h c i j i1 ij e p q
 have hc:k≤c:=by
  rcases bE c k with hc|hc
  ·
   have:=aW bs (show c+1≤k by omega);rw[dh] at this;omega
  exact hc
 have:=aW bs hc;exact n i j (by omega) ij j1
theorem rM.whole {d:List It} {bs n:Nat} (h:rM d bs 0 n) (hb:n≤bs):jk d 0 n:=fun i j i1 ij j1=>h 0 i j i1 ij j1 (by omega) (by omega)
theorem qr (u v:List It):fN (u++v)=v.foldl ins (fN u):=by unfold fN;rw[dN]
theorem zKt (l:List It):Pd [] l []=fN l:=by
 unfold Pd;rw[Wp]
 show fN ([]++fN l)=_
 rw[bQ,yQ (ww l)]
end Go.Proofs.YtcgfilmmokmdjaaGreat
namespace Go.Proofs.YtcgfilmmokmdjaaGreat.W7
def poly:Nat:=2197175160
def st (r:Nat):Nat:=if r%2=1 then (r/2) ^^^ poly else r/2
def W8:Nat→Nat→Nat
 |0,r=>r
 |k+1,r=>st (W8 k r)
def add (r:Nat) (x:UInt8):Nat:=W8 8 (r ^^^ x.toNat)
def ext (r:Nat) (l:List UInt8):Nat:=l.foldl add r
def sum (l:List UInt8):Nat:=4294967295-ext 4294967295 l
end Go.Proofs.YtcgfilmmokmdjaaGreat.W7
namespace Go.Proofs.YtcgfilmmokmdjaaGreat
def LP (l:List UInt8) (j:Nat):UInt8:=l.getD j 0
def be (v n:Nat):List UInt8:=(List.range n).map fun j=>UInt8.ofNat (v/2^(8*(n-1-j)))
def val (l:List UInt8):Nat:=l.foldl (fun n x=>(n*256+x.toNat)%18446744073709551616) 0
def le4 (c:Nat):List UInt8:=[UInt8.ofNat c,UInt8.ofNat (c/2^8),UInt8.ofNat (c/2^16),UInt8.ofNat (c/2^24)]
end Go.Proofs.YtcgfilmmokmdjaaGreat
namespace Go.Proofs.YtcgfilmmokmdjaaGreat
open Go.RowKit
theorem rB.fK {w:World} {v:Value} {l:List UInt8} (h:rB w v l):∃ a cap,v=.slice a l.length cap∧l.length≤cap∧cap≤maxLen:=by
 obtain ⟨a,cap,h1,h2,h3,_⟩:=iE.shape h 0;exact ⟨a,cap,h1,h2,h3⟩
end Go.Proofs.YtcgfilmmokmdjaaGreat
namespace Go.Proofs.YtcgfilmmokmdjaaGreat
def ck (l:List UInt8):List UInt8:=le4 (W7.sum l)
end Go.Proofs.YtcgfilmmokmdjaaGreat
namespace Go.Proofs.YtcgfilmmokmdjaaGreat
open Go.RowKit
theorem zMH:(Tryz.prog.info? 5).map (fun i=>(i.zero,i.size,i.bytes))=some (some (.int .u8 0),1,1):=by kernel_rfl
theorem Pm:xt Tryz.prog 54 5 1 1:=by
 obtain ⟨i,h1,h2,h3,h4⟩:=cm zMH;exact ⟨Tryz.underlying54,by decide,i,_,h1,h2,h3,h4,rfl⟩
abbrev Pn (w:World) (base:Nat) (v:Value) (l:List UInt8):Prop:=w.ownsRow base 5 1 v l.length (l.map tB)
theorem zK2 {w:World} {base n:Nat} {v:Value} {l:List UInt8} {xs:List Value} (h:w.ownsRow base 5 1 v n xs) (e:xs=l.map tB):Pn w base v l:=by
 subst e;have:l.length=n:=by have:=h.1;rw[aH] at this;omega
 unfold Pn;rw[this];exact h
end Go.Proofs.YtcgfilmmokmdjaaGreat
namespace Go.Proofs.YtcgfilmmokmdjaaGreat
def Fits (x:It):Prop:=0≤x.key∧x.key<18446744073709551616∧0≤x.ck∧x.ck<4294967296∧0≤x.off∧x.off<4294967296∧0≤x.size∧x.size<4294967296
structure Nd where
 key:Nat
 ck:Nat
 del:Bool
 data:List UInt8
 deriving DecidableEq
def KO:Nd:=⟨0,0,false,[]⟩
instance:Inhabited Nd:=⟨KO⟩
def Nd.Wf (x:Nd):Prop:=x.key<18446744073709551616∧x.ck<4294967296
def Nd.ok (x:Nd):Prop:=x.data.length≤4096∧(x.del=true→x.data=[])
def rN (n:Nat):Nat:=(31+n)/8*8
theorem us (n:Nat):24+n≤rN n∧rN n<32+n∧rN n%8=0:=by unfold rN;omega
def zMV (x:Nd):List UInt8:=[78,165,if x.del then 1 else 0,0]++be x.ck 4++be x.key 8++be x.data.length 4
def W_ (x:Nd):List UInt8:=zMV x++x.data
def zMQ (n:Nat):List UInt8:=List.replicate n 0
def Xa (x:Nd):List UInt8:=W_ x++ck (W_ x)++zMQ (rN x.data.length-(24+x.data.length))
def Ih (b:List UInt8):Nat:=val ((b.drop 16).take 4)
def Rw (b:List UInt8):Prop:=LP b 0=78∧LP b 1=165∧(LP b 2).toNat≤1∧LP b 3=0∧Ih b≤4096∧(LP b 2=1→Ih b=0)
instance (b:List UInt8):Decidable (Rw b):=by unfold Rw;exact inferInstance
def zMm (b:List UInt8):List UInt8:=(b.drop (24+Ih b)).take (rN (Ih b)-(24+Ih b))
structure NOk (b:List UInt8):Prop where
 long:20≤b.length
 form:Rw b
 whole:rN (Ih b)≤b.length
 sum:ck (b.take (20+Ih b))=(b.drop (20+Ih b)).take 4
 pad:(zMm b).all (·==0)=true
end Go.Proofs.YtcgfilmmokmdjaaGreat
namespace Go.Proofs.YtcgfilmmokmdjaaGreat
open Go.RowKit
def eN (n:Nat):Nat:=if n≤4096 then rN n else 0
theorem LR {n:Nat} (h:n≤4096):eN n=rN n:=by unfold eN;rw[ah h]
theorem xj (n:Nat):eN n≤4127:=by
 unfold eN
 split
 ·
  have:=us n;omega
 omega
theorem qA (n:Nat) (w:World) (h:n≤1000000):Calls Tryz.prog 53 #[.int .i64 (n:Int)] w fun e w'=>e=.returned (.int .i64 ((eN n:Nat):Int))∧w=w':=by
 by_cases hn:n≤4096
 ·
  have HS:=zh (show ((eN n:Nat):Int)=(20+(n:Int)+4+8-1)/8*8 by unfold eN rN;rw[ah hn];omega);have hd:decide ((4096:Int)<(n:Int))=false:=by simp;omega
  have hd2:decide ((n:Int)<0)=false:=by simp
  go_enter Tryz.func53,Tryz.ntmps53
  go_wp2_with fail;go_ret;exact ⟨wY (by rw[HS.out]),rfl⟩
 have HS:=zh (show eN n=0 by unfold eN;rw[ai hn]);have hd:decide ((4096:Int)<(n:Int))=true:=by simp;omega
 have hd2:decide ((n:Int)<0)=false:=by simp
 go_enter Tryz.func53,Tryz.ntmps53
 go_wp2_with fail;go_ret;exact ⟨wY (by rw[HS.out];rfl),rfl⟩
theorem Xb (n:Nat) (w:World) (h:n≤1000000):Calls Tryz.prog 28 #[.int .i64 (n:Int)] w fun e w'=>e=.returned (.int .i64 ((eN n:Nat):Int))∧w=w':=by
 by_cases hn:n≤4096
 ·
  have HS:=zh (show ((eN n:Nat):Int)=(20+(n:Int)+4+8-1)/8*8 by unfold eN rN;rw[ah hn];omega);have hd:decide ((4096:Int)<(n:Int))=false:=by simp;omega
  have hd2:decide ((n:Int)<0)=false:=by simp
  go_enter Tryz.func28,Tryz.ntmps28
  go_wp2_with fail;go_ret;exact ⟨wY (by rw[HS.out];omega),rfl⟩
 have HS:=zh (show eN n=0 by unfold eN;rw[ai hn]);have hd:decide ((4096:Int)<(n:Int))=true:=by simp;omega
 have hd2:decide ((n:Int)<0)=false:=by simp
 go_enter Tryz.func28,Tryz.ntmps28
 go_wp2_with fail;go_ret;exact ⟨wY (by rw[HS.out];rfl),rfl⟩
theorem zEr {w:World} {B:Nat} {e:TypeId} {sz n:Nat} {v:Value} {xs:List Value} (h:w.ownsRow B e sz v n xs) {p:Addr} (hne:v.ownBlock≠some p.block) (u:Value):(w.setCell p u).ownsRow B e sz v n xs:=by
 refine ⟨h.1,?_⟩;rcases h.2 with h0|⟨g,cap,cur,rfl,hb,hg,rest⟩
 ·
  exact .inl h0
 refine .inr ⟨g,cap,cur,rfl,hb,?_,rest⟩;rw[Below.heap_setCell w p u g (fun e=>hne (by rw[← e];rfl))];exact hg
end Go.Proofs.YtcgfilmmokmdjaaGreat
namespace Go.Proofs.YtcgfilmmokmdjaaGreat
theorem tR (s:List It) (x:It) (k:Int):fT (ins s x) k=if x.key=k then some x else fT s k:=by
 by_cases h:x.key=k
 ·
  rw[ah h,← h];exact vU x s
 rw[ai h];exact wz x k (aQ h) s
theorem Rx (s:List It) (key k:Int):fT (gP s key) k=if k=key then none else fT s k:=by
 by_cases h:k=key
 ·
  rw[ah h,h];exact kV s key
 rw[ai h];exact uT key k h s
theorem zJv (u:List It) (x:It):fN (u++[x])=ins (fN u) x:=by rw[qr];rfl
def zv (s:List It):Nat:=(s.map fun x=>eN x.size.toNat).sum
theorem xM (s t:List It):zv (s++t)=zv s+zv t:=by simp[zv]
theorem tp (s:List It):zv s≤s.length*4127:=by
 induction s with
 |nil=>exact ag _
 |cons x l ih =>
  have:=xj x.size.toNat
  show eN x.size.toNat+zv l≤_
  rw[aV];omega
theorem Ry:∀ (u v:List It) (x:It),(∀ z∈u,z.key<x.key)→ins (u++v) x=u++ins v x
 |[],_,_,_=>rfl
 |y::u,v,x,h=>by
  show ins (y::(u++v)) x=y::(u++ins v x)
  simp only[ins];rw[ah (h y (by simp)),Ry u v x (fun z hz=>h z (by simp[hz]))]
theorem Xc:∀ (u v:List It) (x:It),(∃ z∈u,x.key≤z.key)→ins (u++v) x=ins u x++v
 |[],_,_,h=>by obtain ⟨z,hz,_⟩:=h;cases hz
 |y::u,v,x,h=>by
  show ins (y::(u++v)) x=ins (y::u) x++v
  simp only[ins]
  split
  ·
   rename_i hlt
   rw[Xc u v x (by
    obtain ⟨z,hz,hx⟩:=h
    rcases List.mem_cons.1 hz with rfl|hz
    ·
     omega
    exact ⟨z,hz,hx⟩)]
   rfl
  split<;>rfl
theorem zI8 (u:List It) (y:It) (key:Int):gP (u++[y]) key=gP u key++if y.key=key then [] else [y]:=by
 unfold gP;rw[cU]
 by_cases h:y.key=key
 ·
  rw[ah h];simp[h]
 rw[ai h];simp[h]
structure ik (s:List It) (x:It) (i:Nat) (done:Bool) (out:List It):Prop where
 no:done=false→out=s.take i∧∀ z∈s.take i,z.key<x.key
 yes:done=true→out=ins (s.take i) x∧∃ j,j<i∧x.key≤(ea s j).key
theorem ik.start (s:List It) (x:It):ik s x 0 false []:=⟨fun _=>⟨rfl,fun z hz=>by cases hz⟩,fun h=>by cases h⟩
theorem ik.low {s out:List It} {x:It} {i:Nat} (h:ik s x i false out) (hi:i<s.length) (hk:(ea s i).key<x.key):ik s x (i+1) false (out++[ea s i]):=by
 obtain ⟨h1,h2⟩:=h.no rfl;refine ⟨fun _=>⟨by rw[xI hi,h1],fun z hz=>?_⟩,fun h=>by cases h⟩;rw[xI hi] at hz;rcases List.mem_append.1 hz with hz|hz
 ·
  exact h2 z hz
 rw[List.mem_singleton.1 hz];exact hk
theorem ik.here {s out:List It} {x:It} {i:Nat} (h:ik s x i false out) (hi:i<s.length) (hk:(ea s i).key=x.key):ik s x (i+1) true (out++[x]):=by
 obtain ⟨h1,h2⟩:=h.no rfl;refine ⟨(fun h=>by cases h),fun _=>⟨?_,i,by omega,by omega⟩⟩;rw[xI hi,Ry _ _ _ h2,h1];simp only[ins];rw[ai (by omega),ah hk]
theorem ik.ahead {s out:List It} {x:It} {i:Nat} (h:ik s x i false out) (hi:i<s.length) (hk:x.key<(ea s i).key):ik s x (i+1) true (out++[x]++[ea s i]):=by
 obtain ⟨h1,h2⟩:=h.no rfl;refine ⟨(fun h=>by cases h),fun _=>⟨?_,i,by omega,by omega⟩⟩;rw[xI hi,Ry _ _ _ h2,h1];simp only[ins];rw[ai (by omega),ai (by omega),bt];rfl
theorem ik.gt {s out:List It} {x:It} {i:Nat} (h:ik s x i true out) (ha:lR s) (hi:i<s.length):x.key<(ea s i).key:=by
 obtain ⟨_,j,hj,hx⟩:=h.yes rfl;exact Int.lt_of_le_of_lt hx (ha.mono hj hi)
theorem ik.more {s out:List It} {x:It} {i:Nat} (h:ik s x i true out) (hi:i<s.length):ik s x (i+1) true (out++[ea s i]):=by
 obtain ⟨h1,j,hj,hx⟩:=h.yes rfl;refine ⟨(fun h=>by cases h),fun _=>⟨?_,j,by omega,hx⟩⟩;rw[xI hi,Xc _ _ _ ⟨ea s j,?_,hx⟩,h1];have hm:ea (s.take i) j∈s.take i:=t8 (by rw[ay];omega)
 rwa [wl hj] at hm
theorem ik.Rz {s out:List It} {x:It} (h:ik s x s.length true out):out=ins s x:=by
 have:=(h.yes rfl).1
 rwa [cB] at this
theorem ik.RA {s out:List It} {x:It} (h:ik s x s.length false out):out++[x]=ins s x:=by
 obtain ⟨h1,h2⟩:=h.no rfl;rw[cB] at h1 h2;rw[Q_ x s h2,h1]
theorem ik.len {s out:List It} {x:It} {i:Nat} {b:Bool} (h:ik s x i b out):out.length≤i+1:=by
 cases b with
 |false=>rw[(h.no rfl).1,ay];omega
 |true =>
  have:=vm x (s.take i);rw[(h.yes rfl).1];have h2:(s.take i).length≤i:=by rw[ay];omega
  omega
theorem zKl {l:List It} {key:Int} {r:Nat} (h:r<l.length) (hk:(ea l r).key=key) (hn:∀ j,r<j→j<l.length→(ea l j).key≠key):fT (fN l) key=some (ea l r):=by
 rw[Rt];have e:l=l.take r++ea l r::l.drop (r+1):=by rw[← vZ h,b9]
 have h0:(l.drop (r+1)).filter (fun y=>y.key==key)=[]:=by
  rw[List.filter_eq_nil_iff];intro y hy;obtain ⟨j,hj,rfl⟩:=uI hy;rw[wA];rw[aP] at hj
  simpa using hn (r+1+j) (by omega) (by omega)
 conv=>lhs;rw[e]
 rw[cU,cC,ah (by simp[hk]),h0,List.getLast?_append]
 rfl
theorem zHX {l:List It} {key:Int} (hn:∀ j,j<l.length→(ea l j).key≠key):fT (fN l) key=none:=by
 rw[Rt];have h0:l.filter (fun y=>y.key==key)=[]:=by
  rw[List.filter_eq_nil_iff];intro y hy;obtain ⟨j,hj,rfl⟩:=uI hy
  simpa using hn j hj
 rw[h0];rfl
def Xd (s v:List It):List It:=v.foldl ins s
def zl (key:Int):Nat:=(key*11400714819323198485%18446744073709551616/2305843009213693952).toNat
theorem wX (key:Int):zl key<8:=by unfold zl;omega
structure Mp where
 st:Nat→List It
 live:Int
 d_:Int
def cat (f:Nat→List It):Nat→List It
 |0=>[]
 |n+1=>cat f n++f n
def vN (M:Mp):List It:=cat M.st 8
def Ap (M:Mp) (i:Nat):Bool:=wG (M.st i)&&(M.st i).all fun x=>zl x.key==i
def xC (M:Mp):Bool:=(List.range 8).all (Ap M)&&(M.live==(zv (vN M):Int))&&decide (0≤M.d_)&&decide (M.d_≤1099511627776)
structure fZ (M:Mp):Prop where
 ok:∀ i,i<8→wG (M.st i)=true
 sp:∀ i,i<8→∀ x∈M.st i,zl x.key=i
 lv:M.live=(zv (vN M):Int)
 g0:0≤M.d_
 g1:M.d_≤1099511627776
theorem zV (M:Mp):xC M=true↔fZ M:=by
 unfold xC Ap;rw[aN,aN,aN,dy,aR,aR,cE]
 constructor
 ·
  rintro ⟨⟨⟨h1,h2⟩,h3⟩,h4⟩;have h:=fun i (hi:i<8)=>Bool.and_eq_true_iff.1 (h1 i (List.mem_range.2 hi))
  exact ⟨fun i hi=>(h i hi).1,fun i hi x hx=>beq_iff_eq.1 (List.all_eq_true.1 (h i hi).2 x hx),h2,h3,h4⟩
 rintro ⟨h1,h2,h3,h4,h5⟩;exact ⟨⟨⟨fun i hi=>Bool.and_eq_true_iff.2 ⟨h1 i (List.mem_range.1 hi),List.all_eq_true.2 fun x hx=>beq_iff_eq.2 (h2 i (List.mem_range.1 hi) x hx)⟩,h3⟩,h4⟩,h5⟩
theorem qX {l:List It} (h:lR l):l.Pairwise fun a b=>a.key<b.key:=uy ((xe _).2 h)
theorem uE {l:List It} (h:wG l=true):lR l:=(ub.1 h).1
theorem zID {l:List It} (h:lR l) {y:It} (hy:y∈l):fT l y.key=some y:=by
 have hp:=qX h;clear h
 induction l with
 |nil=>cases hy
 |cons x l ih =>
  rw[dC] at hp;rw[zp];rcases List.mem_cons.1 hy with rfl|hy
  ·
   rw[ah rfl]
  rw[ai (by have:=hp.1 y hy;omega)];exact ih hy hp.2
theorem zC7 {l:List It} {k:Int} (h:fT l k=none):∀ x∈l,x.key≠k:=fun x hx=>by
 unfold fT at h;rw[List.find?_eq_none] at h
 simpa using h x hx
theorem Xe (s:List It) (k:Int):∀ n (v:List It),v.length=n→fT (v.foldl ins s) k=match fT (fN v) k with|some x=>some x|none=>fT s k
 |0,v,h=>by rw[List.length_eq_zero_iff.1 h];rfl
 |n+1,v,h=>by
  obtain ⟨u,y,rfl⟩:∃ u y,v=u++[y]:=by
   have hv:v≠[]:=fun e=>by rw[e] at h;cases h
   exact ⟨v.dropLast,v.getLast hv,(List.dropLast_concat_getLast hv).symm⟩
  have ih:=Xe s k n u (by rw[aw] at h;simpa using h);rw[dN,zJv]
  show fT (ins (u.foldl ins s) y) k=_
  rw[tR,tR,ih]
  by_cases e:y.key=k
  ·
   rw[ah e,ah e]
  rw[ai e,ai e]
theorem zKC (u v:List It) (k:Int):fT (fN (u++v)) k=match fT (fN v) k with|some x=>some x|none=>fT (fN u) k:=by
 rw[qr];exact Xe (fN u) k _ v rfl
theorem RB (f:Nat→List It) (k:Int):∀ n,(∀ i,i<n→lR (f i)∧∀ x∈f i,zl x.key=i)→fT (fN (cat f n)) k=if zl k<n then fT (f (zl k)) k else none
 |0,_=>by rw[ai (by omega)];rfl
 |n+1,h=>by
  have ih:=RB f k n (fun i hi=>h i (by omega));obtain ⟨ha,hs⟩:=h n (by omega)
  show fT (fN (cat f n++f n)) k=_
  rw[zKC,yQ ha,ih]
  by_cases e:zl k=n
  ·
   rw[ai (show ¬ zl k<n by omega),ah (show zl k<n+1 by omega),e]
   cases fT (f n) k<;>rfl
  have hn:fT (f n) k=none:=vE fun x hx e2=>e (by rw[← e2];exact hs x hx)
  rw[hn]
  by_cases hl:zl k<n
  ·
   rw[ah hl,ah (by omega)]
  rw[ai hl,ai (by omega)]
theorem fZ.fT {M:Mp} (h:fZ M) (k:Int):fT (fN (vN M)) k=fT (M.st (zl k)) k:=by
 have:=RB M.st k 8 (fun i hi=>⟨uE (h.ok i hi),h.sp i hi⟩);rw[ah (wX k)] at this;exact this
theorem Xf (p:It→Bool) (b:Bool) (k:Int) (hp:∀ x:It,x.key=k→p x=b):∀ l:List It,fT (l.filter p) k=if b then fT l k else none
 |[]=>by cases b<;>rfl
 |x::l=>by
  have ih:=Xf p b k hp l
  by_cases e:x.key=k
  ·
   rw[cC,hp x e]
   cases b
   ·
    simpa using ih
   simp only[if_true];rw[zp,zp,ah e,ah e]
  rw[cC]
  split
  ·
   rw[zp,ai e,ih,zp,ai e]
  rw[ih,zp,ai e]
def pI (i:Nat) (l:List It):List It:=l.filter fun x=>zl x.key==i
theorem un (i:Nat) (l:List It) (k:Int):fT (pI i l) k=if zl k=i then fT l k else none:=by
 have:=Xf (fun x=>zl x.key==i) (decide (zl k=i)) k (fun x e=>by rw[e];by_cases h:zl k=i<;>simp[h]) l;unfold pI;rw[this]
 by_cases h:zl k=i<;>simp[h]
theorem RD (i:Nat) {l:List It} (h:lR l):(pI i l).Pairwise fun a b=>a.key<b.key:=(qX h).filter _
theorem fZ.pI {M:Mp} (h:fZ M) {i:Nat} (hi:i<8):pI i (fN (vN M))=M.st i:=by
 refine qC _ _ (RD i (ww _)) (qX (uE (h.ok i hi))) fun k=>?_
 rw[un,h.fT]
 by_cases e:zl k=i
 ·
  rw[ah e,e]
 rw[ai e];exact (vE fun x hx e2=>e (by rw[← e2];exact h.sp i hi x hx)).symm
theorem zKj {l:List It} (h:lR l) (x:It) (i:Nat):pI i (ins l x)=if zl x.key=i then ins (pI i l) x else pI i l:=by
 have hp:=RD i h;refine qC _ _ ((uy (qS _ _ ((xe _).2 h))).filter _) ?_ fun k=>?_
 ·
  split
  ·
   exact uy (qS _ _ (Rk hp))
  exact hp
 rw[un,tR]
 by_cases e:zl x.key=i
 ·
  rw[ah e,tR,un]
  by_cases e2:x.key=k
  ·
   rw[ah e2,ah (show zl k=i by rw[← e2];exact e),ah e2]
  rw[ai e2,ai e2]
 rw[ai e,un]
 by_cases e2:x.key=k
 ·
  rw[ai (by rw[← e2];exact e),ai (by rw[← e2];exact e)]
 rw[ai e2]
theorem zKe {l:List It} (h:lR l) (key:Int) (i:Nat):pI i (gP l key)=if zl key=i then gP (pI i l) key else pI i l:=by
 have hp:=RD i h;refine qC _ _ ((qX (Rl h key)).filter _) ?_ fun k=>?_
 ·
  split
  ·
   exact hp.filter _
  exact hp
 rw[un,Rx]
 by_cases e:zl key=i
 ·
  rw[ah e,Rx,un]
  by_cases e2:k=key
  ·
   rw[ah e2,ah (show zl k=i by rw[e2];exact e),ah e2]
  rw[ai e2,ai e2]
 rw[ai e,un]
 by_cases e2:k=key
 ·
  rw[ai (by rw[e2];exact e),ai (by rw[e2];exact e)]
 rw[ai e2]
/-! ### Bytes -/
def iG:Option It→Nat
 |some y=>eN y.size.toNat
 |none=>0
theorem RE (x:It):∀ s:List It,lR s→zv (ins s x)+iG (fT s x.key)=zv s+eN x.size.toNat:=fun s h=>by
 have hp:=qX h;clear h
 induction s with
 |nil=>simp[ins,zv,iG,fT]
 |cons y s ih =>
  rw[dC] at hp;have ih:=ih hp.2;rw[zp];simp only[ins]
  split
  ·
   rename_i hlt;rw[ai (by omega)]
   show eN y.size.toNat+zv (ins s x)+_=eN y.size.toNat+zv s+_
   omega
  split
  ·
   rename_i hle he
   show eN x.size.toNat+zv s+eN y.size.toNat=eN y.size.toNat+zv s+_
   omega
  rename_i hle he;have:fT s x.key=none:=vE fun z hz e=>by have:=hp.1 z hz;omega
  rw[this]
  show eN x.size.toNat+(eN y.size.toNat+zv s)+0=eN y.size.toNat+zv s+_
  omega
theorem Xg (key:Int):∀ s:List It,lR s→zv (gP s key)+iG (fT s key)=zv s:=fun s h=>by
 have hp:=qX h;clear h
 induction s with
 |nil=>rfl
 |cons y s ih =>
  rw[dC] at hp;have ih:=ih hp.2;rw[zp]
  by_cases e:y.key=key
  ·
   have hn:gP s key=s:=by
    unfold gP;rw[List.filter_eq_self];intro z hz;have:=hp.1 z hz;have:z.key≠key:=by omega
    simpa using this
   have:gP (y::s) key=s:=by rw[← hn];unfold gP;rw[cC,ai (by simpa using e),List.filter_filter];simp
   rw[ah e,this]
   show zv s+eN y.size.toNat=eN y.size.toNat+zv s
   omega
  have:gP (y::s) key=y::gP s key:=by unfold gP;rw[cC,ah (by simpa using e)]
  rw[ai e,this]
  show eN y.size.toNat+zv (gP s key)+_=eN y.size.toNat+zv s
  omega
theorem Xh:∀ (v s:List It),lR s→(v.Pairwise fun a b=>a.key<b.key)→(∀ x∈v,fT s x.key=none)→zv (v.foldl ins s)=zv s+zv v
 |[],s,_,_,_=>by simp[zv]
 |x::v,s,hs,hv,hn=>by
  rw[dC] at hv;have h1:=RE x s hs;rw[hn x (by simp)] at h1
  show zv (v.foldl ins (ins s x))=_
  rw[Xh v (ins s x) ((xe _).1 (qS _ _ ((xe _).2 hs))) hv.2 (fun y hy=>by
   rw[tR,ai (by have:=hv.1 y hy;omega)];exact hn y (by simp[hy]))]
  show _=zv s+(eN x.size.toNat+zv v)
  simp only[iG] at h1;omega
theorem Xi (f:Nat→List It):∀ n,(∀ i,i<n→lR (f i)∧∀ x∈f i,zl x.key=i)→zv (fN (cat f n))=zv (cat f n)
 |0,_=>rfl
 |n+1,h=>by
  have ih:=Xi f n (fun i hi=>h i (by omega));obtain ⟨ha,hs⟩:=h n (by omega)
  show zv (fN (cat f n++f n))=zv (cat f n++f n)
  rw[qr,Xh _ _ (ww _) (qX ha) (fun x hx=>by
   rw[RB f x.key n (fun i hi=>h i (by omega)),ai (by rw[hs x hx];omega)]),xM,ih]
theorem fZ.sum {M:Mp} (h:fZ M):zv (fN (vN M))=zv (vN M):=Xi M.st 8 fun i hi=>⟨uE (h.ok i hi),h.sp i hi⟩
end Go.Proofs.YtcgfilmmokmdjaaGreat
namespace Go.Proofs.YtcgfilmmokmdjaaGreat
open Go.RowKit
structure lG (w:World) (b:Nat) (x:It):Prop where
 c0:w.cell? ⟨b,0,none⟩=some (.int .u64 x.key)
 c1:w.cell? ⟨b,1,none⟩=some (.int .u32 x.ck)
 c2:w.cell? ⟨b,2,none⟩=some (.int .i64 x.off)
 c3:w.cell? ⟨b,3,none⟩=some (.int .i64 x.size)
theorem lG.q {w:World} {b:Nat} {x:It} (h:lG w b x):w.cell? ⟨b,0,none⟩=some (.int .u64 x.key)∧w.cell? ⟨b,1,none⟩=some (.int .u32 x.ck)∧w.cell? ⟨b,2,none⟩=some (.int .i64 x.off)∧w.cell? ⟨b,3,none⟩=some (.int .i64 x.size):=⟨h.c0,h.c1,h.c2,h.c3⟩
theorem lG.below {w w':World} {b:Nat} {x:It} (h:lG w b x) (hb:Below w.heap.size w w'):lG w' b x:=
 ⟨Below.keeps hb _ _ h.c0,Below.keeps hb _ _ h.c1,Below.keeps hb _ _ h.c2,Below.keeps hb _ _ h.c3⟩
abbrev xN (x:It):Obj:=.cells #[.int .u64 x.key,.int .u32 x.ck,.int .i64 x.off,.int .i64 x.size] 49
theorem lG.new (w:World) (x:It):lG (w.alloc (xN x)) w.heap.size x:=⟨by simp,by simp,by simp,by simp⟩
theorem yB (w:World) (x:It):Below w.heap.size w (w.alloc (xN x)):=(aj _ _).alloc (ag _) _
theorem lG.set {w:World} {b:Nat} {x:It} (h:lG w b x) (y:It):lG ((((w.setCell ⟨b,0,none⟩ (.int .u64 y.key)).setCell ⟨b,1,none⟩ (.int .u32 y.ck)).setCell ⟨b,2,none⟩ (.int .i64 y.off)).setCell ⟨b,3,none⟩ (.int .i64 y.size)) b y:=by
 obtain ⟨h0,h1,h2,h3⟩:=h;exact ⟨by simp[go_sem,h0],by simp[go_sem,h1],by simp[go_sem,h2],by simp[go_sem,h3]⟩
structure Sl where
 a:Nat→Option Addr
 n:Nat→Nat
 c:Nat→Nat
def Sl.v (s:Sl) (i:Nat):Value:=.slice (s.a i) (s.n i) (s.c i)
def Sl.set (s:Sl) (k:Nat) (a:Option Addr) (n c:Nat):Sl:=⟨fun i=>if i=k then a else s.a i,fun i=>if i=k then n else s.n i,fun i=>if i=k then c else s.c i⟩
def Sl.nil:Sl:=⟨fun _=>none,fun _=>0,fun _=>0⟩
theorem Sl.pJ (s:Sl) (k:Nat) (a:Option Addr) (n c i:Nat):(s.set k a n c).v i=if i=k then .slice a n c else s.v i:=by
 unfold Sl.set Sl.v
 by_cases h:i=k
 ·
  simp[h]
 simp[h]
abbrev yj (s:Sl) (l g:Int):Array Value:=#[.slice (s.a 0) (s.n 0) (s.c 0),.slice (s.a 1) (s.n 1) (s.c 1),.slice (s.a 2) (s.n 2) (s.c 2),.slice (s.a 3) (s.n 3) (s.c 3),.slice (s.a 4) (s.n 4) (s.c 4),.slice (s.a 5) (s.n 5) (s.c 5),.slice (s.a 6) (s.n 6) (s.c 6),.slice (s.a 7) (s.n 7) (s.c 7),.int .i64 l,.int .i64 g]
abbrev yF (s:Sl) (l g:Int):Value:=.agg (yj s l g)
abbrev zMf (s:Sl):Array Value:=#[.slice (s.a 0) (s.n 0) (s.c 0),.slice (s.a 1) (s.n 1) (s.c 1),.slice (s.a 2) (s.n 2) (s.c 2),.slice (s.a 3) (s.n 3) (s.c 3),.slice (s.a 4) (s.n 4) (s.c 4),.slice (s.a 5) (s.n 5) (s.c 5),.slice (s.a 6) (s.n 6) (s.c 6),.slice (s.a 7) (s.n 7) (s.c 7)]
def fG (w:World) (s:Sl) (f:Nat→List It):Prop:=∀ i,i<8→ja w (s.v i) (f i)
theorem fG.below {w w':World} {s:Sl} {f:Nat→List It} (h:fG w s f) (hb:Below w.heap.size w w'):fG w' s f:=fun i hi=>(h i hi).below hb
theorem fG.n {w:World} {s:Sl} {f:Nat→List It} (h:fG w s f) {i:Nat} (hi:i<8):s.n i=(f i).length:=by
 obtain ⟨a,c,e,_,_⟩:=(h i hi).shape;injection e
structure eQ (W:World) (b:Nat) (s:Sl) (l g:Int):Prop where
 c:∀ j,j<8→W.cell? ⟨b,j,none⟩=some (s.v j)
 cl:W.cell? ⟨b,8,none⟩=some (.int .i64 l)
 cg:W.cell? ⟨b,9,none⟩=some (.int .i64 g)
 f:∀ i,W.frozen? ⟨b,i,none⟩=false
theorem eQ.q {W:World} {b:Nat} {s:Sl} {l g:Int} (h:eQ W b s l g):W.cell? ⟨b,0,none⟩=some (.slice (s.a 0) (s.n 0) (s.c 0))∧W.cell? ⟨b,1,none⟩=some (.slice (s.a 1) (s.n 1) (s.c 1))∧W.cell? ⟨b,2,none⟩=some (.slice (s.a 2) (s.n 2) (s.c 2))∧W.cell? ⟨b,3,none⟩=some (.slice (s.a 3) (s.n 3) (s.c 3))∧W.cell? ⟨b,4,none⟩=some (.slice (s.a 4) (s.n 4) (s.c 4))∧W.cell? ⟨b,5,none⟩=some (.slice (s.a 5) (s.n 5) (s.c 5))∧W.cell? ⟨b,6,none⟩=some (.slice (s.a 6) (s.n 6) (s.c 6))∧W.cell? ⟨b,7,none⟩=some (.slice (s.a 7) (s.n 7) (s.c 7))∧W.cell? ⟨b,8,none⟩=some (.int .i64 l)∧W.cell? ⟨b,9,none⟩=some (.int .i64 g):=⟨h.c 0 (by decide),h.c 1 (by decide),h.c 2 (by decide),h.c 3 (by decide),h.c 4 (by decide),h.c 5 (by decide),h.c 6 (by decide),h.c 7 (by decide),h.cl,h.cg⟩
theorem Jc {j:Nat} (h:j<8):j=0∨j=1∨j=2∨j=3∨j=4∨j=5∨j=6∨j=7:=by omega
theorem eQ.new (W:World) (s:Sl) (l g:Int) (t:TypeId):eQ (W.alloc (.cells (yj s l g) t)) W.heap.size s l g:=
 ⟨fun j hj=>by rcases Jc hj with h|h|h|h|h|h|h|h<;>subst h<;>simp[Sl.v],by simp,by simp,fun i=>by simp⟩
theorem eQ.keep {W W':World} {b B:Nat} {s:Sl} {l g:Int} (h:eQ W b s l g) (hb:b<B) (hB:Below B W W'):eQ W' b s l g:=
 ⟨fun j hj=>(hB.cell (p:=⟨b,j,none⟩) hb).trans (h.c j hj),(hB.cell (p:=⟨b,8,none⟩) hb).trans h.cl,(hB.cell (p:=⟨b,9,none⟩) hb).trans h.cg,fun i=>(hB.frozen (p:=⟨b,i,none⟩) hb).trans (h.f i)⟩
theorem eQ.lt {W:World} {b:Nat} {s:Sl} {l g:Int} (h:eQ W b s l g):b<W.heap.size:=cA W _ h.cl
theorem eQ.below {W W':World} {b:Nat} {s:Sl} {l g:Int} (h:eQ W b s l g) (hB:Below W.heap.size W W'):eQ W' b s l g:=h.keep h.lt hB
theorem eQ.Ge {W:World} {b:Nat} {s:Sl} {l g:Int} (h:eQ W b s l g) {k:Nat} (hk:k<8) (a:Option Addr) (n c:Nat):eQ (W.setCell ⟨b,k,none⟩ (.slice a n c)) b (s.set k a n c) l g:=by
 have hkc:=h.c k hk;refine ⟨fun j hj=>?_,?_,?_,fun i=>by simp[h.f]⟩
 ·
  rw[Sl.pJ]
  by_cases e:j=k
  ·
   subst e;rw[ah rfl];simp[go_sem,hkc]
  rw[ai e];have:=h.c j hj;simp[go_sem,this]
 ·
  have:=h.cl;simp[go_sem,this]
 have:=h.cg;simp[go_sem,this]
theorem LS (n:Nat) (w:World):Calls Tryz.prog 53 #[.int .i64 (n:Int)] w fun e w'=>e=.returned (.int .i64 ((eN n:Nat):Int))∧w=w':=by
 by_cases hn:n≤4096
 ·
  have HS:=zh (show ((eN n:Nat):Int)=(20+(n:Int)+4+8-1)/8*8 by unfold eN rN;rw[ah hn];omega);have hd:decide ((4096:Int)<(n:Int))=false:=by simp;omega
  have hd2:decide ((n:Int)<0)=false:=by simp
  go_enter Tryz.func53,Tryz.ntmps53
  go_wp2_with fail;go_ret;exact ⟨wY (by rw[HS.out]),rfl⟩
 have HS:=zh (show eN n=0 by unfold eN;rw[ai hn]);have hd:decide ((4096:Int)<(n:Int))=true:=by simp;omega
 have hd2:decide ((n:Int)<0)=false:=by simp
 go_enter Tryz.func53,Tryz.ntmps53
 go_wp2_with fail;go_ret;exact ⟨wY (by rw[HS.out];rfl),rfl⟩
theorem KQ (n:Nat) (w:World):Calls Tryz.prog 28 #[.int .i64 (n:Int)] w fun e w'=>e=.returned (.int .i64 ((eN n:Nat):Int))∧w=w':=by
 by_cases hn:n≤4096
 ·
  have HS:=zh (show ((eN n:Nat):Int)=(20+(n:Int)+4+8-1)/8*8 by unfold eN rN;rw[ah hn];omega);have hd:decide ((4096:Int)<(n:Int))=false:=by simp;omega
  have hd2:decide ((n:Int)<0)=false:=by simp
  go_enter Tryz.func28,Tryz.ntmps28
  go_wp2_with fail;go_ret;exact ⟨wY (by rw[HS.out];omega),rfl⟩
 have HS:=zh (show eN n=0 by unfold eN;rw[ai hn]);have hd:decide ((4096:Int)<(n:Int))=true:=by simp;omega
 have hd2:decide ((n:Int)<0)=false:=by simp
 go_enter Tryz.func28,Tryz.ntmps28
 go_wp2_with fail;go_ret;exact ⟨wY (by rw[HS.out];rfl),rfl⟩
end Go.Proofs.YtcgfilmmokmdjaaGreat
