import Derived.Test.YtcgfilmmokmdjaaGreatQAB
import Derived.Laws.BitsAllLaws
import Derived.Lib.OwnKind
import Derived.OneCell
set_option linter.all false
set_option maxRecDepth 100000
set_option maxHeartbeats 32000000
namespace Go.Proofs.YtcgfilmmokmdjaaGreat
open Go.Proofs.Tryz
open Go.RowKit
variable {q:List It} {j:Nat}
def zGl (h0:0<j) (hj:j<q.length) (hk:(eA q j).key<(eA q (j-1)).key):Moved q (tw q j (j-1)) (j-1) (j+1):=by
 have M:=kE (d:=q) (s:=j-1) (m:=j) (e:=j+1) (by omega) (by omega) (by omega) (fun i i1 i2 k k1 k2=>by
  obtain rfl:i=j-1:=by omega
  obtain rfl:k=j:=by omega
  omega)
 have e:tw q j (j-1)=eH q (j-1) j (j+1):=by
  refine RZ (by rw[uZ,M.len]) fun i _=>?_
  rw[Oq hj (by omega)]
  by_cases e1:i=j-1
  ·rw[ah e1,vZ (by omega) (by omega) (by omega) (by omega) (by omega)];congr 1;omega
  rw[ai e1]
  by_cases e2:i=j
  ·rw[ah e2,vX (by omega) (by omega) (by omega) (by omega) (by omega)];congr 1;omega
  rw[ai e2,M.o (by omega)]
 rw[e];exact M
structure Way (d q:List It) (a b i j:Nat):Prop where
 mv:Moved d q a b
 rest:∀ x y,a<=x->x<y->y<=i->x≠j->y≠j->(eA q x).key<=(eA q y).key
 up:∀ y,j<y->y<=i->(eA q j).key<=(eA q y).key
 lo:a<=j
 hi:j<=i
 ib:i<b
variable {d:List It} {a b i:Nat}
def Way.start (m:Moved d q a b) (n:jX q a i) (h:a<=i) (hb:i<b):Way d q a b i i:=
 ⟨m,fun x y x1 xy y1 _ y2=>n x y x1 xy (by omega),fun y y1 y2=>by omega,h,ag _,hb⟩
def Way.done (h:Way d q a b i j) (hs:j=a∨(eA q (j-1)).key<=(eA q j).key):jX q a (i+1):=fun x y x1 xy y2=>by
 by_cases e1:x=j
 ·subst e1;exact h.up y xy (by omega)
 by_cases e2:y=j
 ·subst e2;rcases hs with hs|hs
  ·omega
  by_cases e3:x=y-1
  ·subst e3;exact hs
  exact Int.le_trans (h.rest x (y-1) x1 (by omega) (by have:=h.hi;omega) e1 (by omega)) hs
 exact h.rest x y x1 xy (by omega) e1 e2
def Way.step (h:Way d q a b i j) (hb:b<=q.length) (ha:a<j) (hk:(eA q j).key<(eA q (j-1)).key):Way d (tw q j (j-1)) a b i (j-1):=by
 have hib:=h.ib;have hji:=h.hi;have at_:=Oq (d:=q) (i:=j) (j:=j-1) (by omega) (by omega);have M:=zGl (q:=q) (j:=j) (by omega) (by omega) hk;refine ⟨h.mv.trans (M.wide (by omega) (by omega) (by omega)),fun x y x1 xy y1 x2 y2=>?_,fun y y1 y2=>?_,by omega,by omega,hib⟩
 ·rw[at_,at_,ai x2,ai y2]
  by_cases e1:x=j
  ·rw[ah e1,ai (by omega)];exact h.rest (j-1) y (by omega) (by omega) y1 (by omega) (by omega)
  rw[ai e1]
  by_cases e2:y=j
  ·rw[ah e2];exact h.rest x (j-1) x1 (by omega) (by omega) e1 (by omega)
  rw[ai e2];exact h.rest x y x1 xy y1 e1 e2
 rw[at_,at_,ah rfl,ai (by omega)]
 by_cases e1:y=j
 ·rw[ah e1];omega
 rw[ai e1];exact h.up y (by omega) y2
def wB {a b:World} (h:a.grownBy b none) (r:Option Nat):a.grownBy b r:=⟨h.os,h.tape,h.output,h.size,fun k hk _=>h.block k hk (by simp)⟩
def kL (g n cap a b B:Nat) (d:List It) (w:World) (hown:w.ownsRow B 49 4 (.slice (some ⟨g,0,none⟩) n cap) n (zg d)) (hn:d.length=n) (hs:n<=1000000) (h1:a<=b) (h2:b<=n) :
  Calls prog 186 #[.slice (some ⟨g,0,none⟩) n cap,.int .i64 (a:Int),.int .i64 (b:Int),.func (.func 174) #[] #[]] w fun e w'=>e=.returned (.tuple #[])/\∃ d',w'.ownsRow B 49 4 (.slice (some ⟨g,0,none⟩) n cap) n (zg d')/\Moved d d' a b/\jX d' a b/\w.grownBy w' (some g):=by
 have HO:=zh hown;have hgr:w.grownBy w (some g):=⟨rfl,rfl,rfl,ag _,fun _ _ _=>rfl⟩
 have HG:=zh hgr;have HN:=zh hn;have HM:=zh (Moved.refl d a b);have HL:=zh (fun q (h:Moved d q a b)=>h.len.trans hn);clear hown hgr hn
 go_enter func186,ntmps186
 go_wp2_with fail
 go_loopw [8] (fun iv wr=>∃ (i:Nat) (q:List It),iv=.int .i64 (i:Int)/\a<i/\(i<=b∨i=a+1)/\Moved d q a b/\jX q a i/\wr.ownsRow B 49 4 (.slice (some ⟨g,0,none⟩) n cap) n (zg q)/\w.grownBy wr (some g)) (fun iv _=>n+1-(intOf iv).toNat)
 case atStart=>exact ⟨a+1,d,by go_num,by omega,by omega,HM.o,fun i j i1 ij j2=>by omega,HO.o,HG.o⟩
 obtain ⟨i,q,rfl,hi,hib,hm,hnd,ho,hg⟩:=hrel;have Hm:=zh hm;have Kk:=zh hnd;have Ho:=zh ho;have Hg:=zh hg;clear hm hnd ho hg
 by_cases hlt:i<b
 ·have HW:=zh (Way.start Hm.o Kk.o (by omega) hlt);go_wp2_with fail
  go_loopw [9] (fun jv wj=>∃ (j:Nat) (q:List It),jv=.int .i64 (j:Int)/\a<=j/\j<=i/\Way d q a b i j/\wj.ownsRow B 49 4 (.slice (some ⟨g,0,none⟩) n cap) n (zg q)/\w.grownBy wj (some g)) (fun jv _=>(intOf jv).toNat)
  case atStart=>exact ⟨i,q,rfl,by omega,by omega,HW.o,Ho.o,Hg.o⟩
  obtain ⟨j,r,rfl,hja,hji,hw,ho,hg⟩:=hrel;have Hw:=zh hw;have Ho:=zh ho;have Hg:=zh hg;have hlr:=HL.o _ hw.mv;have Mq:=zh hlr;clear hw ho hg hlr
  by_cases hgt:a<j
  ·obtain ⟨_,_,e,c0,c1,c2,c3⟩:=(xF (zr Ho.o)).at (show j<n by omega);injection e with e;injection e with e1 e2;subst e1 e2;obtain ⟨_,_,e,d0,d1,d2,d3⟩:=(xF (zr Ho.o)).at (show j-1<n by omega);injection e with e;injection e with e1 e2;subst e1 e2;simp only[aN] at c0 c1 c2 c3 d0 d1 d2 d3;have HV:=zh (fun W=>JS (eA r j) (eA r (j-1)) W);have hcl:=G3 (eA r j).key (eA r (j-1)).key;obtain ⟨x,hx⟩:∃ x,eA r j=x:=⟨_,rfl⟩
   obtain ⟨y,hy⟩:∃ y,eA r (j-1)=y:=⟨_,rfl⟩
   have o8:=zh (And.intro hx hy);rw[hx] at c0 c1 c2 c3 HV hcl;rw[hy] at d0 d1 d2 d3 HV hcl;clear hx hy;obtain ⟨c,hc⟩:∃ c,Lh x.key y.key=c:=⟨_,rfl⟩
   rw[hc] at HV hcl;clear hc;have hcl:=zh hcl;have j1:IntKind.i64.wrap ((j:Int)-1)=(j:Int)-1:=aF _ (by omega);have j2:(0:Int)<=(j:Int)-1:=by omega
   have j3:((j:Int)-1).toNat=j-1:=by omega
   have j4:(j:Int)-1<(n:Int):=by omega
   have j5:(j:Int)<(n:Int):=by omega
   have f0:=zB c0;have f1:=zB c1;have f2:=zB c2;have f3:=zB c3;have f4:=zB d0;have f5:=zB d1;have f6:=zB d2;have f7:=zB d3;clear c0 c1 c2 c3 d0 d1 d2 d3
   by_cases hk:c<0
   ·have hkk:x.key<y.key:=by have:=hcl.o;rw[aD hk] at this;exact aZ this.symm
    go_wp2_with fail;refine zD (by kernel_rfl) (by kernel_rfl) ?_
    repeat (go_big_quiet_step ((exact zH (HV.o _))))
    refine ay ?_;intro _ hw';obtain ⟨p,hw'⟩:=hw';subst hw';have Hp:=zh (zE Ho.o p.h);have Gp:=zh (zw Hg.o (wB (grown_of p.h) (some g)));obtain ⟨_,_,e,c0,c1,c2,c3⟩:=(xF (zr Hp.o)).at (show j<n by omega);injection e with e;injection e with e1 e2;subst e1 e2;obtain ⟨_,_,e,d0,d1,d2,d3⟩:=(xF (zr Hp.o)).at (show j-1<n by omega);injection e with e;injection e with e1 e2;subst e1 e2;simp only[aN] at c0 c1 c2 c3 d0 d1 d2 d3;rw[o8.o.1] at c0 c1 c2 c3;rw[o8.o.2] at d0 d1 d2 d3;have fz:=fun k=>Hp.o.frozenAt k
    have z0:=fz (j*4);have z1:=fz (j*4+1);have z2:=fz (j*4+2);have z3:=fz (j*4+3);have z4:=fz ((j-1)*4);have z5:=fz ((j-1)*4+1);have z6:=fz ((j-1)*4+2);have z7:=fz ((j-1)*4+3);clear fz f0 f1 f2 f3 f4 f5 f6 f7;have HF:=zh (UH Hp.o Mq.o (i:=j) (j:=j-1) (by omega) (by omega) o8.o.1 o8.o.2);have HS:=zh (Hw.o.step (by rw[Mq.o];exact h2) hgt (by rw[o8.o.1,o8.o.2];exact hkk));generalize p.w'=wp at *;clear hkk;go_wp2_with fail
    go_region_with (fail)
    all_goals go_wp2_with fail
    all_goals exact ⟨⟨j-1,tw r j (j-1),by go_num,by omega,by omega,HS.o,HF.o.1,zw Gp.o HF.o.2⟩,by simp[intOf];omega⟩
   have hkk:¬ x.key<y.key:=by have:=hcl.o;rw[aC hk] at this;exact cN this.symm
   have HD:=zh (Hw.o.done (Or.inr (by rw[o8.o.1,o8.o.2];omega)));have FY:decide (c<0)=false:=aC hk;have ahs:decide (x.key<y.key)=false:=aC hkk;clear hk;go_wp2_with fail;refine zD (by kernel_rfl) (by kernel_rfl) ?_
   repeat (go_big_quiet_step ((exact zH (HV.o _))))
   refine ay ?_;intro _ hw';obtain ⟨p,hw'⟩:=hw';subst hw';have Hp:=zh (zE Ho.o p.h);have Gp:=zh (zw Hg.o (wB (grown_of p.h) (some g)));generalize p.w'=wp at *;go_wp2_with fail;exact ⟨⟨i+1,r,by go_num,by omega,by omega,Hw.o.mv,HD.o,Hp.o,Gp.o⟩,by simp[intOf];omega⟩
  obtain rfl:j=a:=by omega
  have HD:=zh (Hw.o.done (Or.inl rfl));go_wp2_with fail;refine zD (by kernel_rfl) (by kernel_rfl) ?_
  repeat (go_big_quiet_step (fail))
  refine ay ?_;intro _ hw';obtain ⟨p,hw'⟩:=hw';subst hw';have Hp:=zh (zE Ho.o p.h);have Gp:=zh (zw Hg.o (wB (grown_of p.h) (some g)));generalize p.w'=wp at *;go_wp2_with fail;exact ⟨⟨i+1,r,by go_num,by omega,by omega,Hw.o.mv,HD.o,Hp.o,Gp.o⟩,by simp[intOf];omega⟩
 have HD:Hid (jX q a b):=zh (fun x y x1 xy y2=>Kk.o x y x1 xy (by omega));go_wp2_with fail;go_end0;exact ⟨rfl,q,Ho.o,Hm.o,HD.o,Hg.o⟩
variable {s m e:Nat}
def qx (h1:s<=m) (h2:m<=e) (h3:e<=d.length) {i:Nat} (hi:i<s∨e<=i):eA (eH d s m e) i=eA d i:=by
 have l1:(d.take s).length=s:=by rw[aB];omega
 have l2:(lV d m e++lV d s m).length=e-s:=by rw[ax,xK h3,xK (by omega)];omega
 unfold eH;rcases hi with hi|hi
 ·rw[aY,xU (by omega),vG hi]
 rw[z8 (by rw[ax,l1,l2];omega),ax,l1,l2,wL]
 congr 1;omega
def vK (h1:s<=m) (h2:m<=e) (h3:e<=d.length):(eH d s m e).length=d.length:=by
 have l1:(d.take s).length=s:=by rw[aB];omega
 unfold eH;rw[ax,ax,ax,l1,xK h3,xK (by omega),aT];omega
def R1 (h1:s<=e):eH d s e e=d/\eH d s s e=d:=by
 have e0:∀ x,lV d x x=[]:=fun x=>by unfold lV;rw[Nat.sub_self,List.take_zero]
 have p:=parts (d:=d) h1
 constructor<;>· unfold eH;rw[e0];simpa using p.symm
variable {k:Nat}
def zJb (h1:a<=k) (h2:k+2<=d.length):tw (eH d a (a+1) (k+1)) k (k+1)=eH d a (a+1) (k+2):=by
 have hl:=vK (d:=d) (s:=a) (m:=a+1) (e:=k+1) (by omega) (by omega) (by omega);have hl2:=vK (d:=d) (s:=a) (m:=a+1) (e:=k+2) (by omega) (by omega) (by omega);refine RZ (by rw[uZ,hl,hl2]) fun i _=>?_
 rw[Oq (by rw[hl];omega) (by rw[hl];omega)]
 by_cases e1:i=k+1
 ·rw[ah e1,vX (by omega) (by omega) (by omega) (by omega) (by omega),vX (by omega) (by omega) (by omega) (by omega) (by omega)]
  congr 1;omega
 rw[ai e1]
 by_cases e2:i=k
 ·rw[ah e2,qx (by omega) (by omega) (by omega) (by omega),vZ (by omega) (by omega) (by omega) (by omega) (by omega)]
  congr 1;omega
 rw[ai e2]
 by_cases e3:i<a∨k+2<=i
 ·rw[qx (by omega) (by omega) (by omega) (by omega),qx (by omega) (by omega) (by omega) (by omega)]
 rw[vZ (by omega) (by omega) (by omega) (by omega) (by omega),vZ (by omega) (by omega) (by omega) (by omega) (by omega)]
def zM0 (h1:k+1<=m) (h2:m+1<=d.length):tw (eH d (k+1) m (m+1)) (k+1) k=eH d k m (m+1):=by
 have hl:=vK (d:=d) (s:=k+1) (m:=m) (e:=m+1) (by omega) (by omega) (by omega);have hl2:=vK (d:=d) (s:=k) (m:=m) (e:=m+1) (by omega) (by omega) (by omega);refine RZ (by rw[uZ,hl,hl2]) fun i _=>?_
 rw[Oq (by rw[hl];omega) (by rw[hl];omega)]
 by_cases e1:i=k
 ·rw[ah e1,vZ (by omega) (by omega) (by omega) (by omega) (by omega),vZ (by omega) (by omega) (by omega) (by omega) (by omega)]
  congr 1;omega
 rw[ai e1]
 by_cases e2:i=k+1
 ·rw[ah e2,qx (by omega) (by omega) (by omega) (by omega),vX (by omega) (by omega) (by omega) (by omega) (by omega)]
  congr 1;omega
 rw[ai e2]
 by_cases e3:i<k∨m+1<=i
 ·rw[qx (by omega) (by omega) (by omega) (by omega),qx (by omega) (by omega) (by omega) (by omega)]
 rw[vX (by omega) (by omega) (by omega) (by omega) (by omega),vX (by omega) (by omega) (by omega) (by omega) (by omega)]
 congr 1;omega
def zLv (h1:a+1<=i) (h2:i<=b) (hb:b<=d.length) (nb:jX d (a+1) b)
  (H1:∀ j,a+1<=j->j<i->(eA d j).key<(eA d a).key) (H2:∀ j,i<=j->j<b->(eA d a).key<=(eA d j).key) :
  Moved d (eH d a (a+1) i) a b/\jX (eH d a (a+1) i) a b:=by
 have R:=UG (d:=d) (a:=a) (s:=a) (m:=a+1) (e:=i) (b:=b) (c:=a+(i-(a+1))) (ag _) (by omega) h1 h2 hb rfl (fun x y x1 xy y1=>by omega) nb
  (fun x x1 x2=>by omega) (fun x x1 x2 j j1 j2=>(show x=a by omega)▸H1 j j1 j2)
 obtain ⟨m,n1,n2,n3,n4,hx⟩:=R;refine ⟨m,fun x y x1 xy y2=>?_⟩;rcases bD x (a+(i-(a+1))) with xc|xc
 ·rcases bD y (a+(i-(a+1))) with yc|yc
  ·exact n2 x y x1 xy yc
  exact hx x x1 xc y yc y2
 have hxi:∀ z,i<=z->eA (eH d a (a+1) i) z=eA d z:=fun z hz=>(kE (by omega) h1 (ak h2 hb) (fun p p1 p2 q q1 q2=>by
  obtain rfl:p=a:=by omega
  have:=H1 q q1 q2;omega)).o (Or.inr hz)
 rcases bD x i with xi|xi
 ·rcases bD y i with yi|yi
  ·omega
  rw[hxi y yi,vX (by omega) h1 (ak h2 hb) xc xi];have:a+(x-(a+(i-(a+1))))=a:=by omega
  rw[this];exact H2 y yi y2
 exact n4 x y xi xy y2
def zKK (h1:a<=i) (h2:i<=m) (hb:m+1<=d.length) (na:jX d a m)
  (H1:∀ j,a<=j->j<i->(eA d j).key<=(eA d m).key) (H2:∀ j,i<=j->j<m->(eA d m).key<(eA d j).key) :
  Moved d (eH d i m (m+1)) a (m+1)/\jX (eH d i m (m+1)) a (m+1):=by
 have R:=UG (d:=d) (a:=a) (s:=i) (m:=m) (e:=m+1) (b:=m+1) (c:=i+1) h1 h2 (by omega) (ag _) hb (by omega) na (fun x y x1 xy y1=>by omega)
  (fun x x1 x2 j j1 j2=>by omega) (fun x x1 x2 j j1 j2=>(show j=m by omega)▸H2 x x1 x2)
 obtain ⟨mv,n1,n2,n3,n4,hx⟩:=R;refine ⟨mv,fun x y x1 xy y2=>?_⟩;rcases bD x (i+1) with xc|xc
 ·rcases bD y (i+1) with yc|yc
  ·rcases bD y i with yi|yi
   ·exact n1 x y x1 xy yi
   obtain rfl:y=i:=by omega
   have ho:eA (eH d y m (m+1)) x=eA d x:=(kE h2 (by omega) hb (fun p p1 p2 q q1 q2=>by
    obtain rfl:q=m:=by omega
    have:=H2 p p1 p2;omega)).o (Or.inl (by omega))
   rw[ho,vZ h2 (by omega) hb (ag _) (by omega)];have:m+(y-y)=m:=by omega
   rw[this];exact H1 x x1 (by omega)
  exact hx x x1 xc y yc y2
 exact n3 x y xc xy y2
structure Ja (d:List It) (a m b s:Nat):Prop where
 lo:(if m>(a+b)/2 then (a+b)/2+m-b else a)<=s
 hi:s<=(if m>(a+b)/2 then (a+b)/2 else m)
 l:(if m>(a+b)/2 then (a+b)/2+m-b else a)<s->(eA d (s-1)).key<=(eA d ((a+b)/2+m-s)).key
 r:s<(if m>(a+b)/2 then (a+b)/2 else m)->(eA d ((a+b)/2+m-1-s)).key<(eA d s).key
def Ja.ends (h:Ja d a m b s):a<=s/\s<=m/\s<=(a+b)/2/\m<=(a+b)/2+m-s/\(a+b)/2+m-s<=b:=by
 have:=h.lo;have:=h.hi
 split at this<;>split at*<;> omega
def zL6 (h:Ja d a m b s) (h1:a<m) (h2:m<b) (hb:b<=d.length) (na:jX d a m) (nb:jX d m b) :
  Moved d (eH d s m ((a+b)/2+m-s)) a b/\jX (eH d s m ((a+b)/2+m-s)) a s/\jX (eH d s m ((a+b)/2+m-s)) s ((a+b)/2)/\jX (eH d s m ((a+b)/2+m-s)) ((a+b)/2) ((a+b)/2+m-s)/\jX (eH d s m ((a+b)/2+m-s)) ((a+b)/2+m-s) b /\
  ∀ i,a<=i->i<(a+b)/2->∀ j,(a+b)/2<=j->j<b->(eA (eH d s m ((a+b)/2+m-s)) i).key<=(eA (eH d s m ((a+b)/2+m-s)) j).key:=by
 obtain ⟨e1,e2,e3,e4,e5⟩:=h.ends;have Nz:∀ {x y},a<=x->x<=y->y<m->(eA d x).key<=(eA d y).key:=fun {x y} x1 xy y1=>by
  rcases bD x y with q|q
  ·exact na x y x1 q y1
  rw[show x=y by omega];exact cL _
 have NL:∀ {x y},m<=x->x<=y->y<b->(eA d x).key<=(eA d y).key:=fun {x y} x1 xy y1=>by
  rcases bD x y with q|q
  ·exact nb x y x1 q y1
  rw[show x=y by omega];exact cL _
 refine UG e1 e2 e4 e5 hb (by omega) na nb (fun i i1 i2 j j1 j2=>?_) (fun i i1 i2 j j1 j2=>?_)
 ·have hl:=h.l
  by_cases q:(if m>(a+b)/2 then (a+b)/2+m-b else a)<s
  ·exact Int.le_trans (Nz i1 (show i<=s-1 by omega) (by omega)) (Int.le_trans (hl q) (NL e4 j1 j2))
  exfalso;split at q<;>omega
 have hr:=h.r
 by_cases q:s<(if m>(a+b)/2 then (a+b)/2 else m)
 ·exact Int.lt_of_le_of_lt (NL j1 (show j<=(a+b)/2+m-1-s by omega) (by omega)) (Int.lt_of_lt_of_le (hr q) (Nz e1 i1 i2))
 exfalso;split at q<;>omega
def uo:List It->List It
 |[]=>[]
 |[x]=>[x]
 |x::y::r=>if y.key=x.key then uo (y::r) else x::uo (y::r)
def UI (d:List It):Prop:=d.Pairwise fun a b=>a.key<=b.key
def zM5 (h:jX d 0 d.length):UI d:=by
 refine List.pairwise_iff_getElem.2 fun i j hi hj hij=>?_
 rw[vw hi,vw hj];exact h i j (aq _) hij hj
def NY (k:Int):gF [] k=none:=rfl
def OT (x:It) {f:List It} (h:f≠[]):(x::f).getLast?=f.getLast?:=by
 cases f with
 |nil=>exact absurd rfl h
 |cons y f=>rw[List.getLast?_cons_cons]
def PL:∀ (d:List It),UI d->∀ k:Int,gF (uo d) k=(d.filter fun y=>y.key==k).getLast?
 |[],_,k=>rfl
 |[x],_,k=>by
  unfold uo;rw[zu,cG]
  by_cases h:x.key=k
  ·rw[ah h,ah (by simp[h])];rfl
  rw[ai h,ai (by simp[h])];rfl
 |x::y::r,hp,k=>by
  obtain ⟨h1,h2⟩:=List.pairwise_cons.1 hp;have ih:=PL (y::r) h2 k;unfold uo;rw[cG]
  by_cases e:y.key=x.key
  ·rw[ah e,ih]
   by_cases hk:x.key=k
   ·rw[ah (by simp[hk]),OT];intro h0;have:y∈(y::r).filter fun y=>y.key==k:=List.mem_filter.2 ⟨by simp,by simp;omega⟩
    rw[h0] at this;cases this
   rw[ai (by simp[hk])]
  rw[ai e,zu]
  by_cases hk:x.key=k
  ·rw[ah hk,ah (by simp[hk])];have h0:(y::r).filter (fun y=>y.key==k)=[]:=by
    rw[List.filter_eq_nil_iff];intro z hz;have hxy:=h1 y (by simp);have hyz:y.key<=z.key:=by
     rcases List.mem_cons.1 hz with rfl|hz
     ·exact cL _
     exact (List.pairwise_cons.1 h2).1 z hz
    simp;omega
   rw[h0];rfl
  rw[ai hk,ai (by simp[hk]),ih]
def UJ:∀ (d:List It),∀ z∈uo d,z∈d
 |[],_,h=>h
 |[x],z,h=>h
 |x::y::r,z,h=>by
  unfold uo at h
  split at h
  ·exact List.mem_cons_of_mem _ (UJ (y::r) z h)
  rcases List.mem_cons.1 h with rfl|h
  ·simp
  exact List.mem_cons_of_mem _ (UJ (y::r) z h)
def PN:∀ (d:List It),UI d->(uo d).Pairwise fun a b=>a.key<b.key
 |[],_=>.nil
 |[x],_=>.cons (fun _ h=>by cases h) .nil
 |x::y::r,hp=>by
  obtain ⟨h1,h2⟩:=List.pairwise_cons.1 hp;have ih:=PN (y::r) h2;unfold uo
  split
  ·exact ih
  rename_i e;refine .cons (fun z hz=>?_) ih;have hz:=UJ _ z hz;have hxy:=h1 y (by simp);rcases List.mem_cons.1 hz with rfl|hz
  ·omega
  have:=(List.pairwise_cons.1 h2).1 z hz;omega
variable {l:List It}
def vC {k:Int} {x:It} (h:gF l k=some x):x∈l/\x.key=k:=by
 unfold gF at h;exact ⟨List.mem_of_find?_eq_some h,by simpa using List.find?_some h⟩
def vd {k:Int} (h:∀ x∈l,x.key≠k):gF l k=none:=by
 unfold gF;rw[List.find?_eq_none];intro x hx;simpa using h x hx
def qr:∀ (u v:List It),(u.Pairwise fun a b=>a.key<b.key)->(v.Pairwise fun a b=>a.key<b.key)->(∀ k,gF u k=gF v k)->u=v
 |[],[],_,_,_=>rfl
 |[],y::v,_,_,h=>by
  have:=h y.key;rw[NY,zu,ah rfl] at this;cases this
 |x::u,[],_,_,h=>by
  have:=h x.key;rw[NY,zu,ah rfl] at this;cases this
 |x::u,y::v,hu,hv,h=>by
  obtain ⟨u1,u2⟩:=List.pairwise_cons.1 hu;obtain ⟨v1,v2⟩:=List.pairwise_cons.1 hv;have hx:=h x.key;rw[zu,ah rfl] at hx;have hy:=h y.key;rw[zu (y:=y),ah rfl] at hy;have m1:=vC hx.symm;have m2:=vC hy;have e:x.key=y.key:=by
   rcases List.mem_cons.1 m1.1 with e|m1
   ·rw[e]
   have:=v1 _ m1;rcases List.mem_cons.1 m2.1 with e|m2
   ·rw[e]
   have:=u1 _ m2;omega
  have exy:x=y:=by
   rw[zu,ah e.symm] at hx;exact Option.some.inj hx
  subst exy
  congr 1
  refine qr u v u2 v2 fun k=>?_
  by_cases hk:x.key=k
  ·rw[vd fun z hz=>by have:=u1 z hz;omega,vd fun z hz=>by have:=v1 z hz;omega]
  have:=h k
  rwa [zu,zu,ai hk,ai hk] at this
def Ql:∀ (l out:List It) (k:Int),gF (l.foldl ins out) k=match (l.filter fun y=>y.key==k).getLast? with|some x=>some x|none=>gF out k
 |[],out,k=>rfl
 |x::l,out,k=>by
  rw[cZ,Ql l (ins out x) k,cG]
  by_cases h:x.key=k
  ·rw[ah (by simp[h])]
   by_cases h0:l.filter (fun y=>y.key==k)=[]
   ·rw[h0]
    show gF (ins out x) k=some x
    rw[<- h];exact vy x out
   rw[OT x h0]
   cases e:(l.filter fun y=>y.key==k).getLast? with
   |none=>rw[List.getLast?_eq_none_iff] at e;exact absurd e h0
   |some y=>rfl
  rw[ai (by simp[h]),vW x k (aQ h)]
def UK (l:List It) (k:Int):gF (gu l) k=(l.filter fun y=>y.key==k).getLast?:=by
 unfold gu;rw[Ql]
 cases (l.filter fun y=>y.key==k).getLast?<;>rfl
def zLh (h:sj l d) (hn:jX d 0 d.length):uo d=gu l:=by
 have hp:=zM5 hn;refine qr _ _ (PN d hp) (tp ((wF _).2 (vT l))) fun k=>?_
 rw[PL d hp,UK,h k]
def uC (h:i<d.length):d.drop i=eA d i::d.drop (i+1):=by
 rw[dH h,vw h]
def zJ7 (h:i+1=d.length):uo (d.drop i)=[eA d i]++uo (d.drop (i+1)):=by
 rw[uC (by omega),List.drop_eq_nil_of_le (by omega)];rfl
def zJS (h:i+1<d.length) (hk:(eA d (i+1)).key≠(eA d i).key):uo (d.drop i)=[eA d i]++uo (d.drop (i+1)):=by
 rw[uC (show i<d.length by omega),uC h]
 conv=>lhs;unfold uo
 rw[ai hk];rfl
def zIP (h:i+1<d.length) (hk:(eA d (i+1)).key=(eA d i).key):uo (d.drop i)=uo (d.drop (i+1)):=by
 rw[uC (show i<d.length by omega),uC h]
 conv=>lhs;unfold uo
 rw[ah hk]
/-! ### UL -/
def Ag (d:List It) (bs lo hi:Nat):Prop:=∀ k i j,lo<=i->i<j->j<hi->k*bs<=i->j<k*bs+bs->(eA d i).key<=(eA d j).key
variable {bs lo hi:Nat}
def Ag.nd (h:Ag d bs lo hi) (h1:lo<=a) (h2:b<=hi) (h3:k*bs<=a) (h4:b<=k*bs+bs):jX d a b:=fun i j i1 ij j1=>h k i j (by omega) ij (by omega) (by omega) (by omega)
def Ag.sub {lo' hi':Nat} (h:Ag d bs lo hi) (h1:lo<=lo') (h2:hi'<=hi):Ag d bs lo' hi':=fun k i j i1 ij j1 a b=>h k i j (by omega) ij (by omega) a b
def Ag.none (d:List It) (bs lo:Nat):Ag d bs lo lo:=fun k i j i1 ij j1=>by omega
def Ag.keep {d':List It} (h:Ag d bs lo hi) (m:Moved d d' a b) (hh:hi<=a∨b<=lo):Ag d' bs lo hi:=fun k i j i1 ij j1 p q=>by
 rw[m.o (by omega),m.o (by omega)];exact h k i j i1 ij j1 p q
def Ag.more (h:Ag d bs 0 a) (hk:a=k*bs) (n:jX d a b):Ag d bs 0 b:=fun c i j i1 ij j1 p q=>by
 by_cases e:j<a
 ·exact h c i j i1 ij e p q
 have hc:k<=c:=by
  rcases bD c k with hc|hc
  ·have:=aX bs (show c+1<=k by omega);rw[cV] at this;omega
  exact hc
 have:=aX bs hc;exact n i j (by omega) ij j1
def Ag.whole {n:Nat} (h:Ag d bs 0 n) (hb:n<=bs):jX d 0 n:=fun i j i1 ij j1=>h 0 i j i1 ij j1 (by omega) (by omega)
def ki (u v:List It):gu (u++v)=v.foldl ins (gu u):=by unfold gu;rw[dQ]
def zMR (l:List It):RT [] l []=gu l:=by
 unfold RT;rw[ZQ]
 show gu ([]++gu l)=_
 rw[bV,yb (vT l)]
end Go.Proofs.YtcgfilmmokmdjaaGreat
namespace Go.Proofs.YtcgfilmmokmdjaaGreat.iD
def poly:Nat:=2197175160
def st (r:Nat):Nat:=if r%2=1 then (r/2) ^^^ poly else r/2
variable {r:Nat}
def Ou (h:r<4294967296):st r<4294967296:=by
 unfold st
 split
 ·exact Nat.xor_lt_two_pow (n:=32) (by omega) (by unfold poly;omega)
 omega
def A2:Nat->Nat->Nat
 |0,r=>r
 |k+1,r=>st (A2 k r)
def A3 {r:Nat} (h:r<4294967296):∀ k,A2 k r<4294967296
 |0=>h
 |k+1=>Ou (A3 h k)
def add (r:Nat) (x:UInt8):Nat:=A2 8 (r ^^^ x.toNat)
def C9 {s:Nat} (h:r<4294967296) (hs:s<4294967296):r ^^^ s<4294967296:=Nat.xor_lt_two_pow (n:=32) h hs
def add_lt (h:r<4294967296) (x:UInt8):add r x<4294967296:=A3 (C9 h (by have:=x.toNat_lt;omega)) 8
def ext (r:Nat) (l:List UInt8):Nat:=l.foldl add r
def C_:∀ (l:List UInt8) {r:Nat},r<4294967296->ext r l<4294967296
 |[],_,h=>h
 |x::l,_,h=>C_ l (add_lt h x)
def Ce (r:Nat) (l:List UInt8) (x:UInt8):ext r (l++[x])=add (ext r l) x:=by simp[ext]
def sum (l:List UInt8):Nat:=4294967295-ext 4294967295 l
def F0 (l:List UInt8):sum l<4294967296:=by unfold sum;omega
end Go.Proofs.YtcgfilmmokmdjaaGreat.iD
namespace Go.Proofs.YtcgfilmmokmdjaaGreat
open Go.Proofs.Tryz
def sW (l:List UInt8) (j:Nat):UInt8:=l.getD j 0
variable {l:List UInt8}
def uL {j:Nat} (h:j<l.length):l.take (j+1)=l.take j++[sW l j]:=by
 rw[List.take_succ_eq_append_getElem h]
 congr
 unfold sW;rw[aw,aA h];rfl
def be (v n:Nat):List UInt8:=(List.range n).map fun j=>UInt8.ofNat (v/2^(8*(n-1-j)))
def xP (v n:Nat):(be v n).length=n:=by simp[be]
variable {n:Nat}
def Qn {v j:Nat} (h:j<n):sW (be v n) j=UInt8.ofNat (v/2^(8*(n-1-j))):=by
 unfold sW be;rw[aw,b_,List.getElem?_range h];rfl
def val (l:List UInt8):Nat:=l.foldl (fun n x=>(n*256+x.toNat)%18446744073709551616) 0
def Nr (c:Nat):List UInt8:=[UInt8.ofNat c,UInt8.ofNat (c/2^8),UInt8.ofNat (c/2^16),UInt8.ofNat (c/2^24)]
open Go.RowKit
def Qo (r:Nat) (h:r<4294967296):bits .and .u32 (r:Int) 1=((r%2:Nat):Int):=by
 have:=u32_and_nat r 1 h (by decide);rw[show ((1:Nat):Int)=1 from rfl] at this;rw[this,Nat.and_one_is_mod]
def Qp (r:Nat) (h:r<4294967296):bits .xor .u32 (r:Int) 2197175160=((r ^^^ iD.poly:Nat):Int):=by
 have:=u32_xor_nat r 2197175160 h (by decide)
 rwa [show ((2197175160:Nat):Int)=2197175160 from rfl] at this
def zGW (r:Nat) (w:World) (h:r<4294967296) :
  Calls prog 203 #[.int .u32 (r:Int)] w fun e w'=>e=.returned (.int .u32 (iD.A2 8 r:Int))/\w=w':=by
 go_enter func203,ntmps203
 go_wp2_with fail
 go_loop [0,3] (fun rv kv=>∃ k:Nat,k<=8/\kv=.int .i64 (k:Int)/\rv=.int .u32 (iD.A2 k r:Int)) (fun _ kv=>8-(intOf kv).toNat)
 case atStart=>exact ⟨0,by omega,rfl,rfl⟩
 obtain ⟨k,hk,rfl,rfl⟩:=hrel;have hl:=iD.A3 h k;have HS:Hid (iD.A2 (k+1) r=iD.st (iD.A2 k r)):=zh (rfl);have HE:Hid (∀ j,j=8->iD.A2 j r=iD.A2 8 r):=zh (fun j e=>by rw[e]);have HK:Hid (∃ q,iD.A2 k r=q):=zh (⟨_,rfl⟩);generalize hq:iD.A2 k r=q at *;have HQ:=zh hq;clear HK hq;have b1:=Qo q hl;have b2:=Qp (q/2) (by omega);rw[show ((q/2:Nat):Int)=(q:Int)/2 from rfl] at b2
 by_cases hlt:k<8
 ·rcases Nat.mod_two_eq_zero_or_one q with h0|h1
  ·rw[h0] at b1;have b3:(((0:Nat):Int)==1)=false:=by decide
   go_wp2_with fail;refine ⟨⟨k+1,by omega,by go_num,?_⟩,by simp[intOf];omega⟩;rw[HS.o,iD.st,ai (by omega)];go_num
  rw[h1] at b1;go_wp2_with fail;refine ⟨⟨k+1,by omega,by go_num,?_⟩,by simp[intOf];omega⟩;rw[HS.o,iD.st,ah h1]
 obtain rfl:k=8:=by omega
 go_wp2_with fail;go_ret;exact ⟨xe (aM Nat.cast HQ.o.symm),rfl⟩
variable {w:World} {v:Value}
def ll.fO (h:ll w v l):∃ a cap,v=.slice a l.length cap/\l.length<=cap/\cap<=maxLen:=by
 obtain ⟨a,cap,h1,h2,h3,_⟩:=il.shape h 0;exact ⟨a,cap,h1,h2,h3⟩
def ll.at {a:Option Addr} {cap:Nat} (h:ll w (.slice a n cap) l) {j:Nat} (hj:j<n):∃ b off,a=some ⟨b,off,none⟩/\w.cell? ⟨b,off+j,none⟩=some (.int .u8 ((sW l j).toNat:Int)):=by
 obtain ⟨a',cap',e,h2,h3,_,h5⟩:=il.shape h 0;injection e with e1 e2 e3;subst e1 e2 e3;obtain ⟨b,off,e,hc⟩:=h5 (by omega);exact ⟨b,off,e,hc j hj⟩
def Qq (r:Nat) (x:UInt8) (h:r<4294967296):bits .xor .u32 (r:Int) (x.toNat:Int)=((r ^^^ x.toNat:Nat):Int):=u32_xor_nat r x.toNat h (by have:=x.toNat_lt;omega)
def zLm (c:Nat) (h:c<4294967296):4294967295 ^^^ c=4294967295-c:=by
 have h1:(BitVec.allOnes 32 ^^^ BitVec.ofNat 32 c).toNat=(~~~(BitVec.ofNat 32 c)).toNat:=by rw[BitVec.allOnes_xor]
 rw[BitVec.toNat_xor,BitVec.toNat_not,BitVec.toNat_ofNat,Nat.mod_eq_of_lt (show c<2^32 by omega),BitVec.toNat_allOnes] at h1;exact h1
def R3 (c:Nat) (h:c<4294967296):bits .xor .u32 IntKind.u32.max (c:Int)=((4294967295-c:Nat):Int):=by
 have:=u32_xor_nat 4294967295 c (by decide) h;rw[zLm c h] at this;exact this
def zK3 (c:Nat) (v:Value) (l:List UInt8) (w:World) (hc:c<4294967296) (h:ll w v l) :
  Calls prog 185 #[.int .u32 (c:Int),v] w fun e w'=>e=.returned (.int .u32 ((4294967295-iD.ext (4294967295-c) l:Nat):Int))/\w=w':=by
 obtain ⟨a,cap,rfl,h1,h2⟩:=h.fO;have hm:=C7 h1 h2;have HS:Hid (∀ k,k<l.length->iD.ext (4294967295-c) (l.take (k+1))=iD.add (iD.ext (4294967295-c) (l.take k)) (sW l k)):=zh (fun k hk=>by rw[uL hk,iD.Ce]);have HE:Hid (l.take l.length=l):=zh (bQ);generalize hn:l.length=n at *;have Hr:=zh h;clear h hn h1 h2;have n1:=R3 c hc
 go_enter func185,ntmps185
 go_wp2_with fail;clear n1
 go_loop [5,6] (fun rv kv=>∃ k:Nat,k<=n/\kv=.int .i64 (k:Int)/\rv=.int .u32 (iD.ext (4294967295-c) (l.take k):Int)) (fun _ kv=>n-(intOf kv).toNat)
 case atStart=>exact ⟨0,by omega,rfl,by simp[iD.ext]⟩
 obtain ⟨k,hk,rfl,rfl⟩:=hrel;have hl:=iD.C_ (l.take k) (r:=4294967295-c) (by omega)
 by_cases hlt:k<n
 ·obtain ⟨b,off,rfl,c0⟩:=Hr.o.at hlt;have HK:=zh (HS.o k hlt);generalize iD.ext (4294967295-c) (l.take k)=q at *;generalize sW l k=x at *;have b1:=Qq q x hl;have b3:=x.toNat_lt;have HR:=zh (fun w=>zGW (q ^^^ x.toNat) w (iD.C9 hl (by omega)));have HA:Hid (iD.add q x=iD.A2 8 (q ^^^ x.toNat)):=zh (rfl);generalize (q ^^^ x.toNat:Nat)=y at *;go_wp2_with fail;refine (HR.o _).mono ?_;rintro e w1 ⟨rfl,rfl⟩;go_wp2_with fail;exact ⟨⟨k+1,by omega,by go_num,by rw[HK.o,HA.o]⟩,by simp[intOf];omega⟩
 obtain rfl:k=n:=by omega
 have HF:=zh (show iD.ext (4294967295-c) (l.take k)=iD.ext (4294967295-c) l by rw[HE.o]);generalize iD.ext (4294967295-c) (l.take k)=q at *;have n1:=R3 q hl;go_wp2_with fail;go_ret;exact ⟨xe (by rw[<- HF.o]),rfl⟩
def zLy (c:Nat) (v:Value) (l:List UInt8) (w:World) (hc:c<4294967296) (h:ll w v l) :
  Calls prog 159 #[.int .u32 (c:Int),v] w fun e w'=>e=.returned (.int .u32 ((4294967295-iD.ext (4294967295-c) l:Nat):Int))/\w=w':=by
 obtain ⟨a,cap,rfl,h1,h2⟩:=h.fO;have hm:=C7 h1 h2;have HS:Hid (∀ k,k<l.length->iD.ext (4294967295-c) (l.take (k+1))=iD.add (iD.ext (4294967295-c) (l.take k)) (sW l k)):=zh (fun k hk=>by rw[uL hk,iD.Ce]);have HE:Hid (l.take l.length=l):=zh (bQ);generalize hn:l.length=n at *;have Hr:=zh h;clear h hn h1 h2;have n1:=R3 c hc
 go_enter func159,ntmps159
 go_wp2_with fail;clear n1
 go_loop [5,13] (fun rv kv=>∃ k:Nat,k<=n/\kv=.int .i64 (k:Int)/\rv=.int .u32 (iD.ext (4294967295-c) (l.take k):Int)) (fun _ kv=>n-(intOf kv).toNat)
 case atStart=>exact ⟨0,by omega,rfl,by simp[iD.ext]⟩
 obtain ⟨k,hk,rfl,rfl⟩:=hrel;have hl:=iD.C_ (l.take k) (r:=4294967295-c) (by omega)
 by_cases hlt:k<n
 ·obtain ⟨b,off,rfl,c0⟩:=Hr.o.at hlt;have HK:=zh (HS.o k hlt);generalize iD.ext (4294967295-c) (l.take k)=q at *;generalize sW l k=x at *;have b1:=Qq q x hl;have b3:=x.toNat_lt;have HA:Hid (iD.add q x=iD.A2 8 (q ^^^ x.toNat)):=zh (rfl);have hy:=iD.C9 hl (show x.toNat<4294967296 by omega);generalize (q ^^^ x.toNat:Nat)=y at *;go_wp2_with fail
  go_loop [5,21] (fun rv iv=>∃ i:Nat,i<=8/\iv=.int .i64 (i:Int)/\rv=.int .u32 (iD.A2 i y:Int)) (fun _ iv=>8-(intOf iv).toNat)
  case atStart=>exact ⟨0,by omega,rfl,rfl⟩
  obtain ⟨i,hi,rfl,rfl⟩:=hrel;have hz:=iD.A3 hy i;have jY:Hid (iD.A2 (i+1) y=iD.st (iD.A2 i y)):=zh (rfl);have HQ:Hid (∀ j,j=8->iD.A2 j y=iD.A2 8 y):=zh (fun j e=>by rw[e]);generalize hq:iD.A2 i y=z at *;have HZ:=zh hq;clear hq;have e1:=Qo z hz;have e2:=Qp (z/2) (by omega);rw[show ((z/2:Nat):Int)=(z:Int)/2 from rfl] at e2
  by_cases hi8:i<8
  ·rcases Nat.mod_two_eq_zero_or_one z with h0|h1
   ·rw[h0] at e1;have e3:(((0:Nat):Int)==1)=false:=by decide
    go_wp2_with fail;refine ⟨⟨i+1,by omega,by go_num,?_⟩,by simp[intOf];omega⟩;rw[jY.o,iD.st,ai (by omega)];go_num
   rw[h1] at e1;go_wp2_with fail;refine ⟨⟨i+1,by omega,by go_num,?_⟩,by simp[intOf];omega⟩;rw[jY.o,iD.st,ah h1]
  obtain rfl:i=8:=by omega
  go_wp2_with fail;exact ⟨⟨k+1,by omega,by go_num,by rw[HK.o,HA.o,HZ.o]⟩,by simp[intOf];omega⟩
 obtain rfl:k=n:=by omega
 have HF:=zh (show iD.ext (4294967295-c) (l.take k)=iD.ext (4294967295-c) l by rw[HE.o]);generalize iD.ext (4294967295-c) (l.take k)=q at *;have n1:=R3 q hl;go_wp2_with fail;go_ret;exact ⟨xe (by rw[<- HF.o]),rfl⟩
def zKy (v:Value) (l:List UInt8) (w:World) (h:ll w v l) :
  Calls prog 160 #[v] w fun e w'=>e=.returned (.int .u32 (iD.sum l:Int))/\w=w':=by
 have HX:=zh (zK3 0 v l w (by decide) h);have HS:Hid (iD.sum l=4294967295-iD.ext (4294967295-0) l):=zh (rfl);generalize (4294967295-iD.ext (4294967295-0) l:Nat)=r at *
 go_enter func160,ntmps160
 go_wp2_with fail;refine HX.o.mono ?_;rintro e w1 ⟨rfl,rfl⟩;go_wp2_with fail;go_ret;exact ⟨xe (aM Nat.cast HS.o.symm),rfl⟩
def zMc (v:Value) (l:List UInt8) (w:World) (h:ll w v l) :
  Calls prog 117 #[v] w fun e w'=>e=.returned (.int .u32 (iD.sum l:Int))/\w=w':=by
 have HX:=zh (zLy 0 v l w (by decide) h);have HS:Hid (iD.sum l=4294967295-iD.ext (4294967295-0) l):=zh (rfl);generalize (4294967295-iD.ext (4294967295-0) l:Nat)=r at *
 go_enter func117,ntmps117
 go_wp2_with fail;refine HX.o.mono ?_;rintro e w1 ⟨rfl,rfl⟩;go_wp2_with fail;go_ret;exact ⟨xe (aM Nat.cast HS.o.symm),rfl⟩
def ck (l:List UInt8):List UInt8:=Nr (iD.sum l)
def zNo:(prog.info? 5).map (fun i=>(i.zero,i.size,i.bytes))=some (some (.int .u8 0),1,1):=by kernel_rfl
def vv:wQ prog 54 5 1 1:=by
 obtain ⟨i,h1,h2,h3,h4⟩:=cq zNo;exact ⟨underlying54,by decide,i,_,h1,h2,h3,h4,rfl⟩
abbrev lR (w:World) (base:Nat) (v:Value) (l:List UInt8):Prop:=w.ownsRow base 5 1 v l.length (l.map yy)
variable {xs:List Value}
def vz {base:Nat} (h:w.ownsRow base 5 1 v n xs) (e:xs=l.map yy):lR w base v l:=by
 subst e;have:l.length=n:=by have:=h.1;rw[aH] at this;omega
 unfold lR;rw[this];exact h
def lR.rd {base:Nat} (h:lR w base v l):ll w v l:=vR h
def R7 (w:World) (x:UInt8) (e:TypeId):Rd (w.alloc (.cells #[.int .u8 (x.toNat:Int)] e)) 1 (.slice (some ⟨w.heap.size,0,none⟩) 1 1) 1 ([x].map yy):=Rd.new w 1 _ e 1 rfl (by decide)
def UM (v m:Nat):((v:Int)/2^m%256)=((UInt8.ofNat (v/2^m)).toNat:Int):=by
 rw[UInt8.toNat_ofNat',Int.natCast_emod,Int.natCast_ediv,Int.natCast_pow];rfl
def Qt (v n:Nat) (w:World) (hn:n<=8) (_hv:v<18446744073709551616) :
  Calls prog 118 #[.int .u64 (v:Int),.int .i64 (n:Int)] w fun e w'=>∃ v',e=.returned v'/\lR w' w.heap.size v' (be v n)/\Below w.heap.size w w':=by
 have HS:Hid (∀ k,k<(be v n).length->_):=zh (fun k=>uL (l:=be v n) (j:=k));have HE:Hid ((be v n).take (be v n).length=be v n):=zh (bQ);have HA:Hid (∀ k,k<n->_):=zh (fun k=>Qn (v:=v) (n:=n) (j:=k));have hl:=xP v n;generalize be v n=l at *;have HL:=zh hl;clear hl
 go_enter func118,ntmps118
 go_wp2_with fail
 go_loopw [5,6] (fun bv iv wr=>∃ k:Nat,iv=.int .i64 ((n:Int)-1-(k:Int))/\k<=n/\wr.ownsRow w.heap.size 5 1 bv k ((l.take k).map yy)/\Below w.heap.size w wr) (fun _ iv _=>(intOf iv+1).toNat)
 case atStart=>exact ⟨0,by simp,aq _,aP _ _ _ _,aj _ _⟩
 obtain ⟨k,rfl,hk,hown,hb⟩:=hrel;have iJ:=zh hown;have Hb:=zh hb;have hB2:=hb.size;clear hown hb
 by_cases hlt:k<n
 ·have oD:=zh (HS.o k (by rw[HL.o];exact hlt));have Ov:=zh (HA.o k hlt);have Cf:((v:Int)/2^(8*(n-1-k))%256)=((sW l k).toNat:Int):=by rw[Ov.o];exact UM v _
  generalize sW l k=x at *;go_wp2_with (at_builtin;go_must (refine zP rfl (.tmp 13) (.tmp 20) 54 rfl vv w.heap.size rfl (iJ.o.alloc _) rfl (R7 _ x _) (xJ [x]) (by unfold maxLen;omega) (by omega) (by simp;omega) ?_);intro v2 w2 eM fu hv2;clear hv2);have gp:=zh eM;have eX:=zh (zK (Hb.o.alloc hB2 _) (iJ.o.alloc _) (by simp;omega) fu);clear eM fu Cf;go_wp2_with fail;refine ⟨⟨k+1,by go_num,by omega,?_,eX.o⟩,by simp[intOf];omega⟩;rw[oD.o,aU];exact gp.o
 obtain rfl:n=k:=by omega
 have HF:=zh (vz iJ.o (by rw[<- HL.o,HE.o]));have hd:decide ((0:Int)<=(n:Int)-1-(n:Int))=false:=by simp;omega
 go_wp2_with fail;go_ret;exact ⟨_,rfl,HF.o,Hb.o⟩
def zJE (c:Nat) (h:c<4294967296):(#[Value.int .u8 ((c:Int)%256),.int .u8 ((c:Int)/256%256),.int .u8 ((c:Int)/65536%256),.int .u8 ((c:Int)/16777216)]:Array Value)=((Nr c).map yy).toArray:=by
 have e:∀ m:Nat,((UInt8.ofNat m).toNat:Int)=(m:Int)%256:=fun m=>by rw[UInt8.toNat_ofNat'];rfl
 show _=(#[Value.int .u8 ((UInt8.ofNat c).toNat:Int),.int .u8 ((UInt8.ofNat (c/2^8)).toNat:Int),.int .u8 ((UInt8.ofNat (c/2^16)).toNat:Int),.int .u8 ((UInt8.ofNat (c/2^24)).toNat:Int)]:Array Value)
 rw[e,e,e,e];have e4:(c:Int)/16777216=((c/2^24:Nat):Int)%256:=by omega
 rw[e4]
 rfl
def zMl (w:World) (c:Nat) (h:c<4294967296):lR (w.alloc (.cells #[.int .u8 ((c:Int)%256),.int .u8 ((c:Int)/256%256),.int .u8 ((c:Int)/65536%256),.int .u8 ((c:Int)/16777216)] 5)) w.heap.size (.slice (some ⟨w.heap.size,0,none⟩) 4 4) (Nr c):=by
 rw[zJE c h];exact World.ownsRow_lit w _ 4 (ag _) (by decide) rfl
def zG1 (v:Value) (l:List UInt8) (w:World) (h:ll w v l) :
  Calls prog 119 #[v] w fun e w'=>∃ v',e=.returned v'/\lR w' w.heap.size v' (ck l)/\Below w.heap.size w w':=by
 have HX:=zh (zKy v l w h);have hc:=iD.F0 l;have HK:Hid (ck l=Nr (iD.sum l)):=zh (rfl);generalize iD.sum l=c at *;clear h
 go_enter func119,ntmps119
 go_wp2_with fail;refine HX.o.mono ?_;rintro e w1 ⟨rfl,rfl⟩;go_wp2_with fail;go_ret;exact ⟨_,rfl,by rw[HK.o];exact zMl w c hc,(aj _ _).alloc (ag _) _⟩
def Fits (x:It):Prop:=0<=x.key/\x.key<18446744073709551616/\0<=x.ck/\x.ck<4294967296/\0<=x.off/\x.off<4294967296/\0<=x.size/\x.size<4294967296
structure Nd where
 key:Nat
 ck:Nat
 del:Bool
 data:List UInt8
 deriving DecidableEq
def IA:Nd:=⟨0,0,false,[]⟩
instance:Inhabited Nd:=⟨IA⟩
def Nd.Wf (x:Nd):Prop:=x.key<18446744073709551616/\x.ck<4294967296
def Nd.ok (x:Nd):Prop:=x.data.length<=4096/\(x.del=true->x.data=[])
def nh (n:Nat):Nat:=(31+n)/8*8
def xZ (n:Nat):24+n<=nh n/\nh n<32+n/\nh n%8=0:=by unfold nh;omega
def UO (x:Nd):List UInt8:=[78,165,if x.del then 1 else 0,0]++be x.ck 4++be x.key 8++be x.data.length 4
def zEj (x:Nd):(UO x).length=20:=by simp[UO,xP]
def R_ (x:Nd):List UInt8:=UO x++x.data
def zEX (x:Nd):(R_ x).length=20+x.data.length:=by simp[R_,zEj]
def wR (n:Nat):List UInt8:=List.replicate n 0
def kH (x:Nd):List UInt8:=R_ x++ck (R_ x)++wR (nh x.data.length-(24+x.data.length))
def S8 (l:List UInt8):(ck l).length=4:=rfl
def qC (x:Nd):(kH x).length=nh x.data.length:=by
 have:=xZ x.data.length;simp only[kH,ax,zEX,S8,wR,dw];omega
def Km (b:List UInt8):Nat:=val ((b.drop 16).take 4)
def UP (b:List UInt8):Prop:=sW b 0=78/\sW b 1=165/\(sW b 2).toNat<=1/\sW b 3=0/\Km b<=4096/\(sW b 2=1->Km b=0)
instance (b:List UInt8):Decidable (UP b):=by unfold UP;exact inferInstance
def zOJ (b:List UInt8):List UInt8:=(b.drop (24+Km b)).take (nh (Km b)-(24+Km b))
structure NOk (b:List UInt8):Prop where
 long:20<=b.length
 form:UP b
 whole:nh (Km b)<=b.length
 sum:ck (b.take (20+Km b))=(b.drop (20+Km b)).take 4
 pad:(zOJ b).all (·==0)=true
def eY (n:Nat):Nat:=if n<=4096 then nh n else 0
def Ns (h:n<=4096):eY n=nh n:=by unfold eY;rw[ah h]
def wI (n:Nat):eY n<=4127:=by
 unfold eY
 split
 ·have:=xZ n;omega
 omega
def qm (n:Nat) (w:World) (h:n<=1000000):Calls prog 53 #[.int .i64 (n:Int)] w fun e w'=>e=.returned (.int .i64 ((eY n:Nat):Int))/\w=w':=by
 by_cases hn:n<=4096
 ·have HS:=zh (show ((eY n:Nat):Int)=(20+(n:Int)+4+8-1)/8*8 by unfold eY nh;rw[ah hn];omega);have hd:decide ((4096:Int)<(n:Int))=false:=by simp;omega
  have hd2:decide ((n:Int)<0)=false:=by simp
  go_enter func53,ntmps53
  go_wp2_with fail;go_ret;exact ⟨xe (by rw[HS.o]),rfl⟩
 have HS:=zh (show eY n=0 by unfold eY;rw[ai hn]);have hd:decide ((4096:Int)<(n:Int))=true:=by simp;omega
 have hd2:decide ((n:Int)<0)=false:=by simp
 go_enter func53,ntmps53
 go_wp2_with fail;go_ret;exact ⟨xe (by rw[HS.o];rfl),rfl⟩
def UQ (n:Nat) (w:World) (h:n<=1000000):Calls prog 28 #[.int .i64 (n:Int)] w fun e w'=>e=.returned (.int .i64 ((eY n:Nat):Int))/\w=w':=by
 by_cases hn:n<=4096
 ·have HS:=zh (show ((eY n:Nat):Int)=(20+(n:Int)+4+8-1)/8*8 by unfold eY nh;rw[ah hn];omega);have hd:decide ((4096:Int)<(n:Int))=false:=by simp;omega
  have hd2:decide ((n:Int)<0)=false:=by simp
  go_enter func28,ntmps28
  go_wp2_with fail;go_ret;exact ⟨xe (by rw[HS.o];omega),rfl⟩
 have HS:=zh (show eY n=0 by unfold eY;rw[ai hn]);have hd:decide ((4096:Int)<(n:Int))=true:=by simp;omega
 have hd2:decide ((n:Int)<0)=false:=by simp
 go_enter func28,ntmps28
 go_wp2_with fail;go_ret;exact ⟨xe (by rw[HS.o];rfl),rfl⟩
def vJ {B:Nat} {e e':TypeId} {sz p:Nat} {cs:Array Value} (h:w.ownsRow B e sz v n xs) (hp:w.heap[p]?=some (.cells cs e' (0,0))) (hne:e≠e'):v.ownBlock≠some p:=fun e1=>by
 obtain ⟨c,fz,h1⟩:=Lib.ownsRow_kind h p e1;rw[h1] at hp;injection hp with hp;injection hp with _ hp;exact hne hp
def tK {B:Nat} {e:TypeId} {sz:Nat} (h:w.ownsRow B e sz v n xs) {p:Addr} (hne:v.ownBlock≠some p.block) (u:Value):(w.setCell p u).ownsRow B e sz v n xs:=by
 refine ⟨h.1,?_⟩;rcases h.2 with h0|⟨g,cap,cur,rfl,hb,hg,rest⟩
 ·exact .inl h0
 refine .inr ⟨g,cap,cur,rfl,hb,?_,rest⟩;rw[Below.heap_setCell w p u g (fun e=>hne (by rw[<- e];rfl))];exact hg
def qI (s:List It) (x:It) (k:Int):gF (ins s x) k=if x.key=k then some x else gF s k:=by
 by_cases h:x.key=k
 ·rw[ah h,<- h];exact vy x s
 rw[ai h];exact vW x k (aQ h) s
def UR (s:List It) (key k:Int):gF (iB s key) k=if k=key then none else gF s k:=by
 by_cases h:k=key
 ·rw[ah h,h];exact pU s key
 rw[ai h];exact ut key k h s
def zLW (u:List It) (x:It):gu (u++[x])=ins (gu u) x:=by rw[ki];rfl
def zz (s:List It):Nat:=(s.map fun x=>eY x.size.toNat).sum
def xW (s t:List It):zz (s++t)=zz s+zz t:=by simp[zz]
def qY (s:List It):zz s<=s.length*4127:=by
 induction s with
 |nil=>exact ag _
 |cons x l ih =>
  have:=wI x.size.toNat
  show eY x.size.toNat+zz l<=_
  rw[aW];omega
def US:∀ (u v:List It) (x:It),(∀ z∈u,z.key<x.key)->ins (u++v) x=u++ins v x
 |[],_,_,_=>rfl
 |y::u,v,x,h=>by
  show ins (y::(u++v)) x=y::(u++ins v x)
  simp only[ins];rw[ah (h y (by simp)),US u v x (fun z hz=>h z (by simp[hz]))]
def Tk:∀ (u v:List It) (x:It),(∃ z∈u,x.key<=z.key)->ins (u++v) x=ins u x++v
 |[],_,_,h=>by obtain ⟨z,hz,_⟩:=h;cases hz
 |y::u,v,x,h=>by
  show ins (y::(u++v)) x=ins (y::u) x++v
  simp only[ins]
  split
  ·rename_i hlt
   rw[Tk u v x (by
    obtain ⟨z,hz,hx⟩:=h
    rcases List.mem_cons.1 hz with rfl|hz
    ·omega
    exact ⟨z,hz,hx⟩)]
   rfl
  split<;>rfl
def zKh (u:List It) (y:It) (key:Int):iB (u++[y]) key=iB u key++if y.key=key then [] else [y]:=by
 unfold iB;rw[cU]
 by_cases h:y.key=key
 ·rw[ah h];simp[h]
 rw[ai h];simp[h]
structure iT (s:List It) (x:It) (i:Nat) (done:Bool) (out:List It):Prop where
 no:done=false->out=s.take i/\∀ z∈s.take i,z.key<x.key
 yes:done=true->out=ins (s.take i) x/\∃ j,j<i/\x.key<=(eA s j).key
def iT.start (s:List It) (x:It):iT s x 0 false []:=⟨fun _=>⟨rfl,fun z hz=>by cases hz⟩,fun h=>by cases h⟩
variable {s out:List It} {x:It} {i:Nat}
def iT.low (h:iT s x i false out) (hi:i<s.length) (hk:(eA s i).key<x.key):iT s x (i+1) false (out++[eA s i]):=by
 obtain ⟨h1,h2⟩:=h.no rfl;refine ⟨fun _=>⟨by rw[xT hi,h1],fun z hz=>?_⟩,fun h=>by cases h⟩;rw[xT hi] at hz;rcases List.mem_append.1 hz with hz|hz
 ·exact h2 z hz
 rw[List.mem_singleton.1 hz];exact hk
def iT.here (h:iT s x i false out) (hi:i<s.length) (hk:(eA s i).key=x.key):iT s x (i+1) true (out++[x]):=by
 obtain ⟨h1,h2⟩:=h.no rfl;refine ⟨(fun h=>by cases h),fun _=>⟨?_,i,by omega,by omega⟩⟩;rw[xT hi,US _ _ _ h2,h1];simp only[ins];rw[ai (by omega),ah hk]
def iT.ahead (h:iT s x i false out) (hi:i<s.length) (hk:x.key<(eA s i).key):iT s x (i+1) true (out++[x]++[eA s i]):=by
 obtain ⟨h1,h2⟩:=h.no rfl;refine ⟨(fun h=>by cases h),fun _=>⟨?_,i,by omega,by omega⟩⟩;rw[xT hi,US _ _ _ h2,h1];simp only[ins];rw[ai (by omega),ai (by omega),aY];rfl
def iT.gt (h:iT s x i true out) (ha:mK s) (hi:i<s.length):x.key<(eA s i).key:=by
 obtain ⟨_,j,hj,hx⟩:=h.yes rfl;exact Int.lt_of_le_of_lt hx (ha.mono hj hi)
def iT.more (h:iT s x i true out) (hi:i<s.length):iT s x (i+1) true (out++[eA s i]):=by
 obtain ⟨h1,j,hj,hx⟩:=h.yes rfl;refine ⟨(fun h=>by cases h),fun _=>⟨?_,j,by omega,hx⟩⟩;rw[xT hi,Tk _ _ _ ⟨eA s j,?_,hx⟩,h1];have hm:eA (s.take i) j∈s.take i:=qk (by rw[aB];omega)
 rwa [vG hj] at hm
def iT.UT (h:iT s x s.length true out):out=ins s x:=by
 have:=(h.yes rfl).1
 rwa [bQ] at this
def iT.UU (h:iT s x s.length false out):out++[x]=ins s x:=by
 obtain ⟨h1,h2⟩:=h.no rfl;rw[bQ] at h1 h2;rw[Us x s h2,h1]
def iT.len {b:Bool} (h:iT s x i b out):out.length<=i+1:=by
 cases b with
 |false=>rw[(h.no rfl).1,aB];omega
 |true =>
  have:=uJ x (s.take i);rw[(h.yes rfl).1];have h2:(s.take i).length<=i:=by rw[aB];omega
  omega
def zMJ {l:List It} {key:Int} {r:Nat} (h:r<l.length) (hk:(eA l r).key=key) (hn:∀ j,r<j->j<l.length->(eA l j).key≠key):gF (gu l) key=some (eA l r):=by
 rw[UK];have e:l=l.take r++eA l r::l.drop (r+1):=by rw[<- uC h,b7]
 have h0:(l.drop (r+1)).filter (fun y=>y.key==key)=[]:=by
  rw[List.filter_eq_nil_iff];intro y hy;obtain ⟨j,hj,rfl⟩:=uc hy;rw[wL];rw[aT] at hj
  simpa using hn (r+1+j) (by omega) (by omega)
 conv=>lhs;rw[e]
 rw[cU,cG,ah (by simp[hk]),h0,List.getLast?_append]
 rfl
def zIz {l:List It} {key:Int} (hn:∀ j,j<l.length->(eA l j).key≠key):gF (gu l) key=none:=by
 rw[UK];have h0:l.filter (fun y=>y.key==key)=[]:=by
  rw[List.filter_eq_nil_iff];intro y hy;obtain ⟨j,hj,rfl⟩:=uc hy
  simpa using hn j hj
 rw[h0];rfl
def Tl (s v:List It):List It:=v.foldl ins s
end Go.Proofs.YtcgfilmmokmdjaaGreat
