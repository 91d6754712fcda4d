import Derived.Test.YtcgfilmmokmdjaaGreatSlv
import Derived.Deep.Cut
set_option linter.all false
set_option maxRecDepth 100000
set_option maxHeartbeats 32000000
namespace Go.Proofs.YtcgfilmmokmdjaaGreat
open Go.Proofs.Tryz
open Go.RowKit
def qG (i l:Int) (r:Bool) (a:Option Addr) (n c:Nat) (L:List GP) (w:World) (h:fB w (.slice a n c) L) (hs:∀ p∈L,∀ j,j<8->(p.1.m.st j).length<=10000) :
  Calls prog 84 #[zQ i l r a n c] w fun e w'=>e=.returned (.bool (wu ⟨i,l,r,ey L⟩))/\Below w.heap.size w w':=by
 have fV:=zh (fun W (hb:Below w.heap.size w W)=>zt i l r a n c L W (h.bb hb) hs);have eO:=zh (fp.new w i l r a n c 31);have eP:=zh (zR w i l r a n c 31);have hcs:wu ⟨i,l,r,ey L⟩=(zb ⟨i,l,r,ey L⟩&&decide ((zZ ⟨i,l,r,ey L⟩).num<8)):=rfl;rw[hcs];clear hcs
 cases hv:zb ⟨i,l,r,ey L⟩
 ·rw[hv] at fV;clear h hs hv
  go_enter func84,ntmps84
  go_upto_region 1 with fail;obtain ⟨W,hW⟩:∃ W,w.alloc (.cells (zM i l r a n c) 31)=W:=⟨_,rfl⟩
  change Code.wp _ _ _ _ (w.alloc (.cells (zM i l r a n c) 31));rw[hW] at eO eP |-;clear hW;have pH:=eO.o.lt;obtain ⟨k0,k1,k2,k3⟩:=eO.o.q;go_wp2_with fail;refine (fV.o _ eP.o).mono ?_;rintro e w1 ⟨rfl,hb1⟩;have eV:=zh (zA eP.o hb1);clear k0 k1 k2 k3 hb1;go_wp2_with fail;go_ret;exact ⟨rfl,eV.o⟩
 rw[hv] at fV;have hV:=(zX _).1 hv;have fT:L.length=n:=by
  obtain ⟨_,_,e,_⟩:=h.shape;injection e with _ e _;exact e.symm
 have hl:(ey L).length=n:=by rw[zk,fT]
 have hn:1<=n/\n<=8:=by have:=hV.len;simp only[hl] at this;exact this
 obtain ⟨j,rfl⟩:∃ j,n=j+1:=⟨n-1,by omega⟩
 rw[wZ fT];have HR:=zh h;clear hV fT hl hv h hs;obtain ⟨b,off,rfl,hg⟩:=HR.o.at (show j<j+1 by omega);have HG:=zh hg;clear hg HR;generalize pat L j=p at *;obtain ⟨⟨num,rev,md,sz,f,LV,GA⟩,s⟩:=p;dsimp only at *
 go_enter func84,ntmps84
 go_upto_region 1 with fail;obtain ⟨W,hW⟩:∃ W,w.alloc (.cells (zM i l r (some ⟨b,off,none⟩) (j+1) c) 31)=W:=⟨_,rfl⟩
 change Code.wp _ _ _ _ (w.alloc (.cells (zM i l r (some ⟨b,off,none⟩) (j+1) c) 31));rw[hW] at eO eP |-;clear hW;have pH:=eO.o.lt;obtain ⟨k0,k1,k2,k3⟩:=eO.o.q;go_wp2_with fail;refine (fV.o _ eP.o).mono ?_;rintro e w1 ⟨rfl,hb1⟩;clear k0 k1 k2 k3;have eV:=zh (zA eP.o hb1);have fG:=zh (eO.o.bb hb1);have rG:=zh (HG.o.bb eV.o);clear hb1 eP eO HG fV;have j3:IntKind.i64.wrap (j:Int)=(j:Int):=aF _ (by omega);have i2:(j:Int)<((j+1:Nat):Int):=by omega
 have v3:=fG.o.c3;have g0:=rG.o.n0;dsimp only at g0;go_wp2_with fail;go_ret;exact ⟨by simp,eV.o⟩
open Go
section
variable {P:Program} {ops:Array Oper} {md:Region.Mode}
def SS (md:Region.Mode) (ops:Array Oper) (n:Nat):Bool:=
 decide (n<ops.size)&&Region.sinkB md ops n&&Region.chainB md ops n &&
 ((List.range n).all fun i=>((ops[i]?).map fun o=>o.after.all fun e=>!Region.binds md e||decide (e.on<i)).getD false) &&
 ((List.range n).all fun i=>(List.range n).all fun j=>decide (i=j)||decide (zW ops i=none)||decide (zW ops i≠zW ops j)) &&
 Region.seqB md ops (ops.size-n) n ((List.range ops.size).map fun j=>decide (j<n)).toArray
def nY (L:Nat->Bool) (i:Nat):Nat->Bool:=fun j=>if j=i then true else L j
variable {Q:Exit->Act->World->Prop}
def SU (J:Value->World->Prop) (ds:List Deferred) (d:Option Tmp) (a':Act) (w':World):Prop:=
 a'.defers=ds/\(d=none->∀ v,J v w')/\∀ t,d=some t->J (a'.tmps.getD t undef) w'
def zMn {n:Nat} {a0:Act} {I:(Nat->Bool)->(Nat->Value)->World->Prop} {l:List Oper} (hl:ops=l.toArray) (hB:SS md ops n=true) (hN:∀ i,i<n->∀ t,zW ops i=some t->t<a0.tmps.size)
  (head:∀ i o,i<n->ops[i]?=some o->∀ L f w,L i=false->(∀ e∈o.after,Region.binds md e=true->L e.on=true)->I L f w ->
   wpList P ops (Exit.then (SU (fun v w'=>I (nY L i) (xM f i v) w') (fU ops a0 f n).defers o.dst) Q) [o] (fU ops a0 f n) w)
  (tail:∀ L f w,(∀ j,j<n->L j=true)->I L f w->wpList P ops Q (l.drop n) (fU ops a0 f n) w) :
  ∀ (fuel:Nat) (T:List Nat) (s:Array Bool) (L:Nat->Bool) (f:Nat->Value) (w:World),(∀ j,s.getD j false=L j)->T.Nodup->T.length=fuel->(∀ j,j<n->(s.getD j false=false↔j∈T))->(∀ j∈T,j<n)->HeadInv md ops n s->I L f w ->
   wpAny P md ops Q (fuel+(ops.size-n)) s (fU ops a0 f n) w:=by
 simp only[SS,aO,aR] at hB;obtain ⟨⟨⟨⟨⟨hn,hs⟩,hc⟩,hfw⟩,hdd⟩,Jr⟩:=hB;have sH:∀ i o,i<n->ops[i]?=some o->∀ e∈o.after,Region.binds md e=true->e.on<i:=fun i o hi ho e he hb=>by
  have:=List.all_eq_true.1 hfw i (List.mem_range.2 hi);rw[ho] at this;simp only[dN,bC] at this;have h2:=Array.all_eq_true_iff_forall_mem.1 this e he;rw[hb] at h2
  simpa using h2
 have Bd:∀ i j,i<n->j<n->i≠j->zW ops i=none∨zW ops i≠zW ops j:=fun i j hi hj hij=>by
  have:=List.all_eq_true.1 (List.all_eq_true.1 hdd i (List.mem_range.2 hi)) j (List.mem_range.2 hj)
  simpa [hij] using this
 intro fuel
 induction fuel with
 |zero =>
  intro T s L f w hL hT hlen mS Al inv hI;have Js:T=[]:=List.length_eq_zero_iff.1 hlen;subst Js;have hall:∀ j,j<n->s.getD j false=true:=fun j hj=>by
   cases h:s.getD j false with
   |true=>rfl
   |false=>exact absurd ((mS j hj).1 h) (by simp)
  have Iw:s=((List.range ops.size).map fun j=>decide (j<n)).toArray:=by
   apply Array.ext
   ·simp[inv.size]
   intro j h1 h2;have jw:j<ops.size:=by rw[<- inv.size];exact h1
   simp only[aV,dB,dS]
   by_cases e:j<n
   ·have:=hall j e;rw[bB,bI h1] at this;simp only[bC] at this;rw[this];simp[e]
   have:=inv.tail j (by omega) jw;rw[bB,bI h1] at this;simp only[bC] at this;rw[this];simp[e]
  rw[aN];have iz:(l.drop n).length=ops.size-n:=by rw[hl];simp
  have h3:=wpAny_of_seq (P:=P) (md:=md) (ops:=ops) (Q':=Q) (l.drop n) n s (fU ops a0 f n) w (fun j=>by rw[hl];simp[cR]) (by rw[iz,Iw];exact Jr) (tail L f w (fun j hj=>by rw[<- hL];exact hall j hj) hI)
  rwa [iz] at h3
 |succ fuel ih =>
  intro T s L f w hL hT hlen mS Al inv hI;have Be:T≠[]:=fun e=>by rw[e] at hlen;cases hlen
  obtain ⟨m,hm,hle⟩:=qM Be;have hmn:=Al m hm;have hun:s.getD m false=false:=(mS m hmn).2 hm;have Gl:m<s.size:=by rw[inv.size];omega
  obtain ⟨om,D6⟩:∃ o,ops[m]?=some o:=⟨_,bI (by omega)⟩
  have l6:m∈Region.ready md ops s:=mem_ready.2 ⟨getD_in Gl hun,om,D6,fun e he lK=>by
   have h1:=sH m om hmn D6 e he lK
   cases h2:s.getD e.on false with
   |true=>rfl
   |false =>
    have:=hle _ ((mS e.on (by omega)).1 h2)
    omega⟩
  rw[show fuel+1+(ops.size-n)=(fuel+(ops.size-n))+1 by omega];refine ⟨fun e=>absurd l6 (by rw[e];simp),fun i hi=>?_⟩;obtain ⟨Fw,oi,hoi,nM⟩:=mem_ready.1 hi;have hin:i<n:=Nat.lt_of_not_le fun h=>tail_waits hs hc hn inv _ m rfl hmn (getD_in Gl hun) i h hi
  have Jt:i∈T:=(mS i hin).1 (getD_both Fw);have o9:zW ops i=oi.dst:=by unfold zW;rw[hoi];rfl
  unfold wpOp;rw[hoi];simp only[];have hh:=head i oi hin hoi L f w (by rw[<- hL];exact getD_both Fw) (fun e he lK=>by rw[<- hL];exact nM e he lK) hI;refine Pt hh (fun v w' hR=>?_) (fun d v w' hR=>?_)
  ·obtain ⟨_,hv0,hv⟩:=hR;have hval:I (nY L i) (xM f i v) w':=by
    cases hd:oi.dst with
    |none=>exact hv0 hd v
    |some t =>
     have h4:=hv t hd;have h5:t<(fU ops a0 f n).tmps.size:=by rw[tH];exact hN i hin t (by rw[o9,hd])
     rw[hd] at h4
     simpa [Act.put,h5] using h4
   rw[<- o9,qZ ops a0 f i v n hin fun j hj hji=>Bd i j hin hj (aQ hji)];refine ih (T.erase i) _ (nY L i) _ w' (fun j=>?_) (hT.erase i) (by rw[List.length_erase_of_mem Jt];omega) (fun j hj=>?_) (fun j hj=>Al j (List.mem_of_mem_erase hj)) (inv.set hi hin) hval
   ·unfold nY
    by_cases e:j=i
    ·subst e;have jw:j<s.size:=by rw[inv.size];omega
     simp[bB,jw]
    rw[bH false (aQ e),hL j,ai e]
   rw[hT.mem_erase_iff]
   by_cases e:j=i
   ·subst e;have jw:j<s.size:=by rw[inv.size];omega
    simp[bB,jw]
   rw[bH false (aQ e),mS j hj];simp[e]
  have h1:=hR.1;have h2:=aM List.length h1
  cases Ju:oi.dst<;>simp[Act.put,Ju] at h2
def SV (P:Program) (Q:Exit->Act->World->Prop) (ops:Array Oper) (I:(Nat->Bool)->(Nat->Value)->World->Prop) (fr:(Nat->Value)->Act):List Oper->Nat->Nat->Prop
 |o::r,m+1,i=>(∀ L f w,L i=false->(∀ j,Jv o j=true->L j=true)->I L f w->wpList P ops (Exit.then (SU (fun v w'=>I (nY L i) (xM f i v) w') (fr f).defers o.dst) Q) [o] (fr f) w)/\SV P Q ops I fr r m (i+1)
 |_,_,_=>True
def Wv {ops:Array Oper} {I:(Nat->Bool)->(Nat->Value)->World->Prop} {fr:(Nat->Value)->Act}:∀ (l:List Oper) (m k:Nat),SV P Q ops I fr l m k ->
  ∀ i o,l[i]?=some o->i<m->∀ L f w,L (k+i)=false->(∀ j,Jv o j=true->L j=true)->I L f w->wpList P ops (Exit.then (SU (fun v w'=>I (nY L (k+i)) (xM f (k+i) v) w') (fr f).defers o.dst) Q) [o] (fr f) w
 |[],_,_,_,i,o,ho,_=>by simp at ho
 |o::r,0,_,_,i,_,_,hS=>by omega
 |o::r,m+1,k,h,0,o',ho,_=>by
  simp at ho;subst ho;exact h.1
 |o::r,m+1,k,h,i+1,o',ho,hm=>by
  have:=Wv r m (k+1) h.2 i o' (by simpa using ho) (by omega)
  rwa [show k+1+i=k+(i+1) by omega] at this
def wi {id:Nat} {a0:Act} {w:World} {l:List Oper} (n:Nat) (I:(Nat->Bool)->(Nat->Value)->World->Prop) (N:Nat) (hm:P.follows .mixedOrders=true) (hB:SS .any l.toArray n=true)
  (hsz:a0.tmps.size=N) (hN:Pu l.toArray n N=true) {fr:(Nat->Value)->Act} (hfr:∀ f,fU l.toArray a0 f n=fr f)
  (start:∀ f,I (fun _=>false) f w.drew)
  (head:SV P Q l.toArray I fr l n 0)
  (tail:∀ L f w1,(∀ j,j<n->L j=true)->I L f w1->wpList P l.toArray Q (l.drop n) (fr f) w1):(Code.region id l.toArray true).wp P Q a0 w:=by
 have hn:n<l.toArray.size:=by
  simp only[SS,aO,aR] at hB;exact hB.1.1.1.1.1
 refine wp_region_any hm ?_;have h:=zMn (md:=.any) (Q:=Q) (P:=P) (n:=n) (a0:=a0) (I:=I) rfl hB
  (fun i hi t ht=>by
   have h1:=List.all_eq_true.1 hN i (List.mem_range.2 hi)
   rw[ht] at h1
   rw[hsz]
   simpa using h1)
  (fun i o hi ho L f w1 h0 hd hI=>by
   rw[hfr]
   have h2:=Wv l n 0 head i o (by simpa using ho) hi L f w1 (by rwa [aN]) (fun j hj=>by
    unfold Jv at hj
    obtain ⟨e,he,h3⟩:=Array.any_eq_true'.1 hj
    simp only[aO,cM] at h3
    rw[<- h3.2]
    exact hd e he h3.1) hI
   rwa [aN] at h2)
  (fun L f w1 hA hI=>by rw[hfr];exact tail L f w1 hA hI)
  n (List.range n) (Array.replicate l.toArray.size false) (fun _=>false) (fun j=>match zW l.toArray j with|some d=>a0.tmps.getD d undef|none=>undef) w.drew
  (fun j=>getD_replicate_false _ _) List.nodup_range (by simp) (fun j hj=>by rw[getD_replicate_false];simp[hj]) (fun j hj=>by simpa using hj)
  ⟨by simp,fun j oj _ hl=>(by rw[getD_replicate_false] at hl;cases hl),fun t _ ht=>getD_in (by simpa using ht) (getD_replicate_false _ _)⟩
  (start _)
 have e0:fU l.toArray a0 (fun j=>match zW l.toArray j with|some d=>a0.tmps.getD d undef|none=>undef) n=a0:=NG _ _ _;rw[e0,show n+(l.toArray.size-n)=l.toArray.size by omega] at h;exact h
end
variable {w:World}
def pIv {J:Value->World->Prop} {d:Tmp} {ts:Array Value} (h:J (ts.getD d undef) w):SU J [] (some d) ⟨ts,[]⟩ w:=⟨rfl,(fun h=>by cases h),fun t ht=>by injection ht with ht;subst ht;exact h⟩
variable {i j:Nat}
def zO {L:Nat->Bool} (h:j≠i):nY L i j=L j:=ai h
variable {v:Value}
def yt {f:Nat->Value} (h:j≠i):xM f i v j=f j:=ai h
def vN (L:Nat->Bool) (i:Nat):nY L i i=true:=ah rfl
def vM (f:Nat->Value) (i:Nat) (v:Value):xM f i v i=v:=ah rfl
structure sI (T:TypeId) (m:Nat) (xs ys:List Value) (ps:List (Nat×Value)) (B0:Nat) (w6:World) (L:Nat->Bool) (f:Nat->Value) (W:World):Prop where
 ji:∀ q∈ps,L q.1=true->f q.1=q.2
 hb:Below B0 w6 W
 sz:B0<=W.heap.size
 a0:L 0=true->L 6=false->∃ b,f 0=.slice (some ⟨b,0,none⟩) 0 0/\W.ownsRow B0 T 14 (.slice (some ⟨b,0,none⟩) 0 0) 0 []/\b<W.heap.size/\(L 9=true->f 9≠.slice (some ⟨b,0,none⟩) 2 2)
 a6:L 6=true->L 10=false->∃ a c,f 6=.slice a m c/\W.ownsRow B0 T 14 (.slice a m c) m xs
 a9:L 9=true->L 10=false->∃ k,f 9=.slice (some ⟨k,0,none⟩) 2 2/\B0<=k/\k<W.heap.size/\Rd W 14 (.slice (some ⟨k,0,none⟩) 2 2) 2 ys
 Px:L 10=true->∃ a c,f 10=.slice a (m+2) c/\W.ownsRow B0 T 14 (.slice a (m+2) c) (m+2) (xs++ys)
 d6:L 6=true->L 0=true
 d10:L 10=true->L 6=true/\L 9=true
section
variable {T:TypeId} {m:Nat} {xs ys:List Value} {ps:List (Nat×Value)} {B0:Nat} {w6 W W':World} {L:Nat->Bool} {f:Nat->Value}
def sI.start (hs:B0=w6.heap.size) (f:Nat->Value):sI T m xs ys ps B0 w6 (fun _=>false) f w6.drew:=by
 subst hs;exact ⟨(fun _ _ h=>by cases h),zV (aj _ _),ag _,(fun h=>by cases h),(fun h=>by cases h),(fun h=>by cases h),(fun h=>by cases h),(fun h=>by cases h),fun h=>by cases h⟩
def sI.pure (h:sI T m xs ys ps B0 w6 L f W) {i:Nat} {v:Value} (h0:0≠i) (h6:6≠i) (h9:9≠i) (h10:10≠i) (hp:∀ q∈ps,q.1=i->v=q.2):sI T m xs ys ps B0 w6 (nY L i) (xM f i v) W:=by
 refine ⟨fun q hq hL=>?_,h.hb,h.sz,?_,?_,?_,?_,?_,?_⟩
 ·by_cases e:q.1=i
  ·rw[e,vM];exact hp q hq e
  rw[yt e];rw[zO e] at hL;exact h.ji q hq hL
 ·rw[zO h0,zO h6,zO h9,yt h0,yt h9];exact h.a0
 ·rw[zO h6,zO h10,yt h6];exact h.a6
 ·rw[zO h9,zO h10,yt h9];exact h.a9
 ·rw[zO h10,yt h10];exact h.Px
 ·rw[zO h6,zO h0];exact h.d6
 rw[zO h10,zO h6,zO h9];exact h.d10
def sI.LS (h:sI T m xs ys ps B0 w6 L f W) (h6:L 6=false∨L 9=false):L 10=false:=by
 cases e:L 10 with
 |false=>rfl
 |true=>have:=h.d10 e;rcases h6 with h6|h6<;>simp[h6] at this
def sI.no6 (h:sI T m xs ys ps B0 w6 L f W) (h0:L 0=false):L 6=false:=by
 cases e:L 6 with
 |false=>rfl
 |true=>have:=h.d6 e;rw[h0] at this;cases this
def sI.zero (h:sI T m xs ys ps B0 w6 L f W) (h0:L 0=false) (hp:∀ q∈ps,q.1≠0):sI T m xs ys ps B0 w6 (nY L 0) (xM f 0 (.slice (some ⟨W.heap.size,0,none⟩) 0 0)) (W.alloc (.cells #[] T)):=by
 have hA:=(aj W.heap.size W).alloc (ag _) (.cells #[] T);have n6:=h.no6 h0;have n10:=h.LS (.inl n6);refine ⟨fun q hq hL=>?_,h.hb.alloc h.sz _,ak h.sz hA.size,fun _ _=>⟨W.heap.size,vM ..,cT (size:=14) W #[] 0 h.sz (by decide) rfl,by simp,fun h9 e=>?_⟩,?_,?_,?_,?_,?_⟩
 ·rw[yt (hp q hq)];rw[zO (hp q hq)] at hL;exact h.ji q hq hL
 ·rw[zO (by decide)] at h9;rw[yt (by decide)] at e;obtain ⟨k,e9,_,hk,_⟩:=h.a9 h9 n10;rw[e9] at e;injection e with e;injection e with e;injection e with e;omega
 ·rw[zO (by decide),n6];intro e;cases e
 ·rw[zO (by decide),zO (by decide),yt (by decide)];intro e1 e2;obtain ⟨k,e9,h1,hk,hr⟩:=h.a9 e1 e2;exact ⟨k,e9,h1,cH hk hA.size,hr.bb hA⟩
 ·rw[zO (by decide),n10];intro e;cases e
 ·rw[zO (by decide),n6];intro e;cases e
 rw[zO (by decide),n10];intro e;cases e
def sI.two (h:sI T m xs ys ps B0 w6 L f W) (h9:L 9=false) (hy:ys.length=28) (hp:∀ q∈ps,q.1≠9):sI T m xs ys ps B0 w6 (nY L 9) (xM f 9 (.slice (some ⟨W.heap.size,0,none⟩) 2 2)) (W.alloc (.cells ys.toArray T)):=by
 have hA:=(aj W.heap.size W).alloc (ag _) (.cells ys.toArray T);have n10:=h.LS (.inr h9);refine ⟨fun q hq hL=>?_,h.hb.alloc h.sz _,ak h.sz hA.size,?_,?_,fun _ _=>⟨W.heap.size,vM ..,h.sz,by simp,Rd.new W 14 ys T 2 (by rw[hy]) (by decide)⟩,?_,?_,?_⟩
 ·rw[yt (hp q hq)];rw[zO (hp q hq)] at hL;exact h.ji q hq hL
 ·rw[zO (i:=9) (j:=0) (by decide),zO (i:=9) (j:=6) (by decide),yt (i:=9) (j:=0) (by decide),vM];intro e0 e6;obtain ⟨b,e1,ho,hb,_⟩:=h.a0 e0 e6;refine ⟨b,e1,zE ho hA,cH hb hA.size,fun _ e=>?_⟩;injection e with e;injection e with e;injection e with e;omega
 ·rw[zO (i:=9) (j:=6) (by decide),zO (i:=9) (j:=10) (by decide),yt (i:=9) (j:=6) (by decide)];intro e6 Bc;obtain ⟨a,c,e1,ho⟩:=h.a6 e6 Bc;exact ⟨a,c,e1,zE ho hA⟩
 ·rw[zO (by decide),n10];intro e;cases e
 ·rw[zO (by decide),zO (by decide)];exact h.d6
 rw[zO (by decide),n10];intro e;cases e
def sI.Ww (h:sI T m xs ys ps B0 w6 L f W) (h0:L 0=true) (h6:L 6=false) (hp:∀ q∈ps,q.1≠6):∃ b,f 0=.slice (some ⟨b,0,none⟩) 0 0/\W.ownsRow B0 T 14 (.slice (some ⟨b,0,none⟩) 0 0) 0 [] /\
  ∀ v W',W'.ownsRow B0 T 14 v m xs->W.grownBy W' (Value.slice (some ⟨b,0,none⟩) 0 0).ownBlock->sI T m xs ys ps B0 w6 (nY L 6) (xM f 6 v) W':=by
 have n10:=h.LS (.inl h6);obtain ⟨b,e0,ho,hb,hne⟩:=h.a0 h0 h6;refine ⟨b,e0,ho,fun v W' hown hg=>?_⟩;obtain ⟨a,c,ev,_⟩:=zG hown;have hW:Below B0 W W':=zK (aj B0 W) ho h.sz hg;refine ⟨fun q hq hL=>?_,h.hb.trans hW,ak h.sz hW.size,?_,?_,?_,?_,?_,?_⟩
 ·rw[yt (hp q hq)];rw[zO (hp q hq)] at hL;exact h.ji q hq hL
 ·rw[vN];intro _ e;cases e
 ·rw[vM];intro _ _;exact ⟨a,c,ev,ev▸hown⟩
 ·rw[zO (i:=6) (j:=9) (by decide),zO (i:=6) (j:=10) (by decide),yt (i:=6) (j:=9) (by decide)];intro e9 Bc;obtain ⟨k,e1,h1,hk,hr⟩:=h.a9 e9 Bc;refine ⟨k,e1,h1,cH hk hW.size,hr.grown hg fun x hx e=>?_⟩;injection hx with hx;subst hx;have e2:some k=some b:=e;injection e2 with e2;exact hne e9 (by rw[e1,e2])
 ·rw[zO (by decide),n10];intro e;cases e
 ·intro _;rw[zO (i:=6) (j:=0) (by decide)];exact h0
 rw[zO (by decide),n10];intro e;cases e
def sI.Wx (h:sI T m xs ys ps B0 w6 L f W) (h6:L 6=true) (h9:L 9=true) (h10:L 10=false) (hp:∀ q∈ps,q.1≠10):∃ a c k,f 6=.slice a m c/\W.ownsRow B0 T 14 (.slice a m c) m xs/\f 9=.slice (some ⟨k,0,none⟩) 2 2/\Rd W 14 (.slice (some ⟨k,0,none⟩) 2 2) 2 ys /\
  ∀ v W',W'.ownsRow B0 T 14 v (m+2) (xs++ys)->W.grownBy W' (Value.slice a m c).ownBlock->sI T m xs ys ps B0 w6 (nY L 10) (xM f 10 v) W':=by
 obtain ⟨a,c,e6,ho⟩:=h.a6 h6 h10;obtain ⟨k,e9,_,_,hr⟩:=h.a9 h9 h10;refine ⟨a,c,k,e6,ho,e9,hr,fun v W' hown hg=>?_⟩;obtain ⟨a',c',ev,_⟩:=zG hown;have hW:Below B0 W W':=zK (aj B0 W) ho h.sz hg;refine ⟨fun q hq hL=>?_,h.hb.trans hW,ak h.sz hW.size,?_,?_,?_,?_,?_,?_⟩
 ·rw[yt (hp q hq)];rw[zO (hp q hq)] at hL;exact h.ji q hq hL
 ·rw[zO (i:=10) (j:=6) (by decide),h6];intro _ e;cases e
 ·rw[vN];intro _ e;cases e
 ·rw[vN];intro _ e;cases e
 ·rw[vM];intro _;exact ⟨a',c',ev,ev▸hown⟩
 ·rw[zO (i:=10) (j:=6) (by decide),zO (i:=10) (j:=0) (by decide)];exact h.d6
 rw[zO (i:=10) (j:=6) (by decide),zO (i:=10) (j:=9) (by decide)];intro _;exact ⟨h6,h9⟩
end
def Wy {l:List Gn} {k:Nat} (h:i<k) (hk:k<=l.length) (r:List Gn):fh (l.take k++r) i=fh l i:=by
 unfold fh;rw[aw,aw,List.getElem?_append_left (by rw[aB];omega),List.getElem?_take_of_lt h]
def SX {l:List Gn} {k:Nat} (hk:k<=l.length) (r:List Gn) (q:Nat):fh (l.take k++r) (k+q)=fh r q:=by
 unfold fh;rw[aw,aw,List.getElem?_append_right (by rw[aB];omega),aB]
 congr 2
 omega
def zBI (n:Int):zN (fresh n).m=[]:=by
 unfold zN;rw[ah (V4 n)]
 rfl
def fg.num {s:fk} (h:fg s):∀ i,i<s.ep.length->(i:Int)+1<=(fh s.ep i).num
 |0,hi=>by have:=(h.vg hi).num;omega
 |i+1,hi=>by
  have h1:=fg.num h i (by omega);have h2:=(h.g (i+1) hi).2.1 (by omega);rw[show i+1-1=i by omega] at h2;omega
def fg.EI {s:fk} (h:fg s):lI (zZ s)/\(zZ s).mode=1/\(zZ s).size<=2*s.lim:=by
 have hl:=h.len;have hi:s.ep.length-1<s.ep.length:=by omega
 obtain ⟨h1,h2,h3,h4⟩:=h.g _ hi;exact ⟨(yM _).1 h1,h3.2 (by omega),h4⟩
def zFv {s:fk} (h:(xb s).2=0):fg (xb s).1:=by
 unfold xb at h |-
 by_cases hv:zb s=true
 ·rw[ah hv] at h |-
  by_cases hn:(zZ s).num<8
  ·rw[ah hn] at h |-;have hV:=(zX s).1 hv;obtain ⟨ht,hm,hs⟩:=hV.EI;have hl:=hV.len;have gN:=hV.num (s.ep.length-1) (by omega);have gN:((s.ep.length-1:Nat):Int)+1<=(zZ s).num:=gN;have hk:s.ep.length-1<=s.ep.length:=by omega
   have hlen:(s.ep.take (s.ep.length-1)++[{zZ s with mode:=2},fresh ((zZ s).num+1)]).length=s.ep.length+1:=by
    simp only[ax,aB,aW,dK];omega
   have hf:=(V8 ((zZ s).num+1)).2 (by omega);refine ⟨hV.id,hV.lim,by dsimp only;rw[hlen];omega,fun i hi=>?_,?_⟩
   ·dsimp only at hi |-;rw[hlen] at hi;unfold DY;dsimp only;rw[hlen]
    by_cases h1:i<s.ep.length-1
    ·have ho:=hV.g i (by omega);rw[Wy h1 hk,Wy (show i-1<s.ep.length-1 by omega) hk];refine ⟨ho.1,ho.2.1,⟨fun e=>?_,fun e=>by omega⟩,ho.2.2.2⟩;have:=ho.2.2.1.1 e;omega
    by_cases h2:i=s.ep.length-1
    ·have e0:fh (s.ep.take (s.ep.length-1)++[{zZ s with mode:=2},fresh ((zZ s).num+1)]) i={zZ s with mode:=2}:=by
      have:=SX hk [{zZ s with mode:=2},fresh ((zZ s).num+1)] 0;rw[bE] at this;rw[h2,this];rfl
     rw[e0];refine ⟨(yM _).2 ⟨ht.num,ht.rev,by dsimp only;omega,ht.size,ht.m,ht.ends,ht.sum⟩,fun h0=>?_,⟨fun e=>by dsimp only at e;omega,fun e=>by omega⟩,hs⟩;rw[Wy (show i-1<s.ep.length-1 by omega) hk];have:=(hV.g i (by omega)).2.1 h0;rw[h2] at this |-;exact this
    have h3:i=s.ep.length-1+1:=by omega
    have e0:fh (s.ep.take (s.ep.length-1)++[{zZ s with mode:=2},fresh ((zZ s).num+1)]) i=fresh ((zZ s).num+1):=by
     rw[h3,SX hk _ 1];rfl
    have e1:fh (s.ep.take (s.ep.length-1)++[{zZ s with mode:=2},fresh ((zZ s).num+1)]) (i-1)={zZ s with mode:=2}:=by
     have:=SX hk [{zZ s with mode:=2},fresh ((zZ s).num+1)] 0;rw[bE] at this;rw[show i-1=s.ep.length-1 by omega,this];rfl
    rw[e0,e1];refine ⟨(yM _).2 hf,fun _=>by show (zZ s).num<(zZ s).num+1;omega,⟨fun _=>by omega,fun _=>rfl⟩,?_⟩
    show (16:Int)<=2*s.lim
    have:=hV.lim;omega
   dsimp only;rw[hlen];have e0:fh (s.ep.take (s.ep.length-1)++[{zZ s with mode:=2},fresh ((zZ s).num+1)]) (s.ep.length+1-1)=fresh ((zZ s).num+1):=by
    rw[show s.ep.length+1-1=s.ep.length-1+1 by omega,SX hk _ 1];rfl
   rw[e0,zBI]
   show (16:Int)+((0*24:Nat):Int)<=2*s.lim
   have:=hV.lim;omega
  rw[ai hn] at h;cases h
 rw[ai hv] at h;cases h
def zFR {s:fk} {g:Gn} (h:(yS s g).2=0):fg (yS s g).1:=by
 unfold yS at h |-
 by_cases hv:zb s=true
 ·rw[ah hv] at h |-
  by_cases hn:(s.ep.any fun x=>decide (x.num=g.num))=true
  ·rw[ah hn] at h |-
   by_cases hw:zb ⟨s.id,s.lim,s.ro,t7 s.ep g⟩=true
   ·rw[ah hw];exact (zX _).1 hw
   rw[ai hw] at h;cases h
  rw[ai hn] at h;cases h
 rw[ai hv] at h;cases h
abbrev LU (x:Nd) (v:Value):Value:=.agg #[.int .u64 (x.key:Int),.int .u32 (x.ck:Int),.bool x.del,v]
def zHa (w:World):ll w (.slice none 0 0) []:=vR (aP w 0 5 1)
def vI (p:Nd×Value):List Value:=[.int .u64 (p.1.key:Int),.int .u32 (p.1.ck:Int),.bool p.1.del,p.2]
def zI9 (p:Nd×Value):(vI p).length=4:=rfl
def xI (es:List (Nd×Value)):List Value:=es.flatMap vI
def vQ (es:List (Nd×Value)):(xI es).length=es.length*4:=ye 4 vI es fun x _=>zI9 x
def SY:wQ prog 23 56 4 40:=by
 obtain ⟨i,hi,hz,hs,hb⟩:=cq (P:=prog) (e:=56) (z:=.agg #[.int .u64 0,.int .u32 0,.bool false,.slice none 0 0]) (size:=4) (bytes:=40) (by kernel_rfl);exact ⟨underlying23,by decide,i,_,hi,hz,hs,hb,rfl⟩
structure mJ (w:World) (v:Value) (es:List (Nd×Value)):Prop where
 row:Rd w 4 v es.length (xI es)
 dat:∀ p∈es,ll w p.2 p.1.data
def mJ.bb {w w':World} {v:Value} {es:List (Nd×Value)} (h:mJ w v es) (hb:Below w.heap.size w w'):mJ w' v es:=⟨h.row.bb hb,fun p hp=>il.bb (h.dat p hp) hb⟩
def yw (es:List (Nd×Value)) (j:Nat):Nd×Value:=es.getD j (IA,.slice none 0 0)
variable {es:List (Nd×Value)}
def vh (h:j<es.length):yw es j∈es:=by
 unfold yw;rw[aw,aA h];exact bM h
def mJ.shape (h:mJ w v es):∃ a cap,v=.slice a es.length cap/\es.length<=cap/\cap<=maxLen:=by
 obtain ⟨_,a,cap,h1,h2,h3,_⟩:=h.row;exact ⟨a,cap,h1,h2,h3⟩
def mJ.at {a:Option Addr} {n cap:Nat} (h:mJ w (.slice a n cap) es) {j:Nat} (hj:j<n):∃ b off,a=some ⟨b,off,none⟩/\ll w (yw es j).2 (yw es j).1.data /\
  w.cell? ⟨b,off+j*4,none⟩=some (.int .u64 ((yw es j).1.key:Int))/\w.cell? ⟨b,off+j*4+1,none⟩=some (.int .u32 ((yw es j).1.ck:Int)) /\
  w.cell? ⟨b,off+j*4+2,none⟩=some (.bool (yw es j).1.del)/\w.cell? ⟨b,off+j*4+3,none⟩=some (yw es j).2:=by
 have hn:n=es.length:=by
  obtain ⟨_,_,_,e,_⟩:=h.row;injection e
 subst hn;obtain ⟨_,a',cap',e,_,_,_,hc⟩:=h.row;injection e with e1;obtain ⟨b,off,e2,hc⟩:=hc (by rw[vQ];omega);refine ⟨b,off,e1.trans e2,h.dat _ (vh hj),?_⟩
 have hat:∀ i,i<4->∀ u,(vI (yw es j))[i]?=some u->w.cell? ⟨b,off+(j*4+i),none⟩=some u:=fun i hi u hu=>hc (j*4+i) u (by
  rw[show xI es=es.flatMap vI from rfl,uh 4 vI (IA,.slice none 0 0) es (fun _ _=>rfl) j i hj hi];exact hu)
 exact ⟨hat 0 (by omega) _ rfl,hat 1 (by omega) _ rfl,hat 2 (by omega) _ rfl,hat 3 (by omega) _ rfl⟩
structure Bf (W:World) (b:Nat) (x:Nd) (v:Value):Prop where
 c0:W.cell? ⟨b,0,none⟩=some (.int .u64 (x.key:Int))
 c1:W.cell? ⟨b,1,none⟩=some (.int .u32 (x.ck:Int))
 c2:W.cell? ⟨b,2,none⟩=some (.bool x.del)
 c3:W.cell? ⟨b,3,none⟩=some v
 f:∀ i,W.frozen? ⟨b,i,none⟩=false
def Bf.q {W:World} {b:Nat} {x:Nd} (h:Bf W b x v):W.cell? ⟨b,0,none⟩=some (.int .u64 (x.key:Int))/\W.cell? ⟨b,1,none⟩=some (.int .u32 (x.ck:Int))/\W.cell? ⟨b,2,none⟩=some (.bool x.del)/\W.cell? ⟨b,3,none⟩=some v:=⟨h.c0,h.c1,h.c2,h.c3⟩
abbrev Jw (x:Nd) (v:Value):Array Value:=#[.int .u64 (x.key:Int),.int .u32 (x.ck:Int),.bool x.del,v]
def Bf.new (W:World) (x:Nd) (v:Value):Bf (W.alloc (.cells (Jw x v) 56)) W.heap.size x v:=⟨by simp,by simp,by simp,by simp,fun i=>by simp⟩
def qH (w:World) (x:Nd) (v:Value):Below w.heap.size w (w.alloc (.cells (Jw x v) 56)):=(aj _ _).alloc (ag _) _
def tR (x:Nd) (a:Option Addr) (cap:Nat) (w:World):Calls prog 80 #[LU x (.slice a x.data.length cap)] w fun e w'=>e=.returned (.bool (decide x.ok))/\Below w.heap.size w w':=by
 obtain ⟨k,c,d,l⟩:=x;dsimp only;have HB:Hid (Below w.heap.size w (w.alloc (.cells #[.int .u64 (k:Int),.int .u32 (c:Int),.bool d,.slice a l.length cap] 56))):=zh ((aj _ _).alloc (ag _) _)
 have HO:=zh (show decide (Nd.ok ⟨k,c,d,l⟩)=(decide ((l.length:Int)<=4096)&&!(d&&decide (0<(l.length:Int)))) by
  unfold Nd.ok
  dsimp only
  have e:(l=[])↔¬ 0<l.length:=by rw[<- List.length_eq_zero_iff];omega
  cases d
  ·simp only[dC,Bool.not_false,Bool.and_true,reduceCtorEq,false_imp_iff,and_true]
   exact decide_eq_decide.2 (by omega)
  simp only[bU,forall_const,e]
  rw[dt,aR,aO,aR,Bool.not_eq_true',decide_eq_false_iff_not]
  omega)
 generalize decide (Nd.ok ⟨k,c,d,l⟩)=ob at *;generalize l.length=n at *
 go_enter func80,ntmps80
 by_cases h1:(n:Int)<=4096
 ·have d1:decide ((n:Int)<=4096)=true:=aD h1
  cases d
  ·go_wp2_with fail;go_ret;exact ⟨zJ (by rw[HO.o,d1];rfl),HB.o⟩
  by_cases h2:0<(n:Int)
  ·have d2:decide (0<(n:Int))=true:=aD h2;go_wp2_with fail;go_ret;have h3:0<n:=by omega
   exact ⟨zJ (by rw[HO.o,d1,d2];simp[h3]),HB.o⟩
  have d2:decide (0<(n:Int))=false:=aC h2;go_wp2_with fail;go_ret;have h3:¬ 0<n:=by omega
  exact ⟨zJ (by rw[HO.o,d1,d2];simp[h3]),HB.o⟩
 have d1:decide ((n:Int)<=4096)=false:=aC h1;go_wp2_with fail;go_ret;exact ⟨zJ (by rw[HO.o,d1];rfl),HB.o⟩
def zDE (g:Gn) (s:Sl) (fU:Int) (w:World) (h:fN w s g.m.st) (hs:∀ i,i<8->(g.m.st i).length<=10000) :
  Calls prog 106 #[ze g.num g.rev g.mode g.size s g.m.live g.m.ew,.int .i64 fU,.int .i64 (fU+1)] w (Pr w s g.m.st (wE g fU)):=by
 have HV:=zh (fun W (hb:Below w.heap.size w W)=>uX g s W (h.bb hb) hs);have jC:Hid (∀ W,fl W w.heap.size s g.m.st Sl.nil gX.m.st):=zh (fun W=>fl.nil W _ _ _);have HRf:Hid (∀ W,fl W w.heap.size s g.m.st s g.m.st):=zh (fun W=>fl.refl W _ _ _);have HG:Hid (wE g fU=if we g=true then (if g.mode=fU then (0,{g with mode:=fU+1}) else (12,gX)) else (1,gX)):=zh (rfl);generalize we g=vb at *;obtain ⟨n,r,md,z,⟨f,L,G⟩⟩:=g;dsimp only at *;generalize wE ⟨n,r,md,z,⟨f,L,G⟩⟩ fU=TG at *;obtain ⟨W,hW,fJ,hbr,fS⟩:=vS w n r md z s L G 113;have HX:=zh fJ;have HR:=zh hbr;have HB:=zh fS;clear fJ hbr fS h hs;generalize hmt:fU+1=mt at *;clear hmt
 go_enter func106,ntmps106
 go_upto_region 1 with fail;change Code.wp _ _ _ _ ((w.alloc (.cells (zU n r md z s L G) 113)).alloc (.cells (zU 0 0 0 0 Sl.nil 0 0) 113));rw[hW];clear hW;obtain ⟨x0,x1,x2,x3,x4,x5,x6,x7,x8,x9,gP,gQ,gK,gM⟩:=HX.o.q;go_wp2_with fail;refine (HV.o _ HB.o).mono ?_;rintro e w1 ⟨rfl,hb1⟩;have fG:=zh (HX.o.bb hb1);have fL:=zh (HR.o.bb hb1);have eV:=zh (zA HB.o hb1);clear x0 x1 x2 x3 x4 x5 x6 x7 x8 x9 gP gQ gK gM;clear hb1 HX HR HB HV;have hlr:=fL.o.lt
 cases vb
 ·have jM:Hid (TG=(1,gX)):=zh (HG.o);obtain ⟨r0,r1,r2,r3,r4,r5,r6,r7,r8,r9,nL,mD,mR,pK⟩:=fL.o.q;have rf:=fL.o.f;go_wp2_with fail;change bodyPost _ _ _ _ _ (pts w1 (w.heap.size+1) (zS 0 0 0 0 Sl.nil 0 0));have hby:=fL.o.all 0 0 0 0 Sl.nil 0 0;have eN:=zh (zC (B:=w.heap.size) (b:=(w.heap.size+1)) (by omega) (zS 0 0 0 0 Sl.nil 0 0) eV.o);have iH:=jC.o (pts w1 (w.heap.size+1) (zS 0 0 0 0 Sl.nil 0 0));rw[jM.o];generalize pts w1 (w.heap.size+1) (zS 0 0 0 0 Sl.nil 0 0)=V at *;exact au (v:=.tuple #[ze 0 0 0 0 Sl.nil 0 0,.int .i64 1]) (by simp[results,results106,go_sem,hby.q]) rfl ⟨⟨_,rfl,iH⟩,eN.o⟩
 by_cases hm:md=fU
 ·subst hm;have jM:=zh (show TG=(0,⟨n,r,mt,z,⟨f,L,G⟩⟩) by rw[HG.o,ah rfl,ah rfl]);clear HG;obtain ⟨x0,x1,x2,x3,x4,x5,x6,x7,x8,x9,gP,gQ,gK,gM⟩:=fG.o.q;have xf:=fG.o.f;go_upto_region 6 with fail;change Code.wp _ _ _ _ (pts w1 w.heap.size [(2,.int .i64 mt)]);have fK:=zh (fG.o.O2 mt);have iq:=zh (fL.o.eL (show w.heap.size+1≠w.heap.size by omega) [(2,.int .i64 mt)]);have eX:=zh (zC (B:=w.heap.size) (b:=w.heap.size) (ag _) [(2,.int .i64 mt)] eV.o);generalize pts w1 w.heap.size [(2,.int .i64 mt)]=w2 at *;clear x0 x1 x2 x3 x4 x5 x6 x7 x8 x9 gP gQ gK gM xf;clear fG fL eV;obtain ⟨x0,x1,x2,x3,x4,x5,x6,x7,x8,x9,gP,gQ,gK,gM⟩:=fK.o.q;obtain ⟨r0,r1,r2,r3,r4,r5,r6,r7,r8,r9,nL,mD,mR,pK⟩:=iq.o.q;have rf:=iq.o.f;go_wp2_with fail;change bodyPost _ _ _ _ _ (pts w2 (w.heap.size+1) (zS n r mt z s L G))
  have hby:=iq.o.all n r mt z s L G;have eN:=zh (zC (B:=w.heap.size) (b:=(w.heap.size+1)) (by omega) (zS n r mt z s L G) eX.o);have iH:=HRf.o (pts w2 (w.heap.size+1) (zS n r mt z s L G));rw[jM.o];generalize pts w2 (w.heap.size+1) (zS n r mt z s L G)=V at *;exact au (v:=.tuple #[ze n r mt z s L G,.int .i64 0]) (by simp[results,results106,go_sem,hby.q]) rfl ⟨⟨_,rfl,iH⟩,eN.o⟩
 have jM:=zh (show TG=(12,gX) by rw[HG.o,ah rfl,ai hm]);have e0:(md==fU)=false:=beq_eq_false_iff_ne.2 hm;clear HG;obtain ⟨x0,x1,x2,x3,x4,x5,x6,x7,x8,x9,gP,gQ,gK,gM⟩:=fG.o.q;obtain ⟨r0,r1,r2,r3,r4,r5,r6,r7,r8,r9,nL,mD,mR,pK⟩:=fL.o.q;have rf:=fL.o.f;go_wp2_with fail;change bodyPost _ _ _ _ _ (pts w1 (w.heap.size+1) (zS 0 0 0 0 Sl.nil 0 0));have hby:=fL.o.all 0 0 0 0 Sl.nil 0 0;have eN:=zh (zC (B:=w.heap.size) (b:=(w.heap.size+1)) (by omega) (zS 0 0 0 0 Sl.nil 0 0) eV.o);have iH:=jC.o (pts w1 (w.heap.size+1) (zS 0 0 0 0 Sl.nil 0 0));rw[jM.o];generalize pts w1 (w.heap.size+1) (zS 0 0 0 0 Sl.nil 0 0)=V at *;exact au (v:=.tuple #[ze 0 0 0 0 Sl.nil 0 0,.int .i64 12]) (by simp[results,results106,go_sem,hby.q]) rfl ⟨⟨_,rfl,iH⟩,eN.o⟩
def zFo (g:Gn) (s:Sl) (w:World) (h:fN w s g.m.st) (hs:∀ i,i<8->(g.m.st i).length<=10000) :
  Calls prog 85 #[ze g.num g.rev g.mode g.size s g.m.live g.m.ew] w (Pr w s g.m.st (wE g 1)):=by
 have HT:=zh (fun W (hb:Below w.heap.size w W)=>zDE g s 1 W (h.bb hb) hs);rw[show (1:Int)+1=2 from rfl] at HT;clear hs;generalize wE g 1=TG at *;obtain ⟨n,r,md,z,⟨f,L,G⟩⟩:=g;dsimp only at *;obtain ⟨W,hW,fJ,hbr,fS⟩:=vS w n r md z s L G 113;have HX:=zh fJ;have HR:=zh hbr;have HB:=zh fS;clear fJ hbr fS h
 go_enter func85,ntmps85
 go_upto_region 1 with fail;change Code.wp _ _ _ _ ((w.alloc (.cells (zU n r md z s L G) 113)).alloc (.cells (zU 0 0 0 0 Sl.nil 0 0) 113));rw[hW];clear hW;obtain ⟨x0,x1,x2,x3,x4,x5,x6,x7,x8,x9,gP,gQ,gK,gM⟩:=HX.o.q;go_wp2_with fail;refine (HT.o _ HB.o).mono ?_;rintro e w1 ⟨⟨t,rfl,hr⟩,hb⟩;have CZ:=zh (hr.mono (show w.heap.size+2<=W.heap.size by have:=HR.o.lt;omega));have fL:=zh (HR.o.bb hb);have eV:=zh (zA HB.o hb);have hlr:=HR.o.lt;clear x0 x1 x2 x3 x4 x5 x6 x7 x8 x9 gP gQ gK gM;clear hr HX HT HR HB;obtain ⟨er,⟨n',r',md',z',⟨f',L',G'⟩⟩⟩:=TG;dsimp only at *;obtain ⟨r0,r1,r2,r3,r4,r5,r6,r7,r8,r9,nL,mD,mR,pK⟩:=fL.o.q;have rf:=fL.o.f;go_wp2_with fail;change bodyPost _ _ _ _ _ (pts w1 (w.heap.size+1) (zS n' r' md' z' t L' G'));have hby:=fL.o.all n' r' md' z' t L' G'
 have eN:=zh (zC (B:=w.heap.size) (b:=(w.heap.size+1)) (by omega) (zS n' r' md' z' t L' G') eV.o);have iH:=(CZ.o.pts (show w.heap.size+1<w.heap.size+2 by omega) (zS n' r' md' z' t L' G')).mono (show w.heap.size<=w.heap.size+2 by omega);generalize pts w1 (w.heap.size+1) (zS n' r' md' z' t L' G')=V at *;exact au (v:=.tuple #[ze n' r' md' z' t L' G',.int .i64 er]) (by simp[results,results85,go_sem,hby.q]) rfl ⟨⟨_,rfl,iH⟩,eN.o⟩
def zIy (g:Gn) (s:Sl) (w:World) (h:fN w s g.m.st) (hs:∀ i,i<8->(g.m.st i).length<=10000) :
  Calls prog 65 #[ze g.num g.rev g.mode g.size s g.m.live g.m.ew] w (Pr w s g.m.st (wE g 2)):=by
 have HT:=zh (fun W (hb:Below w.heap.size w W)=>zDE g s 2 W (h.bb hb) hs);rw[show (2:Int)+1=3 from rfl] at HT;clear hs;generalize wE g 2=TG at *;obtain ⟨n,r,md,z,⟨f,L,G⟩⟩:=g;dsimp only at *;obtain ⟨W,hW,fJ,hbr,fS⟩:=vS w n r md z s L G 113;have HX:=zh fJ;have HR:=zh hbr;have HB:=zh fS;clear fJ hbr fS h
 go_enter func65,ntmps65
 go_upto_region 1 with fail;change Code.wp _ _ _ _ ((w.alloc (.cells (zU n r md z s L G) 113)).alloc (.cells (zU 0 0 0 0 Sl.nil 0 0) 113));rw[hW];clear hW;obtain ⟨x0,x1,x2,x3,x4,x5,x6,x7,x8,x9,gP,gQ,gK,gM⟩:=HX.o.q;go_wp2_with fail;refine (HT.o _ HB.o).mono ?_;rintro e w1 ⟨⟨t,rfl,hr⟩,hb⟩;have CZ:=zh (hr.mono (show w.heap.size+2<=W.heap.size by have:=HR.o.lt;omega));have fL:=zh (HR.o.bb hb);have eV:=zh (zA HB.o hb);have hlr:=HR.o.lt;clear x0 x1 x2 x3 x4 x5 x6 x7 x8 x9 gP gQ gK gM;clear hr HX HT HR HB;obtain ⟨er,⟨n',r',md',z',⟨f',L',G'⟩⟩⟩:=TG;dsimp only at *;obtain ⟨r0,r1,r2,r3,r4,r5,r6,r7,r8,r9,nL,mD,mR,pK⟩:=fL.o.q;have rf:=fL.o.f;go_wp2_with fail;change bodyPost _ _ _ _ _ (pts w1 (w.heap.size+1) (zS n' r' md' z' t L' G'));have hby:=fL.o.all n' r' md' z' t L' G'
 have eN:=zh (zC (B:=w.heap.size) (b:=(w.heap.size+1)) (by omega) (zS n' r' md' z' t L' G') eV.o);have iH:=(CZ.o.pts (show w.heap.size+1<w.heap.size+2 by omega) (zS n' r' md' z' t L' G')).mono (show w.heap.size<=w.heap.size+2 by omega);generalize pts w1 (w.heap.size+1) (zS n' r' md' z' t L' G')=V at *;exact au (v:=.tuple #[ze n' r' md' z' t L' G',.int .i64 er]) (by simp[results,results65,go_sem,hby.q]) rfl ⟨⟨_,rfl,iH⟩,eN.o⟩
end Go.Proofs.YtcgfilmmokmdjaaGreat
