import Derived.Test.YtcgfilmmokmdjaaGreatQAH
import Derived.Test.YtcgfilmmokmdjaaGreatSlv
import Derived.Test.YtcgfilmmokmdjaaGreatQAJ
import Derived.Test.YtcgfilmmokmdjaaGreatQAC
import Derived.Deep.Cut
set_option linter.all false
set_option maxRecDepth 100000
set_option maxHeartbeats 32000000
namespace Go.Proofs.YtcgfilmmokmdjaaGreat
open Go.RowKit
theorem tQ (i l:Int) (r:Bool) (a:Option Addr) (n c:Nat) (L:List GP) (w:World) (h:fD w (.slice a n c) L) (hs:∀ p∈L,∀ j,j<8→(p.1.m.st j).length≤10000) :
  Calls Tryz.prog 84 #[zO i l r a n c] w fun e w'=>e=.returned (.bool (vO ⟨i,l,r,ep L⟩))∧Below w.heap.size w w':=by
 have fQ:=zh (fun W (hb:Below w.heap.size w W)=>zz i l r a n c L W (h.below hb) hs);have eB:=zh (eW.new w i l r a n c 31);have eH:=zh (zM w i l r a n c 31);have hcs:vO ⟨i,l,r,ep L⟩=(zY ⟨i,l,r,ep L⟩&&decide ((ze ⟨i,l,r,ep L⟩).num<8)):=rfl;rw[hcs];clear hcs
 cases hv:zY ⟨i,l,r,ep L⟩
 ·
  rw[hv] at fQ;clear h hs hv
  go_enter Tryz.func84,Tryz.ntmps84
  go_upto_region 1 with fail;obtain ⟨W,hW⟩:∃ W,w.alloc (.cells (zK i l r a n c) 31)=W:=⟨_,rfl⟩
  change Code.wp _ _ _ _ (w.alloc (.cells (zK i l r a n c) 31));rw[hW] at eB eH ⊢;clear hW;have nW:=eB.out.lt;obtain ⟨k0,k1,k2,k3⟩:=eB.out.q;go_wp2_with fail;refine (fQ.out _ eH.out).mono ?_;rintro e w1 ⟨rfl,hb1⟩;have eP:=zh (zA eH.out hb1);clear k0 k1 k2 k3 hb1;go_wp2_with fail;go_ret;exact ⟨rfl,eP.out⟩
 rw[hv] at fQ;have hV:=(zW _).1 hv;have fO:L.length=n:=by
  obtain ⟨_,_,e,_⟩:=h.shape;injection e with _ e _;exact e.symm
 have hl:(ep L).length=n:=by rw[zn,fO]
 have hn:1≤n∧n≤8:=by have:=hV.len;simp only[hl] at this;exact this
 obtain ⟨j,rfl⟩:∃ j,n=j+1:=⟨n-1,by omega⟩
 rw[vF fO];have HR:=zh h;clear hV fO hl hv h hs;obtain ⟨b,off,rfl,hg⟩:=HR.out.at (show j<j+1 by omega);have HG:=zh hg;clear hg HR;generalize pat L j=p at *;obtain ⟨⟨num,rev,md,sz,f,LV,GA⟩,s⟩:=p;dsimp only at *
 go_enter Tryz.func84,Tryz.ntmps84
 go_upto_region 1 with fail;obtain ⟨W,hW⟩:∃ W,w.alloc (.cells (zK i l r (some ⟨b,off,none⟩) (j+1) c) 31)=W:=⟨_,rfl⟩
 change Code.wp _ _ _ _ (w.alloc (.cells (zK i l r (some ⟨b,off,none⟩) (j+1) c) 31));rw[hW] at eB eH ⊢;clear hW;have nW:=eB.out.lt;obtain ⟨k0,k1,k2,k3⟩:=eB.out.q;go_wp2_with fail;refine (fQ.out _ eH.out).mono ?_;rintro e w1 ⟨rfl,hb1⟩;clear k0 k1 k2 k3;have eP:=zh (zA eH.out hb1);have fh:=zh (eB.out.below hb1);have sB:=zh (HG.out.below eP.out);clear hb1 eH eB HG fQ;have j3:IntKind.i64.wrap (j:Int)=(j:Int):=aF _ (by omega);have i2:(j:Int)<((j+1:Nat):Int):=by omega
 have v3:=fh.out.c3;have g0:=sB.out.n0;dsimp only at g0;go_wp2_with fail;go_ret;exact ⟨by simp,eP.out⟩
end Go.Proofs.YtcgfilmmokmdjaaGreat
namespace Go.Proofs.YtcgfilmmokmdjaaGreat
open Go Go.RowKit
section
variable {P:Program} {ops:Array Oper} {md:Region.Mode}
def PS (md:Region.Mode) (ops:Array Oper) (n:Nat):Bool:=
 decide (n<ops.size)&&Region.sinkB md ops n&&Region.chainB md ops n &&
 ((List.range n).all fun i=>((ops[i]?).map fun o=>o.after.all fun e=>!Region.binds md e||decide (e.on<i)).getD false) &&
 ((List.range n).all fun i=>(List.range n).all fun j=>decide (i=j)||decide (zT ops i=none)||decide (zT ops i≠zT ops j)) &&
 Region.seqB md ops (ops.size-n) n ((List.range ops.size).map fun j=>decide (j<n)).toArray
def nZ (L:Nat→Bool) (i:Nat):Nat→Bool:=fun j=>if j=i then true else L j
variable {Q:Exit→Act→World→Prop}
def PT (J:Value→World→Prop) (ds:List Deferred) (d:Option Tmp) (a':Act) (w':World):Prop:=
 a'.defers=ds∧(d=none→∀ v,J v w')∧∀ t,d=some t→J (a'.tmps.getD t undef) w'
theorem zLD {n:Nat} {a0:Act} {I:(Nat→Bool)→(Nat→Value)→World→Prop} {l:List Oper} (hl:ops=l.toArray) (hB:PS md ops n=true) (hN:∀ i,i<n→∀ t,zT ops i=some t→t<a0.tmps.size)
  (head:∀ i o,i<n→ops[i]?=some o→∀ L f w,L i=false→(∀ e∈o.after,Region.binds md e=true→L e.on=true)→I L f w →
   wpList P ops (Exit.then (PT (fun v w'=>I (nZ L i) (xB f i v) w') (fF ops a0 f n).defers o.dst) Q) [o] (fF ops a0 f n) w)
  (tail:∀ L f w,(∀ j,j<n→L j=true)→I L f w→wpList P ops Q (l.drop n) (fF ops a0 f n) w) :
  ∀ (fuel:Nat) (T:List Nat) (s:Array Bool) (L:Nat→Bool) (f:Nat→Value) (w:World),(∀ j,s.getD j false=L j)→T.Nodup→T.length=fuel→(∀ j,j<n→(s.getD j false=false↔j∈T))→(∀ j∈T,j<n)→HeadInv md ops n s→I L f w →
   wpAny P md ops Q (fuel+(ops.size-n)) s (fF ops a0 f n) w:=by
 simp only[PS,aN,aR] at hB;obtain ⟨⟨⟨⟨⟨hn,hs⟩,hc⟩,hfw⟩,hdd⟩,Gx⟩:=hB;have pR:∀ i o,i<n→ops[i]?=some o→∀ e∈o.after,Region.binds md e=true→e.on<i:=fun i o hi ho e he hb=>by
  have:=List.all_eq_true.1 hfw i (List.mem_range.2 hi);rw[ho] at this;simp only[dE,bC] at this;have h2:=Array.all_eq_true_iff_forall_mem.1 this e he;rw[hb] at h2
  simpa using h2
 have s6:∀ i j,i<n→j<n→i≠j→zT ops i=none∨zT ops i≠zT ops j:=fun i j hi hj hij=>by
  have:=List.all_eq_true.1 (List.all_eq_true.1 hdd i (List.mem_range.2 hi)) j (List.mem_range.2 hj)
  simpa [hij] using this
 intro fuel
 induction fuel with
 |zero =>
  intro T s L f w hL hT hlen l5 rT inv hI;have Gy:T=[]:=List.length_eq_zero_iff.1 hlen;subst Gy;have hall:∀ j,j<n→s.getD j false=true:=fun j hj=>by
   cases h:s.getD j false with
   |true=>rfl
   |false=>exact absurd ((l5 j hj).1 h) (by simp)
  have Fz:s=((List.range ops.size).map fun j=>decide (j<n)).toArray:=by
   apply Array.ext
   ·
    simp[inv.size]
   intro j h1 h2;have iT:j<ops.size:=by rw[← inv.size];exact h1
   simp only[aU,dH,dQ]
   by_cases e:j<n
   ·
    have:=hall j e;rw[bw,bM h1] at this;simp only[bC] at this;rw[this];simp[e]
   have:=inv.tail j (by omega) iT;rw[bw,bM h1] at this;simp only[bC] at this;rw[this];simp[e]
  rw[aI];have il:(l.drop n).length=ops.size-n:=by rw[hl];simp
  have h3:=wpAny_of_seq (P:=P) (md:=md) (ops:=ops) (Q':=Q) (l.drop n) n s (fF ops a0 f n) w (fun j=>by rw[hl];simp[cQ]) (by rw[il,Fz];exact Gx) (tail L f w (fun j hj=>by rw[← hL];exact hall j hj) hI)
  rwa [il] at h3
 |succ fuel ih =>
  intro T s L f w hL hT hlen l5 rT inv hI;have t_:T≠[]:=fun e=>by rw[e] at hlen;cases hlen
  obtain ⟨m,hm,hle⟩:=tT t_;have hmn:=rT m hm;have hun:s.getD m false=false:=(l5 m hmn).2 hm;have EC:m<s.size:=by rw[inv.size];omega
  obtain ⟨om,CB⟩:∃ o,ops[m]?=some o:=⟨_,bM (by omega)⟩
  have ll:m∈Region.ready md ops s:=mem_ready.2 ⟨getD_in EC hun,om,CB,fun e he jL=>by
   have h1:=pR m om hmn CB e he jL
   cases h2:s.getD e.on false with
   |true=>rfl
   |false =>
    have:=hle _ ((l5 e.on (by omega)).1 h2)
    omega⟩
  rw[show fuel+1+(ops.size-n)=(fuel+(ops.size-n))+1 by omega];refine ⟨fun e=>absurd ll (by rw[e];simp),fun i hi=>?_⟩;obtain ⟨D3,oi,hoi,mO⟩:=mem_ready.1 hi;have hin:i<n:=Nat.lt_of_not_le fun h=>tail_waits hs hc hn inv _ m rfl hmn (getD_in EC hun) i h hi
  have Gz:i∈T:=(l5 i hin).1 (getD_both D3);have nM:zT ops i=oi.dst:=by unfold zT;rw[hoi];rfl
  unfold wpOp;rw[hoi];simp only[];have hh:=head i oi hin hoi L f w (by rw[← hL];exact getD_both D3) (fun e he jL=>by rw[← hL];exact mO e he jL) hI;refine kS hh (fun v w' hR=>?_) (fun d v w' hR=>?_)
  ·
   obtain ⟨_,hv0,hv⟩:=hR;have hval:I (nZ L i) (xB f i v) w':=by
    cases hd:oi.dst with
    |none=>exact hv0 hd v
    |some t =>
     have h4:=hv t hd;have h5:t<(fF ops a0 f n).tmps.size:=by rw[ue];exact hN i hin t (by rw[nM,hd])
     rw[hd] at h4
     simpa [Act.put,h5] using h4
   rw[← nM,tq ops a0 f i v n hin fun j hj hji=>s6 i j hin hj (aQ hji)];refine ih (T.erase i) _ (nZ L i) _ w' (fun j=>?_) (hT.erase i) (by rw[List.length_erase_of_mem Gz];omega) (fun j hj=>?_) (fun j hj=>rT j (List.mem_of_mem_erase hj)) (inv.set hi hin) hval
   ·
    unfold nZ
    by_cases e:j=i
    ·
     subst e;have iT:j<s.size:=by rw[inv.size];omega
     simp[bw,iT]
    rw[bJ false (aQ e),hL j,ai e]
   rw[hT.mem_erase_iff]
   by_cases e:j=i
   ·
    subst e;have iT:j<s.size:=by rw[inv.size];omega
    simp[bw,iT]
   rw[bJ false (aQ e),l5 j hj];simp[e]
  have h1:=hR.1;have h2:=aO List.length h1
  cases GD:oi.dst<;>simp[Act.put,GD] at h2
def PU (P:Program) (Q:Exit→Act→World→Prop) (ops:Array Oper) (I:(Nat→Bool)→(Nat→Value)→World→Prop) (fr:(Nat→Value)→Act):List Oper→Nat→Nat→Prop
 |o::r,m+1,i=>(∀ L f w,L i=false→(∀ j,GF o j=true→L j=true)→I L f w→wpList P ops (Exit.then (PT (fun v w'=>I (nZ L i) (xB f i v) w') (fr f).defers o.dst) Q) [o] (fr f) w)∧PU P Q ops I fr r m (i+1)
 |_,_,_=>True
theorem Tn {ops:Array Oper} {I:(Nat→Bool)→(Nat→Value)→World→Prop} {fr:(Nat→Value)→Act}:∀ (l:List Oper) (m k:Nat),PU P Q ops I fr l m k →
  ∀ i o,l[i]?=some o→i<m→∀ L f w,L (k+i)=false→(∀ j,GF o j=true→L j=true)→I L f w→wpList P ops (Exit.then (PT (fun v w'=>I (nZ L (k+i)) (xB f (k+i) v) w') (fr f).defers o.dst) Q) [o] (fr f) w
 |[],_,_,_,i,o,ho,_=>by simp at ho
 |o::r,0,_,_,i,_,_,hS=>by omega
 |o::r,m+1,k,h,0,o',ho,_=>by
  simp at ho;subst ho;exact h.1
 |o::r,m+1,k,h,i+1,o',ho,hm=>by
  have:=Tn r m (k+1) h.2 i o' (by simpa using ho) (by omega)
  rwa [show k+1+i=k+(i+1) by omega] at this
theorem vA {id:Nat} {a0:Act} {w:World} {l:List Oper} (n:Nat) (I:(Nat→Bool)→(Nat→Value)→World→Prop) (N:Nat) (hm:P.follows .mixedOrders=true) (hB:PS .any l.toArray n=true)
  (hsz:a0.tmps.size=N) (hN:MX l.toArray n N=true) {fr:(Nat→Value)→Act} (hfr:∀ f,fF l.toArray a0 f n=fr f)
  (start:∀ f,I (fun _=>false) f w.drew)
  (head:PU P Q l.toArray I fr l n 0)
  (tail:∀ L f w1,(∀ j,j<n→L j=true)→I L f w1→wpList P l.toArray Q (l.drop n) (fr f) w1):(Code.region id l.toArray true).wp P Q a0 w:=by
 have hn:n<l.toArray.size:=by
  simp only[PS,aN,aR] at hB;exact hB.1.1.1.1.1
 refine wp_region_any hm ?_;have h:=zLD (md:=.any) (Q:=Q) (P:=P) (n:=n) (a0:=a0) (I:=I) rfl hB
  (fun i hi t ht=>by
   have h1:=List.all_eq_true.1 hN i (List.mem_range.2 hi)
   rw[ht] at h1
   rw[hsz]
   simpa using h1)
  (fun i o hi ho L f w1 h0 hd hI=>by
   rw[hfr]
   have h2:=Tn l n 0 head i o (by simpa using ho) hi L f w1 (by rwa [aI]) (fun j hj=>by
    unfold GF at hj
    obtain ⟨e,he,h3⟩:=Array.any_eq_true'.1 hj
    simp only[aN,cE] at h3
    rw[← h3.2]
    exact hd e he h3.1) hI
   rwa [aI] at h2)
  (fun L f w1 hA hI=>by rw[hfr];exact tail L f w1 hA hI)
  n (List.range n) (Array.replicate l.toArray.size false) (fun _=>false) (fun j=>match zT l.toArray j with|some d=>a0.tmps.getD d undef|none=>undef) w.drew
  (fun j=>getD_replicate_false _ _) List.nodup_range (by simp) (fun j hj=>by rw[getD_replicate_false];simp[hj]) (fun j hj=>by simpa using hj)
  ⟨by simp,fun j oj _ hl=>(by rw[getD_replicate_false] at hl;cases hl),fun t _ ht=>getD_in (by simpa using ht) (getD_replicate_false _ _)⟩
  (start _)
 have e0:fF l.toArray a0 (fun j=>match zT l.toArray j with|some d=>a0.tmps.getD d undef|none=>undef) n=a0:=K1 _ _ _;rw[e0,show n+(l.toArray.size-n)=l.toArray.size by omega] at h;exact h
end
end Go.Proofs.YtcgfilmmokmdjaaGreat
namespace Go.Proofs.YtcgfilmmokmdjaaGreat
open Go.RowKit
theorem zN {L:Nat→Bool} {i j:Nat} (h:j≠i):nZ L i j=L j:=ai h
theorem yw {f:Nat→Value} {i j:Nat} {v:Value} (h:j≠i):xB f i v j=f j:=ai h
theorem uP (L:Nat→Bool) (i:Nat):nZ L i i=true:=ah rfl
theorem uO (f:Nat→Value) (i:Nat) (v:Value):xB f i v i=v:=ah rfl
structure pU (T:TypeId) (m:Nat) (xs ys:List Value) (ps:List (Nat×Value)) (B0:Nat) (w6:World) (L:Nat→Bool) (f:Nat→Value) (W:World):Prop where
 jm:∀ q∈ps,L q.1=true→f q.1=q.2
 hb:Below B0 w6 W
 sz:B0≤W.heap.size
 a0:L 0=true→L 6=false→∃ b,f 0=.slice (some ⟨b,0,none⟩) 0 0∧W.ownsRow B0 T 14 (.slice (some ⟨b,0,none⟩) 0 0) 0 []∧b<W.heap.size∧(L 9=true→f 9≠.slice (some ⟨b,0,none⟩) 2 2)
 a6:L 6=true→L 10=false→∃ a c,f 6=.slice a m c∧W.ownsRow B0 T 14 (.slice a m c) m xs
 a9:L 9=true→L 10=false→∃ k,f 9=.slice (some ⟨k,0,none⟩) 2 2∧B0≤k∧k<W.heap.size∧Rd W 14 (.slice (some ⟨k,0,none⟩) 2 2) 2 ys
 K2:L 10=true→∃ a c,f 10=.slice a (m+2) c∧W.ownsRow B0 T 14 (.slice a (m+2) c) (m+2) (xs++ys)
 d6:L 6=true→L 0=true
 d10:L 10=true→L 6=true∧L 9=true
section
variable {T:TypeId} {m:Nat} {xs ys:List Value} {ps:List (Nat×Value)} {B0:Nat} {w6 W W':World} {L:Nat→Bool} {f:Nat→Value}
theorem pU.start (hs:B0=w6.heap.size) (f:Nat→Value):pU T m xs ys ps B0 w6 (fun _=>false) f w6.drew:=by
 subst hs;exact ⟨(fun _ _ h=>by cases h),zi (aj _ _),ag _,(fun h=>by cases h),(fun h=>by cases h),(fun h=>by cases h),(fun h=>by cases h),(fun h=>by cases h),fun h=>by cases h⟩
theorem pU.pure (h:pU T m xs ys ps B0 w6 L f W) {i:Nat} {v:Value} (h0:0≠i) (h6:6≠i) (h9:9≠i) (h10:10≠i) (hp:∀ q∈ps,q.1=i→v=q.2):pU T m xs ys ps B0 w6 (nZ L i) (xB f i v) W:=by
 refine ⟨fun q hq hL=>?_,h.hb,h.sz,?_,?_,?_,?_,?_,?_⟩
 ·
  by_cases e:q.1=i
  ·
   rw[e,uO];exact hp q hq e
  rw[yw e];rw[zN e] at hL;exact h.jm q hq hL
 ·
  rw[zN h0,zN h6,zN h9,yw h0,yw h9];exact h.a0
 ·
  rw[zN h6,zN h10,yw h6];exact h.a6
 ·
  rw[zN h9,zN h10,yw h9];exact h.a9
 ·
  rw[zN h10,yw h10];exact h.K2
 ·
  rw[zN h6,zN h0];exact h.d6
 rw[zN h10,zN h6,zN h9];exact h.d10
theorem pU.JH (h:pU T m xs ys ps B0 w6 L f W) (h6:L 6=false∨L 9=false):L 10=false:=by
 cases e:L 10 with
 |false=>rfl
 |true=>have:=h.d10 e;rcases h6 with h6|h6<;>simp[h6] at this
theorem pU.no6 (h:pU T m xs ys ps B0 w6 L f W) (h0:L 0=false):L 6=false:=by
 cases e:L 6 with
 |false=>rfl
 |true=>have:=h.d6 e;rw[h0] at this;cases this
theorem pU.zero (h:pU T m xs ys ps B0 w6 L f W) (h0:L 0=false) (hp:∀ q∈ps,q.1≠0):pU T m xs ys ps B0 w6 (nZ L 0) (xB f 0 (.slice (some ⟨W.heap.size,0,none⟩) 0 0)) (W.alloc (.cells #[] T)):=by
 have hA:=(aj W.heap.size W).alloc (ag _) (.cells #[] T);have n6:=h.no6 h0;have n10:=h.JH (.inl n6);refine ⟨fun q hq hL=>?_,h.hb.alloc h.sz _,ak h.sz hA.size,fun _ _=>⟨W.heap.size,uO ..,cI (size:=14) W #[] 0 h.sz (by decide) rfl,by simp,fun h9 e=>?_⟩,?_,?_,?_,?_,?_⟩
 ·
  rw[yw (hp q hq)];rw[zN (hp q hq)] at hL;exact h.jm q hq hL
 ·
  rw[zN (by decide)] at h9;rw[yw (by decide)] at e;obtain ⟨k,e9,_,hk,_⟩:=h.a9 h9 n10;rw[e9] at e;injection e with e;injection e with e;injection e with e;omega
 ·
  rw[zN (by decide),n6];intro e;cases e
 ·
  rw[zN (by decide),zN (by decide),yw (by decide)];intro e1 e2;obtain ⟨k,e9,h1,hk,hr⟩:=h.a9 e1 e2;exact ⟨k,e9,h1,cM hk hA.size,hr.below hA⟩
 ·
  rw[zN (by decide),n10];intro e;cases e
 ·
  rw[zN (by decide),n6];intro e;cases e
 rw[zN (by decide),n10];intro e;cases e
theorem pU.two (h:pU T m xs ys ps B0 w6 L f W) (h9:L 9=false) (hy:ys.length=28) (hp:∀ q∈ps,q.1≠9):pU T m xs ys ps B0 w6 (nZ L 9) (xB f 9 (.slice (some ⟨W.heap.size,0,none⟩) 2 2)) (W.alloc (.cells ys.toArray T)):=by
 have hA:=(aj W.heap.size W).alloc (ag _) (.cells ys.toArray T);have n10:=h.JH (.inr h9);refine ⟨fun q hq hL=>?_,h.hb.alloc h.sz _,ak h.sz hA.size,?_,?_,fun _ _=>⟨W.heap.size,uO ..,h.sz,by simp,Rd.new W 14 ys T 2 (by rw[hy]) (by decide)⟩,?_,?_,?_⟩
 ·
  rw[yw (hp q hq)];rw[zN (hp q hq)] at hL;exact h.jm q hq hL
 ·
  rw[zN (i:=9) (j:=0) (by decide),zN (i:=9) (j:=6) (by decide),yw (i:=9) (j:=0) (by decide),uO];intro e0 e6;obtain ⟨b,e1,ho,hb,_⟩:=h.a0 e0 e6;refine ⟨b,e1,zG ho hA,cM hb hA.size,fun _ e=>?_⟩;injection e with e;injection e with e;injection e with e;omega
 ·
  rw[zN (i:=9) (j:=6) (by decide),zN (i:=9) (j:=10) (by decide),yw (i:=9) (j:=6) (by decide)];intro e6 sZ;obtain ⟨a,c,e1,ho⟩:=h.a6 e6 sZ;exact ⟨a,c,e1,zG ho hA⟩
 ·
  rw[zN (by decide),n10];intro e;cases e
 ·
  rw[zN (by decide),zN (by decide)];exact h.d6
 rw[zN (by decide),n10];intro e;cases e
theorem pU.Tp (h:pU T m xs ys ps B0 w6 L f W) (h0:L 0=true) (h6:L 6=false) (hp:∀ q∈ps,q.1≠6):∃ b,f 0=.slice (some ⟨b,0,none⟩) 0 0∧W.ownsRow B0 T 14 (.slice (some ⟨b,0,none⟩) 0 0) 0 [] ∧
  ∀ v W',W'.ownsRow B0 T 14 v m xs→W.grownBy W' (Value.slice (some ⟨b,0,none⟩) 0 0).ownBlock→pU T m xs ys ps B0 w6 (nZ L 6) (xB f 6 v) W':=by
 have n10:=h.JH (.inl h6);obtain ⟨b,e0,ho,hb,hne⟩:=h.a0 h0 h6;refine ⟨b,e0,ho,fun v W' hown hg=>?_⟩;obtain ⟨a,c,ev,_⟩:=zH hown;have hW:Below B0 W W':=zL (aj B0 W) ho h.sz hg;refine ⟨fun q hq hL=>?_,h.hb.trans hW,ak h.sz hW.size,?_,?_,?_,?_,?_,?_⟩
 ·
  rw[yw (hp q hq)];rw[zN (hp q hq)] at hL;exact h.jm q hq hL
 ·
  rw[uP];intro _ e;cases e
 ·
  rw[uO];intro _ _;exact ⟨a,c,ev,ev▸hown⟩
 ·
  rw[zN (i:=6) (j:=9) (by decide),zN (i:=6) (j:=10) (by decide),yw (i:=6) (j:=9) (by decide)];intro e9 sZ;obtain ⟨k,e1,h1,hk,hr⟩:=h.a9 e9 sZ;refine ⟨k,e1,h1,cM hk hW.size,hr.grown hg fun x hx e=>?_⟩;injection hx with hx;subst hx;have e2:some k=some b:=e;injection e2 with e2;exact hne e9 (by rw[e1,e2])
 ·
  rw[zN (by decide),n10];intro e;cases e
 ·
  intro _;rw[zN (i:=6) (j:=0) (by decide)];exact h0
 rw[zN (by decide),n10];intro e;cases e
theorem pU.Tq (h:pU T m xs ys ps B0 w6 L f W) (h6:L 6=true) (h9:L 9=true) (h10:L 10=false) (hp:∀ q∈ps,q.1≠10):∃ a c k,f 6=.slice a m c∧W.ownsRow B0 T 14 (.slice a m c) m xs∧f 9=.slice (some ⟨k,0,none⟩) 2 2∧Rd W 14 (.slice (some ⟨k,0,none⟩) 2 2) 2 ys ∧
  ∀ v W',W'.ownsRow B0 T 14 v (m+2) (xs++ys)→W.grownBy W' (Value.slice a m c).ownBlock→pU T m xs ys ps B0 w6 (nZ L 10) (xB f 10 v) W':=by
 obtain ⟨a,c,e6,ho⟩:=h.a6 h6 h10;obtain ⟨k,e9,_,_,hr⟩:=h.a9 h9 h10;refine ⟨a,c,k,e6,ho,e9,hr,fun v W' hown hg=>?_⟩;obtain ⟨a',c',ev,_⟩:=zH hown;have hW:Below B0 W W':=zL (aj B0 W) ho h.sz hg;refine ⟨fun q hq hL=>?_,h.hb.trans hW,ak h.sz hW.size,?_,?_,?_,?_,?_,?_⟩
 ·
  rw[yw (hp q hq)];rw[zN (hp q hq)] at hL;exact h.jm q hq hL
 ·
  rw[zN (i:=10) (j:=6) (by decide),h6];intro _ e;cases e
 ·
  rw[uP];intro _ e;cases e
 ·
  rw[uP];intro _ e;cases e
 ·
  rw[uO];intro _;exact ⟨a',c',ev,ev▸hown⟩
 ·
  rw[zN (i:=10) (j:=6) (by decide),zN (i:=10) (j:=0) (by decide)];exact h.d6
 rw[zN (i:=10) (j:=6) (by decide),zN (i:=10) (j:=9) (by decide)];intro _;exact ⟨h6,h9⟩
end
end Go.Proofs.YtcgfilmmokmdjaaGreat
namespace Go.Proofs.YtcgfilmmokmdjaaGreat
theorem Tr {l:List Gn} {k i:Nat} (h:i<k) (hk:k≤l.length) (r:List Gn):eV (l.take k++r) i=eV l i:=by
 unfold eV;rw[ax,ax,List.getElem?_append_left (by rw[ay];omega),List.getElem?_take_of_lt h]
theorem PV {l:List Gn} {k:Nat} (hk:k≤l.length) (r:List Gn) (q:Nat):eV (l.take k++r) (k+q)=eV r q:=by
 unfold eV;rw[ax,ax,dS (by rw[ay];omega),ay]
 congr 2
 omega
theorem YP (n:Int):zJ (fresh n).m=[]:=by
 unfold zJ;rw[ah (k8 n)]
 rfl
theorem eT.num {s:eX} (h:eT s):∀ i,i<s.dY.length→(i:Int)+1≤(eV s.dY i).num
 |0,hi=>by have:=(h.vg hi).num;omega
 |i+1,hi=>by
  have h1:=eT.num h i (by omega);have h2:=(h.g (i+1) hi).2.1 (by omega);rw[show i+1-1=i by omega] at h2;omega
theorem eT.EE {s:eX} (h:eT s):lh (ze s)∧(ze s).mode=1∧(ze s).size≤2*s.lim:=by
 have hl:=h.len;have hi:s.dY.length-1<s.dY.length:=by omega
 obtain ⟨h1,h2,h3,h4⟩:=h.g _ hi;exact ⟨(yJ _).1 h1,h3.2 (by omega),h4⟩
theorem zJ0 {s:eX} (h:(vV s).2=0):eT (vV s).1:=by
 unfold vV at h ⊢
 by_cases hv:zY s=true
 ·
  rw[ah hv] at h ⊢
  by_cases hn:(ze s).num<8
  ·
   rw[ah hn] at h ⊢;have hV:=(zW s).1 hv;obtain ⟨ht,hm,hs⟩:=hV.EE;have hl:=hV.len;have gT:=hV.num (s.dY.length-1) (by omega);have gT:((s.dY.length-1:Nat):Int)+1≤(ze s).num:=gT;have hk:s.dY.length-1≤s.dY.length:=by omega
   have hlen:(s.dY.take (s.dY.length-1)++[{ze s with mode:=2},fresh ((ze s).num+1)]).length=s.dY.length+1:=by
    simp only[aw,ay,aV,dI];omega
   have hf:=(kw ((ze s).num+1)).2 (by omega);refine ⟨hV.id,hV.lim,by dsimp only;rw[hlen];omega,fun i hi=>?_,?_⟩
   ·
    dsimp only at hi ⊢;rw[hlen] at hi;unfold Cw;dsimp only;rw[hlen]
    by_cases h1:i<s.dY.length-1
    ·
     have ho:=hV.g i (by omega);rw[Tr h1 hk,Tr (show i-1<s.dY.length-1 by omega) hk];refine ⟨ho.1,ho.2.1,⟨fun e=>?_,fun e=>by omega⟩,ho.2.2.2⟩;have:=ho.2.2.1.1 e;omega
    by_cases h2:i=s.dY.length-1
    ·
     have e0:eV (s.dY.take (s.dY.length-1)++[{ze s with mode:=2},fresh ((ze s).num+1)]) i={ze s with mode:=2}:=by
      have:=PV hk [{ze s with mode:=2},fresh ((ze s).num+1)] 0;rw[bB] at this;rw[h2,this];rfl
     rw[e0];refine ⟨(yJ _).2 ⟨ht.num,ht.rev,by dsimp only;omega,ht.size,ht.m,ht.ends,ht.sum⟩,fun h0=>?_,⟨fun e=>by dsimp only at e;omega,fun e=>by omega⟩,hs⟩;rw[Tr (show i-1<s.dY.length-1 by omega) hk];have:=(hV.g i (by omega)).2.1 h0;rw[h2] at this ⊢;exact this
    have h3:i=s.dY.length-1+1:=by omega
    have e0:eV (s.dY.take (s.dY.length-1)++[{ze s with mode:=2},fresh ((ze s).num+1)]) i=fresh ((ze s).num+1):=by
     rw[h3,PV hk _ 1];rfl
    have e1:eV (s.dY.take (s.dY.length-1)++[{ze s with mode:=2},fresh ((ze s).num+1)]) (i-1)={ze s with mode:=2}:=by
     have:=PV hk [{ze s with mode:=2},fresh ((ze s).num+1)] 0;rw[bB] at this;rw[show i-1=s.dY.length-1 by omega,this];rfl
    rw[e0,e1];refine ⟨(yJ _).2 hf,fun _=>by show (ze s).num<(ze s).num+1;omega,⟨fun _=>by omega,fun _=>rfl⟩,?_⟩
    show (16:Int)≤2*s.lim
    have:=hV.lim;omega
   dsimp only;rw[hlen];have e0:eV (s.dY.take (s.dY.length-1)++[{ze s with mode:=2},fresh ((ze s).num+1)]) (s.dY.length+1-1)=fresh ((ze s).num+1):=by
    rw[show s.dY.length+1-1=s.dY.length-1+1 by omega,PV hk _ 1];rfl
   rw[e0,YP]
   show (16:Int)+((0*24:Nat):Int)≤2*s.lim
   have:=hV.lim;omega
  rw[ai hn] at h;cases h
 rw[ai hv] at h;cases h
theorem zJK {s:eX} {g:Gn} (h:(yV s g).2=0):eT (yV s g).1:=by
 unfold yV at h ⊢
 by_cases hv:zY s=true
 ·
  rw[ah hv] at h ⊢
  by_cases hn:(s.dY.any fun x=>decide (x.num=g.num))=true
  ·
   rw[ah hn] at h ⊢
   by_cases hw:zY ⟨s.id,s.lim,s.ro,tH s.dY g⟩=true
   ·
    rw[ah hw];exact (zW _).1 hw
   rw[ai hw] at h;cases h
  rw[ai hn] at h;cases h
 rw[ai hv] at h;cases h
end Go.Proofs.YtcgfilmmokmdjaaGreat
namespace Go.Proofs.YtcgfilmmokmdjaaGreat
open Go.RowKit
abbrev MZ (x:Nd) (v:Value):Value:=.agg #[.int .u64 (x.key:Int),.int .u32 (x.ck:Int),.bool x.del,v]
theorem YR (w:World):rB w (.slice none 0 0) []:=tu (aT w 0 5 1)
def vK (p:Nd×Value):List Value:=[.int .u64 (p.1.key:Int),.int .u32 (p.1.ck:Int),.bool p.1.del,p.2]
theorem zHg (p:Nd×Value):(vK p).length=4:=rfl
def xP (es:List (Nd×Value)):List Value:=es.flatMap vK
theorem wu (es:List (Nd×Value)):(xP es).length=es.length*4:=yR 4 vK es fun x _=>zHg x
theorem Ts:xt Tryz.prog 23 56 4 40:=by
 obtain ⟨i,hi,hz,hs,hb⟩:=cm (P:=Tryz.prog) (e:=56) (z:=.agg #[.int .u64 0,.int .u32 0,.bool false,.slice none 0 0]) (size:=4) (bytes:=40) (by kernel_rfl);exact ⟨Tryz.underlying23,by decide,i,_,hi,hz,hs,hb,rfl⟩
structure nC (w:World) (v:Value) (es:List (Nd×Value)):Prop where
 row:Rd w 4 v es.length (xP es)
 dat:∀ p∈es,rB w p.2 p.1.data
theorem nC.below {w w':World} {v:Value} {es:List (Nd×Value)} (h:nC w v es) (hb:Below w.heap.size w w'):nC w' v es:=⟨h.row.below hb,fun p hp=>iE.below (h.dat p hp) hb⟩
def xQ (es:List (Nd×Value)) (j:Nat):Nd×Value:=es.getD j (KO,.slice none 0 0)
theorem uZ {es:List (Nd×Value)} {j:Nat} (h:j<es.length):xQ es j∈es:=by
 unfold xQ;rw[ax,aB h];exact bI h
theorem nC.shape {w:World} {v:Value} {es:List (Nd×Value)} (h:nC w v es):∃ a cap,v=.slice a es.length cap∧es.length≤cap∧cap≤maxLen:=by
 obtain ⟨_,a,cap,h1,h2,h3,_⟩:=h.row;exact ⟨a,cap,h1,h2,h3⟩
theorem nC.at {w:World} {a:Option Addr} {n cap:Nat} {es:List (Nd×Value)} (h:nC w (.slice a n cap) es) {j:Nat} (hj:j<n):∃ b off,a=some ⟨b,off,none⟩∧rB w (xQ es j).2 (xQ es j).1.data ∧
  w.cell? ⟨b,off+j*4,none⟩=some (.int .u64 ((xQ es j).1.key:Int))∧w.cell? ⟨b,off+j*4+1,none⟩=some (.int .u32 ((xQ es j).1.ck:Int)) ∧
  w.cell? ⟨b,off+j*4+2,none⟩=some (.bool (xQ es j).1.del)∧w.cell? ⟨b,off+j*4+3,none⟩=some (xQ es j).2:=by
 have hn:n=es.length:=by
  obtain ⟨_,_,_,e,_⟩:=h.row;injection e
 subst hn;obtain ⟨_,a',cap',e,_,_,_,hc⟩:=h.row;injection e with e1;obtain ⟨b,off,e2,hc⟩:=hc (by rw[wu];omega);refine ⟨b,off,e1.trans e2,h.dat _ (uZ hj),?_⟩
 have hat:∀ i,i<4→∀ u,(vK (xQ es j))[i]?=some u→w.cell? ⟨b,off+(j*4+i),none⟩=some u:=fun i hi u hu=>hc (j*4+i) u (by
  rw[show xP es=es.flatMap vK from rfl,vW 4 vK (KO,.slice none 0 0) es (fun _ _=>rfl) j i hj hi];exact hu)
 exact ⟨hat 0 (by omega) _ rfl,hat 1 (by omega) _ rfl,hat 2 (by omega) _ rfl,hat 3 (by omega) _ rfl⟩
structure BV (W:World) (b:Nat) (x:Nd) (v:Value):Prop where
 c0:W.cell? ⟨b,0,none⟩=some (.int .u64 (x.key:Int))
 c1:W.cell? ⟨b,1,none⟩=some (.int .u32 (x.ck:Int))
 c2:W.cell? ⟨b,2,none⟩=some (.bool x.del)
 c3:W.cell? ⟨b,3,none⟩=some v
 f:∀ i,W.frozen? ⟨b,i,none⟩=false
theorem BV.q {W:World} {b:Nat} {x:Nd} {v:Value} (h:BV W b x v):W.cell? ⟨b,0,none⟩=some (.int .u64 (x.key:Int))∧W.cell? ⟨b,1,none⟩=some (.int .u32 (x.ck:Int))∧W.cell? ⟨b,2,none⟩=some (.bool x.del)∧W.cell? ⟨b,3,none⟩=some v:=⟨h.c0,h.c1,h.c2,h.c3⟩
abbrev M2 (x:Nd) (v:Value):Array Value:=#[.int .u64 (x.key:Int),.int .u32 (x.ck:Int),.bool x.del,v]
theorem BV.new (W:World) (x:Nd) (v:Value):BV (W.alloc (.cells (M2 x v) 56)) W.heap.size x v:=⟨by simp,by simp,by simp,by simp,fun i=>by simp⟩
theorem Tt (w:World) (x:Nd) (v:Value):Below w.heap.size w (w.alloc (.cells (M2 x v) 56)):=(aj _ _).alloc (ag _) _
theorem zCv (x:Nd) (a:Option Addr) (cap:Nat) (w:World):Calls Tryz.prog 80 #[MZ x (.slice a x.data.length cap)] w fun e w'=>e=.returned (.bool (decide x.ok))∧Below w.heap.size w w':=by
 obtain ⟨k,c,d,l⟩:=x;dsimp only;have HB:=zh (show Below w.heap.size w (w.alloc (.cells #[.int .u64 (k:Int),.int .u32 (c:Int),.bool d,.slice a l.length cap] 56)) from (aj _ _).alloc (ag _) _)
 have HO:=zh (show decide (Nd.ok ⟨k,c,d,l⟩)=(decide ((l.length:Int)≤4096)&&!(d&&decide (0<(l.length:Int)))) by
  unfold Nd.ok
  dsimp only
  have e:(l=[])↔¬ 0<l.length:=by rw[← List.length_eq_zero_iff];omega
  cases d
  ·
   simp only[dt,Bool.not_false,Bool.and_true,reduceCtorEq,false_imp_iff,and_true]
   exact decide_eq_decide.2 (by omega)
  simp only[bV,forall_const,e]
  rw[cT,aR,aN,aR,Bool.not_eq_true',decide_eq_false_iff_not]
  omega)
 generalize decide (Nd.ok ⟨k,c,d,l⟩)=ob at *;generalize l.length=n at *
 go_enter Tryz.func80,Tryz.ntmps80
 by_cases h1:(n:Int)≤4096
 ·
  have d1:decide ((n:Int)≤4096)=true:=aC h1
  cases d
  ·
   go_wp2_with fail;go_ret;exact ⟨zI (by rw[HO.out,d1];rfl),HB.out⟩
  by_cases h2:0<(n:Int)
  ·
   have d2:decide (0<(n:Int))=true:=aC h2;go_wp2_with fail;go_ret;have h3:0<n:=by omega
   exact ⟨zI (by rw[HO.out,d1,d2];simp[h3]),HB.out⟩
  have d2:decide (0<(n:Int))=false:=aD h2;go_wp2_with fail;go_ret;have h3:¬ 0<n:=by omega
  exact ⟨zI (by rw[HO.out,d1,d2];simp[h3]),HB.out⟩
 have d1:decide ((n:Int)≤4096)=false:=aD h1;go_wp2_with fail;go_ret;exact ⟨zI (by rw[HO.out,d1];rfl),HB.out⟩
theorem YU (g:Gn) (s:Sl) (fF:Int) (w:World) (h:fG w s g.m.st) (hs:∀ i,i<8→(g.m.st i).length≤10000) :
  Calls Tryz.prog 106 #[zd g.num g.rev g.mode g.size s g.m.live g.m.d_,.int .i64 fF,.int .i64 (fF+1)] w (MV w s g.m.st (xx g fF)):=by
 have HV:=zh (fun W (hb:Below w.heap.size w W)=>uD g s W (h.below hb) hs);have jf:=zh (show ∀ W,eU W w.heap.size s g.m.st Sl.nil ix.m.st from fun W=>eU.nil W _ _ _);have HRf:=zh (show ∀ W,eU W w.heap.size s g.m.st s g.m.st from fun W=>eU.refl W _ _ _);have HG:=zh (show xx g fF=if wN g=true then (if g.mode=fF then (0,{g with mode:=fF+1}) else (12,ix)) else (1,ix) from rfl);generalize wN g=vb at *;obtain ⟨n,r,md,z,⟨f,L,G⟩⟩:=g;dsimp only at *;generalize xx ⟨n,r,md,z,⟨f,L,G⟩⟩ fF=TG at *;obtain ⟨W,hW,fM,hbr,fU⟩:=wv w n r md z s L G 113;have HX:=zh fM;have HR:=zh hbr;have HB:=zh fU;clear fM hbr fU h hs;generalize hmt:fF+1=mt at *;clear hmt
 go_enter Tryz.func106,Tryz.ntmps106
 go_upto_region 1 with fail;change Code.wp _ _ _ _ ((w.alloc (.cells (zX n r md z s L G) 113)).alloc (.cells (zX 0 0 0 0 Sl.nil 0 0) 113));rw[hW];clear hW;obtain ⟨x0,x1,x2,x3,x4,x5,x6,x7,x8,x9,gq,gu,gj,gl⟩:=HX.out.q;go_wp2_with fail;refine (HV.out _ HB.out).mono ?_;rintro e w1 ⟨rfl,hb1⟩;have fh:=zh (HX.out.below hb1);have fq:=zh (HR.out.below hb1);have eP:=zh (zA HB.out hb1);clear x0 x1 x2 x3 x4 x5 x6 x7 x8 x9 gq gu gj gl;clear hb1 HX HR HB HV;have hlr:=fq.out.lt
 cases vb
 ·
  have jt:=zh (show TG=(1,ix) from HG.out);obtain ⟨r0,r1,r2,r3,r4,r5,r6,r7,r8,r9,mW,mC,nB,oJ⟩:=fq.out.q;have rf:=fq.out.f;go_wp2_with fail;change bodyPost _ _ _ _ _ (pts w1 (w.heap.size+1) (zQ 0 0 0 0 Sl.nil 0 0));have hby:=fq.out.all 0 0 0 0 Sl.nil 0 0;have eD:=zh (zD (B:=w.heap.size) (b:=(w.heap.size+1)) (by omega) (zQ 0 0 0 0 Sl.nil 0 0) eP.out);have gW:=jf.out (pts w1 (w.heap.size+1) (zQ 0 0 0 0 Sl.nil 0 0));rw[jt.out];generalize pts w1 (w.heap.size+1) (zQ 0 0 0 0 Sl.nil 0 0)=V at *;exact au (v:=.tuple #[zd 0 0 0 0 Sl.nil 0 0,.int .i64 1]) (by simp[results,Tryz.results106,go_sem,hby.q]) rfl ⟨⟨_,rfl,gW⟩,eD.out⟩
 by_cases hm:md=fF
 ·
  subst hm;have jt:=zh (show TG=(0,⟨n,r,mt,z,⟨f,L,G⟩⟩) by rw[HG.out,ah rfl,ah rfl]);clear HG;obtain ⟨x0,x1,x2,x3,x4,x5,x6,x7,x8,x9,gq,gu,gj,gl⟩:=fh.out.q;have xf:=fh.out.f;go_upto_region 6 with fail;change Code.wp _ _ _ _ (pts w1 w.heap.size [(2,.int .i64 mt)]);have fW:=zh (fh.out.Jz mt);have gN:=zh (fq.out.eE (show w.heap.size+1≠w.heap.size by omega) [(2,.int .i64 mt)]);have eM:=zh (zD (B:=w.heap.size) (b:=w.heap.size) (ag _) [(2,.int .i64 mt)] eP.out);generalize pts w1 w.heap.size [(2,.int .i64 mt)]=w2 at *;clear x0 x1 x2 x3 x4 x5 x6 x7 x8 x9 gq gu gj gl xf;clear fh fq eP;obtain ⟨x0,x1,x2,x3,x4,x5,x6,x7,x8,x9,gq,gu,gj,gl⟩:=fW.out.q;obtain ⟨r0,r1,r2,r3,r4,r5,r6,r7,r8,r9,mW,mC,nB,oJ⟩:=gN.out.q;have rf:=gN.out.f;go_wp2_with fail;change bodyPost _ _ _ _ _ (pts w2 (w.heap.size+1) (zQ n r mt z s L G))
  have hby:=gN.out.all n r mt z s L G;have eD:=zh (zD (B:=w.heap.size) (b:=(w.heap.size+1)) (by omega) (zQ n r mt z s L G) eM.out);have gW:=HRf.out (pts w2 (w.heap.size+1) (zQ n r mt z s L G));rw[jt.out];generalize pts w2 (w.heap.size+1) (zQ n r mt z s L G)=V at *;exact au (v:=.tuple #[zd n r mt z s L G,.int .i64 0]) (by simp[results,Tryz.results106,go_sem,hby.q]) rfl ⟨⟨_,rfl,gW⟩,eD.out⟩
 have jt:=zh (show TG=(12,ix) by rw[HG.out,ah rfl,ai hm]);have e0:(md==fF)=false:=beq_eq_false_iff_ne.2 hm;clear HG;obtain ⟨x0,x1,x2,x3,x4,x5,x6,x7,x8,x9,gq,gu,gj,gl⟩:=fh.out.q;obtain ⟨r0,r1,r2,r3,r4,r5,r6,r7,r8,r9,mW,mC,nB,oJ⟩:=fq.out.q;have rf:=fq.out.f;go_wp2_with fail;change bodyPost _ _ _ _ _ (pts w1 (w.heap.size+1) (zQ 0 0 0 0 Sl.nil 0 0));have hby:=fq.out.all 0 0 0 0 Sl.nil 0 0;have eD:=zh (zD (B:=w.heap.size) (b:=(w.heap.size+1)) (by omega) (zQ 0 0 0 0 Sl.nil 0 0) eP.out);have gW:=jf.out (pts w1 (w.heap.size+1) (zQ 0 0 0 0 Sl.nil 0 0));rw[jt.out];generalize pts w1 (w.heap.size+1) (zQ 0 0 0 0 Sl.nil 0 0)=V at *;exact au (v:=.tuple #[zd 0 0 0 0 Sl.nil 0 0,.int .i64 12]) (by simp[results,Tryz.results106,go_sem,hby.q]) rfl ⟨⟨_,rfl,gW⟩,eD.out⟩
theorem zEY (g:Gn) (s:Sl) (w:World) (h:fG w s g.m.st) (hs:∀ i,i<8→(g.m.st i).length≤10000) :
  Calls Tryz.prog 85 #[zd g.num g.rev g.mode g.size s g.m.live g.m.d_] w (MV w s g.m.st (xx g 1)):=by
 have HT:=zh (fun W (hb:Below w.heap.size w W)=>YU g s 1 W (h.below hb) hs);rw[show (1:Int)+1=2 from rfl] at HT;clear hs;generalize xx g 1=TG at *;obtain ⟨n,r,md,z,⟨f,L,G⟩⟩:=g;dsimp only at *;obtain ⟨W,hW,fM,hbr,fU⟩:=wv w n r md z s L G 113;have HX:=zh fM;have HR:=zh hbr;have HB:=zh fU;clear fM hbr fU h
 go_enter Tryz.func85,Tryz.ntmps85
 go_upto_region 1 with fail;change Code.wp _ _ _ _ ((w.alloc (.cells (zX n r md z s L G) 113)).alloc (.cells (zX 0 0 0 0 Sl.nil 0 0) 113));rw[hW];clear hW;obtain ⟨x0,x1,x2,x3,x4,x5,x6,x7,x8,x9,gq,gu,gj,gl⟩:=HX.out.q;go_wp2_with fail;refine (HT.out _ HB.out).mono ?_;rintro e w1 ⟨⟨t,rfl,hr⟩,hb⟩;have Bi:=zh (hr.mono (show w.heap.size+2≤W.heap.size by have:=HR.out.lt;omega));have fq:=zh (HR.out.below hb);have eP:=zh (zA HB.out hb);have hlr:=HR.out.lt;clear x0 x1 x2 x3 x4 x5 x6 x7 x8 x9 gq gu gj gl;clear hr HX HT HR HB;obtain ⟨er,⟨n',r',md',z',⟨f',L',G'⟩⟩⟩:=TG;dsimp only at *;obtain ⟨r0,r1,r2,r3,r4,r5,r6,r7,r8,r9,mW,mC,nB,oJ⟩:=fq.out.q;have rf:=fq.out.f;go_wp2_with fail;change bodyPost _ _ _ _ _ (pts w1 (w.heap.size+1) (zQ n' r' md' z' t L' G'));have hby:=fq.out.all n' r' md' z' t L' G'
 have eD:=zh (zD (B:=w.heap.size) (b:=(w.heap.size+1)) (by omega) (zQ n' r' md' z' t L' G') eP.out);have gW:=(Bi.out.pts (show w.heap.size+1<w.heap.size+2 by omega) (zQ n' r' md' z' t L' G')).mono (show w.heap.size≤w.heap.size+2 by omega);generalize pts w1 (w.heap.size+1) (zQ n' r' md' z' t L' G')=V at *;exact au (v:=.tuple #[zd n' r' md' z' t L' G',.int .i64 er]) (by simp[results,Tryz.results85,go_sem,hby.q]) rfl ⟨⟨_,rfl,gW⟩,eD.out⟩
theorem zHV (g:Gn) (s:Sl) (w:World) (h:fG w s g.m.st) (hs:∀ i,i<8→(g.m.st i).length≤10000) :
  Calls Tryz.prog 65 #[zd g.num g.rev g.mode g.size s g.m.live g.m.d_] w (MV w s g.m.st (xx g 2)):=by
 have HT:=zh (fun W (hb:Below w.heap.size w W)=>YU g s 2 W (h.below hb) hs);rw[show (2:Int)+1=3 from rfl] at HT;clear hs;generalize xx g 2=TG at *;obtain ⟨n,r,md,z,⟨f,L,G⟩⟩:=g;dsimp only at *;obtain ⟨W,hW,fM,hbr,fU⟩:=wv w n r md z s L G 113;have HX:=zh fM;have HR:=zh hbr;have HB:=zh fU;clear fM hbr fU h
 go_enter Tryz.func65,Tryz.ntmps65
 go_upto_region 1 with fail;change Code.wp _ _ _ _ ((w.alloc (.cells (zX n r md z s L G) 113)).alloc (.cells (zX 0 0 0 0 Sl.nil 0 0) 113));rw[hW];clear hW;obtain ⟨x0,x1,x2,x3,x4,x5,x6,x7,x8,x9,gq,gu,gj,gl⟩:=HX.out.q;go_wp2_with fail;refine (HT.out _ HB.out).mono ?_;rintro e w1 ⟨⟨t,rfl,hr⟩,hb⟩;have Bi:=zh (hr.mono (show w.heap.size+2≤W.heap.size by have:=HR.out.lt;omega));have fq:=zh (HR.out.below hb);have eP:=zh (zA HB.out hb);have hlr:=HR.out.lt;clear x0 x1 x2 x3 x4 x5 x6 x7 x8 x9 gq gu gj gl;clear hr HX HT HR HB;obtain ⟨er,⟨n',r',md',z',⟨f',L',G'⟩⟩⟩:=TG;dsimp only at *;obtain ⟨r0,r1,r2,r3,r4,r5,r6,r7,r8,r9,mW,mC,nB,oJ⟩:=fq.out.q;have rf:=fq.out.f;go_wp2_with fail;change bodyPost _ _ _ _ _ (pts w1 (w.heap.size+1) (zQ n' r' md' z' t L' G'));have hby:=fq.out.all n' r' md' z' t L' G'
 have eD:=zh (zD (B:=w.heap.size) (b:=(w.heap.size+1)) (by omega) (zQ n' r' md' z' t L' G') eP.out);have gW:=(Bi.out.pts (show w.heap.size+1<w.heap.size+2 by omega) (zQ n' r' md' z' t L' G')).mono (show w.heap.size≤w.heap.size+2 by omega);generalize pts w1 (w.heap.size+1) (zQ n' r' md' z' t L' G')=V at *;exact au (v:=.tuple #[zd n' r' md' z' t L' G',.int .i64 er]) (by simp[results,Tryz.results65,go_sem,hby.q]) rfl ⟨⟨_,rfl,gW⟩,eD.out⟩
end Go.Proofs.YtcgfilmmokmdjaaGreat
