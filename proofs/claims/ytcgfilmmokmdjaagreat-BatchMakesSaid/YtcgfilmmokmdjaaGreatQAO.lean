import Derived.Test.YtcgfilmmokmdjaaGreatQAG
import Derived.Test.YtcgfilmmokmdjaaGreatQAL
import Derived.Test.YtcgfilmmokmdjaaGreatQAK
import Derived.Test.YtcgfilmmokmdjaaGreatSkb
import Derived.Test.YtcgfilmmokmdjaaGreatQAM
import Derived.RangeFuncBox
import Derived.RangeFuncLeaves
import Derived.Shelf.Abstract
import Derived.OwnWalkIn
import Derived.TacticsInMore
import Derived.LoopNIn
import Derived.LoopIn
import Derived.Test.YtcgfilmmokmdjaaGreatQAH
set_option linter.all false
set_option maxRecDepth 100000
set_option maxHeartbeats 32000000
namespace Go.Proofs.YtcgfilmmokmdjaaGreat
open Go.RowKit
def vR (L:List GP):Bool:=decide (L.length≤12)&&L.all fun p=>K4 p.1.m.st
theorem zFW {L:List GP} {i k:Nat} (hi:i<L.length) (hk:k<8) (h:¬ ((pat L i).1.m.st k).length≤8):vR L=false:=by
 unfold vR;rw[Bool.and_eq_false_iff]
 right
 rw[List.all_eq_false];exact ⟨pat L i,yX hi,by rw[zGl hk h];decide⟩
theorem zEM {L:List GP} (h:∀ i,i<L.length→∀ k,k<8→((pat L i).1.m.st k).length≤8):vR L=decide (L.length≤12):=by
 unfold vR;have:(L.all fun p=>K4 p.1.m.st)=true:=List.all_eq_true.2 fun p hp=>by
  obtain ⟨j,hj,rfl⟩:=cG hp;refine zFB fun k hk=>?_
  have:=h j hj k hk;unfold pat at this;rw[ax,aB hj] at this;exact this
 rw[this,Bool.and_true]
theorem zD2 {L:List GP} (h:vR L=true):L.length≤12∧∀ p∈L,∀ k,k<8→(p.1.m.st k).length≤8:=by
 unfold vR at h;rw[aN,aR,dy] at h;exact ⟨h.1,fun p hp=>zFD (h.2 p hp)⟩
end Go.Proofs.YtcgfilmmokmdjaaGreat
namespace Go.Proofs.YtcgfilmmokmdjaaGreat
open Go Go.RowKit
section
variable {P:Program} {ops:Array Oper} {md:Region.Mode}
def GR (md:Region.Mode) (ops:Array Oper) (n:Nat):Bool:=
 decide (n=ops.size) &&
 ((List.range n).all fun i=>((ops[i]?).map fun o=>o.after.all fun e=>!Region.binds md e||decide (e.on<i)).getD false) &&
 ((List.range n).all fun i=>(List.range n).all fun j=>decide (i=j)||decide (zT ops i=none)||decide (zT ops i≠zT ops j)) &&
 Region.seqB md ops (ops.size-n) n ((List.range ops.size).map fun j=>decide (j<n)).toArray
variable {Q:Exit→Act→World→Prop}
theorem zIQ {n:Nat} {a0:Act} {I:(Nat→Bool)→(Nat→Value)→World→Prop} {l:List Oper} (hl:ops=l.toArray) (hB:GR md ops n=true) (hN:∀ i,i<n→∀ t,zT ops i=some t→t<a0.tmps.size)
  (head:∀ i o,i<n→ops[i]?=some o→∀ L f w,L i=false→(∀ e∈o.after,Region.binds md e=true→L e.on=true)→I L f w →
   wpList P ops (Exit.then (PT (fun v w'=>I (nZ L i) (xB f i v) w') (fF ops a0 f n).defers o.dst) Q) [o] (fF ops a0 f n) w)
  (tail:∀ L f w,(∀ j,j<n→L j=true)→I L f w→wpList P ops Q (l.drop n) (fF ops a0 f n) w) :
  ∀ (fuel:Nat) (T:List Nat) (s:Array Bool) (L:Nat→Bool) (f:Nat→Value) (w:World),(∀ j,s.getD j false=L j)→T.Nodup→T.length=fuel→(∀ j,j<n→(s.getD j false=false↔j∈T))→(∀ j∈T,j<n)→HeadInv md ops n s→I L f w →
   wpAny P md ops Q (fuel+(ops.size-n)) s (fF ops a0 f n) w:=by
 simp only[GR,aN,aR] at hB;obtain ⟨⟨⟨hn,hfw⟩,hdd⟩,Gx⟩:=hB;have pR:∀ i o,i<n→ops[i]?=some o→∀ e∈o.after,Region.binds md e=true→e.on<i:=fun i o hi ho e he hb=>by
  have:=List.all_eq_true.1 hfw i (List.mem_range.2 hi);rw[ho] at this;simp only[dE,bC] at this;have h2:=Array.all_eq_true_iff_forall_mem.1 this e he;rw[hb] at h2
  simpa using h2
 have s6:∀ i j,i<n→j<n→i≠j→zT ops i=none∨zT ops i≠zT ops j:=fun i j hi hj hij=>by
  have:=List.all_eq_true.1 (List.all_eq_true.1 hdd i (List.mem_range.2 hi)) j (List.mem_range.2 hj)
  simpa [hij] using this
 intro fuel
 induction fuel with
 |zero =>
  intro T s L f w hL hT hlen l5 rT inv hI;have Gy:T=[]:=List.length_eq_zero_iff.1 hlen;subst Gy;have hall:∀ j,j<n→s.getD j false=true:=fun j hj=>by
   cases h:s.getD j false with
   |true=>rfl
   |false=>exact absurd ((l5 j hj).1 h) (by simp)
  have Fz:s=((List.range ops.size).map fun j=>decide (j<n)).toArray:=by
   apply Array.ext
   ·
    simp[inv.size]
   intro j h1 h2;have iT:j<ops.size:=by rw[← inv.size];exact h1
   simp only[aU,dH,dQ]
   by_cases e:j<n
   ·
    have:=hall j e;rw[bw,bM h1] at this;simp only[bC] at this;rw[this];simp[e]
   have:=inv.tail j (by omega) iT;rw[bw,bM h1] at this;simp only[bC] at this;rw[this];simp[e]
  rw[aI];have il:(l.drop n).length=ops.size-n:=by rw[hl];simp
  have h3:=wpAny_of_seq (P:=P) (md:=md) (ops:=ops) (Q':=Q) (l.drop n) n s (fF ops a0 f n) w (fun j=>by rw[hl];simp[cQ]) (by rw[il,Fz];exact Gx) (tail L f w (fun j hj=>by rw[← hL];exact hall j hj) hI)
  rwa [il] at h3
 |succ fuel ih =>
  intro T s L f w hL hT hlen l5 rT inv hI;have t_:T≠[]:=fun e=>by rw[e] at hlen;cases hlen
  obtain ⟨m,hm,hle⟩:=tT t_;have hmn:=rT m hm;have hun:s.getD m false=false:=(l5 m hmn).2 hm;have EC:m<s.size:=by rw[inv.size];omega
  obtain ⟨om,CB⟩:∃ o,ops[m]?=some o:=⟨_,bM (by omega)⟩
  have ll:m∈Region.ready md ops s:=mem_ready.2 ⟨getD_in EC hun,om,CB,fun e he jL=>by
   have h1:=pR m om hmn CB e he jL
   cases h2:s.getD e.on false with
   |true=>rfl
   |false =>
    have:=hle _ ((l5 e.on (by omega)).1 h2)
    omega⟩
  rw[show fuel+1+(ops.size-n)=(fuel+(ops.size-n))+1 by omega];refine ⟨fun e=>absurd ll (by rw[e];simp),fun i hi=>?_⟩;obtain ⟨D3,oi,hoi,mO⟩:=mem_ready.1 hi;have hin:i<n:=by rw[hn];exact (Array.getElem?_eq_some_iff.1 hoi).1
  have Gz:i∈T:=(l5 i hin).1 (getD_both D3);have nM:zT ops i=oi.dst:=by unfold zT;rw[hoi];rfl
  unfold wpOp;rw[hoi];simp only[];have hh:=head i oi hin hoi L f w (by rw[← hL];exact getD_both D3) (fun e he jL=>by rw[← hL];exact mO e he jL) hI;refine kS hh (fun v w' hR=>?_) (fun d v w' hR=>?_)
  ·
   obtain ⟨_,hv0,hv⟩:=hR;have hval:I (nZ L i) (xB f i v) w':=by
    cases hd:oi.dst with
    |none=>exact hv0 hd v
    |some t =>
     have h4:=hv t hd;have h5:t<(fF ops a0 f n).tmps.size:=by rw[ue];exact hN i hin t (by rw[nM,hd])
     rw[hd] at h4
     simpa [Act.put,h5] using h4
   rw[← nM,tq ops a0 f i v n hin fun j hj hji=>s6 i j hin hj (aQ hji)];refine ih (T.erase i) _ (nZ L i) _ w' (fun j=>?_) (hT.erase i) (by rw[List.length_erase_of_mem Gz];omega) (fun j hj=>?_) (fun j hj=>rT j (List.mem_of_mem_erase hj)) (inv.set hi hin) hval
   ·
    unfold nZ
    by_cases e:j=i
    ·
     subst e;have iT:j<s.size:=by rw[inv.size];omega
     simp[bw,iT]
    rw[bJ false (aQ e),hL j,ai e]
   rw[hT.mem_erase_iff]
   by_cases e:j=i
   ·
    subst e;have iT:j<s.size:=by rw[inv.size];omega
    simp[bw,iT]
   rw[bJ false (aQ e),l5 j hj];simp[e]
  have h1:=hR.1;have h2:=aO List.length h1
  cases GD:oi.dst<;>simp[Act.put,GD] at h2
theorem zKB {id:Nat} {a0:Act} {w:World} {l:List Oper} (n:Nat) (I:(Nat→Bool)→(Nat→Value)→World→Prop) (N:Nat) (hm:P.follows .mixedOrders=true) (hB:GR .any l.toArray n=true)
  (hsz:a0.tmps.size=N) (hN:MX l.toArray n N=true) {fr:(Nat→Value)→Act} (hfr:∀ f,fF l.toArray a0 f n=fr f)
  (start:∀ f,I (fun _=>false) f w.drew)
  (head:PU P Q l.toArray I fr l n 0)
  (tail:∀ L f w1,(∀ j,j<n→L j=true)→I L f w1→wpList P l.toArray Q (l.drop n) (fr f) w1):(Code.region id l.toArray true).wp P Q a0 w:=by
 have hn:n=l.toArray.size:=by
  simp only[GR,aN,aR] at hB;exact hB.1.1.1
 refine wp_region_any hm ?_;have h:=zIQ (md:=.any) (Q:=Q) (P:=P) (n:=n) (a0:=a0) (I:=I) rfl hB
  (fun i hi t ht=>by
   have h1:=List.all_eq_true.1 hN i (List.mem_range.2 hi)
   rw[ht] at h1
   rw[hsz]
   simpa using h1)
  (fun i o hi ho L f w1 h0 hd hI=>by
   rw[hfr]
   have h2:=Tn l n 0 head i o (by simpa using ho) hi L f w1 (by rwa [aI]) (fun j hj=>by
    unfold GF at hj
    obtain ⟨e,he,h3⟩:=Array.any_eq_true'.1 hj
    simp only[aN,cE] at h3
    rw[← h3.2]
    exact hd e he h3.1) hI
   rwa [aI] at h2)
  (fun L f w1 hA hI=>by rw[hfr];exact tail L f w1 hA hI)
  n (List.range n) (Array.replicate l.toArray.size false) (fun _=>false) (fun j=>match zT l.toArray j with|some d=>a0.tmps.getD d undef|none=>undef) w.drew
  (fun j=>getD_replicate_false _ _) List.nodup_range (by simp) (fun j hj=>by rw[getD_replicate_false];simp[hj]) (fun j hj=>by simpa using hj)
  ⟨by simp,fun j oj _ hl=>(by rw[getD_replicate_false] at hl;cases hl),fun t _ ht=>getD_in (by simpa using ht) (getD_replicate_false _ _)⟩
  (start _)
 have e0:fF l.toArray a0 (fun j=>match zT l.toArray j with|some d=>a0.tmps.getD d undef|none=>undef) n=a0:=K1 _ _ _;rw[e0,show n+(l.toArray.size-n)=l.toArray.size by omega] at h;exact h
def Qc (n:Nat) (w0:World) (Φ:Nat→Value→World→Prop) (L:Nat→Bool) (f:Nat→Value) (w:World):Prop:=Below w0.heap.size w0 w∧∀ j,j<n→L j=true→Φ j (f j) w
theorem zIz {n:Nat} {a0:Act} {w0:World} {Φ:Nat→Value→World→Prop} (hΦ:∀ j v w1 w2,Below w1.heap.size w1 w2→Φ j v w1→Φ j v w2) {l:List Oper} (hl:ops=l.toArray) (hds:∀ i,i<n→(zT ops i).isSome=true) (hB:GR md ops n=true) (hN:∀ i,i<n→∀ t,zT ops i=some t→t<a0.tmps.size)
  (head:∀ i o,i<n→ops[i]?=some o→∀ L f w,L i=false→(∀ e∈o.after,Region.binds md e=true→L e.on=true)→Qc n w0 Φ L f w →
   wpList P ops (Exit.then (uz (Φ i) False (fF ops a0 f n).defers o.dst w) Q) [o] (fF ops a0 f n) w)
  (tail:∀ L f w,(∀ j,j<n→L j=true)→Qc n w0 Φ L f w→wpList P ops Q (l.drop n) (fF ops a0 f n) w) :
  ∀ (fuel:Nat) (T:List Nat) (s:Array Bool) (L:Nat→Bool) (f:Nat→Value) (w:World),(∀ j,s.getD j false=L j)→T.Nodup→T.length=fuel→(∀ j,j<n→(s.getD j false=false↔j∈T))→(∀ j∈T,j<n)→HeadInv md ops n s→Qc n w0 Φ L f w →
   wpAny P md ops Q (fuel+(ops.size-n)) s (fF ops a0 f n) w:=by
 simp only[GR,aN,aR] at hB;obtain ⟨⟨⟨hn,hfw⟩,hdd⟩,Gx⟩:=hB;have pR:∀ i o,i<n→ops[i]?=some o→∀ e∈o.after,Region.binds md e=true→e.on<i:=fun i o hi ho e he hb=>by
  have:=List.all_eq_true.1 hfw i (List.mem_range.2 hi);rw[ho] at this;simp only[dE,bC] at this;have h2:=Array.all_eq_true_iff_forall_mem.1 this e he;rw[hb] at h2
  simpa using h2
 have s6:∀ i j,i<n→j<n→i≠j→zT ops i=none∨zT ops i≠zT ops j:=fun i j hi hj hij=>by
  have:=List.all_eq_true.1 (List.all_eq_true.1 hdd i (List.mem_range.2 hi)) j (List.mem_range.2 hj)
  simpa [hij] using this
 intro fuel
 induction fuel with
 |zero =>
  intro T s L f w hL hT hlen l5 rT inv hI;have Gy:T=[]:=List.length_eq_zero_iff.1 hlen;subst Gy;have hall:∀ j,j<n→s.getD j false=true:=fun j hj=>by
   cases h:s.getD j false with
   |true=>rfl
   |false=>exact absurd ((l5 j hj).1 h) (by simp)
  have Fz:s=((List.range ops.size).map fun j=>decide (j<n)).toArray:=by
   apply Array.ext
   ·
    simp[inv.size]
   intro j h1 h2;have iT:j<ops.size:=by rw[← inv.size];exact h1
   simp only[aU,dH,dQ]
   by_cases e:j<n
   ·
    have:=hall j e;rw[bw,bM h1] at this;simp only[bC] at this;rw[this];simp[e]
   have:=inv.tail j (by omega) iT;rw[bw,bM h1] at this;simp only[bC] at this;rw[this];simp[e]
  rw[aI];have il:(l.drop n).length=ops.size-n:=by rw[hl];simp
  have h3:=wpAny_of_seq (P:=P) (md:=md) (ops:=ops) (Q':=Q) (l.drop n) n s (fF ops a0 f n) w (fun j=>by rw[hl];simp[cQ]) (by rw[il,Fz];exact Gx) (tail L f w (fun j hj=>by rw[← hL];exact hall j hj) hI)
  rwa [il] at h3
 |succ fuel ih =>
  intro T s L f w hL hT hlen l5 rT inv hI;have t_:T≠[]:=fun e=>by rw[e] at hlen;cases hlen
  obtain ⟨m,hm,hle⟩:=tT t_;have hmn:=rT m hm;have hun:s.getD m false=false:=(l5 m hmn).2 hm;have EC:m<s.size:=by rw[inv.size];omega
  obtain ⟨om,CB⟩:∃ o,ops[m]?=some o:=⟨_,bM (by omega)⟩
  have ll:m∈Region.ready md ops s:=mem_ready.2 ⟨getD_in EC hun,om,CB,fun e he jL=>by
   have h1:=pR m om hmn CB e he jL
   cases h2:s.getD e.on false with
   |true=>rfl
   |false =>
    have:=hle _ ((l5 e.on (by omega)).1 h2)
    omega⟩
  rw[show fuel+1+(ops.size-n)=(fuel+(ops.size-n))+1 by omega];refine ⟨fun e=>absurd ll (by rw[e];simp),fun i hi=>?_⟩;obtain ⟨D3,oi,hoi,mO⟩:=mem_ready.1 hi;have hin:i<n:=by rw[hn];exact (Array.getElem?_eq_some_iff.1 hoi).1
  have Gz:i∈T:=(l5 i hin).1 (getD_both D3);have nM:zT ops i=oi.dst:=by unfold zT;rw[hoi];rfl
  unfold wpOp;rw[hoi];simp only[];have hh:=head i oi hin hoi L f w (by rw[← hL];exact getD_both D3) (fun e he jL=>by rw[← hL];exact mO e he jL) hI;refine kS hh (fun v w' hR=>?_) (fun d v w' hR=>?_)
  ·
   obtain ⟨_,w_,hv⟩:=hR;have hval:Qc n w0 Φ (nZ L i) (xB f i v) w':=by
    have hsome:=hds i hin;rw[nM] at hsome
    cases hd:oi.dst with
    |none=>rw[hd] at hsome;cases hsome
    |some t =>
     have h4:=(hv t hd).1;have h5:t<(fF ops a0 f n).tmps.size:=by rw[ue];exact hN i hin t (by rw[nM,hd])
     rw[hd] at h4;have h6:Φ i v w':=by simpa [Act.put,h5] using h4
     refine ⟨zA hI.1 w_,fun j hj TY=>?_⟩;unfold nZ at TY;unfold xB
     by_cases e:j=i
     ·
      rw[ah e];rw[e];exact h6
     rw[ai e] at TY ⊢;exact hΦ j _ _ _ w_ (hI.2 j hj TY)
   rw[← nM,tq ops a0 f i v n hin fun j hj hji=>s6 i j hin hj (aQ hji)];refine ih (T.erase i) _ (nZ L i) _ w' (fun j=>?_) (hT.erase i) (by rw[List.length_erase_of_mem Gz];omega) (fun j hj=>?_) (fun j hj=>rT j (List.mem_of_mem_erase hj)) (inv.set hi hin) hval
   ·
    unfold nZ
    by_cases e:j=i
    ·
     subst e;have iT:j<s.size:=by rw[inv.size];omega
     simp[bw,iT]
    rw[bJ false (aQ e),hL j,ai e]
   rw[hT.mem_erase_iff]
   by_cases e:j=i
   ·
    subst e;have iT:j<s.size:=by rw[inv.size];omega
    simp[bw,iT]
   rw[bJ false (aQ e),l5 j hj];simp[e]
  have h1:=hR.1;have h2:=aO List.length h1
  cases GD:oi.dst<;>simp[Act.put,GD] at h2
def zMZ (ops:Array Oper) (n:Nat):Bool:=(List.range n).all fun i=>(zT ops i).isSome
theorem wB {id:Nat} {a0:Act} {w:World} {l:List Oper} (L:List mE) (N:Nat) (hm:P.follows .mixedOrders=true) (hB:GR .any l.toArray L.length=true) (hD:zMZ l.toArray L.length=true)
  (hsz:a0.tmps.size=N) (hN:MX l.toArray L.length N=true) {fr:(Nat→Value)→Act} (hfr:∀ f,fF l.toArray a0 f L.length=fr f)
  (head:MY P Q l.toArray L [] fr w l L 0)
  (tail:∀ f w1,Below w.heap.size w w1→(∀ j,j<L.length→(stA L j).p (f j) w1)→wpList P l.toArray Q [] (fr f) w1):(Code.region id l.toArray true).wp P Q a0 w:=by
 have hn:L.length=l.toArray.size:=by
  simp only[GR,aN,aR] at hB;exact hB.1.1.1
 refine wp_region_any hm ?_;have h:=zIz (md:=.any) (Q:=Q) (P:=P) (n:=L.length) (a0:=a0) (w0:=w) (Φ:=fun j=>(stA L j).p) (fun j v w1 w2 hb h=>(stA L j).m v w1 w2 hb h) rfl (fun i hi=>List.all_eq_true.1 hD i (List.mem_range.2 hi)) hB
  (fun i hi t ht=>by
   have h1:=List.all_eq_true.1 hN i (List.mem_range.2 hi)
   rw[ht] at h1
   rw[hsz]
   simpa using h1)
  (fun i o hi ho Lb f w1 h0 hd hI=>by
   rw[hfr]
   have hS:L[i]?=some (stA L i):=by
    unfold stA
    rw[ax,aB hi];rfl
   have h2:=kr l L 0 head i o (stA L i) (by simpa using ho) hS f w1 hI.1 (fun j hj=>by
    unfold GF at hj
    obtain ⟨e,he,h3⟩:=Array.any_eq_true'.1 hj
    simp only[aN,cE] at h3
    have hlt:e.on<i:=by
     have hB2:=hB
     simp only[GR,aN,aR] at hB2
     have:=List.all_eq_true.1 hB2.1.1.2 i (List.mem_range.2 hi)
     rw[ho] at this
     simp only[dE,bC] at this
     have h5:=Array.all_eq_true_iff_forall_mem.1 this e he
     rw[h3.1] at h5
     simpa using h5
    have h4:=hI.2 e.on (by omega) (hd e he h3.1)
    rwa [h3.2] at h4)
   have h3:(0+i∈([]:List Nat))=False:=by simp
   rw[h3] at h2
   exact h2)
  (fun Lb f w1 hA hI=>by
   rw[hfr]
   have il:l.drop L.length=[]:=bY (by rw[hn];simp)
   rw[il]
   exact tail f w1 hI.1 fun j hj=>hI.2 j hj (hA j hj))
  L.length (List.range L.length) (Array.replicate l.toArray.size false) (fun _=>false) (fun j=>match zT l.toArray j with|some d=>a0.tmps.getD d undef|none=>undef) w.drew
  (fun j=>getD_replicate_false _ _) List.nodup_range (by simp) (fun j hj=>by rw[getD_replicate_false];simp[hj]) (fun j hj=>by simpa using hj)
  ⟨by simp,fun j oj _ hl=>(by rw[getD_replicate_false] at hl;cases hl),fun t _ ht=>getD_in (by simpa using ht) (getD_replicate_false _ _)⟩
  ⟨zi (aj _ _),fun j _ h=>by cases h⟩
 have e0:fF l.toArray a0 (fun j=>match zT l.toArray j with|some d=>a0.tmps.getD d undef|none=>undef) L.length=a0:=K1 _ _ _;rw[e0,show L.length+(l.toArray.size-L.length)=l.toArray.size by omega] at h;exact h
end
end Go.Proofs.YtcgfilmmokmdjaaGreat
namespace Go.Proofs.YtcgfilmmokmdjaaGreat
open Go.RowKit
structure Qd (w:World) (b o:Nat) (i l:Int) (r:Bool) (a:Option Addr) (n c:Nat):Prop where
 c0:w.cell? ⟨b,o,none⟩=some (.int .i64 i)
 c1:w.cell? ⟨b,o+1,none⟩=some (.int .i64 l)
 c2:w.cell? ⟨b,o+2,none⟩=some (.bool r)
 c3:w.cell? ⟨b,o+3,none⟩=some (.slice a n c)
theorem Qd.below {w w':World} {b o:Nat} {i l:Int} {r:Bool} {a:Option Addr} {n c:Nat} (h:Qd w b o i l r a n c) (hb:Below w.heap.size w w'):Qd w' b o i l r a n c:=⟨hb.keeps' h.c0,hb.keeps' h.c1,hb.keeps' h.c2,hb.keeps' h.c3⟩
def o5 (w:World) (b k:Nat):Prop:=∃ (i l:Int) (r:Bool) (a:Option Addr) (n c:Nat) (L:List GP),Qd w b (k*4) i l r a n c∧fD w (.slice a n c) L∧(∀ p∈L,∀ j,j<8→(p.1.m.st j).length≤48)∧n≤12
theorem o5.below {w w':World} {b k:Nat} (h:o5 w b k) (hb:Below w.heap.size w w'):o5 w' b k:=by
 obtain ⟨i,l,r,a,n,c,L,h1,h2,h3,h4⟩:=h;exact ⟨i,l,r,a,n,c,L,h1.below hb,h2.below hb,h3,h4⟩
def zMe:mE:=⟨fun v w=>∃ j,v=.slice (some ⟨j,0,none⟩) 2 2∧o5 w j 0∧o5 w j 1,fun _ _ _ hb ⟨j,h1,h2,h3⟩=>⟨j,h1,h2.below hb,h3.below hb⟩⟩
def slV (p:eX) (k:Nat):mE:=⟨fun v w=>∃ a n c L,v=zO p.id p.lim p.ro a n c∧fD w (.slice a n c) L∧ep L=p.dY∧n≤k,fun _ _ _ hb ⟨a,n,c,L,h1,h2,h3,h4⟩=>⟨a,n,c,L,h1,h2.below hb,h3,h4⟩⟩
theorem fD.len {w:World} {a:Option Addr} {n c:Nat} {L:List GP} (h:fD w (.slice a n c) L):L.length=n:=by
 obtain ⟨_,_,e,_⟩:=h.shape;injection e with _ e _;exact e.symm
def Zy (w0:World) (L:List GP) (p:Int×Gn) (e:Ending) (w':World):Prop:=(∃ s,e=.returned (.tuple #[zd p.2.num p.2.rev p.2.mode p.2.size s p.2.m.live p.2.m.d_,.int .i64 p.1])∧((p.2,s)∈L∨(p.2=ix∧s=Sl.nil)))∧Below w0.heap.size w0 w'
def GU (w0:World) (L:List GP) (y:GP) (p:eX×Int) (e:Ending) (w':World):Prop:=(∃ a n c L',e=.returned (.tuple #[zO p.1.id p.1.lim p.1.ro a n c,.int .i64 p.2])∧w'.ownsRow w0.heap.size 113 14 (.slice a n c) n (L'.flatMap iL)∧(∀ q∈L',q∈L∨q=y)∧ep L'=p.1.dY)∧Below w0.heap.size w0 w'
theorem zHb {W:World} {B B' sz n:Nat} {T:TypeId} {v:Value} {xs:List Value} (hB:B≤B') (h:W.ownsRow B' T sz v n xs):W.ownsRow B T sz v n xs:=
 ⟨h.1,h.2.imp id fun ⟨g,cap,cur,e,hb,r⟩=>⟨g,cap,cur,e,ak hB hb,r⟩⟩
theorem GU.no {w0 w:World} {L:List GP} {y:GP} {c:Int} (h:Below w0.heap.size w0 w):GU w0 L y (xh,c) (.returned (.tuple #[zO 0 0 false Option.none 0 0,.int .i64 c])) w:=
 ⟨⟨Option.none,0,0,[],rfl,⟨rfl,.inl ⟨rfl,rfl⟩⟩,(fun _ h=>by cases h),rfl⟩,h⟩
theorem zMN (i l:Int) (r:Bool) (a:Option Addr) (n c:Nat) (L:List GP) (w:World) (h:fD w (.slice a n c) L) (hs:∀ p∈L,∀ j,j<8→(p.1.m.st j).length≤10000) :
  Calls Tryz.prog 77 #[zO i l r a n c] w (Zy w L (wn ⟨i,l,r,ep L⟩)):=by
 have fQ:=zh (fun W (hb:Below w.heap.size w W)=>zz i l r a n c L W (h.below hb) hs);have eB:=zh (eW.new w i l r a n c 31);have eH:=zh (zM w i l r a n c 31);have hcs:wn ⟨i,l,r,ep L⟩=if zY ⟨i,l,r,ep L⟩=true then (0,ze ⟨i,l,r,ep L⟩) else (1,ix):=rfl
 cases hv:zY ⟨i,l,r,ep L⟩
 ·
  rw[hv] at fQ;rw[hv,ai (by decide)] at hcs;have HC:=zh hcs;clear h hs hv hcs
  go_enter Tryz.func77,Tryz.ntmps77
  go_upto_region 1 with fail;obtain ⟨W,hW⟩:∃ W,w.alloc (.cells (zK i l r a n c) 31)=W:=⟨_,rfl⟩
  change Code.wp _ _ _ _ ((w.alloc (.cells (zK i l r a n c) 31)).alloc (.cells (zX 0 0 0 0 Sl.nil 0 0) 113));have hsz:W.heap.size=w.heap.size+1:=by rw[← hW];simp
  rw[hW] at eB eH ⊢;clear hW;obtain ⟨W2,hW2⟩:∃ W2,W.alloc (.cells (zX 0 0 0 0 Sl.nil 0 0) 113)=W2:=⟨_,rfl⟩
  have HR:=zh (show eO W2 (w.heap.size+1) 0 0 0 0 Sl.nil 0 0 from by have:=eO.new W 0 0 0 0 Sl.nil 0 0 113;rw[hW2,hsz] at this;exact this);have ew:=zZ W 0 0 0 0 Sl.nil 0 0 113;rw[hW2] at ew ⊢;have eM:=zh (zA eH.out ew);have fW:=zh (eB.out.below ew);clear ew hW2;obtain ⟨k0,k1,k2,k3⟩:=fW.out.q;go_wp2_with fail;refine (fQ.out _ eM.out).mono ?_;rintro e w1 ⟨rfl,hb1⟩;have eP:=zh (zA eM.out hb1);have fh:=zh (fW.out.below hb1);have fq:=zh (HR.out.below hb1);clear k0 k1 k2 k3 hb1 eM fW HR eB eH;have rf:=fq.out.f;obtain ⟨y0,y1,y2,y3,y4,y5,y6,y7,y8,y9,Gs,Gt,Gu,Gv⟩:=fq.out.q;go_wp2_with fail;change bodyPost _ _ _ _ _ (pts w1 (w.heap.size+1) (zQ 0 0 0 0 Sl.nil 0 0));have hby:=fq.out.all 0 0 0 0 Sl.nil 0 0;have eD:=zh (zD (B:=w.heap.size) (b:=(w.heap.size+1)) (by omega) (zQ 0 0 0 0 Sl.nil 0 0) eP.out)
  generalize pts w1 (w.heap.size+1) (zQ 0 0 0 0 Sl.nil 0 0)=V at *;exact au (v:=.tuple #[zd 0 0 0 0 Sl.nil 0 0,.int .i64 1]) (by simp[results,Tryz.results77,go_sem,hby.q]) rfl ⟨⟨Sl.nil,by rw[HC.out];first|done|rfl,by rw[HC.out];exact .inr ⟨rfl,rfl⟩⟩,eD.out⟩
 rw[hv] at fQ;rw[hv,ah rfl] at hcs;have hV:=(zW _).1 hv;have fO:L.length=n:=by
  obtain ⟨_,_,e,_⟩:=h.shape;injection e with _ e _;exact e.symm
 have hl:(ep L).length=n:=by rw[zn,fO]
 have hn:1≤n∧n≤8:=by have:=hV.len;simp only[hl] at this;exact this
 obtain ⟨j,rfl⟩:∃ j,n=j+1:=⟨n-1,by omega⟩
 rw[vF fO] at hcs;have HC:=zh hcs;have jf:=zh h;have hmem:=yX (l:=L) (i:=j) (by omega);have jS:=zh hmem;have Gw:=zh (hs _ hmem);clear hV fO hl hv h hs hmem hcs;obtain ⟨b,off,rfl,hg⟩:=jf.out.at (show j<j+1 by omega);have HG:=zh hg;clear hg jf;generalize pat L j=p at *;obtain ⟨⟨num,rev,md,sz,⟨f,LV,GA⟩⟩,s⟩:=p;dsimp only at *
 go_enter Tryz.func77,Tryz.ntmps77
 go_upto_region 1 with fail;obtain ⟨W,hW⟩:∃ W,w.alloc (.cells (zK i l r (some ⟨b,off,none⟩) (j+1) c) 31)=W:=⟨_,rfl⟩
 change Code.wp _ _ _ _ ((w.alloc (.cells (zK i l r (some ⟨b,off,none⟩) (j+1) c) 31)).alloc (.cells (zX 0 0 0 0 Sl.nil 0 0) 113));have hsz:W.heap.size=w.heap.size+1:=by rw[← hW];simp
 rw[hW] at eB eH ⊢;clear hW;obtain ⟨W2,hW2⟩:∃ W2,W.alloc (.cells (zX 0 0 0 0 Sl.nil 0 0) 113)=W2:=⟨_,rfl⟩
 have HR:=zh (show eO W2 (w.heap.size+1) 0 0 0 0 Sl.nil 0 0 from by have:=eO.new W 0 0 0 0 Sl.nil 0 0 113;rw[hW2,hsz] at this;exact this);have ew:=zZ W 0 0 0 0 Sl.nil 0 0 113;rw[hW2] at ew ⊢;have eM:=zh (zA eH.out ew);have fW:=zh (eB.out.below ew);clear ew hW2;obtain ⟨k0,k1,k2,k3⟩:=fW.out.q;go_wp2_with fail;refine (fQ.out _ eM.out).mono ?_;rintro e w1 ⟨rfl,hb1⟩;have eP:=zh (zA eM.out hb1);have fh:=zh (fW.out.below hb1);have fq:=zh (HR.out.below hb1);clear k0 k1 k2 k3 hb1 eM fW HR eB eH;have sB:=zh (HG.out.below eP.out);clear HG fQ;have j3:IntKind.i64.wrap (j:Int)=(j:Int):=aF _ (by omega);have i2:(j:Int)<((j+1:Nat):Int):=by omega
 have v3:=fh.out.c3;obtain ⟨g0,g1,g2,g3,g4,g5,g6,g7,g8,g9,g10,g11,g12,g13⟩:=sB.out.q
 try dsimp only at g0 g1 g2 g3 g4 g5 g6 g7 g8 g9 g10 g11 g12 g13
 have rf:=fq.out.f;obtain ⟨y0,y1,y2,y3,y4,y5,y6,y7,y8,y9,Gs,Gt,Gu,Gv⟩:=fq.out.q;go_wp2_with fail;change bodyPost _ _ _ _ _ (pts w1 (w.heap.size+1) (zQ num rev md sz s LV GA));have hby:=fq.out.all num rev md sz s LV GA;have eD:=zh (zD (B:=w.heap.size) (b:=(w.heap.size+1)) (by omega) (zQ num rev md sz s LV GA) eP.out);generalize pts w1 (w.heap.size+1) (zQ num rev md sz s LV GA)=V at *;exact au (v:=.tuple #[zd num rev md sz s LV GA,.int .i64 0]) (by simp[results,Tryz.results77,go_sem,hby.q]) rfl ⟨⟨s,by rw[HC.out];first|done|rfl,by rw[HC.out];exact .inl jS.out⟩,eD.out⟩
theorem zIc (i l:Int) (r:Bool) (a:Option Addr) (n c:Nat) (L:List GP) (w:World) (h:fD w (.slice a n c) L) (hs:∀ p∈L,∀ j,j<8→(p.1.m.st j).length≤10000) (y:GP) (hy:fG w y.2 y.1.m.st) (pj:∀ j,j<8→(y.1.m.st j).length≤10000) (hv:zY ⟨i,l,r,ep L⟩=false) :
  Calls Tryz.prog 44 #[zO i l r a n c,zd y.1.num y.1.rev y.1.mode y.1.size y.2 y.1.m.live y.1.m.d_] w (GU w L y (yV ⟨i,l,r,ep L⟩ y.1)):=by
 have fQ:=zh (fun W (hb:Below w.heap.size w W)=>zz i l r a n c L W (h.below hb) hs);have HC:=zh (show yV ⟨i,l,r,ep L⟩ y.1=(xh,1) by unfold yV;rw[hv];rfl);rw[hv] at fQ;clear h hs hv hy pj
 go_enter Tryz.func44,Tryz.ntmps44
 go_upto_region 1 with fail;change Code.wp _ _ _ _ (((w.alloc (.cells (zK i l r a n c) 31)).alloc (.cells (zX y.1.num y.1.rev y.1.mode y.1.size y.2 y.1.m.live y.1.m.d_) 113)).alloc (.cells (zK 0 0 false none 0 0) 31));obtain ⟨W,hW,fM,hbg,hbr,fU⟩:=vh w i l r a n c y 31 113;rw[hW];have HX:=zh fM;have HG:=zh hbg;have HR:=zh hbr;have HB:=zh fU;clear hW fM hbg hbr fU;obtain ⟨k0,k1,k2,k3⟩:=HX.out.q;go_wp2_with fail;refine (fQ.out _ HB.out).mono ?_;rintro e w1 ⟨rfl,hb⟩;replace HX:=zh (HX.out.below hb);replace HR:=zh (HR.out.below hb);replace HB:=zh (zA HB.out hb);clear hb;clear k0 k1 k2 k3;obtain ⟨z0,z1,z2,z3⟩:=HR.out.q;have zf:=HR.out.f;go_wp2_with fail;change bodyPost _ _ _ _ _ (pts w1 (w.heap.size+2) (zR 0 0 false none 0 0));have hby:=HR.out.all 0 0 false none 0 0
 have eD:=zh (zD (B:=w.heap.size) (b:=(w.heap.size+2)) (by omega) (zR 0 0 false none 0 0) HB.out);generalize pts w1 (w.heap.size+2) (zR 0 0 false none 0 0)=V at *;exact au (v:=.tuple #[zO 0 0 false none 0 0,.int .i64 1]) (by simp[results,Tryz.results44,go_sem,hby.c0,hby.c1,hby.c2,hby.c3]) rfl (by rw[HC.out];exact GU.no eD.out)
theorem zHZ (i l:Int) (r:Bool) (a:Option Addr) (n c:Nat) (L:List GP) (w:World) (h:fD w (.slice a n c) L) (hs:∀ p∈L,∀ j,j<8→(p.1.m.st j).length≤10000) (y:GP) (hy:fG w y.2 y.1.m.st) (pj:∀ j,j<8→(y.1.m.st j).length≤10000) (hv:zY ⟨i,l,r,ep L⟩=true) :
  Calls Tryz.prog 44 #[zO i l r a n c,zd y.1.num y.1.rev y.1.mode y.1.size y.2 y.1.m.live y.1.m.d_] w (GU w L y (yV ⟨i,l,r,ep L⟩ y.1)):=by
 have fQ:=zh (fun W (hb:Below w.heap.size w W)=>zz i l r a n c L W (h.below hb) hs);have hV:=(zW _).1 hv;have fO:L.length=n:=by
  obtain ⟨_,_,e,_⟩:=h.shape;injection e with _ e _;exact e.symm
 have hl:(ep L).length=n:=by rw[zn,fO]
 have hn:1≤n∧n≤8:=by have:=hV.len;simp only[hl] at this;exact this
 have HC:=zh (show yV ⟨i,l,r,ep L⟩ y.1=(if ug L y.1.num n=true then (if zY ⟨i,l,r,ep (vQ L y)⟩=true then (⟨i,l,r,ep (vQ L y)⟩,0) else (xh,1)) else (xh,6)) by
  unfold yV;rw[ah hv,TL L y.1.num n fO.symm,Zb])
 rw[hv] at fQ
 have oZ:=zh (show ∀ W,Below w.heap.size w W→∀ p∈vQ L y,fG W p.2 p.1.m.st from fun W hb p hp=>by
  rcases tZ hp with hp|rfl
  ·
   exact (h.m p hp).below hb
  exact hy.below hb)
 have sr:=zh (show ∀ p∈vQ L y,∀ j,j<8→(p.1.m.st j).length≤10000 from fun p hp=>by
  rcases tZ hp with hp|rfl
  ·
   exact hs p hp
  exact pj)
 have iW:=zh (show n=(vQ L y).length by rw[uY,fO]);have Ei:=zh (Zc L y);have FR:=zh (Zd L y n fO.symm);have Bl:=zh (fun k=>show n=(wk L y k).length by rw[TI,fO]);have Ni:=zh (fun k (hk:k<n)=>TJ (L:=L) (k:=k) (by omega) y);have Nj:=zh (fun k (hk:k<n)=>show ((pat L k).1.num=y.1.num→wk L y (k+1)=(wk L y k).set k y)∧((pat L k).1.num≠y.1.num→wk L y (k+1)=wk L y k) from ⟨fun e=>by rw[TK (by omega),ah e],fun e=>Ze (by omega) y e⟩);have IE:=zh (fun k (hk:k<n)=>Zf (L:=L) (k:=k) (by omega) y.1.num);have Nk:=zh (show ug L y.1.num 0=false from rfl)
 have jO:=zh (fun W (hb:Below w.heap.size w W)=>show Rd W 14 (.slice a n c) n (L.flatMap iL) from by
  have h1:=(iN.below h.r hb).2
  rwa [fO] at h1)
 have jH:=zh (P6 L);clear h hs hv hV fO hl hy pj;obtain ⟨⟨num,rev,md,sz,⟨f,LV,GA⟩⟩,s⟩:=y;dsimp only at *
 go_enter Tryz.func44,Tryz.ntmps44
 go_upto_region 1 with fail;change Code.wp _ _ _ _ (((w.alloc (.cells (zK i l r a n c) 31)).alloc (.cells (zX num rev md sz s LV GA) 113)).alloc (.cells (zK 0 0 false none 0 0) 31));obtain ⟨W,hW,fM,hbg,hbr,fU⟩:=vh w i l r a n c (⟨num,rev,md,sz,⟨f,LV,GA⟩⟩,s) 31 113;rw[hW];have HX:=zh fM;have HG:=zh hbg;have HR:=zh hbr;have HB:=zh fU;clear hW fM hbg hbr fU;have hB0:w.heap.size+3≤W.heap.size:=by have:=HR.out.lt;omega
 dsimp only at HG;obtain ⟨k0,k1,k2,k3⟩:=HX.out.q;go_wp2_with fail;refine (fQ.out _ HB.out).mono ?_;rintro e w1 ⟨rfl,hb⟩;replace HX:=zh (HX.out.below hb);replace HG:=zh (HG.out.below hb);replace HR:=zh (HR.out.below hb);replace HB:=zh (zA HB.out hb);have hB1:=ak hB0 hb.size;clear hb fQ;clear k0 k1 k2 k3;have k3:=HX.out.c3;obtain ⟨w2,hw2⟩:∃ w2,w1.alloc (.cells #[] 113)=w2:=⟨_,rfl⟩
 have CH:=cI (e:=113) (size:=14) w1 #[] 0 (ag w1.heap.size) (by decide) rfl;have ew:Below w1.heap.size w1 w2:=hw2▸(aj w1.heap.size w1).alloc (ag _) (.cells #[] 113);rw[hw2] at CH;have EJ:=zA HB.out ew;replace k3:=(HX.out.below ew).c3;go_wp2_with (at_builtin;go_must (refine zP rfl (.tmp 12) (.tmp 14) 29 rfl Ng w1.heap.size rfl CH rfl (jO.out w2 EJ) jH.out (by unfold maxLen;omega) (by omega) ew.size ?_;intro v3 w3 ei eL hv3;clear hv3;rw[aI,bQ] at ei;obtain ⟨ra,rc,rfl,_⟩:=zH ei;have hb3:=zL ew CH ew.size eL;replace k3:=(HX.out.below hb3).c3;have kf:=(HX.out.below hb3).f));obtain ⟨g,rfl,hgB,rW⟩:=uV ei (by omega);have jc:=zh (show eW (pts w3 w.heap.size [(3,.slice (some ⟨g,0,none⟩) n rc)]) w.heap.size i l r (some ⟨g,0,none⟩) n rc from (HX.out.below hb3).EH (some ⟨g,0,none⟩) n rc)
 have DX:=zh ((HG.out.below hb3).eE (c:=w.heap.size) (by omega) [(3,.slice (some ⟨g,0,none⟩) n rc)]);have mN:=zh ((HR.out.below hb3).eE (d:=w.heap.size) (by omega) [(3,.slice (some ⟨g,0,none⟩) n rc)]);have gD:=zh (zD (B:=w.heap.size) (b:=w.heap.size) (ag _) [(3,.slice (some ⟨g,0,none⟩) n rc)] (zA HB.out hb3));have jM:=zh (wI (b:=w.heap.size) (by omega) ei [(3,.slice (some ⟨g,0,none⟩) n rc)]);have hg9:w.heap.size+3≤g:=by omega
 clear HX HG HR HB hb3 ei eL CH ew EJ jO jH k3 kf hw2 rW;change Code.wp _ _ _ _ (pts w3 w.heap.size [(3,.slice (some ⟨g,0,none⟩) n rc)]);generalize (pts w3 w.heap.size [(3,.slice (some ⟨g,0,none⟩) n rc)])=w4 at *;rw[← Ei.out] at jM
 go_loopw [6,7] (fun fv iv V=>∃ (k:Nat) (m:Bool),iv=.int .i64 (k:Int)∧fv=.bool m∧k≤n∧Hid (m=ug L num k)∧Hid (V.ownsRow w1.heap.size 113 14 (.slice (some ⟨g,0,none⟩) n rc) n ((wk L (((⟨num,rev,md,sz,⟨f,LV,GA⟩⟩:Gn),s):GP) k).flatMap iL))∧Hid (eW V w.heap.size i l r (some ⟨g,0,none⟩) n rc)∧Hid (eO V (w.heap.size+1) num rev md sz s LV GA)∧Hid (eW V (w.heap.size+2) 0 0 false none 0 0)∧Hid (Below w.heap.size w V)) (fun _ iv _=>n-(intOf iv).toNat)
 case atStart=>exact ⟨0,false,rfl,rfl,aq _,zh Nk.out.symm,jM,jc,DX,mN,gD⟩
 obtain ⟨k,m,rfl,rfl,hk,Hm,HO,HX,HG,HR,HB⟩:=hrel;clear jc DX mN gD jM;have k3:=HX.out.c3
 by_cases hlt:k<n
 ·
  have i1:(k:Int)<(n:Int):=by omega
  have hat:=P4 HO.out (Bl.out k) hlt;rw[Ni.out k hlt] at hat;have q0:=HG.out.n0;have Dl:=Nj.out k hlt;have GK:=IE.out k hlt;have Jj:=zh (show k<(wk L (((⟨num,rev,md,sz,⟨f,LV,GA⟩⟩:Gn),s):GP) k).length by rw[← Bl.out k];exact hlt)
  by_cases gT:(pat L k).1.num=num
  ·
   have C8:=zh (show true=ug L num (k+1) by rw[GK,aC gT,Bool.or_true]);have K8:=zh (Dl.1 gT);clear Dl GK;have c0:=hat.n0;rw[gT] at c0;go_upto_region 8 with fail;replace k3:=zB k3;replace c0:=zB c0;replace q0:=zB q0;refine zC (by kernel_rfl) (by kernel_rfl) ?_
   repeat (go_big_quiet_step (fail))
   refine aA ?_;intro _ hw';obtain ⟨q,hw'⟩:=hw';subst hw';have hat:=hat.below q.h;replace HO:=zh (zG HO.out q.h);replace HX:=zh (HX.out.below q.h);replace HG:=zh (HG.out.below q.h);replace HR:=zh (HR.out.below q.h);replace HB:=zh (zA HB.out q.h);clear k3 c0 q0;generalize q.w'=v0 at *;clear q;have hst:=t6 HO.out k Jj.out (((⟨num,rev,md,sz,⟨f,LV,GA⟩⟩:Gn),s):GP);rw[← K8.out] at hst;have jQ:=zh hst.1;have sB:=zh (HG.out.mX hst.2 (by omega));have fh:=zh (HX.out.mX hst.2 (by omega));have fq:=zh (HR.out.mX hst.2 (by omega));have eP:=zh (zD (B:=w.heap.size) (b:=g) (by omega) (Bk (k*14) num rev md sz s LV GA) HB.out);have hfr:=xw HO.out;have k3:=HX.out.c3;clear hst;have GM:=zh (hat.there hfr);clear hat hfr;obtain ⟨u0,u1,u2,u3,u4,u5,u6,u7,u8,u9,u10,u11,u12,u13⟩:=HG.out.q
   go_wp2_with ((with_reducible refine wpList_store_mid ?_ 113 (.tmp 37) (.tmp 36) ?_ g (k*14) (zX num rev md sz s LV GA) ?_ ?_ ?_ ?_ ?_ ?_);rfl;rfl;rfl;rfl;exact GM.out;exact Zi;exact ki _ _ _ _ _ _ _;rw[kU]);exact ⟨⟨k+1,true,by go_num,rfl,by omega,C8,jQ,fh,sB,fq,eP⟩,by simp[intOf];omega⟩
  have C8:=zh (show m=ug L num (k+1) by rw[GK,aD gT,Bool.or_false];exact Hm.out);have jQ:=HO;rw[← Dl.2 gT] at jQ;have c0:=hat.n0;have hne:((pat L k).1.num==num)=false:=by simp[gT]
  clear hat Dl GK;generalize (pat L k).1.num=pn at *;go_upto_region 8 with fail;replace k3:=zB k3;replace c0:=zB c0;replace q0:=zB q0;refine zC (by kernel_rfl) (by kernel_rfl) ?_
  repeat (go_big_quiet_step (fail))
  refine aA ?_;intro _ hw';obtain ⟨q,hw'⟩:=hw';subst hw';replace jQ:=zh (zG jQ.out q.h);replace HX:=zh (HX.out.below q.h);replace HG:=zh (HG.out.below q.h);replace HR:=zh (HR.out.below q.h);replace HB:=zh (zA HB.out q.h);clear k3 c0 q0;generalize q.w'=v0 at *;clear q;go_wp2_with fail;exact ⟨⟨k+1,m,by go_num,rfl,by omega,C8,jQ,HX,HG,HR,HB⟩,by simp[intOf];omega⟩
 have i1:¬ (k:Int)<(n:Int):=by omega
 obtain rfl:k=n:=by omega
 rw[FR.out] at HO;have hm:=Hm.out;rw[← hm] at HC;clear hm Hm Nj IE Ni Bl Ei Nk hlt hk FR
 cases m
 ·
  have A3:=zh (HC.out.trans (ai (by decide)));clear HC;obtain ⟨z0,z1,z2,z3⟩:=HR.out.q;have zf:=HR.out.f;go_wp2_with fail;change bodyPost _ _ _ _ _ (pts wr (w.heap.size+2) (zR 0 0 false none 0 0));have hby:=HR.out.all 0 0 false none 0 0;have eD:=zh (zD (B:=w.heap.size) (b:=(w.heap.size+2)) (by omega) (zR 0 0 false none 0 0) HB.out);generalize pts wr (w.heap.size+2) (zR 0 0 false none 0 0)=V at *;exact au (v:=.tuple #[zO 0 0 false none 0 0,.int .i64 6]) (by simp[results,Tryz.results44,go_sem,hby.c0,hby.c1,hby.c2,hby.c3]) rfl (by rw[A3.out];exact GU.no eD.out)
 have A3:=HC.out.trans (ah rfl);have Bi:=zh (qQ HO.out iW.out (oZ.out wr HB.out));have Au:=zh (zz i l r (some ⟨g,0,none⟩) k rc (vQ L (((⟨num,rev,md,sz,⟨f,LV,GA⟩⟩:Gn),s):GP)) wr Bi.out sr.out);have A1:=HO;clear HC HO;have k0:=HX.out.c0;have k1:=HX.out.c1;have k2:=HX.out.c2
 cases D5:zY ⟨i,l,r,ep (vQ L (((⟨num,rev,md,sz,⟨f,LV,GA⟩⟩:Gn),s):GP))⟩
 ·
  rw[D5] at Au A3;have HC:=zh (A3.trans (ai (by decide)));clear A3 D5;go_wp2_with fail;refine Au.out.mono ?_;rintro e v1 ⟨rfl,hb⟩;replace HR:=zh (HR.out.below hb);replace HB:=zh (zA HB.out hb);clear hb k0 k1 k2 k3 Au Bi HX HG;obtain ⟨z0,z1,z2,z3⟩:=HR.out.q;have zf:=HR.out.f;go_wp2_with fail;change bodyPost _ _ _ _ _ (pts v1 (w.heap.size+2) (zR 0 0 false none 0 0));have hby:=HR.out.all 0 0 false none 0 0;have eD:=zh (zD (B:=w.heap.size) (b:=(w.heap.size+2)) (by omega) (zR 0 0 false none 0 0) HB.out);generalize pts v1 (w.heap.size+2) (zR 0 0 false none 0 0)=V at *;exact au (v:=.tuple #[zO 0 0 false none 0 0,.int .i64 1]) (by simp[results,Tryz.results44,go_sem,hby.c0,hby.c1,hby.c2,hby.c3]) rfl (by rw[HC.out];exact GU.no eD.out)
 rw[D5] at Au A3;have HC:=zh (A3.trans (ah rfl));clear A3 D5;go_wp2_with fail;refine Au.out.mono ?_;rintro e v1 ⟨rfl,hb⟩;replace HX:=zh (HX.out.below hb);replace HR:=zh (HR.out.below hb);replace HB:=zh (zA HB.out hb);replace A1:=zh (zG A1.out hb);clear hb k0 k1 k2 k3 Au HG;obtain ⟨k0,k1,k2,k3⟩:=HX.out.q;obtain ⟨z0,z1,z2,z3⟩:=HR.out.q;have zf:=HR.out.f;go_wp2_with fail;change bodyPost _ _ _ _ _ (pts v1 (w.heap.size+2) (zR i l r (some ⟨g,0,none⟩) k rc));have Cz:=zh (zHb (by omega) (wI (b:=w.heap.size+2) (by omega) A1.out (zR i l r (some ⟨g,0,none⟩) k rc)):(pts v1 (w.heap.size+2) (zR i l r (some ⟨g,0,none⟩) k rc)).ownsRow w.heap.size _ _ _ _ _);have hby:=HR.out.all i l r (some ⟨g,0,none⟩) k rc;have eD:=zh (zD (B:=w.heap.size) (b:=(w.heap.size+2)) (by omega) (zR i l r (some ⟨g,0,none⟩) k rc) HB.out)
 generalize pts v1 (w.heap.size+2) (zR i l r (some ⟨g,0,none⟩) k rc)=V at *;exact au (v:=.tuple #[zO i l r (some ⟨g,0,none⟩) k rc,.int .i64 0]) (by simp[results,Tryz.results44,go_sem,hby.c0,hby.c1,hby.c2,hby.c3]) rfl (by rw[HC.out];exact ⟨⟨_,k,rc,vQ L (((⟨num,rev,md,sz,⟨f,LV,GA⟩⟩:Gn),s):GP),rfl,Cz.out,fun _ hq=>tZ hq,rfl⟩,eD.out⟩)
theorem zL2 (i l:Int) (r:Bool) (a:Option Addr) (n c:Nat) (L:List GP) (w:World) (h:fD w (.slice a n c) L) (hs:∀ p∈L,∀ j,j<8→(p.1.m.st j).length≤10000) (y:GP) (hy:fG w y.2 y.1.m.st) (pj:∀ j,j<8→(y.1.m.st j).length≤10000) :
  Calls Tryz.prog 44 #[zO i l r a n c,zd y.1.num y.1.rev y.1.mode y.1.size y.2 y.1.m.live y.1.m.d_] w (GU w L y (yV ⟨i,l,r,ep L⟩ y.1)):=by
 cases hv:zY ⟨i,l,r,ep L⟩
 ·
  exact zIc i l r a n c L w h hs y hy pj hv
 exact zHZ i l r a n c L w h hs y hy pj hv
end Go.Proofs.YtcgfilmmokmdjaaGreat
namespace Go.Proofs.YtcgfilmmokmdjaaGreat
open Go.RowKit Go.Shelf
attribute [local go_sem] Oper.semAt_some
def yx (len k:Nat):List Nat:=(List.range k).map fun j=>len-1-j
theorem uJ (len k:Nat):yx len (k+1)=yx len k++[len-1-k]:=by simp[yx,List.range_succ]
theorem wy (len k:Nat):(yx len k).length=k:=by simp[yx]
def CL (n₀ Bs:Nat) (W W':World):Prop:=Below n₀ W W'∧∀ v,W.cell? ⟨Bs,0,none⟩=some v→W'.cell? ⟨Bs,0,none⟩=some v
theorem CL.refl (n₀ Bs:Nat) (W:World):CL n₀ Bs W W:=⟨aj _ _,fun _ h=>h⟩
theorem CL.trans {n₀ Bs:Nat} {A B C:World} (h:CL n₀ Bs A B) (k:CL n₀ Bs B C):CL n₀ Bs A C:=⟨h.1.trans k.1,fun v hv=>k.2 v (h.2 v hv)⟩
theorem CL.put {n₀ Bs:Nat} {w:World} (hn:n₀≤w.heap.size) (hB:Bs<w.heap.size) (W:World) (l:Nat) (o o':Obj) (hl:w.heap.size≤l) (h:W.heap[l]?=some o) (h1:o.isCells=false) (h2:o.isWalk=false):CL n₀ Bs W (W.putObj l o'):=
 ⟨belowK_b hn W l o o' hl h h1 h2,fun v hv=>((belowK_b (n₀:=Bs+1) (w:=w) (by omega) W l o o' hl h h1 h2).cell (p:=⟨Bs,0,none⟩) (dD _)).trans hv⟩
theorem zIL (F:Fence) (n:Nat) (hf:F.fn 143) (hro:F.round=none) (hn:1≤n) (l Bs n₀ b off len cap:Nat) (L:List GP) (hlen:len≤8) (hb:b<n₀) (J Jx:List Nat→World→Prop)
  (hY:∀ pre (x:Nat) W,J pre W→pre.length<len→YieldAt F (n-1) Tryz.prog l #[.int .i64 (x:Int),SI (pat L x)] W fun e W' =>
   (e=.returned (.bool true)∧J (pre++[x]) W'∧CL n₀ Bs W W')∨(e=.returned (.bool false)∧Jx (pre++[x]) W'))
  (W:World) (FL:W.cell? ⟨Bs,0,none⟩=some (.slice (some ⟨b,off,none⟩) len cap)) (hc:∀ j,j<len→oI W b (off+j*14) (pat L j)) (h0:J [] W) :
  CallsIn F n Tryz.prog 143 #[.func (.yield l) #[] #[],.pointer (some ⟨Bs,0,none⟩)] W fun e W'=>(∃ v,e=.returned v) ∧
   ((∃ ys,ys=yx len len∧J ys W')∨(∃ pre,(∃ k,k≤len∧pre=yx len k)∧Jx pre W')):=by
 refine callsIn_of_wp Tryz.func143 rfl hf ?_ hro;simp only[Tryz.ntmps143,cu,aV,dI,Nat.reduceAdd,Nat.reduceSub,Array.replicate_succ,Array.replicate_zero,List.push_toArray,List.append_toArray,bQ,List.cons_append]
 gi_wp2
 gi_loopw [3] (fun i wr=>∃ k:Nat,k≤len∧i=.int .i64 ((len:Int)-1-(k:Int))∧J (yx len k) wr∧CL n₀ Bs W wr)
  (fun i _=>(intOf i+1).toNat)
 case atStart=>exact ⟨0,aq _,by simp[aF _ (show -9223372036854775808≤(len:Int)-1∧(len:Int)-1≤9223372036854775807 by omega)],h0,CL.refl _ _ _⟩
 obtain ⟨k,hk,rfl,hJs,n_⟩:=hrel;have Nq:=n_.2 _ FL
 by_cases hlt:k<len
 ·
  obtain ⟨j,hj⟩:∃ j,k+1+j=len:=⟨len-1-k,by omega⟩
  have hjk:len-1-k=j:=by omega
  obtain ⟨fn,tmps,assign,body,hy,hR⟩:=hY _ (len-1-k) wr hJs (by rw[wy];exact hlt);have ej:(len:Int)-1-(k:Int)=(j:Int):=by omega
  rw[ej];rw[hjk] at hy hR;have i2:(j:Int)<(len:Int):=by omega
  have g0:=(n_.1.cell (p:=⟨b,off+j*14,none⟩) hb).trans (hc j (by omega)).n0;have g1:=(n_.1.cell (p:=⟨b,off+j*14+1,none⟩) hb).trans (hc j (by omega)).n1;have g2:=(n_.1.cell (p:=⟨b,off+j*14+2,none⟩) hb).trans (hc j (by omega)).n2;have g3:=(n_.1.cell (p:=⟨b,off+j*14+3,none⟩) hb).trans (hc j (by omega)).n3;have g4:=(n_.1.cell (p:=⟨b,off+j*14+4,none⟩) hb).trans (hc j (by omega)).c0;have g5:=(n_.1.cell (p:=⟨b,off+j*14+5,none⟩) hb).trans (hc j (by omega)).c1;have g6:=(n_.1.cell (p:=⟨b,off+j*14+6,none⟩) hb).trans (hc j (by omega)).c2;have g7:=(n_.1.cell (p:=⟨b,off+j*14+7,none⟩) hb).trans (hc j (by omega)).c3;have g8:=(n_.1.cell (p:=⟨b,off+j*14+8,none⟩) hb).trans (hc j (by omega)).c4;have g9:=(n_.1.cell (p:=⟨b,off+j*14+9,none⟩) hb).trans (hc j (by omega)).c5
  have g10:=(n_.1.cell (p:=⟨b,off+j*14+10,none⟩) hb).trans (hc j (by omega)).c6;have g11:=(n_.1.cell (p:=⟨b,off+j*14+11,none⟩) hb).trans (hc j (by omega)).c7;have g12:=(n_.1.cell (p:=⟨b,off+j*14+12,none⟩) hb).trans (hc j (by omega)).cl;have g13:=(n_.1.cell (p:=⟨b,off+j*14+13,none⟩) hb).trans (hc j (by omega)).cg
  gi_wp2
  refine hR.mono ?_;rintro e W3 (⟨rfl,hJ3,hk3⟩|⟨rfl,hJx3⟩)
  ·
   gi_wp2
   go_roundw
   case rel=>exact ⟨k+1,by omega,by first|(simp;done)|(simp;omega),by rw[uJ,hjk];exact hJ3,n_.trans hk3⟩
   case measure=>first|(simp[intOf];done)|(simp[intOf];omega)
  gi_wp2
  refine au (results_none rfl _ _ _) rfl ?_;exact ⟨⟨_,rfl⟩,.inr ⟨_,⟨k+1,by omega,by rw[uJ,hjk]⟩,hJx3⟩⟩
 obtain rfl:k=len:=by omega
 have ej:(k:Int)-1-(k:Int)=-1:=by omega
 rw[ej]
 gi_wp2
 go_end0;exact ⟨⟨_,rfl⟩,.inl ⟨_,rfl,hJs⟩⟩
end Go.Proofs.YtcgfilmmokmdjaaGreat
namespace Go.Proofs.YtcgfilmmokmdjaaGreat
open Go.RowKit Go.Shelf
theorem zC0 (a:Option Addr) (n c:Nat) (w:World):Calls Tryz.prog 105 #[.slice a n c] w fun e w'=>e=.returned (.func (.func 143) #[] #[.pointer (some ⟨w.heap.size,0,none⟩)])∧w'=w.alloc (.cells #[.slice a n c] 25):=by
 go_enter Tryz.func105,Tryz.ntmps105
 go_wp2_with fail;go_ret;exact ⟨rfl,rfl⟩
theorem zFb (F:Fence) (n:Nat) (hf:F.fn 143) (hro:F.round=none) (hn:1≤n) (Bs n₀ b off len cap:Nat) (L:List GP) (hlen:len≤8) (hb:b<n₀) (w:World)
  (FL:w.cell? ⟨Bs,0,none⟩=some (.slice (some ⟨b,off,none⟩) len cap)) (hc:∀ j,j<len→oI w b (off+j*14) (pat L j)) :
  SeqStopsK F n Tryz.prog 143 #[.pointer (some ⟨Bs,0,none⟩)] (fun x:Nat=>#[.int .i64 (x:Int),SI (pat L x)]) (CL n₀ Bs) (fun ys=>ys=yx len len) (fun pre=>∃ k,k≤len∧pre=yx len k) len w:=fun l J Jx W hW _ _ hY h0 =>
 zIL F n hf hro hn l Bs n₀ b off len cap L hlen hb J Jx hY W (hW.keeps' FL) (fun j hj=>(hc j hj).below hW) h0
end Go.Proofs.YtcgfilmmokmdjaaGreat
namespace Go.Proofs.YtcgfilmmokmdjaaGreat
open Go.RowKit
def Dp (x:jK):List Value:=[.int .i64 x.gen,.int .i64 x.mode,.int .i64 x.rev,.int .u64 x.it.key,.int .u32 x.it.ck,.int .i64 x.it.off,.int .i64 x.it.size,.int .i64 (x.at_:Int)]
theorem zKy (x:jK):(Dp x).length=8:=rfl
theorem zLp:(Tryz.prog.info? 138).map (fun i=>(i.zero,i.size,i.bytes))=some (some (.agg #[.int .i64 0,.int .i64 0,.int .i64 0,.int .u64 0,.int .u32 0,.int .i64 0,.int .i64 0,.int .i64 0]),8,64):=by kernel_rfl
abbrev GV (w:World) (v:Value) (l:List jK):Prop:=iN 8 Dp w v l
abbrev CM (w:World) (base:Nat) (v:Value) (l:List jK):Prop:=w.ownsRow base 138 8 v l.length (l.flatMap Dp)
theorem zLZ (i l:Int) (r:Bool) (a:Option Addr) (n c:Nat) (L:List GP) (w:World) (h:fD w (.slice a n c) L) (hs:∀ p∈L,∀ j,j<8→(p.1.m.st j).length≤10000) (hv:zY ⟨i,l,r,ep L⟩=false) (key:Int) :
  Calls Tryz.prog 62 #[zO i l r a n c,.int .u64 key] w fun e w'=>e=.returned (.slice none 0 0)∧Below w.heap.size w w':=by
 have fQ:=zh (fun W (hb:Below w.heap.size w W)=>xD i l r a n c L W (h.below hb) hs);rw[hv] at fQ;have eB:=zh (eW.new w i l r a n c 27);have eH:=zh (zM w i l r a n c 27);clear hv h hs
 go_enter Tryz.func62,Tryz.ntmps62
 go_upto_region 1 with fail;obtain ⟨W,hW⟩:∃ W,w.alloc (.cells (zK i l r a n c) 27)=W:=⟨_,rfl⟩
 change Code.wp _ _ _ _ ((w.alloc (.cells (zK i l r a n c) 27)).alloc (.cells #[.int .u64 key] 24));rw[hW] at eB eH ⊢;clear hW;have nW:=eB.out.lt;have eP:=zh (eH.out.alloc eH.out.size (.cells #[.int .u64 key] 24));have fh:=zh (eB.out.below ((aj _ W).alloc (ag _) (.cells #[.int .u64 key] 24)));obtain ⟨k0,k1,k2,k3⟩:=fh.out.q;go_wp2_with fail;refine (fQ.out _ eP.out).mono ?_;rintro e w1 ⟨rfl,hb1⟩;have eM:=zh (zA eP.out hb1);clear hb1 k0 k1 k2 k3;go_wp2_with fail;go_ret;exact ⟨rfl,eM.out⟩
end Go.Proofs.YtcgfilmmokmdjaaGreat
