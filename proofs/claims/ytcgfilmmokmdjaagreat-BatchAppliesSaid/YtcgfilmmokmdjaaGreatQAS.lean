import Derived.Test.YtcgfilmmokmdjaaGreatQAR
import Derived.Laws.EntriesVeiled
set_option linter.all false
set_option maxRecDepth 100000
set_option maxHeartbeats 32000000
namespace Go.Proofs.YtcgfilmmokmdjaaGreat
open Go.Proofs.Tryz
open Go Go.RowKit
section
variable {P:Program} {ops:Array Oper} {md:Region.Mode}
def JQ (md:Region.Mode) (ops:Array Oper) (n:Nat):Bool:=
 decide (n=ops.size) &&
 ((List.range n).all fun i=>((ops[i]?).map fun o=>o.after.all fun e=>!Region.binds md e||decide (e.on<i)).getD false) &&
 ((List.range n).all fun i=>(List.range n).all fun j=>decide (i=j)||decide (zW ops i=none)||decide (zW ops i≠zW ops j)) &&
 Region.seqB md ops (ops.size-n) n ((List.range ops.size).map fun j=>decide (j<n)).toArray
variable {Q:Exit->Act->World->Prop}
def zJv {n:Nat} {a0:Act} {I:(Nat->Bool)->(Nat->Value)->World->Prop} {l:List Oper} (hl:ops=l.toArray) (hB:JQ md ops n=true) (hN:∀ i,i<n->∀ t,zW ops i=some t->t<a0.tmps.size)
  (head:∀ i o,i<n->ops[i]?=some o->∀ L f w,L i=false->(∀ e∈o.after,Region.binds md e=true->L e.on=true)->I L f w ->
   wpList P ops (Exit.then (SU (fun v w'=>I (nY L i) (xM f i v) w') (fU ops a0 f n).defers o.dst) Q) [o] (fU ops a0 f n) w)
  (tail:∀ L f w,(∀ j,j<n->L j=true)->I L f w->wpList P ops Q (l.drop n) (fU ops a0 f n) w) :
  ∀ (fuel:Nat) (T:List Nat) (s:Array Bool) (L:Nat->Bool) (f:Nat->Value) (w:World),(∀ j,s.getD j false=L j)->T.Nodup->T.length=fuel->(∀ j,j<n->(s.getD j false=false↔j∈T))->(∀ j∈T,j<n)->HeadInv md ops n s->I L f w ->
   wpAny P md ops Q (fuel+(ops.size-n)) s (fU ops a0 f n) w:=by
 simp only[JQ,aO,aR] at hB;obtain ⟨⟨⟨hn,hfw⟩,hdd⟩,Jr⟩:=hB;have sH:∀ i o,i<n->ops[i]?=some o->∀ e∈o.after,Region.binds md e=true->e.on<i:=fun i o hi ho e he hb=>by
  have:=List.all_eq_true.1 hfw i (List.mem_range.2 hi);rw[ho] at this;simp only[dN,bC] at this;have h2:=Array.all_eq_true_iff_forall_mem.1 this e he;rw[hb] at h2
  simpa using h2
 have Bd:∀ i j,i<n->j<n->i≠j->zW ops i=none∨zW ops i≠zW ops j:=fun i j hi hj hij=>by
  have:=List.all_eq_true.1 (List.all_eq_true.1 hdd i (List.mem_range.2 hi)) j (List.mem_range.2 hj)
  simpa [hij] using this
 intro fuel
 induction fuel with
 |zero =>
  intro T s L f w hL hT hlen mS Al inv hI;have Js:T=[]:=List.length_eq_zero_iff.1 hlen;subst Js;have hall:∀ j,j<n->s.getD j false=true:=fun j hj=>by
   cases h:s.getD j false with
   |true=>rfl
   |false=>exact absurd ((mS j hj).1 h) (by simp)
  have Iw:s=((List.range ops.size).map fun j=>decide (j<n)).toArray:=by
   apply Array.ext
   ·simp[inv.size]
   intro j h1 h2;have jw:j<ops.size:=by rw[<- inv.size];exact h1
   simp only[aV,dB,dS]
   by_cases e:j<n
   ·have:=hall j e;rw[bB,bI h1] at this;simp only[bC] at this;rw[this];simp[e]
   have:=inv.tail j (by omega) jw;rw[bB,bI h1] at this;simp only[bC] at this;rw[this];simp[e]
  rw[aN];have iz:(l.drop n).length=ops.size-n:=by rw[hl];simp
  have h3:=wpAny_of_seq (P:=P) (md:=md) (ops:=ops) (Q':=Q) (l.drop n) n s (fU ops a0 f n) w (fun j=>by rw[hl];simp[cR]) (by rw[iz,Iw];exact Jr) (tail L f w (fun j hj=>by rw[<- hL];exact hall j hj) hI)
  rwa [iz] at h3
 |succ fuel ih =>
  intro T s L f w hL hT hlen mS Al inv hI;have Be:T≠[]:=fun e=>by rw[e] at hlen;cases hlen
  obtain ⟨m,hm,hle⟩:=qM Be;have hmn:=Al m hm;have hun:s.getD m false=false:=(mS m hmn).2 hm;have Gl:m<s.size:=by rw[inv.size];omega
  obtain ⟨om,D6⟩:∃ o,ops[m]?=some o:=⟨_,bI (by omega)⟩
  have l6:m∈Region.ready md ops s:=mem_ready.2 ⟨getD_in Gl hun,om,D6,fun e he lK=>by
   have h1:=sH m om hmn D6 e he lK
   cases h2:s.getD e.on false with
   |true=>rfl
   |false =>
    have:=hle _ ((mS e.on (by omega)).1 h2)
    omega⟩
  rw[show fuel+1+(ops.size-n)=(fuel+(ops.size-n))+1 by omega];refine ⟨fun e=>absurd l6 (by rw[e];simp),fun i hi=>?_⟩;obtain ⟨Fw,oi,hoi,nM⟩:=mem_ready.1 hi;have hin:i<n:=by rw[hn];exact (Array.getElem?_eq_some_iff.1 hoi).1
  have Jt:i∈T:=(mS i hin).1 (getD_both Fw);have o9:zW ops i=oi.dst:=by unfold zW;rw[hoi];rfl
  unfold wpOp;rw[hoi];simp only[];have hh:=head i oi hin hoi L f w (by rw[<- hL];exact getD_both Fw) (fun e he lK=>by rw[<- hL];exact nM e he lK) hI;refine Pt hh (fun v w' hR=>?_) (fun d v w' hR=>?_)
  ·obtain ⟨_,hv0,hv⟩:=hR;have hval:I (nY L i) (xM f i v) w':=by
    cases hd:oi.dst with
    |none=>exact hv0 hd v
    |some t =>
     have h4:=hv t hd;have h5:t<(fU ops a0 f n).tmps.size:=by rw[tH];exact hN i hin t (by rw[o9,hd])
     rw[hd] at h4
     simpa [Act.put,h5] using h4
   rw[<- o9,qZ ops a0 f i v n hin fun j hj hji=>Bd i j hin hj (aQ hji)];refine ih (T.erase i) _ (nY L i) _ w' (fun j=>?_) (hT.erase i) (by rw[List.length_erase_of_mem Jt];omega) (fun j hj=>?_) (fun j hj=>Al j (List.mem_of_mem_erase hj)) (inv.set hi hin) hval
   ·unfold nY
    by_cases e:j=i
    ·subst e;have jw:j<s.size:=by rw[inv.size];omega
     simp[bB,jw]
    rw[bH false (aQ e),hL j,ai e]
   rw[hT.mem_erase_iff]
   by_cases e:j=i
   ·subst e;have jw:j<s.size:=by rw[inv.size];omega
    simp[bB,jw]
   rw[bH false (aQ e),mS j hj];simp[e]
  have h1:=hR.1;have h2:=aM List.length h1
  cases Ju:oi.dst<;>simp[Act.put,Ju] at h2
def zLj {id:Nat} {a0:Act} {w:World} {l:List Oper} (n:Nat) (I:(Nat->Bool)->(Nat->Value)->World->Prop) (N:Nat) (hm:P.follows .mixedOrders=true) (hB:JQ .any l.toArray n=true)
  (hsz:a0.tmps.size=N) (hN:Pu l.toArray n N=true) {fr:(Nat->Value)->Act} (hfr:∀ f,fU l.toArray a0 f n=fr f)
  (start:∀ f,I (fun _=>false) f w.drew)
  (head:SV P Q l.toArray I fr l n 0)
  (tail:∀ L f w1,(∀ j,j<n->L j=true)->I L f w1->wpList P l.toArray Q (l.drop n) (fr f) w1):(Code.region id l.toArray true).wp P Q a0 w:=by
 have hn:n=l.toArray.size:=by
  simp only[JQ,aO,aR] at hB;exact hB.1.1.1
 refine wp_region_any hm ?_;have h:=zJv (md:=.any) (Q:=Q) (P:=P) (n:=n) (a0:=a0) (I:=I) rfl hB
  (fun i hi t ht=>by
   have h1:=List.all_eq_true.1 hN i (List.mem_range.2 hi)
   rw[ht] at h1
   rw[hsz]
   simpa using h1)
  (fun i o hi ho L f w1 h0 hd hI=>by
   rw[hfr]
   have h2:=Wv l n 0 head i o (by simpa using ho) hi L f w1 (by rwa [aN]) (fun j hj=>by
    unfold Jv at hj
    obtain ⟨e,he,h3⟩:=Array.any_eq_true'.1 hj
    simp only[aO,cM] at h3
    rw[<- h3.2]
    exact hd e he h3.1) hI
   rwa [aN] at h2)
  (fun L f w1 hA hI=>by rw[hfr];exact tail L f w1 hA hI)
  n (List.range n) (Array.replicate l.toArray.size false) (fun _=>false) (fun j=>match zW l.toArray j with|some d=>a0.tmps.getD d undef|none=>undef) w.drew
  (fun j=>getD_replicate_false _ _) List.nodup_range (by simp) (fun j hj=>by rw[getD_replicate_false];simp[hj]) (fun j hj=>by simpa using hj)
  ⟨by simp,fun j oj _ hl=>(by rw[getD_replicate_false] at hl;cases hl),fun t _ ht=>getD_in (by simpa using ht) (getD_replicate_false _ _)⟩
  (start _)
 have e0:fU l.toArray a0 (fun j=>match zW l.toArray j with|some d=>a0.tmps.getD d undef|none=>undef) n=a0:=NG _ _ _;rw[e0,show n+(l.toArray.size-n)=l.toArray.size by omega] at h;exact h
def Tv (n:Nat) (w0:World) (Φ:Nat->Value->World->Prop) (L:Nat->Bool) (f:Nat->Value) (w:World):Prop:=Below w0.heap.size w0 w/\∀ j,j<n->L j=true->Φ j (f j) w
def zKU {n:Nat} {a0:Act} {w0:World} {Φ:Nat->Value->World->Prop} (hΦ:∀ j v w1 w2,Below w1.heap.size w1 w2->Φ j v w1->Φ j v w2) {l:List Oper} (hl:ops=l.toArray) (hds:∀ i,i<n->(zW ops i).isSome=true) (hB:JQ md ops n=true) (hN:∀ i,i<n->∀ t,zW ops i=some t->t<a0.tmps.size)
  (head:∀ i o,i<n->ops[i]?=some o->∀ L f w,L i=false->(∀ e∈o.after,Region.binds md e=true->L e.on=true)->Tv n w0 Φ L f w ->
   wpList P ops (Exit.then (tq (Φ i) False (fU ops a0 f n).defers o.dst w) Q) [o] (fU ops a0 f n) w)
  (tail:∀ L f w,(∀ j,j<n->L j=true)->Tv n w0 Φ L f w->wpList P ops Q (l.drop n) (fU ops a0 f n) w) :
  ∀ (fuel:Nat) (T:List Nat) (s:Array Bool) (L:Nat->Bool) (f:Nat->Value) (w:World),(∀ j,s.getD j false=L j)->T.Nodup->T.length=fuel->(∀ j,j<n->(s.getD j false=false↔j∈T))->(∀ j∈T,j<n)->HeadInv md ops n s->Tv n w0 Φ L f w ->
   wpAny P md ops Q (fuel+(ops.size-n)) s (fU ops a0 f n) w:=by
 simp only[JQ,aO,aR] at hB;obtain ⟨⟨⟨hn,hfw⟩,hdd⟩,Jr⟩:=hB;have sH:∀ i o,i<n->ops[i]?=some o->∀ e∈o.after,Region.binds md e=true->e.on<i:=fun i o hi ho e he hb=>by
  have:=List.all_eq_true.1 hfw i (List.mem_range.2 hi);rw[ho] at this;simp only[dN,bC] at this;have h2:=Array.all_eq_true_iff_forall_mem.1 this e he;rw[hb] at h2
  simpa using h2
 have Bd:∀ i j,i<n->j<n->i≠j->zW ops i=none∨zW ops i≠zW ops j:=fun i j hi hj hij=>by
  have:=List.all_eq_true.1 (List.all_eq_true.1 hdd i (List.mem_range.2 hi)) j (List.mem_range.2 hj)
  simpa [hij] using this
 intro fuel
 induction fuel with
 |zero =>
  intro T s L f w hL hT hlen mS Al inv hI;have Js:T=[]:=List.length_eq_zero_iff.1 hlen;subst Js;have hall:∀ j,j<n->s.getD j false=true:=fun j hj=>by
   cases h:s.getD j false with
   |true=>rfl
   |false=>exact absurd ((mS j hj).1 h) (by simp)
  have Iw:s=((List.range ops.size).map fun j=>decide (j<n)).toArray:=by
   apply Array.ext
   ·simp[inv.size]
   intro j h1 h2;have jw:j<ops.size:=by rw[<- inv.size];exact h1
   simp only[aV,dB,dS]
   by_cases e:j<n
   ·have:=hall j e;rw[bB,bI h1] at this;simp only[bC] at this;rw[this];simp[e]
   have:=inv.tail j (by omega) jw;rw[bB,bI h1] at this;simp only[bC] at this;rw[this];simp[e]
  rw[aN];have iz:(l.drop n).length=ops.size-n:=by rw[hl];simp
  have h3:=wpAny_of_seq (P:=P) (md:=md) (ops:=ops) (Q':=Q) (l.drop n) n s (fU ops a0 f n) w (fun j=>by rw[hl];simp[cR]) (by rw[iz,Iw];exact Jr) (tail L f w (fun j hj=>by rw[<- hL];exact hall j hj) hI)
  rwa [iz] at h3
 |succ fuel ih =>
  intro T s L f w hL hT hlen mS Al inv hI;have Be:T≠[]:=fun e=>by rw[e] at hlen;cases hlen
  obtain ⟨m,hm,hle⟩:=qM Be;have hmn:=Al m hm;have hun:s.getD m false=false:=(mS m hmn).2 hm;have Gl:m<s.size:=by rw[inv.size];omega
  obtain ⟨om,D6⟩:∃ o,ops[m]?=some o:=⟨_,bI (by omega)⟩
  have l6:m∈Region.ready md ops s:=mem_ready.2 ⟨getD_in Gl hun,om,D6,fun e he lK=>by
   have h1:=sH m om hmn D6 e he lK
   cases h2:s.getD e.on false with
   |true=>rfl
   |false =>
    have:=hle _ ((mS e.on (by omega)).1 h2)
    omega⟩
  rw[show fuel+1+(ops.size-n)=(fuel+(ops.size-n))+1 by omega];refine ⟨fun e=>absurd l6 (by rw[e];simp),fun i hi=>?_⟩;obtain ⟨Fw,oi,hoi,nM⟩:=mem_ready.1 hi;have hin:i<n:=by rw[hn];exact (Array.getElem?_eq_some_iff.1 hoi).1
  have Jt:i∈T:=(mS i hin).1 (getD_both Fw);have o9:zW ops i=oi.dst:=by unfold zW;rw[hoi];rfl
  unfold wpOp;rw[hoi];simp only[];have hh:=head i oi hin hoi L f w (by rw[<- hL];exact getD_both Fw) (fun e he lK=>by rw[<- hL];exact nM e he lK) hI;refine Pt hh (fun v w' hR=>?_) (fun d v w' hR=>?_)
  ·obtain ⟨_,rE,hv⟩:=hR;have hval:Tv n w0 Φ (nY L i) (xM f i v) w':=by
    have hsome:=hds i hin;rw[o9] at hsome
    cases hd:oi.dst with
    |none=>rw[hd] at hsome;cases hsome
    |some t =>
     have h4:=(hv t hd).1;have h5:t<(fU ops a0 f n).tmps.size:=by rw[tH];exact hN i hin t (by rw[o9,hd])
     rw[hd] at h4;have h6:Φ i v w':=by simpa [Act.put,h5] using h4
     refine ⟨zA hI.1 rE,fun j hj XS=>?_⟩;unfold nY at XS;unfold xM
     by_cases e:j=i
     ·rw[ah e];rw[e];exact h6
     rw[ai e] at XS |-;exact hΦ j _ _ _ rE (hI.2 j hj XS)
   rw[<- o9,qZ ops a0 f i v n hin fun j hj hji=>Bd i j hin hj (aQ hji)];refine ih (T.erase i) _ (nY L i) _ w' (fun j=>?_) (hT.erase i) (by rw[List.length_erase_of_mem Jt];omega) (fun j hj=>?_) (fun j hj=>Al j (List.mem_of_mem_erase hj)) (inv.set hi hin) hval
   ·unfold nY
    by_cases e:j=i
    ·subst e;have jw:j<s.size:=by rw[inv.size];omega
     simp[bB,jw]
    rw[bH false (aQ e),hL j,ai e]
   rw[hT.mem_erase_iff]
   by_cases e:j=i
   ·subst e;have jw:j<s.size:=by rw[inv.size];omega
    simp[bB,jw]
   rw[bH false (aQ e),mS j hj];simp[e]
  have h1:=hR.1;have h2:=aM List.length h1
  cases Ju:oi.dst<;>simp[Act.put,Ju] at h2
def zN7 (ops:Array Oper) (n:Nat):Bool:=(List.range n).all fun i=>(zW ops i).isSome
def vD {id:Nat} {a0:Act} {w:World} {l:List Oper} (L:List lZ) (N:Nat) (hm:P.follows .mixedOrders=true) (hB:JQ .any l.toArray L.length=true) (hD:zN7 l.toArray L.length=true)
  (hsz:a0.tmps.size=N) (hN:Pu l.toArray L.length N=true) {fr:(Nat->Value)->Act} (hfr:∀ f,fU l.toArray a0 f L.length=fr f)
  (head:Pv P Q l.toArray L [] fr w l L 0)
  (tail:∀ f w1,Below w.heap.size w w1->(∀ j,j<L.length->(stA L j).p (f j) w1)->wpList P l.toArray Q [] (fr f) w1):(Code.region id l.toArray true).wp P Q a0 w:=by
 have hn:L.length=l.toArray.size:=by
  simp only[JQ,aO,aR] at hB;exact hB.1.1.1
 refine wp_region_any hm ?_;have h:=zKU (md:=.any) (Q:=Q) (P:=P) (n:=L.length) (a0:=a0) (w0:=w) (Φ:=fun j=>(stA L j).p) (fun j v w1 w2 hb h=>(stA L j).m v w1 w2 hb h) rfl (fun i hi=>List.all_eq_true.1 hD i (List.mem_range.2 hi)) hB
  (fun i hi t ht=>by
   have h1:=List.all_eq_true.1 hN i (List.mem_range.2 hi)
   rw[ht] at h1
   rw[hsz]
   simpa using h1)
  (fun i o hi ho Lb f w1 h0 hd hI=>by
   rw[hfr]
   have hS:L[i]?=some (stA L i):=by
    unfold stA
    rw[aw,aA hi];rfl
   have h2:=SR l L 0 head i o (stA L i) (by simpa using ho) hS f w1 hI.1 (fun j hj=>by
    unfold Jv at hj
    obtain ⟨e,he,h3⟩:=Array.any_eq_true'.1 hj
    simp only[aO,cM] at h3
    have hlt:e.on<i:=by
     have hB2:=hB
     simp only[JQ,aO,aR] at hB2
     have:=List.all_eq_true.1 hB2.1.1.2 i (List.mem_range.2 hi)
     rw[ho] at this
     simp only[dN,bC] at this
     have h5:=Array.all_eq_true_iff_forall_mem.1 this e he
     rw[h3.1] at h5
     simpa using h5
    have h4:=hI.2 e.on (by omega) (hd e he h3.1)
    rwa [h3.2] at h4)
   have h3:(0+i∈([]:List Nat))=False:=by simp
   rw[h3] at h2
   exact h2)
  (fun Lb f w1 hA hI=>by
   rw[hfr]
   have iz:l.drop L.length=[]:=cu (by rw[hn];simp)
   rw[iz]
   exact tail f w1 hI.1 fun j hj=>hI.2 j hj (hA j hj))
  L.length (List.range L.length) (Array.replicate l.toArray.size false) (fun _=>false) (fun j=>match zW l.toArray j with|some d=>a0.tmps.getD d undef|none=>undef) w.drew
  (fun j=>getD_replicate_false _ _) List.nodup_range (by simp) (fun j hj=>by rw[getD_replicate_false];simp[hj]) (fun j hj=>by simpa using hj)
  ⟨by simp,fun j oj _ hl=>(by rw[getD_replicate_false] at hl;cases hl),fun t _ ht=>getD_in (by simpa using ht) (getD_replicate_false _ _)⟩
  ⟨zV (aj _ _),fun j _ h=>by cases h⟩
 have e0:fU l.toArray a0 (fun j=>match zW l.toArray j with|some d=>a0.tmps.getD d undef|none=>undef) L.length=a0:=NG _ _ _;rw[e0,show L.length+(l.toArray.size-L.length)=l.toArray.size by omega] at h;exact h
end
variable {B n:Nat}
def gY.atB {w:World} {a:Option Addr} {cap:Nat} {l:List Int} (h:gY w B (.slice a n cap) l) {j:Nat} (hj:j<n):∃ b off,a=some ⟨b,off,none⟩/\w.cell? ⟨b,off+j,none⟩=some (.int .i64 (pW l j)):=by
 have hr:il qQ w _ l:=vR h;obtain ⟨a',cap',e,h2,h3,_,h5⟩:=il.shape hr 0;injection e with e1 e2 e3;subst e1 e2 e3;obtain ⟨b,off,e,hc⟩:=h5 (by omega);exact ⟨b,off,e,hc j hj⟩
noncomputable def yA (P:fP) (key:Int) (l:List Int) (k:Nat):fP:=(l.take k).foldl (yU key) P
def vA (P:fP) (key:Int) (l:List Int) (k:Nat) (h:k<l.length):yA P key l (k+1)=yU key (yA P key l k) (pW l k):=by
 unfold yA pW;rw[cQ,aw,aA h,dQ]
 rfl
def zHb (s:fk) (g:Gn):(yS s g).1.ep.length<=s.ep.length:=by
 by_cases hc:(yS s g).2=0
 ·rw[S3 hc];show (t7 s.ep g).length<=_;rw[zKs];exact ag _
 have e:(yS s g).1=yq:=by
  unfold yS at hc |-
  split
  ·rename_i h1;rw[ah h1] at hc
   split
   ·rename_i h2;rw[ah h2] at hc
    split
    ·rename_i h3;rw[ah h3] at hc;exact absurd rfl hc
    rfl
   rfl
  rfl
 rw[e];exact aq _
def XT (s:fk) (num:Int) (keys:List Int):(yK s num keys).1.ep.length<=s.ep.length:=by
 unfold yK
 split
 ·split
  ·exact zHb _ _
  exact aq _
 exact aq _
def zB4 {P:fP} {key:Int} {l:List Int}:∀ k,k<=l.length->(yA P key l k).t.ep.length<=P.t.ep.length
 |0,_=>ag _
 |k+1,h=>by
  rw[vA P key l k (by omega)];exact ak (XT _ _ _) (zB4 k (by omega))
def qR {P:fP} {key:Int} {l:List Int} {M:Nat} (hl:fF 800 P.t.ep) (hk:pR M P.eE) (hn:∀ x∈l,1<=x/\x<=8):∀ k,k<=l.length ->
  fF 800 (yA P key l k).t.ep/\pR (M+k) (yA P key l k).eE/\(yA P key l k).needs=P.needs/\(yA P key l k).bytes=P.bytes/\(yA P key l k).eH=P.eH/\(yA P key l k).res=P.res
 |0,_=>⟨hl,hk,rfl,rfl,rfl,rfl⟩
 |k+1,h=>by
  obtain ⟨h1,h2,h3,h4,h5,h6⟩:=qR (P:=P) (key:=key) hl hk hn k (by omega);rw[vA P key l k (by omega)];exact ⟨kq h1,h2.ins (hn _ (Om (by omega))) key,h3,h4,h5,h6⟩
def zK7 (B:Nat) (l:List Int):lZ:=⟨fun v w=>∃ a c,v=.slice a l.length c/\gY w B (.slice a l.length c) l,fun _ _ _ hb ⟨a,c,h1,h2⟩=>⟨a,c,h1,zE h2 hb⟩⟩
def zN8 (B dn:Nat) (l:List UInt8):lZ:=⟨fun v w=>∃ a c,v=.slice a dn c/\gD w B (.slice a dn c) l,fun _ _ _ hb ⟨a,c,h1,h2⟩=>⟨a,c,h1,iI.bb h2 hb⟩⟩
def zN5 (B:Nat) (key ck:Int) (dn:Nat) (l:List UInt8):lZ:=⟨fun v w=>∃ a c,v=.agg #[.int .u64 key,.int .u32 ck,.bool false,.slice a dn c]/\gD w B (.slice a dn c) l,fun _ _ _ hb ⟨a,c,h1,h2⟩=>⟨a,c,h1,iI.bb h2 hb⟩⟩
def zGw (v:Value) (l:List UInt8) (w:World) (h:ll w v l) (hs:l.length<=1000000) :
  Calls prog 148 #[v] w fun e w'=>∃ v',e=.returned v'/\lR w' w.heap.size v' l/\Below w.heap.size w w':=by
 obtain ⟨a,cap,rfl,h1,h2⟩:=h.fO;have ZX:∀ (w:World) (a:Option Addr) (n c n' c':Nat),(binOp .eql 54 (.slice a n c) (.slice none n' c')).run prog w=.ok (.bool a.isNone) w:=fun w a n c n' c'=>Lib.run_eql_slice_nil w _ _ a n c n' c' underlying54
 cases a with
 |none =>
  have h0:l=[]:=by
   obtain ⟨_,a',cap',e,_,_,h5,_⟩:=h;injection e with e1 e2 e3;have:=h5 e1.symm;exact List.length_eq_zero_iff.1 (by omega)
  subst h0;clear h
  go_enter func148,ntmps148
  go_wp2_with fail;go_ret;exact ⟨_,rfl,aP _ _ _ _,aj _ _⟩
 |some p =>
  have Hr:=zh h;generalize hn:l.length=n at *;have HL:=zh hn;clear h hn
  go_enter func148,ntmps148
  go_wp2_with (at_builtin;go_must (refine zP (n:=0) (m:=n) rfl (.tmp 5) (.tmp 6) 54 rfl vv w.heap.size rfl (cT (size:=1) _ #[] 0 (ag _) (by decide) rfl) rfl (by have:=il.alloc Hr.o (.cells #[] 5);unfold il at this;rw[HL.o] at this;exact this) (xJ _) (by unfold maxLen;omega) (by omega) (by simp) ?_);intro v3 w3 eB eW hv3;clear hv3);have HB:=zh (zK ((aj w.heap.size w).alloc (ag _) _) (cT (e:=5) (size:=1) w #[] 0 (ag _) (by decide) rfl) (by simp) eW);have HO:=zh (vz eB (bV _));clear eB eW;go_wp2_with fail;go_ret;exact ⟨_,rfl,HO.o,HB.o⟩
def zI8 (tk kind key ck:Int) (da:Option Addr) (dn dc:Nat) (w:World):Calls prog 145 #[Eg tk kind key ck (.slice da dn dc)] w fun e w'=>e=.returned (.bool true)/\Below w.heap.size w w':=by
 have hb:=(aj w.heap.size w).alloc (ag _) (.cells #[.int .i64 tk,.int .i64 kind,.int .u64 key,.int .u32 ck,.slice da dn dc] 85);have HB:=zh hb;clear hb
 go_enter func145,ntmps145
 go_upto_region 1 with fail;change Code.wp _ _ _ _ (.alloc _ (.cells _ 85));generalize w.alloc (.cells #[.int .i64 tk,.int .i64 kind,.int .u64 key,.int .u32 ck,.slice da dn dc] 85)=w1 at *;go_wp2_with fail;go_ret;exact ⟨rfl,HB.o⟩
def zII (b cap:Nat) (t:fk) (ga:Option Addr) (gn gc:Nat) (L:List GP) (eH:Bool) (kv nv rv:Value) (iC:Int) (tk kind key ck:Int) (da:Option Addr) (dn dc:Nat) (w:World) (hcap:eu w cap #[.pointer (some ⟨b,0,none⟩)] 143) (hb:Ac w b t.id t.lim t.ro ga gn gc eH kv nv rv iC) (hg:fB w (.slice ga gn gc) L) (rh:ey L=t.ep) (hl:fF 1000 t.ep) :
  Calls prog 150 #[Eg tk kind key ck (.slice da dn dc),.pointer (some ⟨cap,0,none⟩)] w fun e w'=>e=.returned (.bool (wO t key))/\Below w.heap.size w w':=by
 have eG:=(aj w.heap.size w).alloc (ag _) (.cells #[.int .i64 tk,.int .i64 kind,.int .u64 key,.int .u32 ck,.slice da dn dc] 85);have HX:=zh (eu.new w #[.int .i64 tk,.int .i64 kind,.int .u64 key,.int .u32 ck,.slice da dn dc] 85);have HC:=zh (hcap.bb eG);have FC:=zh (zFN b t ga gn gc L eH kv nv rv iC key (w.alloc (.cells #[.int .i64 tk,.int .i64 kind,.int .u64 key,.int .u32 ck,.slice da dn dc] 85)) (hb.bb eG) (fB.bb hg eG) rh hl);have HB:=zh eG;clear eG hb hg rh hl hcap;generalize wO t key=tb at *
 go_enter func150,ntmps150
 go_upto_region 1 with fail;change Code.wp _ _ _ _ (.alloc _ (.cells _ 85));generalize w.alloc (.cells #[.int .i64 tk,.int .i64 kind,.int .u64 key,.int .u32 ck,.slice da dn dc] 85)=w1 at *;have x2:=HX.o.cell (i:=2) rfl;have c0:=HC.o.cell (i:=0) rfl;go_wp2_with fail;refine FC.o.mono ?_;rintro e w2 ⟨rfl,hb2⟩;have eX:=zh (zA HB.o hb2);clear hb2;go_wp2_with fail;go_ret;exact ⟨rfl,eX.o⟩
variable {P:fP}
def zKC {w:World} {b:Nat} {ga:Option Addr} {gn gc:Nat} {L:List GP} {kv:Value} {ks:List KP} {nv:Value} {es:List (Nd×Value)} {rv:Value} (hlo:B<=b) (hP:Ac w b P.t.id P.t.lim P.t.ro ga gn gc P.eH kv nv rv P.bytes) (hR:nj w B P ga gn gc L kv ks nv es rv) (hl:fF 900 P.t.ep) (hB:B<=w.heap.size) (hel:es.length<=1000) (hby:0<=P.bytes/\P.bytes<=1000000000) (q:Rq) (cap:Nat) (tk kind key ck:Int) (da:Option Addr) (dn dc:Nat) (hcap:eu w cap #[.pointer (some ⟨b,0,none⟩)] 143) (hd:ll w (.slice da dn dc) q.data) (iz:dn<=100000) (Av:(q.key:Int)=key) (Cx:(q.ck:Int)=ck) :
  Calls prog 146 #[Eg tk kind key ck (.slice da dn dc),.pointer (some ⟨cap,0,none⟩)] w fun e w'=>e=.returned (.tuple #[])/\AX w' B b (xR P (uA q))/\fQ B w w':=by
 have lu:q.data.length=dn:=by obtain ⟨_,_,_,e,_⟩:=hd;injection e with _ e _;exact e.symm
 have eG:=(aj w.heap.size w).alloc (ag _) (.cells #[.int .i64 tk,.int .i64 kind,.int .u64 key,.int .u32 ck,.slice da dn dc] 85);have HX:=zh (eu.new w #[.int .i64 tk,.int .i64 kind,.int .u64 key,.int .u32 ck,.slice da dn dc] 85);have HC:=zh (hcap.bb eG);have HB:=zh eG;have HDn:=zh lu;have Pj:=zh (fun W (hb:Below w.heap.size w W)=>zGw (.slice da dn dc) q.data W (il.bb hd hb) (by omega));have lL:=zh (fun W va vc (hb:Below w.heap.size w W) (hv:gD W B (.slice va dn vc) (uA q).data)=>zFp hlo (hP.bb hb) (hR.bb hb) hl (ak hB hb.size) (uA q) va dn vc hv lu iz hel hby);have BR:Hid (((uA q).key:Int)=key/\((uA q).ck:Int)=ck/\(uA q).del=false):=zh (⟨Av,Cx,rfl⟩);obtain ⟨sV,hd2,Fg⟩:=BR.o;rw[sV,hd2,Fg] at lL;clear eG hcap hd sV hd2 Fg BR hP hR hl hel hby Av Cx;generalize xR P (uA q)=D at *
 change Hid (∀ W va vc,Below w.heap.size w W->gD W B (.slice va dn vc) q.data->_) at lL;generalize q.data=ql at *;generalize fJ:w.heap.size=bx at *;have eO:=zh fJ;have TC:bx<=w.heap.size:=by omega
 have hwc:w.heap.size<=bx:=by omega
 clear fJ
 go_enter func146,ntmps146
 go_upto_region 1 with fail
 try rw[eO.o]
 generalize w.alloc (.cells #[.int .i64 tk,.int .i64 kind,.int .u64 key,.int .u32 ck,.slice da dn dc] 85)=w1 at *;refine xD [eT (.pointer (some ⟨b,0,none⟩)),eT (.pointer (some ⟨bx,2,none⟩)),eT (.int .u64 key),eT (.pointer (some ⟨bx,3,none⟩)),eT (.int .u32 ck),eT (.pointer (some ⟨bx,4,none⟩)),eT (.slice da dn dc),zN8 B dn ql,zN5 B key ck dn ql] [] 13 (by kernel_rfl) (by kernel_rfl) (by rfl) (by kernel_rfl) (fun f=>by simp[fU,zW,Act.put];exact rfl) ?_ ?_
 ·refine ⟨?_,?_,?_,?_,?_,?_,?_,?_,?_,trivial⟩
  ·intro f w2 hb hd;clear hd;dsimp only;have c0:=(HC.o.bb hb).cell (i:=0) rfl;go_wp2_with fail;exact pS rfl (by simp)
  ·intro f w2 hb hd;clear hd;dsimp only;go_wp2_with fail;exact pS rfl (by simp)
  ·intro f w2 hb hd;have d1:f 1=_:=hd 1 (by kernel_rfl);clear hd;dsimp only;rw[d1];have q2:=(HX.o.bb hb).cell (i:=2) rfl;go_wp2_with fail;exact pS rfl (by simp)
  ·intro f w2 hb hd;clear hd;dsimp only;go_wp2_with fail;exact pS rfl (by simp)
  ·intro f w2 hb hd;have d3:f 3=_:=hd 3 (by kernel_rfl);clear hd;dsimp only;rw[d3];have q3:=(HX.o.bb hb).cell (i:=3) rfl;go_wp2_with fail;exact pS rfl (by simp)
  ·intro f w2 hb hd;clear hd;dsimp only;go_wp2_with fail;exact pS rfl (by simp)
  ·intro f w2 hb hd;have d5:f 5=_:=hd 5 (by kernel_rfl);clear hd;dsimp only;rw[d5];have q4:=(HX.o.bb hb).cell (i:=4) rfl;go_wp2_with fail;exact pS rfl (by simp)
  ·intro f w2 hb hd;have d6:f 6=_:=hd 6 (by kernel_rfl);clear hd;dsimp only;rw[d6];go_wp2_with fail;refine (Pj.o w2 (HB.o.trans (hb.mono (ak TC HB.o.size)))).mono ?_;rintro e w9 ⟨ov,rfl,ho,gy⟩;have Ci:∃ qa qc,ov=.slice qa dn qc:=by
    obtain ⟨qa,qc,hv,_⟩:=zG ho;exact ⟨qa,qc,by rw[hv,HDn.o]⟩
   obtain ⟨qa,qc,rfl⟩:=Ci;have HO:Hid (gD w9 B (.slice qa dn qc) ql):=zh (iI.own ho);clear ho;go_wp2_with fail;exact pRg gy ⟨qa,qc,rfl,HO.o⟩ (by simp)
  intro f w2 hb hd;have d2:f 2=_:=hd 2 (by kernel_rfl);have d4:f 4=_:=hd 4 (by kernel_rfl);obtain ⟨a7,c7,d7,r7⟩:=hd 7 (by kernel_rfl);clear hd;dsimp only;rw[d2];rw[d4];rw[d7];have HO:=zh r7;clear r7;go_wp2_with fail;exact pRg (aj _ _) ⟨a7,c7,rfl,HO.o⟩ (by simp)
 intro f w8 hb hA iX;clear iX;have d0:f 0=_:=hA 0 (by simp);obtain ⟨a8,c8,d8,r8⟩:=hA 8 (by simp);clear hA
 try dsimp only
 rw[d0,d8];clear d0 d8;have X8:=zh (lL.o w8 a8 c8 (HB.o.trans (hb.mono (ak TC HB.o.size))) r8);have nV:Hid (fQ B w w8):=zh (fQ.of ((HB.o.trans (hb.mono (ak TC HB.o.size))).mono hwc) (ak hB TC));clear r8 hb lL Pj HX HC HB;go_wp2_with fail;refine X8.o.mono ?_;rintro e w9 ⟨rfl,iA,gy⟩;have oQ:=zh iA;have jL:=zh (nV.o.trans gy);clear iA gy;go_wp2_with fail;go_end0;exact ⟨rfl,oQ.o,jL.o⟩
structure lC (W:World) (b g cap:Nat):Prop where
 c:eu W cap #[.pointer (some ⟨b,0,none⟩)] 143
 r:eu W g #[.int .i64 1,.func (.func 144) #[.pointer (some ⟨b,0,none⟩)] #[],.func (.func 145) #[] #[],.func (.func 146) #[] #[.pointer (some ⟨cap,0,none⟩)],.int .i64 2,.func (.func 149) #[.pointer (some ⟨b,0,none⟩)] #[],.func (.func 150) #[] #[.pointer (some ⟨cap,0,none⟩)],.func (.func 152) #[.pointer (some ⟨b,0,none⟩)] #[]] 192
def lC.bb {W W':World} {b g cap:Nat} (h:lC W b g cap) (hb:Below W.heap.size W W'):lC W' b g cap:=⟨h.c.bb hb,h.r.bb hb⟩
def lC.kept {W W':World} {b g cap:Nat} (h:lC W b g cap) (hb:fQ B W W'):lC W' b g cap:=⟨hb.box h.c (by decide),hb.box h.r (by decide)⟩
def zIA (b:Nat) (w:World):Calls prog 107 #[.pointer (some ⟨b,0,none⟩)] w fun e w'=>∃ g cap,e=.returned (.slice (some ⟨g,0,none⟩) 2 2)/\lC w' b g cap/\Below w.heap.size w w':=by
 have eG:=(aj w.heap.size w).alloc (ag _) (.cells #[.pointer (some ⟨b,0,none⟩)] 143);have HC:=zh (eu.new w #[.pointer (some ⟨b,0,none⟩)] 143);have HB:=zh eG;clear eG;generalize hcp:w.heap.size=cap at *;have IQ:=zh hcp;clear hcp
 go_enter func107,ntmps107
 go_upto_region 1 with fail
 try rw[IQ.o]
 generalize w.alloc (.cells #[.pointer (some ⟨b,0,none⟩)] 143)=w1 at *;have c0:=HC.o.cell (i:=0) rfl;have X9:cap<w1.heap.size:=HC.o.lt
 go_cut [3] (fun v wx=>v=.pointer (some ⟨w1.heap.size,0,none⟩)/\wx=w1.alloc (.cells #[.int .i64 1,.func (.func 144) #[.pointer (some ⟨b,0,none⟩)] #[],.func (.func 145) #[] #[],.func (.func 146) #[] #[.pointer (some ⟨cap,0,none⟩)]] 192))
 case first =>
  go_wp2_with fail;go_meet
  case rel=>exact ⟨rfl,rfl⟩
 obtain ⟨rfl,rfl⟩:=hcut;have hb2:=(aj w1.heap.size w1).alloc (ag _) (.cells #[.int .i64 1,.func (.func 144) #[.pointer (some ⟨b,0,none⟩)] #[],.func (.func 145) #[] #[],.func (.func 146) #[] #[.pointer (some ⟨cap,0,none⟩)]] 192);have FE:=zh (eu.new w1 #[.int .i64 1,.func (.func 144) #[.pointer (some ⟨b,0,none⟩)] #[],.func (.func 145) #[] #[],.func (.func 146) #[] #[.pointer (some ⟨cap,0,none⟩)]] 192);have C8:=zh (HC.o.bb hb2);have eX:=zh (HB.o.trans (hb2.mono (bT X9)));clear hb2 c0;generalize hg1:w1.heap.size=g1 at *;have rG:=zh hg1;clear hg1;generalize w1.alloc (.cells #[.int .i64 1,.func (.func 144) #[.pointer (some ⟨b,0,none⟩)] #[],.func (.func 145) #[] #[],.func (.func 146) #[] #[.pointer (some ⟨cap,0,none⟩)]] 192)=w2 at *;have c0:=C8.o.cell (i:=0) rfl;have Qw:cap<w2.heap.size:=C8.o.lt
 have aek:g1<w2.heap.size:=FE.o.lt;go_upto_region 2 with fail
 go_cut [4] (fun v wx=>v=.pointer (some ⟨w2.heap.size,0,none⟩)/\wx=w2.alloc (.cells #[.int .i64 2,.func (.func 149) #[.pointer (some ⟨b,0,none⟩)] #[],.func (.func 150) #[] #[.pointer (some ⟨cap,0,none⟩)],.func (.func 152) #[.pointer (some ⟨b,0,none⟩)] #[]] 192))
 case first =>
  go_wp2_with fail;go_meet
  case rel=>exact ⟨rfl,rfl⟩
 obtain ⟨rfl,rfl⟩:=hcut;have hb3:=(aj w2.heap.size w2).alloc (ag _) (.cells #[.int .i64 2,.func (.func 149) #[.pointer (some ⟨b,0,none⟩)] #[],.func (.func 150) #[] #[.pointer (some ⟨cap,0,none⟩)],.func (.func 152) #[.pointer (some ⟨b,0,none⟩)] #[]] 192);have jc:=zh (eu.new w2 #[.int .i64 2,.func (.func 149) #[.pointer (some ⟨b,0,none⟩)] #[],.func (.func 150) #[] #[.pointer (some ⟨cap,0,none⟩)],.func (.func 152) #[.pointer (some ⟨b,0,none⟩)] #[]] 192);have Ms:=zh (FE.o.bb hb3);have HC3:=zh (C8.o.bb hb3);have f_:=zh (eX.o.trans (hb3.mono (bT Qw)));clear hb3 c0;generalize hg2:w2.heap.size=g2 at *;clear hg2;generalize w2.alloc (.cells #[.int .i64 2,.func (.func 149) #[.pointer (some ⟨b,0,none⟩)] #[],.func (.func 150) #[] #[.pointer (some ⟨cap,0,none⟩)],.func (.func 152) #[.pointer (some ⟨b,0,none⟩)] #[]] 192)=w3 at *
 have y0:=Ms.o.cell (i:=0) rfl;have y1:=Ms.o.cell (i:=1) rfl;have y2:=Ms.o.cell (i:=2) rfl;have y3:=Ms.o.cell (i:=3) rfl;have z0:=jc.o.cell (i:=0) rfl;have z1:=jc.o.cell (i:=1) rfl;have z2:=jc.o.cell (i:=2) rfl;have z3:=jc.o.cell (i:=3) rfl;have Qx:cap<w3.heap.size:=HC3.o.lt;go_wp2_with fail;go_ret;have hb4:=(aj w3.heap.size w3).alloc (ag _) (.cells #[.int .i64 1,.func (.func 144) #[.pointer (some ⟨b,0,none⟩)] #[],.func (.func 145) #[] #[],.func (.func 146) #[] #[.pointer (some ⟨cap,0,none⟩)],.int .i64 2,.func (.func 149) #[.pointer (some ⟨b,0,none⟩)] #[],.func (.func 150) #[] #[.pointer (some ⟨cap,0,none⟩)],.func (.func 152) #[.pointer (some ⟨b,0,none⟩)] #[]] 192)
 refine ⟨w3.heap.size,cap,rfl,⟨HC3.o.bb hb4,eu.new w3 #[.int .i64 1,.func (.func 144) #[.pointer (some ⟨b,0,none⟩)] #[],.func (.func 145) #[] #[],.func (.func 146) #[] #[.pointer (some ⟨cap,0,none⟩)],.int .i64 2,.func (.func 149) #[.pointer (some ⟨b,0,none⟩)] #[],.func (.func 150) #[] #[.pointer (some ⟨cap,0,none⟩)],.func (.func 152) #[.pointer (some ⟨b,0,none⟩)] #[]] 192⟩,f_.o.trans (hb4.mono (bT Qx))⟩
section
variable {P:fP} {q:Rq}
def ko (h:P.res.length=16):zq P q=(false,P):=by unfold zq;rw[ah h]
def zDn (h:¬ P.res.length=16) (h1:q.kind=1) (h2:yI P.t q=9) (h3:wu P.t=true):zq P q=(false,{P with eH:=decide (P.res.length=0)}):=by
 unfold zq;rw[ai h,ah h1,ah ⟨h2,h3⟩]
def tT (h:¬ P.res.length=16) (h1:q.kind=1) (h2:¬ (yI P.t q=9/\wu P.t=true)) (h3:¬ yI P.t q=0):zq P q=(true,more P (yI P.t q)):=by
 unfold zq;rw[ai h,ah h1,ai h2,ai h3]
def zCD (h:¬ P.res.length=16) (h1:q.kind=1) (h3:yI P.t q=0) (h4:0<P.bytes/\16384<P.bytes+(eY q.data.length:Int)):zq P q=(false,P):=by
 unfold zq;rw[ai h,ah h1,ai (fun h=>by have:=h.1;omega),ah h3,ah h4]
def X_ (h:¬ P.res.length=16) (h1:q.kind=1) (h3:yI P.t q=0) (h4:¬ (0<P.bytes/\16384<P.bytes+(eY q.data.length:Int))):zq P q=(true,more (xR P (uA q)) 0):=by
 unfold zq;rw[ai h,ah h1,ai (fun h=>by have:=h.1;omega),ah h3,ai h4]
def zFL:xE P.t q=0∨xE P.t q=6:=by unfold xE;split<;>simp
def zC2:yI P.t q=0∨yI P.t q=8∨yI P.t q=9:=by
 unfold yI
 split
 ·simp
 split<;>simp
def zF9 (h:yI P.t q=0):q.data.length<=4096:=by
 unfold yI at h
 split at h
 ·cases h
 omega
def k9 (h:¬ P.res.length=16) (h1:q.kind=2) (h3:xE P.t q=6):zq P q=(true,more P 6):=by
 unfold zq;rw[ai h,ai (by omega),ah h1,ai (by omega)]
def zCa (h:¬ P.res.length=16) (h1:q.kind=2) (h3:xE P.t q=0) (h4:wO P.t q.key=true/\0<P.bytes/\16384<P.bytes+24):zq P q=(false,P):=by
 unfold zq;rw[ai h,ai (by omega),ah h1,ah h3,ah h4]
def kY (h:¬ P.res.length=16) (h1:q.kind=2) (h3:xE P.t q=0) (h4:¬ (wO P.t q.key=true/\0<P.bytes/\16384<P.bytes+24)):zq P q=(true,more (wY P q) 0):=by
 unfold zq;rw[ai h,ai (by omega),ah h1,ah h3,ai h4]
def zBL (h:¬ P.res.length=16) (h1:¬ q.kind=1) (h2:¬ q.kind=2):zq P q=(true,more P 1):=by
 unfold zq;rw[ai h,ai h1,ai h2]
end
def zMY (s:fk) (a:Option Addr) (n c:Nat) (L:List GP) (W:World) (hr:fB W (.slice a n c) L) (hg:ey L=s.ep) (hl:fF 1000 s.ep) :
  Calls prog 35 #[zQ s.id s.lim s.ro a n c] W fun e w'=>e=.returned (.bool (wu s))/\Below W.heap.size W w':=by
 have h:=kQ s.id s.lim s.ro a n c L W hr (yx (hg▸hl) (by decide));obtain ⟨i,l,r,g⟩:=s;dsimp only at hg h |-;subst hg;exact h
def kj:wQ prog 69 39 1 8:=by
 obtain ⟨i,hi,hz,hs,hb⟩:=cq (P:=prog) (e:=39) (z:=.int .i64 0) (size:=1) (bytes:=8) (by kernel_rfl);exact ⟨underlying69,by decide,i,_,hi,hz,hs,hb,rfl⟩
def zNi (i l:Int) (r:Bool) (ga:Option Addr) (gn gc:Nat) (eH:Bool) (kv nv rv:Value) (iC:Int) (u:Value):(qS i l r ga gn gc eH kv nv rv iC).setIfInBounds 8 u=qS i l r ga gn gc eH kv nv u iC:=by
 simp only[aJ,aK,aI]
def zNH (i l:Int) (r:Bool) (ga:Option Addr) (gn gc:Nat) (eH:Bool) (kv nv rv:Value) (iC:Int) (z:Bool):(qS i l r ga gn gc eH kv nv rv iC).setIfInBounds 4 (.bool z)=qS i l r ga gn gc z kv nv rv iC:=by
 simp only[aJ,aK,aI]
def nj.res {W W1:World} {B:Nat} {P:fP} {ga:Option Addr} {gn gc:Nat} {L:List GP} {kv:Value} {ks:List KP} {nv:Value} {es:List (Nd×Value)} {rv E2:Value} (h:nj W B P ga gn gc L kv ks nv es rv) (e:Int)
  (hg:W.grownBy W1 rv.ownBlock) (ho:W1.ownsRow B 39 1 E2 (P.res.length+1) (P.res.map qQ++[.int .i64 e])):nj W1 B (more P e) ga gn gc L kv ks nv es E2/\fM W W1 B 39:=by
 have hO:fM W W1 B 39:=fM.row h.r hg (ag _);refine ⟨⟨h.g.fC hO (by decide) (by decide),h.gg,h.k.fC hO (by decide) (by decide),h.kk,h.n.fC hO (by decide) (by decide),h.nn,?_⟩,hO⟩
 show W1.ownsRow B _ 1 E2 (P.res++[e]).length ((P.res++[e]).map qQ)
 rw[ax,aU];exact ho
structure mE (K G n:Nat) (P:fP):Prop where
 l:fF (K+n) P.t.ep
 k:pR (8*n) P.eE
 g:P.t.ep.length<=G
 b:0<=P.bytes/\P.bytes<=5000*(n:Int)
 e:P.needs.length<=n
def mE.mono {K G n m:Nat} {P:fP} (h:mE K G n P) (hm:n<=m):mE K G m P:=⟨h.l.mono (by omega),h.k.mono (by omega),h.g,⟨h.b.1,by have:=h.b.2;omega⟩,ak h.e hm⟩
variable {K G:Nat}
def zEm {m:Nat} {x:Nd} (hl:fF (K+n) P.t.ep) (hk:pR (8*m) P.eE) (hg:P.t.ep.length<=G) (hb:0<=P.bytes/\P.bytes<=5000*(n:Int)) (he:P.needs.length<=n) (hm:m<=n+1):mE K G (n+1) (xR P x):=by
 have hs:=wI x.data.length;refine ⟨?_,hk.mono (by omega),ak (zHb _ _) hg,⟨?_,?_⟩,?_⟩
 ·have:=Xz (s:=P.t) (g:=(yZ (wU P.t).2 [x]).2) (K:=K+n+1) (hl.mono (by omega)) (fun i hi=>uF (Tj hl) i hi);exact this
 ·show 0<=P.bytes+(eY x.data.length:Int)
  have:=hb.1;omega
 ·show P.bytes+(eY x.data.length:Int)<=5000*((n+1:Nat):Int)
  have:=hb.2;omega
 show (P.needs++[x]).length<=n+1
 rw[ax];exact Nat.succ_le_succ he
def zCw {K M:Nat} {key:Int}:∀ (l:List Int) (P:fP),fF K P.t.ep->pR M P.eE->(∀ x∈l,1<=x/\x<=8)->fF K (l.foldl (yU key) P).t.ep/\pR (M+l.length) (l.foldl (yU key) P).eE/\(l.foldl (yU key) P).t.ep.length<=P.t.ep.length
 |[],P,h1,h2,_=>⟨h1,h2,ag _⟩
 |x::r,P,h1,h2,h3=>by
  obtain ⟨g1,g2,g3⟩:=zCw (M:=M+1) r (yU key P x) (kq h1) (h2.ins (h3 x (by simp)) key) (fun y hy=>h3 y (by simp[hy]));refine ⟨g1,?_,ak g3 (XT _ _ _)⟩;have e:M+(x::r).length=M+1+r.length:=by rw[aW];omega
  rw[e];exact g2
def zIj {q:Rq} (h:mE K G n P):mE K G (n+1) (wY P q):=by
 obtain ⟨g1,g2,g3⟩:=zCw (key:=q.key) (zd P.t q.key) P h.l h.k (fun x hx=>tW hx);have h8:=kU P.t q.key;obtain ⟨r1,r2,r3,r4⟩:=wN P q.key;have hk:pR (8*(n+1)) (wW P q.key).eE:=pR.mono g2 (by omega);unfold wY
 split
 ·exact zEm (m:=n+1) (n:=n) g1 hk (ak g3 h.g) (by rw[r3];exact h.b) (by rw[r2];exact h.e) (ag _)
 exact ⟨fF.mono g1 (by omega),hk,ak g3 h.g,by rw[r3];exact ⟨h.b.1,by have:=h.b.2;omega⟩,by rw[r2];exact Nat.le_succ_of_le h.e⟩
def zKB {e:Int} (h:mE K G n P):mE K G n (more P e):=⟨h.l,h.k,h.g,h.b,h.e⟩
def zE5 (P:fP) (e:Int):(more P e).res.length=P.res.length+1:=by unfold more;simp
def zJI (P:fP) (q:Rq):(wY P q).res=P.res:=by
 unfold wY
 split
 ·rw[Tb];exact (wN P q.key).1
 exact (wN P q.key).1
def Ya {q:Rq} (h:mE K G P.res.length P):mE K G (zq P q).2.res.length (zq P q).2:=by
 have hm:∀ (Q:fP) (e:Int),Q.res.length=P.res.length->mE K G (P.res.length+1) Q->mE K G (more Q e).res.length (more Q e):=fun Q e hq h=>by
  rw[zE5,hq];exact zKB h
 unfold zq
 split
 ·exact h
 split
 ·split
  ·exact ⟨h.l,h.k,h.g,h.b,h.e⟩
  split
  ·split
   ·exact h
   exact hm _ _ rfl (zEm (m:=P.res.length) (n:=P.res.length) h.l h.k h.g h.b h.e (by omega))
  exact hm _ _ rfl (h.mono (by omega))
 split
 ·split
  ·split
   ·exact h
   exact hm _ _ (by rw[zJI]) (zIj h)
  exact hm _ _ rfl (h.mono (by omega))
 exact hm _ _ rfl (h.mono (by omega))
/-! ### How many items a generation may have -/
def Qz (M:Mp) (k:Int):gF (zN M) k=zl M k:=by
 have h:=uI M k
 rwa [yb (xC M)] at h
def zJX {M:Mp} (h:gJ M) {x:It} (hx:x∈zN M):pV x:=by
 have h1:=(wC h).1 hx;rw[wK h] at h1;exact (tC.1 (h.ok _ (wy _))).2 x (vC h1).1
def zH1:∀ l:List It,(∀ x∈l,pV x)->24*l.length<=zz l
 |[],_=>aq _
 |x::r,h=>by
  have ih:=zH1 r fun y hy=>h y (by simp[hy])
  obtain ⟨_,_,_,h4,h5⟩:=h x (by simp);have h6:eY x.size.toNat=nh x.size.toNat:=Ns (by omega);have h7:=xZ x.size.toNat
  show 24*(r.length+1)<=eY x.size.toNat+zz r
  omega
def zMM {g:Gn} (h:lI g):(((zN g.m).length*24:Nat):Int)<=g.size-16:=by
 have hm:=(zi _).1 h.m;have h1:=zH1 (zN g.m) fun x hx=>zJX hm hx
 have h2:zz (zN g.m)=zz (vp g.m):=by
  unfold zN;rw[ah h.m];exact hm.sum
 have h3:=hm.lv;have h4:=hm.g0;have h5:=h.sum;omega
def zE2:∀ {l:List It} {k:Int},gF l k≠none->(iB l k).length+1<=l.length
 |[],k,h=>absurd rfl h
 |x::r,k,h=>by
  by_cases e:x.key=k
  ·have h1:iB (x::r) k=iB r k:=by unfold iB;rw[cG,ai (by simpa using e)]
   have h2:=tM r k;rw[h1,aW];omega
  have h1:iB (x::r) k=x::iB r k:=by unfold iB;rw[cG,ah (by simpa using e)]
  rw[zu,ai e] at h;have h2:=zE2 h;rw[h1,aW,aW];omega
def zJO {M:Mp} (h:gJ M) {k:Int} (hr:M.ew+(jh (zl M k):Int)<=1099511627776):zN (yX M k)=iB (zN M) k:=by
 refine qr _ _ (kM (xC _)) ((kM (xC _)).filter _) fun j=>?_
 rw[Qz,Sz h hr,UR,Qz]
 by_cases e:j=k
 ·rw[ah e,ah e.symm]
 rw[ai e,ai fun h=>e h.symm]
def zEn {M:Mp} (h:gJ M) {n:Int} (h0:0<=n) (hr:M.ew+n<=1099511627776):zN (xS M n)=zN M:=by
 unfold zN;rw[ah ((zi _).2 (h.Gg h0 hr)),ah ((zi _).2 h)];unfold vp;rw[uu]
/-! ### A record more -/
def jx (S:fk) (x:Nd):Prop:=x.ok/\((x.del=false/\(zZ S).size+(eY x.data.length:Int)<=S.lim)∨(x.del=true/\zl (zZ S).m x.key≠none))
variable {S:fk}
def zCs (h:fg S) {x:Nd} (hc:jx S x) :
  yZ (zZ S) [x]=(0,yp (zZ S) x)/\Fit S (S.ep.length-1) (yp (zZ S) x):=by
 obtain ⟨hx,hc⟩:=hc;obtain ⟨hv,hm,hz⟩:=h.EI;have hlen:=h.len;have hlim:=h.lim;have QA:(zZ S).size+(((zN (zZ S).m).length*24:Nat):Int)<=2*S.lim:=h.top;have Yb:=(zi _).1 hv.m;have hsz:(zZ S).size+(eY x.data.length:Int)<=2*S.lim:=by
  rcases hc with ⟨_,h1⟩|⟨h1,h2⟩
  ·omega
  have h3:=hx.2 h1;have h4:1<=(zN (zZ S).m).length:=by
   rw[<- Qz] at h2
   cases e:zN (zZ S).m with
   |nil=>rw[e] at h2;exact absurd rfl h2
   |cons y r=>rw[aW];omega
  have h5:eY x.data.length=24:=by rw[h3];decide
  omega
 have hz2:(zZ S).size+(eY x.data.length:Int)<=1048576:=by omega
 have hz3:(zZ S).size+(jt [x]:Int)<=1048576:=by rw[vj,zHg];omega
 have hg:=zGG hv hx hz2;refine ⟨zMG hv hm (l:=[x]) (fun y hy=>by obtain rfl:=List.mem_singleton.1 hy;exact hx) hz3,by omega,hg,(zBs _ _).1,?_,?_,fun _=>?_⟩
 ·rw[(zBs _ _).2.2,hm];exact ⟨fun _=>by omega,fun _=>rfl⟩
 ·rw[uj];exact hsz
 rcases hc with ⟨_,h1⟩|⟨h1,h2⟩
 ·have h3:=zMM hg;rw[uj] at h3 |-;omega
 have h5:eY x.data.length=24:=by rw[hx.2 h1];decide
 have hr:=hv.room x.key;have hd:=Yb.del hr;have hds:=SA Yb hr;have iz:=hd.live0;have hsm:=hv.small;have e:zN (yp (zZ S) x).m=iB (zN (zZ S).m) x.key:=by
  unfold yp;dsimp only;rw[ah h1,zEn hd (by omega) (by omega),zJO Yb hr]
 have h6:=zE2 (l:=zN (zZ S).m) (k:=x.key) (by rw[Qz];exact h2);rw[e,uj,h5];omega
/-! ### What a gT slot keeps -/
structure Kp (S s:fk):Prop where
 v:fg s
 id:s.id=S.id
 lim:s.lim=S.lim
 ro:s.ro=S.ro
 len:s.ep.length=S.ep.length
 num:∀ r,r<S.ep.length->(fh s.ep r).num=(fh S.ep r).num
def Kp.refl (h:fg S):Kp S S:=⟨h,rfl,rfl,rfl,rfl,fun _ _=>rfl⟩
def Kp.set {S s:fk} (h:Kp S s) {j:Nat} {g:Gn} (hf:Fit s j g):Kp S (wg s j g):=by
 refine ⟨W7 h.v hf,h.id,h.lim,h.ro,?_,fun r hr=>?_⟩
 ·show (s.ep.set j g).length=_
  rw[a_];exact h.len
 show (fh (s.ep.set j g) r).num=_
 rw[vU hf.hj]
 by_cases e:r=j
 ·rw[ah e,hf.n,<- e];exact h.num r hr
 rw[ai e];exact h.num r hr
def Kp.trans {S s t:fk} (h:Kp S s) (h':Kp s t):Kp S t:=⟨h'.v,h'.id.trans h.id,h'.lim.trans h.lim,h'.ro.trans h.ro,h'.len.trans h.len,fun r hr=>(h'.num r (by rw[h.len];exact hr)).trans (h.num r hr)⟩
def zHq (h:fg S):wu S=decide ((zZ S).num<8):=by unfold wu;rw[(zX S).2 h,bU]
variable {s:fk}
def Kp.can (hS:fg S) (h:Kp S s):wu s=wu S:=by
 have hlen:=hS.len;rw[zHq h.v,zHq hS];have e:(zZ s).num=(zZ S).num:=by
  unfold zZ;rw[h.len];exact h.num _ (by omega)
 rw[e]
def zJF (h:fg s) (g:Gn):zZ (wg s (s.ep.length-1) g)=g:=by
 have hlen:=h.len;unfold zZ wg;dsimp only;rw[a_,vU (by omega),ah rfl]
def kB {r:Nat} (hr:r+1<s.ep.length) (g:Gn):zZ (wg s r g)=zZ s:=by
 unfold zZ wg;dsimp only;rw[a_,vU (by omega),ai (by omega)]
def TE (h:fg P.t) {x:Nd} (hc:jx P.t x):(xR P x).t=wg P.t (P.t.ep.length-1) (yp (zZ P.t) x):=by
 obtain ⟨h1,h2⟩:=zCs h hc
 show (yS P.t (yZ (wU P.t).2 [x]).2).1=_
 rw[Xa h];dsimp only;rw[h1,Ta h h2]
def zHw (h:fg s) {r:Nat} (hr:r<s.ep.length):uz s.ep (fh s.ep r).num=r:=
 ku hr rfl fun j hj=>h.Bi (by omega) hr (by omega)
def uv (h:fg s) {r:Nat} (hr:r+1<s.ep.length) (key:Int):yK s (fh s.ep r).num [key]=(wg s r (uU (fh s.ep r) key),0):=by
 have hm:(fh s.ep r).mode≠1:=fun e=>by have:=(h.g r (by omega)).2.2.1.1 e;omega
 unfold yK;rw[zHw h (by omega),ah (by omega),zDO (h.vg (by omega)) hm,ah rfl,Ta h (fit_drop h hr key)]
def zCk {S:fk} {key:Int}:∀ (l:List Int) (P:fP),Kp S P.t->zZ P.t=zZ S->(∀ x∈l,∃ r,r+1<S.ep.length/\x=(fh S.ep r).num)->Kp S (l.foldl (yU key) P).t/\zZ (l.foldl (yU key) P).t=zZ S
 |[],P,h,ht,_=>⟨h,ht⟩
 |x::l,P,h,ht,hl=>by
  obtain ⟨r,hr,e⟩:=hl x (by simp);have hr2:r+1<P.t.ep.length:=by rw[h.len];exact hr
  have e2:(yU key P x).t=wg P.t r (uU (fh P.t.ep r) key):=by
   show (yK P.t x [key]).1=_
   rw[e,<- h.num r (by omega),uv h.v hr2]
  refine zCk l (yU key P x) (by rw[e2];exact h.set (fit_drop h.v hr2 key)) (by rw[e2,kB hr2];exact ht) fun y hy=>hl y (by simp[hy])
def Yc (h:fg s) {key x:Int} (hx:x∈zd s key):∃ r,r+1<s.ep.length/\x=(fh s.ep r).num:=by
 rw[zF3 h] at hx;obtain ⟨i,hi,e⟩:=cO hx;obtain ⟨r,h1,h2,_,_⟩:=W8 s.ep key _ i hi;rw[aA hi] at h2;exact ⟨r,by omega,by rw[<- e];exact Option.some.inj h2⟩
def zC7 (h:fg P.t) (key:Int):Kp P.t (wW P key).t/\zZ (wW P key).t=zZ P.t:=
 zCk _ P (Kp.refl h) rfl fun _ hx=>Yc h hx
variable {t:fk}
def tE (h:fg t) (key:Int):wO t key=true↔zl (zZ t).m key≠none:=by
 have hlen:=h.len;obtain ⟨_,hm,_⟩:=h.EI;unfold wO;rw[W_ h,Xb h]
 cases hx:zl (zZ t).m key with
 |some y=>simp[hm]
 |none =>
  refine ⟨fun hb=>?_,fun h=>absurd rfl h⟩
  exfalso
  simp only[bV,aO,Bool.not_eq_true',aR] at hb;obtain ⟨h1,h2⟩:=hb
  cases e:xp t.ep key (t.ep.length-1) with
  |nil=>rw[e] at h1;cases h1
  |cons x r =>
   rw[e] at h2;obtain ⟨g1,g2,_⟩:=zEs e;have h2:x.mode=1:=h2;rw[g2] at h2;have:=(h.g x.at_ (by omega)).2.2.1.1 h2;omega
def zJ0 (h:fg t) {n:Int} (hf:xA t n=true):(zZ t).size+(eY n.toNat:Int)<=t.lim:=by
 unfold xA at hf;simp only[aO,aR] at hf;exact hf.2
def Yd (h:fg t) {q:Rq} (hc:yI t q=0):jx t (uA q):=by
 unfold yI at hc
 split at hc
 ·cases hc
 rename_i hl
 split at hc
 ·rename_i hf;have:=zJ0 h hf;rw[dR] at this;exact ⟨⟨by show q.data.length<=4096;omega,fun e=>(by cases e)⟩,.inl ⟨rfl,this⟩⟩
 cases hc
def Ye {q:Rq} (hc:zl (zZ t).m q.key≠none):jx t (uH q):=⟨⟨aq _,fun _=>rfl⟩,.inr ⟨rfl,hc⟩⟩
def QB (h:fg P.t) {x:Nd} (hc:jx P.t x):Kp P.t (xR P x).t:=by
 rw[TE h hc];exact (Kp.refl h).set (zCs h hc).2
def zKH (h:fg P.t) (q:Rq):Kp P.t (wY P q).t:=by
 obtain ⟨h1,h2⟩:=zC7 h (q.key:Int);unfold wY
 split
 ·rename_i hb;exact h1.trans (QB h1.v (Ye ((tE h1.v _).1 hb)))
 exact h1
def zLf (h:fg P.t) (q:Rq):Kp P.t (zq P q).2.t:=by
 unfold zq
 split
 ·exact Kp.refl h
 split
 ·split
  ·exact Kp.refl h
  split
  ·rename_i hc
   split
   ·exact Kp.refl h
   exact QB (P:=P) h (Yd h hc)
  exact Kp.refl h
 split
 ·split
  ·split
   ·exact Kp.refl h
   exact zKH h q
  exact Kp.refl h
 exact Kp.refl h
/-! ### The bytes of a plan -/
structure AY (P:fP):Prop where
 b:P.bytes=(jt P.needs:Int)
 m:P.needs.length<=1∨jt P.needs<=16384
 ok:∀ x∈P.needs,x.ok
def zHO {l:List Nd} (h:∀ x∈l,x.ok):24*l.length<=jt l:=by
 induction l with
 |nil=>exact aq _
 |cons x r ih =>
  have h1:=ih fun y hy=>h y (by simp[hy])
  have h2:=h x (by simp);have h3:eY x.data.length=nh x.data.length:=Ns h2.1;have h4:=xZ x.data.length;rw[vj,aW];omega
def AY.add (h:AY P) {x:Nd} (hx:x.ok) (hb:¬ (0<P.bytes/\16384<P.bytes+(eY x.data.length:Int))):AY (xR P x):=by
 have hp:=zHO h.ok;have hB:=h.b;have e:jt (P.needs++[x])=jt P.needs+eY x.data.length:=SI _ _;refine ⟨?_,?_,fun y hy=>?_⟩
 ·show P.bytes+(eY x.data.length:Int)=(jt (P.needs++[x]):Int)
  rw[e];omega
 ·show (P.needs++[x]).length<=1∨jt (P.needs++[x])<=16384
  rw[e,ax]
  by_cases h0:P.needs.length=0
  ·left;rw[h0];simp
  right;omega
 rcases List.mem_append.1 (show y∈P.needs++[x] from hy) with hy|hy
 ·exact h.ok y hy
 obtain rfl:=List.mem_singleton.1 hy;exact hx
def AY.eE (h:AY P) (key:Int):AY (wW P key):=by
 obtain ⟨_,h2,h3,_⟩:=wN P key;exact ⟨by rw[h2,h3];exact h.b,by rw[h2];exact h.m,by rw[h2];exact h.ok⟩
def zCR (h:fg P.t) (key:Int):wO (wW P key).t key=wO P.t key:=by
 obtain ⟨h1,h2⟩:=zC7 h key;rw[dt,tE h1.v,tE h,h2]
def zJQ (hv:fg P.t) (h:AY P) (q:Rq):AY (zq P q).2:=by
 unfold zq
 split
 ·exact h
 split
 ·split
  ·exact ⟨h.b,h.m,h.ok⟩
  split
  ·rename_i hc
   split
   ·exact h
   rename_i hb;have:=AY.add h (Yd hv hc).1 hb;exact ⟨this.b,this.m,this.ok⟩
  exact ⟨h.b,h.m,h.ok⟩
 split
 ·split
  ·split
   ·exact h
   rename_i hb;have hk:=h.eE q.key;obtain ⟨_,_,h3,_⟩:=wN P q.key;unfold wY
   split
   ·rename_i ht;rw[zCR hv] at ht
    have:=AY.add hk (x:=uH q) ⟨aq _,fun _=>rfl⟩ (by
     rw[h3,show eY (uH q).data.length=24 from (by show eY 0=24;decide)]
     exact fun e=>hb ⟨ht,e.1,e.2⟩)
    exact ⟨this.b,this.m,this.ok⟩
   exact ⟨hk.b,hk.m,hk.ok⟩
  exact ⟨h.b,h.m,h.ok⟩
 exact ⟨h.b,h.m,h.ok⟩
/-! ### The Yf -/
def E3 (l:List Rq) (i:Nat):Rq:=l.getD i NN
def Mt (l:List Int) (i:Nat):Int:=l.getD i 0
structure zOQ (S:fk) (l:List Rq) (P:fP):Prop where
 kp:Kp S P.t
 b:AY P
 n:P.res.length<=l.length
 m:P.res.length<=16
 r0:P.eH=false
 r:∀ i,i<P.res.length->(Mt P.res i=9->wu S=false)/\(Mt P.res i=8->4096<(E3 l i).data.length)
structure zOP (S:fk) (l:List Rq) (P:fP):Prop where
 kp:Kp S P.t
 b:AY P
 n:P.res.length<=l.length
 m:P.res.length<=16
 r:∀ i,i<P.res.length->(Mt P.res i=9->wu S=false)/\(Mt P.res i=8->4096<(E3 l i).data.length)
 t:0<l.length->P.res.length=0->P.eH=true/\wu S=true/\(E3 l 0).kind=1/\xA S ((E3 l 0).data.length:Int)=false
 rr:P.eH=true->P.res.length=0
end Go.Proofs.YtcgfilmmokmdjaaGreat
