import Derived.Test.YtcgfilmmokmdjaaGreatSlv
import Derived.Test.YtcgfilmmokmdjaaGreatQAH
import Derived.Test.YtcgfilmmokmdjaaGreatQAL
import Derived.Test.YtcgfilmmokmdjaaGreatQAJ
set_option linter.all false
set_option maxRecDepth 100000
set_option maxHeartbeats 32000000
namespace Go.Proofs.YtcgfilmmokmdjaaGreat
open Go.RowKit
theorem zGo (i l:Int) (hA:0≤i∧i<4∧4136≤l∧l≤262144) (w:World):Calls Tryz.prog 42 #[.int .i64 i,.int .i64 l] w fun e w'=>∃ b,e=.returned (.tuple #[zO i l false (some ⟨b,0,none⟩) 1 1,.int .i64 0])∧w.heap.size≤b∧oI w' b 0 (fresh 1,Sl.nil)∧Below w.heap.size w w':=by
 have HF:=zh (fun W=>Y4 1 (by decide) W)
 have HV:=zh (fun b W (h:oI W b 0 (fresh 1,Sl.nil))=>zz i l false (some ⟨b,0,none⟩) 1 1 De W (PN h) (fun p hp j _=>by
  have:p=(fresh 1,Sl.nil):=by simpa [De] using hp
  subst this
  exact aq _))
 rw[PL i l false hA] at HV;have HB:=zh (zM w 0 0 false none 0 0 31);have HR:=zh (eW.new w 0 0 false none 0 0 31);clear hA
 go_enter Tryz.func42,Tryz.ntmps42
 go_wp2_with fail;refine (HF.out _).mono ?_;rintro e w1 ⟨rfl,hb1⟩;obtain ⟨W0,hW0⟩:∃ W0,w.alloc (.cells (zK 0 0 false none 0 0) 31)=W0:=⟨_,rfl⟩
 have nA:Below (w.alloc (.cells (zK 0 0 false none 0 0) 31)).heap.size (w.alloc (.cells (zK 0 0 false none 0 0) 31)) w1:=hb1;rw[hW0] at nA HB HR;have eP:=zh (zA HB.out nA);have fq:=zh (HR.out.below nA);clear hb1 nA HB HR hW0 HF;have JC:=fq.out.lt;generalize hb0:w.heap.size=b0 at *;have E0:=zh hb0;clear hb0;generalize hnil:Sl.nil=s0 at *;have EA:=zh hnil;clear hnil;go_upto_region 2 with fail;obtain ⟨W,hW⟩:∃ W,w1.alloc (.cells (zX 1 0 1 16 s0 0 0) 113)=W:=⟨_,rfl⟩
 have HX:=zh (eO.new w1 1 0 1 16 s0 0 0 113);have eB:=zh (zZ w1 1 0 1 16 s0 0 0 113);change Code.wp _ _ _ _ (w1.alloc (.cells (zX 1 0 1 16 s0 0 0) 113));rw[hW] at HX eB ⊢;clear hW;have gN:=zh (fq.out.below eB.out);have eM:=zh (jo eP.out (bU JC) eB.out);have JB:=HX.out.lt;obtain ⟨m0,m1,m2,m3,m4,m5,m6,m7,m8,m9,m10,m11,m12,m13⟩:=HX.out.q;go_upto_region 3 with fail;change Code.wp _ _ _ _ ((W.alloc (.cells (zX 1 0 1 16 s0 0 0) 113)).alloc (.cells (zK i l false (some ⟨W.heap.size,0,none⟩) 1 1) 31));obtain ⟨W2,hW2⟩:∃ W2,W.alloc (.cells (zX 1 0 1 16 s0 0 0) 113)=W2:=⟨_,rfl⟩
 have hz2:W2.heap.size=W.heap.size+1:=by rw[← hW2];simp
 have j_:=zh (show oI W2 W.heap.size 0 (fresh 1,s0) from hW2▸oI.Ey (g:=fresh 1) (eO.new W 1 0 1 16 s0 0 0 113));have mj:=zh (show Below W.heap.size W W2 from hW2▸zZ W 1 0 1 16 s0 0 0 113);rw[hW2];clear hW2;obtain ⟨W3,hW3⟩:∃ W3,W2.alloc (.cells (zK i l false (some ⟨W.heap.size,0,none⟩) 1 1) 31)=W3:=⟨_,rfl⟩
 have Ar:=zh (show eW W3 (W.heap.size+1) i l false (some ⟨W.heap.size,0,none⟩) 1 1 from hz2▸hW3▸eW.new W2 i l false (some ⟨W.heap.size,0,none⟩) 1 1 31);have nL:=zh (show Below W2.heap.size W2 W3 from hW3▸zM W2 i l false (some ⟨W.heap.size,0,none⟩) 1 1 31);rw[hW3];clear hW3;have JD:=zh (j_.out.below nL.out);have hab:=zA mj.out nL.out;have nh:=zh (gN.out.below hab);have gy:=zh (jo eM.out (bU gN.out.lt) hab);have hl3:=Ar.out.lt;have hbW:b0<W.heap.size:=gN.out.lt;clear m0 m1 m2 m3 m4 m5 m6 m7 m8 m9 m10 m11 m12 m13 HX eB gN eM j_ mj nL hab fq eP JB JC;obtain ⟨x0,x1,x2,x3⟩:=Ar.out.q;generalize hgb:W.heap.size=gb at *;clear hgb;go_wp2_with fail;refine (HV.out _ _ JD.out).mono ?_;rintro e w4 ⟨rfl,hb4⟩;have DX:=zh (JD.out.below hb4);have mN:=zh (nh.out.below hb4);have oQ:=zh (Ar.out.below hb4);have gD:=zh (jo gy.out (bU nh.out.lt) hb4)
 have hl4:=oQ.out.lt;have S6:=mN.out.lt;clear x0 x1 x2 x3 hb4 JD nh Ar gy HV hl3;obtain ⟨x0,x1,x2,x3⟩:=oQ.out.q;obtain ⟨d0,d1,d2,d3⟩:=mN.out.q;have F:=mN.out.f;have hne:b0≠gb+1:=by omega
 go_wp2_with fail;change bodyPost _ _ _ _ _ (pts w4 b0 (zR i l false (some ⟨gb,0,none⟩) 1 1));have hby:=mN.out.all i l false (some ⟨gb,0,none⟩) 1 1;have eD:=zh (zD (B:=b0) (ag _) (zR i l false (some ⟨gb,0,none⟩) 1 1) gD.out);have MF:=zh (DX.out.eE (show gb≠b0 by omega) (zR i l false (some ⟨gb,0,none⟩) 1 1));generalize pts w4 b0 (zR i l false (some ⟨gb,0,none⟩) 1 1)=V at *;exact au (v:=.tuple #[zO i l false (some ⟨gb,0,none⟩) 1 1,.int .i64 0]) (by simp[results,Tryz.results42,go_sem,hby.c0,hby.c1,hby.c2,hby.c3]) rfl ⟨gb,rfl,by rw[E0.out];omega,by rw[EA.out];exact MF.out,by rw[E0.out];exact eD.out⟩
end Go.Proofs.YtcgfilmmokmdjaaGreat
namespace Go.Proofs.YtcgfilmmokmdjaaGreat
open Go Go.RowKit
section
variable {P:Program} {ops:Array Oper} {md:Region.Mode}
def Qb (md:Region.Mode) (ops:Array Oper) (n k:Nat):Bool:=
 decide (n<ops.size)&&decide (k<n) &&
 ((List.range n).all fun i=>decide (i=k)||(List.range (n+1)).any fun j=>decide (i<j)&&decide (j≠k)&&Region.waitsFor md ops j i)&&Region.chainB md ops n &&
 ((List.range n).all fun i=>((ops[i]?).map fun o=>o.dst.isSome&&o.after.all fun e=>!Region.binds md e||decide (e.on<i)).getD false) &&
 ((List.range n).all fun i=>(List.range n).all fun j=>decide (i=j)||decide (zT ops i≠zT ops j)) &&
 Region.seqB md ops (ops.size-n) n ((List.range ops.size).map fun j=>decide (j<n)).toArray &&
 decide (Region.ready md ops ((List.range ops.size).map fun j=>decide (j≤n∧j≠k)).toArray=[k]) &&
 Region.seqB md ops (ops.size-(n+1)) (n+1) ((List.range ops.size).map fun j=>decide (j≤n)).toArray
theorem Zs {n t:Nat} {listed:Array Bool} {ot:Oper} (hc:Region.chainB md ops n=true) (inv:HeadInv md ops n listed) (ht:n≤t) (htn:t≠n) (Nn:ops[t]?=some ot)
  (hall:∀ e∈ot.after,Region.binds md e=true→listed.getD e.on false=true) (htlt:t<ops.size):False:=by
 have h1:=List.all_eq_true.1 hc t (List.mem_range.2 htlt);simp only[Bool.or_eq_true,aR] at h1;rcases h1 with h1|h1
 ·
  omega
 obtain ⟨o',ho',e,he,hb,hon⟩:=Region.waitsFor_spec h1;have:o'=ot:=Option.some.inj (ho'.symm.trans Nn);subst this;have h2:=hall e he hb;rw[hon,getD_both (inv.tail (t-1) (by omega) (by omega))] at h2
 cases h2
theorem zE6 {n k:Nat} {listed:Array Bool} (hs:∀ i,i<n→i≠k→∃ j,j≤n∧i<j∧j≠k∧Region.waitsFor md ops j i=true) (hc:Region.chainB md ops n=true) (hn:n<ops.size) (inv:HeadInv md ops n listed) :
  ∀ (d i:Nat),n-i=d→i<n→i≠k→listed.getD i true=false→∀ t,n≤t→t∉Region.ready md ops listed:=by
 intro d
 induction d using Nat.strongRecOn with
 |_ d ih =>
  intro i hd hi hik hun t ht hr;obtain ⟨_,ot,Nn,hall⟩:=mem_ready.1 hr;have htlt:t<ops.size:=(Array.getElem?_eq_some_iff.1 Nn).1
  by_cases htn:t=n
  ·
   subst htn;obtain ⟨j,hjle,hij,hjk,hw⟩:=hs i hi hik;obtain ⟨oj,KR,e,he,hb,hon⟩:=Region.waitsFor_spec hw
   by_cases hjt:j=t
   ·
    subst hjt;have:oj=ot:=Option.some.inj (KR.symm.trans Nn);subst this;have h2:=hall e he hb;rw[hon,getD_both hun] at h2
    cases h2
   cases hl:listed.getD j false with
   |true =>
    have h2:=inv.closed j oj KR hl e he hb;rw[hon,getD_both hun] at h2
    cases h2
   |false =>
    have iT:j<listed.size:=by rw[inv.size];omega
    exact ih (t-j) (by omega) j rfl (by omega) hjk (getD_in iT hl) t (ag _) hr
  exact Zs hc inv ht htn Nn hall htlt
variable {Q:Exit→Act→World→Prop}
theorem zIb {n k:Nat} {a0:Act} {w0:World} {Φ:Nat→Value→World→Prop} {F:Nat→Prop} {l:List Oper} {on ok:Oper} (hl:ops=l.toArray) (hB:Qb md ops n k=true) (hon:ops[n]?=some on) (hok:ops[k]?=some ok) (K9:¬ F k) (hN:∀ i,i<n→∀ t,zT ops i=some t→t<a0.tmps.size)
  (mono:∀ j,j<n→∀ v w1 w2,Below w1.heap.size w1 w2→Φ j v w1→Φ j v w2)
  (head:∀ i o,i<n→ops[i]?=some o→∀ f w1,Below w0.heap.size w0 w1→(∀ e∈o.after,Region.binds md e=true→Φ e.on (f e.on) w1) →
   wpList P ops (Exit.then (uz (Φ i) (F i) (fF ops a0 f n).defers o.dst w1) Q) [o] (fF ops a0 f n) w1)
  (tail:∀ f w1,Below w0.heap.size w0 w1→(∀ j,j<n→Φ j (f j) w1)→(∀ j k,j<n→k<n→j≠k→F j→F k→blk (f j)≠blk (f k))→wpList P ops Q (l.drop n) (fF ops a0 f n) w1)
  (EL:∀ f w1,Below w0.heap.size w0 w1→(∀ j,j<n→j≠k→Φ j (f j) w1)→(∀ j k,j<n→k<n→j≠k→F j→F k→blk (f j)≠blk (f k))→wpList P ops Q (on::ok::l.drop (n+1)) (fF ops a0 f n) w1) :
  ∀ (fuel:Nat) (T:List Nat) (s:Array Bool) (f:Nat→Value) (w:World),T.Nodup→T.length=fuel→(∀ j,j<n→(s.getD j false=false↔j∈T))→(∀ j∈T,j<n)→HeadInv md ops n s→Below w0.heap.size w0 w →
   (∀ j,j<n→s.getD j false=true→Φ j (f j) w)→(∀ j,j<n→s.getD j false=true→F j→blk (f j)<w.heap.size) →
   (∀ j k,j<n→k<n→j≠k→s.getD j false=true→s.getD k false=true→F j→F k→blk (f j)≠blk (f k))→wpAny P md ops Q (fuel+(ops.size-n)) s (fF ops a0 f n) w:=by
 simp only[Qb,aN,aR] at hB;obtain ⟨⟨⟨⟨⟨⟨⟨⟨hn,hkn⟩,hs0⟩,hc⟩,hfw⟩,hdd⟩,Gx⟩,Zt⟩,TU⟩:=hB;have hs:∀ i,i<n→i≠k→∃ j,j≤n∧i<j∧j≠k∧Region.waitsFor md ops j i=true:=fun i hi hik=>by
  have h1:=List.all_eq_true.1 hs0 i (List.mem_range.2 hi);rw[Bool.or_eq_true,aR] at h1;rcases h1 with h1|h1
  ·
   exact absurd h1 hik
  obtain ⟨j,hj,h2⟩:=List.any_eq_true.1 h1;simp only[aN,aR] at h2;exact ⟨j,by have:=List.mem_range.1 hj;omega,h2.1.1,h2.1.2,h2.2⟩
 have pR:∀ i o,i<n→ops[i]?=some o→o.dst.isSome=true∧∀ e∈o.after,Region.binds md e=true→e.on<i:=fun i o hi ho=>by
  have:=List.all_eq_true.1 hfw i (List.mem_range.2 hi);rw[ho] at this;simp only[dE,bC,aN] at this;refine ⟨this.1,fun e he hb=>?_⟩;have h2:=Array.all_eq_true_iff_forall_mem.1 this.2 e he;rw[hb] at h2
  simpa using h2
 have s6:∀ i j,i<n→j<n→i≠j→zT ops i≠zT ops j:=fun i j hi hj hij=>by
  have:=List.all_eq_true.1 (List.all_eq_true.1 hdd i (List.mem_range.2 hi)) j (List.mem_range.2 hj)
  simpa [hij] using this
 intro fuel
 induction fuel with
 |zero =>
  intro T s f w hT hlen l5 rT inv hb hΦ hF CA;have Gy:T=[]:=List.length_eq_zero_iff.1 hlen;subst Gy;have hall:∀ j,j<n→s.getD j false=true:=fun j hj=>by
   cases h:s.getD j false with
   |true=>rfl
   |false=>exact absurd ((l5 j hj).1 h) (by simp)
  have Fz:s=((List.range ops.size).map fun j=>decide (j<n)).toArray:=by
   apply Array.ext
   ·
    simp[inv.size]
   intro j h1 h2;have iT:j<ops.size:=by rw[← inv.size];exact h1
   simp only[aU,dH,dQ]
   by_cases e:j<n
   ·
    have:=hall j e;rw[bw,bM h1] at this;simp only[bC] at this;rw[this];simp[e]
   have:=inv.tail j (by omega) iT;rw[bw,bM h1] at this;simp only[bC] at this;rw[this];simp[e]
  rw[aI];have il:(l.drop n).length=ops.size-n:=by rw[hl];simp
  have h3:=wpAny_of_seq (P:=P) (md:=md) (ops:=ops) (Q':=Q) (l.drop n) n s (fF ops a0 f n) w (fun j=>by rw[hl];simp[cQ]) (by rw[il,Fz];exact Gx) (tail f w hb (fun j hj=>hΦ j hj (hall j hj)) fun j k hj hk hjk=>CA j k hj hk hjk (hall j hj) (hall k hk))
  rwa [il] at h3
 |succ fuel ih =>
  intro T s f w hT hlen l5 rT inv hb hΦ hF CA;have t_:T≠[]:=fun e=>by rw[e] at hlen;cases hlen
  obtain ⟨m,hm,hle⟩:=tT t_;have hmn:=rT m hm;have hun:s.getD m false=false:=(l5 m hmn).2 hm;have EC:m<s.size:=by rw[inv.size];omega
  obtain ⟨om,CB⟩:∃ o,ops[m]?=some o:=⟨_,bM (by omega)⟩
  have ll:m∈Region.ready md ops s:=mem_ready.2 ⟨getD_in EC hun,om,CB,fun e he jL=>by
   have h1:=(pR m om hmn CB).2 e he jL
   cases h2:s.getD e.on false with
   |true=>rfl
   |false =>
    have:=hle _ ((l5 e.on (by omega)).1 h2)
    omega⟩
  rw[show fuel+1+(ops.size-n)=(fuel+(ops.size-n))+1 by omega];refine ⟨fun e=>absurd ll (by rw[e];simp),fun i hi=>?_⟩;obtain ⟨D3,oi,hoi,mO⟩:=mem_ready.1 hi
  by_cases Np:n≤i
  ·
   -- the late one alone is left,and the TV first comes ahead of it
   have TD:i<ops.size:=(Array.getElem?_eq_some_iff.1 hoi).1;have TW:i=n:=Classical.byContradiction fun e=>Zs hc inv Np e hoi mO TD
   subst TW;have sF:∀ j,j<i→j≠k→s.getD j false=true:=fun j hj hjk=>by
    cases h:s.getD j false with
    |true=>rfl
    |false=>exact absurd hi (zE6 hs hc hn inv _ j rfl hj hjk (getD_in (by rw[inv.size];omega) h) i (ag _))
   have hku:s.getD k false=false:=by
    cases h:s.getD k false with
    |false=>rfl
    |true =>
     have:s.getD m false=true:=by
      by_cases e:m=k
      ·
       rw[e];exact h
      exact sF m hmn e
     rw[this] at hun;cases hun
   have hf0:fuel=0:=by
    have h1:∀ j∈T,j=k:=fun j hj=>by
     refine Classical.byContradiction fun e=>?_
     have h2:=(l5 j (rT j hj)).2 hj;rw[sF j (rT j hj) e] at h2
     cases h2
    match T,hT,hlen,h1 with
    |[x],_,hlen,_=>simpa using hlen.symm
    |x::y::r,hT,_,h1 =>
     have e1:=h1 x (by simp);have e2:=h1 y (by simp);rw[e1,e2] at hT;simp at hT
   subst hf0;have hss:s.setIfInBounds i true=((List.range ops.size).map fun j=>decide (j≤i∧j≠k)).toArray:=by
    apply Array.ext
    ·
     simp[inv.size]
    intro j h1 h2;have iT:j<ops.size:=by simpa [inv.size] using h1
    have GQ:j<s.size:=by rw[inv.size];exact iT
    simp only[aU,dH,dQ];rw[Array.getElem_setIfInBounds GQ]
    by_cases e:i=j
    ·
     rw[ah e];simp only[← e];simp;omega
    rw[ai e]
    by_cases e2:j<i
    ·
     by_cases e3:j=k
     ·
      have hkk:=hku;rw[← e3,bw,bM GQ] at hkk;simp only[bC] at hkk;rw[hkk];simp[e3]
     have:=sF j e2 e3;rw[bw,bM GQ] at this;simp only[bC] at this;rw[this];simp[e3];omega
    have:=inv.tail j (by omega) iT;rw[bw,bM GQ] at this;simp only[bC] at this;rw[this];simp;omega
   have TX:(s.setIfInBounds i true).setIfInBounds k true=((List.range ops.size).map fun j=>decide (j≤i)).toArray:=by
    rw[hss];apply Array.ext
    ·
     simp
    intro j h1 h2;have iT:j<ops.size:=by simpa using h1
    rw[Array.getElem_setIfInBounds (by simpa using h1)];simp only[aU,dH,dQ]
    by_cases e:k=j
    ·
     rw[ah e];subst e;simp;omega
    rw[ai e];have e':¬ j=k:=fun e2=>e e2.symm
    simp[e']
   have ht2:=EL f w hb (fun j hj hjk=>hΦ j hj (sF j hj hjk)) fun j k' hj hk' hjk Bh FN=>by
    have a1:j≠k:=fun e=>K9 (e▸Bh)
    have a2:k'≠k:=fun e=>K9 (e▸FN)
    exact CA j k' hj hk' hjk (sF j hj a1) (sF k' hk' a2) Bh FN
   have hw1:wpOp P ops Q i (wpList P ops Q (ok::l.drop (i+1))) (fF ops a0 f i) w:=by unfold wpOp;simp only[hon];exact ht2
   have hg:0+(ops.size-i)=(ops.size-(i+1))+1:=by omega
   rw[hg];refine wpOp_mono (fun a' w' h'=>?_) hw1;refine ⟨fun e=>?_,fun j hj=>?_⟩
   ·
    rw[hss,Zt] at e;cases e
   rw[hss,Zt] at hj;have hjk:j=k:=by simpa using hj
   subst hjk;have hw2:wpOp P ops Q j (wpList P ops Q (l.drop (i+1))) a' w':=by unfold wpOp;simp only[hok];exact h'
   refine wpOp_mono (fun a'' w'' h''=>?_) hw2;rw[TX];have il:(l.drop (i+1)).length=ops.size-(i+1):=by rw[hl];simp
   have h3:=wpAny_of_seq (P:=P) (md:=md) (ops:=ops) (Q':=Q) (l.drop (i+1)) (i+1) _ a'' w'' (fun j=>by rw[hl];simp[cQ]) (by rw[il];exact TU) h''
   rwa [il] at h3
  have hin:i<n:=Nat.lt_of_not_le Np;have Gz:i∈T:=(l5 i hin).1 (getD_both D3);have CD:=pR i oi hin hoi;have nM:zT ops i=oi.dst:=by unfold zT;rw[hoi];rfl
  unfold wpOp;rw[hoi];simp only[];have hh:=head i oi hin hoi f w hb fun e he jL=>hΦ e.on (by have:=CD.2 e he jL;omega) (mO e he jL)
  refine kS hh (fun v w' hR=>?_) (fun d v w' hR=>?_)
  ·
   obtain ⟨_,fU,hv⟩:=hR;have hval:∀ i,i<n→oi.dst.isSome=true→zT ops i=oi.dst→(∀ t,oi.dst=some t→Φ i (((fF ops a0 f n).put oi.dst v).tmps.getD t undef) w'∧(F i→w.heap.size≤blk (((fF ops a0 f n).put oi.dst v).tmps.getD t undef)∧blk (((fF ops a0 f n).put oi.dst v).tmps.getD t undef)<w'.heap.size))→Φ i v w'∧(F i→w.heap.size≤blk v∧blk v<w'.heap.size):=fun i hi h1 nM h=>by
    obtain ⟨t,ht⟩:=Option.isSome_iff_exists.1 h1;have h4:=h t ht;have h5:t<(fF ops a0 f n).tmps.size:=by rw[ue];exact hN i hi t (by rw[nM,ht])
    rw[ht] at h4
    simpa [Act.put,h5] using h4
   rw[← nM,tq ops a0 f i v n hin fun j hj hji=>.inr (s6 i j hin hj (aQ hji))];refine ih (T.erase i) _ _ w' (hT.erase i) (by rw[List.length_erase_of_mem Gz];omega) (fun j hj=>?_) (fun j hj=>rT j (List.mem_of_mem_erase hj)) (inv.set hi hin) (zA hb fU) (fun j hj iT=>?_) (fun j hj iT Bh=>?_) (fun j k hj hk hjk iT hks Bh FN=>?_)
   ·
    rw[hT.mem_erase_iff]
    by_cases e:j=i
    ·
     subst e;have iT:j<s.size:=by rw[inv.size];omega
     simp[bw,iT]
    rw[bJ false (aQ e),l5 j hj];simp[e]
   ·
    by_cases e:j=i
    ·
     subst e;have:xB f j v j=v:=ah rfl;rw[this];exact (hval j hj CD.1 nM hv).1
    have:xB f i v j=f j:=ai e;rw[this];rw[bJ false (aQ e)] at iT;exact mono j hj _ _ _ fU (hΦ j hj iT)
   ·
    by_cases e:j=i
    ·
     subst e;have:xB f j v j=v:=ah rfl;rw[this];exact ((hval j hj CD.1 nM hv).2 Bh).2
    have:xB f i v j=f j:=ai e;rw[this];rw[bJ false (aQ e)] at iT;exact cM (hF j hj iT Bh) fU.size
   by_cases e:j=i
   ·
    subst e;have e1:xB f j v j=v:=ah rfl;have e2:xB f j v k=f k:=ai (aQ hjk);rw[e1,e2];rw[bJ false hjk] at hks;have h1:=((hval j hj CD.1 nM hv).2 Bh).1;have h2:=hF k hk hks FN;omega
   have e1:xB f i v j=f j:=ai e;rw[e1];rw[bJ false (aQ e)] at iT
   by_cases e3:k=i
   ·
    subst e3;have e2:xB f k v k=v:=ah rfl;rw[e2];have h1:=((hval k hk CD.1 nM hv).2 FN).1;have h2:=hF j hj iT Bh;omega
   have e2:xB f i v k=f k:=ai e3;rw[e2];rw[bJ false (aQ e3)] at hks;exact CA j k hj hk hjk iT hks Bh FN
  have h1:=hR.1;have h2:=aO List.length h1
  cases GD:oi.dst<;>simp[Act.put,GD] at h2
theorem ye {id:Nat} {a0:Act} {w:World} {l:List Oper} (L:List mE) (F:List Nat) (N k:Nat) {on ok:Oper} (hm:P.follows .mixedOrders=true) (hB:Qb .any l.toArray L.length k=true) (hon:l.toArray[L.length]?=some on) (hok:l.toArray[k]?=some ok) (K9:k∉F)
  (hsz:a0.tmps.size=N) (hN:MX l.toArray L.length N=true) {fr:(Nat→Value)→Act} (hfr:∀ f,fF l.toArray a0 f L.length=fr f)
  (head:MY P Q l.toArray L F fr w l L 0)
  (tail:∀ f w1,Below w.heap.size w w1→(∀ j,j<L.length→(stA L j).p (f j) w1)→(∀ j k,j<L.length→k<L.length→j≠k→j∈F→k∈F→blk (f j)≠blk (f k))→wpList P l.toArray Q (l.drop L.length) (fr f) w1)
  (EL:∀ f w1,Below w.heap.size w w1→(∀ j,j<L.length→j≠k→(stA L j).p (f j) w1)→(∀ j k,j<L.length→k<L.length→j≠k→j∈F→k∈F→blk (f j)≠blk (f k))→wpList P l.toArray Q (on::ok::l.drop (L.length+1)) (fr f) w1):(Code.region id l.toArray true).wp P Q a0 w:=by
 have hn:L.length<l.toArray.size:=by
  simp only[Qb,aN,aR] at hB;exact hB.1.1.1.1.1.1.1.1
 refine wp_region_any hm ?_;have h:=zIb (k:=k) (md:=.any) (Q:=Q) (P:=P) (n:=L.length) (a0:=a0) (w0:=w) (Φ:=fun j=>(stA L j).p) (F:=fun j=>j∈F) rfl hB hon hok K9
  (fun i hi t ht=>by
   have h1:=List.all_eq_true.1 hN i (List.mem_range.2 hi)
   rw[ht] at h1
   rw[hsz]
   simpa using h1)
  (fun j _ v w1 w2 hb h=>(stA L j).m v w1 w2 hb h)
  (fun i o hi ho f w1 hb hd=>by
   rw[hfr]
   have hS:L[i]?=some (stA L i):=by
    unfold stA
    rw[ax,aB hi];rfl
   have h2:=kr l L 0 head i o (stA L i) (by simpa using ho) hS f w1 hb (fun j hj=>by
    unfold GF at hj
    obtain ⟨e,he,h3⟩:=Array.any_eq_true'.1 hj
    simp only[aN,cE] at h3
    rw[← h3.2]
    exact hd e he h3.1)
   rwa [aI] at h2)
  (fun f w1 hb hΦ CA=>by rw[hfr];exact tail f w1 hb hΦ CA)
  (fun f w1 hb hΦ CA=>by rw[hfr];exact EL f w1 hb hΦ CA)
  L.length (List.range L.length) (Array.replicate l.toArray.size false) (fun j=>match zT l.toArray j with|some d=>a0.tmps.getD d undef|none=>undef) w.drew
  List.nodup_range (by simp) (fun j hj=>by rw[getD_replicate_false];simp[hj]) (fun j hj=>by simpa using hj)
  ⟨by simp,fun j oj _ hl=>(by rw[getD_replicate_false] at hl;cases hl),fun t _ ht=>getD_in (by simpa using ht) (getD_replicate_false _ _)⟩
  (zi (aj _ _)) (fun j _ hl=>by rw[getD_replicate_false] at hl;cases hl) (fun j _ hl=>by rw[getD_replicate_false] at hl;cases hl) (fun j k _ _ _ hl=>by rw[getD_replicate_false] at hl;cases hl)
 have e0:fF l.toArray a0 (fun j=>match zT l.toArray j with|some d=>a0.tmps.getD d undef|none=>undef) L.length=a0:=K1 _ _ _;rw[e0,show L.length+(l.toArray.size-L.length)=l.toArray.size by omega] at h;exact h
end
end Go.Proofs.YtcgfilmmokmdjaaGreat
