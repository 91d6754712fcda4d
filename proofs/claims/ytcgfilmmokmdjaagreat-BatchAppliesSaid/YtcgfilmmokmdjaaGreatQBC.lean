import Derived.Deep.Slices
import Derived.Deep.SlicePairs
import Derived.ChangeArms
import Derived.Test.YtcgfilmmokmdjaaGreatBah
import Derived.Test.YtcgfilmmokmdjaaGreatBnh
set_option linter.all false
namespace Go.Proofs.YtcgfilmmokmdjaaGreat
open Go.Proofs.Tryz
open Go.RowKit Go.ChangeShapes Go.WideShapes Go.Deep
def zBX:prog.cellsOf 24=1:=by kernel_rfl
def zBO:prog.cellsOf 47=1:=by kernel_rfl
def zFx:prog.cellsOf 2=1:=by kernel_rfl
section
variable {H:Type} {enc:TypeId×Value->H} {w:World}
def xg {cs:List Value} {i:Nat} {u:Value} (h:(cs.drop i).take 1=[u]):cs[i]?=some u:=by
 have h1:((cs.drop i).take 1)[0]?=some u:=by rw[h];rfl
 rw[dh,ah (by decide),cR,bE] at h1;exact h1
end
section
variable {H:Type} {enc:TypeId×Value->H} {w:World}
end
def zJ3 (w:World):mJ w (.slice none 0 0) []:=⟨zr (aP w 0 56 4),fun p hp=>by cases hp⟩
def zME:∃ f0 f1 f2 f3,prog.underlying 56=some (.struct #[f0,f1,f2,f3])/\(f0.offset=0/\f1.offset=1/\f2.offset=2/\f3.offset=3)/\f0.type=24/\f1.type=47/\f2.type=4/\f3.type=54:=
 ⟨_,_,_,_,underlying56,⟨rfl,rfl,rfl,rfl⟩,rfl,rfl,rfl,rfl⟩
def zF2:prog.cellsOf 56=4:=by kernel_rfl
def zAZ:prog.cellsOf 4=1:=by kernel_rfl
def kP:prog.cellsOf 54=1:=by kernel_rfl
section
variable {H:Type} {enc:TypeId×Value->H} {w:World}
def zBt {fuel:Nat} {cs:List Value} {x:DataW H×List MemPlace} (h:DataW.trod enc prog w 0 (fun _=>true) true fuel 54 cs=some x):∃ (v:Value) (l:List UInt8),cs=[v]/\ll w v l:=by
 rcases open_ints underlying54 underlying5 (by kernel_rfl) h with ⟨hcs,_⟩|⟨x,l,c,zs,hcs,_,hl,hm,hz,_,hcell,mY⟩
 ·exact ⟨_,[],hcs,zHa w⟩
 obtain ⟨r,_,hr⟩:=zFQ (w:=w) (a:=some x) (len:=l) (cap:=c) (zs:=zs) (.inr ⟨_,rfl,hl,hm,by simpa using hz,hcell,mY⟩);exact ⟨_,r,hcs,hr⟩
def zIY {fuel:Nat} {cs:List Value} {x:DataW H×List MemPlace} (h:DataW.trod enc prog w 0 (fun _=>true) true fuel 56 cs=some x):∃ y:Nd×Value,cs=vI y/\y.1.Wf/\ll w y.2 y.1.data:=by
 obtain ⟨f0,f1,f2,f3,hs,⟨o0,o1,o2,o3⟩,t0,t1,t2,t3⟩:=zME;obtain ⟨xs,n,_,_,hlen,hxl,hf⟩:=DataW.trod_struct hs h;rw[zF2] at hlen;have hx:xs.length=4:=by simpa using hxl
 have g:∀ j (hj:j<4),xs[j]?=some (xs[j]'(by omega)):=fun j hj=>aA (by omega)
 have h0:=(hf 0 f0 rfl).trans (g 0 (by omega));have h1:=(hf 1 f1 rfl).trans (g 1 (by omega));have h2:=(hf 2 f2 rfl).trans (g 2 (by omega));have h3:=(hf 3 f3 rfl).trans (g 3 (by omega));rw[t0,o0,zBX] at h0;rw[t1,o1,zBO] at h1;rw[t2,o2,zAZ] at h2;rw[t3,o3,kP] at h3;obtain ⟨k,e0,_,w0⟩:=dg underlying24 h0;obtain ⟨c,e1,_,w1⟩:=dg underlying47 h1;obtain ⟨d,e2,_⟩:=DataW.trod_bool underlying4 h2;obtain ⟨v,l,e3,hr⟩:=zBt h3;have d0:=xg e0;have d1:=xg e1;have d2:=xg e2;have d3:=xg e3;have b0:=kK w0;have b1:=kO w1;obtain ⟨k,rfl⟩:=dU b0.1;obtain ⟨c,rfl⟩:=dU b1.1;refine ⟨(⟨k,c,d,l⟩,v),?_,show k<18446744073709551616/\c<4294967296 by omega,hr⟩
 match cs,hlen,d0,d1,d2,d3 with
 |[a,b,c',d],_,d0,d1,d2,d3 =>
  simp at d0 d1 d2 d3;subst d0 d1 d2 d3
  rfl
def zHD {a:Option Addr} {n cap:Nat} {d:DataW H} {p:List MemPlace} (h:DataW.Trod enc prog w 0 (fun _=>true) true 23 (.slice a n cap) d p) :
  ∃ l:List (Nd×Value),mJ w (.slice a n cap) l/\∀ x∈l,x.1.Wf:=by
 obtain ⟨fuel,hf⟩:=h;rcases open_slice underlying23 hf with ⟨hcs,_⟩|⟨x,len,cap',m,k,D,Pl,hcs,_,hl,hm,hmm,_,hx⟩
 ·simp[Value.cells] at hcs;obtain ⟨rfl,rfl,rfl⟩:=hcs;exact ⟨[],zJ3 w,fun e he=>by cases he⟩
 simp[Value.cells] at hcs;obtain ⟨rfl,rfl,rfl⟩:=hcs;simp only[if_true] at hmm;subst hmm;rw[zF2] at hx
 haveI:Inhabited (Nd×Value):=⟨(IA,.slice none 0 0)⟩
 have each:∀ i,i<n->∃ y:Nd×Value,(∀ j,j<4->w.cell? (x.add (i*4+j))=(vI y)[j]?)/\y.1.Wf/\ll w y.2 y.1.data:=fun i hi=>by
  obtain ⟨cs',h1,h2⟩:=hx i (by omega);obtain ⟨y,rfl,hy⟩:=zIY h2;obtain ⟨_,_,hc⟩:=World.cells?_some h1;exact ⟨y,fun j hj=>by rw[<- hc j hj,Go.Deep.add_add],hy⟩
 obtain ⟨E,hE⟩:=choose_lt each;refine ⟨(List.range n).map E,⟨?_,fun e he=>?_⟩,fun e he=>?_⟩
 ·rw[aH,List.length_range];refine ⟨by rw[vQ];simp,some x,m,by simp,by simpa using hl,hm,fun h=>by simp at h,fun hp=>?_⟩;have hn:0<n:=by
   rw[vQ] at hp;simp at hp;omega
  obtain ⟨b,off,spot⟩:=x;have hspot:spot=none:=by
   have h0:w.cell? ((⟨b,off,spot⟩:Addr).add (0*4+0))=some (.int .u64 ((E 0).1.key:Int)):=((hE 0 hn).1 0 (by omega)).trans rfl
   simpa [Addr.add] using World.cell?_spot h0
  subst hspot;refine ⟨b,off,rfl,fun j u hj=>?_⟩;have hjl:j<n*4:=by
   have:=(List.getElem?_eq_some_iff.1 hj).1;rw[vQ] at this
   simpa using this
  have hat:=uh 4 vI (IA,.slice none 0 0) ((List.range n).map E) (fun _ _=>rfl) (j/4) (j%4) (by simp;omega) (by omega);rw[show j/4*4+j%4=j by omega] at hat;have hg:((List.range n).map E).getD (j/4) (IA,.slice none 0 0)=E (j/4):=by
   rw[aw,b_,List.getElem?_range (by omega)];rfl
  rw[hg] at hat;have hc:=(hE (j/4) (by omega)).1 (j%4) (by omega);rw[show j/4*4+j%4=j by omega,yd] at hc;rw[hc,<- hat];exact hj
 ·obtain ⟨i,hi,rfl⟩:=List.mem_map.1 he;exact (hE i (List.mem_range.1 hi)).2.2
 obtain ⟨i,hi,rfl⟩:=List.mem_map.1 he;exact (hE i (List.mem_range.1 hi)).2.1
end
def vB:prog.cellsOf 3=1:=by kernel_rfl
section
variable {H:Type} {enc:TypeId×Value->H} {w:World}
end
def ZE {H:Type} {enc:TypeId×Value->H} {w:World} {α:Type} (z:α) {t e:TypeId} {sz:Nat} (f:α->List Value) (Q:α->Prop) (hu:prog.underlying t=some (.slice e)) (hc:prog.cellsOf e=sz) (hf:∀ x,(f x).length=sz) (hz:0<sz)
  (one:∀ fuel cs x,DataW.trod enc prog w 0 (fun _=>true) true fuel e cs=some x->∃ y,cs=f y/\Q y)
  {a:Option Addr} {n cap:Nat} {d:DataW H} {p:List MemPlace} (h:DataW.Trod enc prog w 0 (fun _=>true) true t (.slice a n cap) d p) :
  ∃ l:List α,jy sz f w (.slice a n cap) l/\∀ x∈l,Q x:=by
 obtain ⟨fuel,hfu⟩:=h;rcases open_slice hu hfu with ⟨hcs,_⟩|⟨x,len,cap',m,k,D,Pl,hcs,_,hl,hm,hmm,_,hx⟩
 ·simp[Value.cells] at hcs;obtain ⟨rfl,rfl,rfl⟩:=hcs;exact ⟨[],jy.nil sz f w,fun e he=>by cases he⟩
 simp[Value.cells] at hcs;obtain ⟨rfl,rfl,rfl⟩:=hcs;simp only[if_true] at hmm;subst hmm;rw[hc] at hx
 haveI:Inhabited α:=⟨z⟩
 have each:∀ i,i<n->∃ y:α,(∀ j,j<sz->w.cell? (x.add (i*sz+j))=(f y)[j]?)/\Q y:=fun i hi=>by
  obtain ⟨cs',h1,h2⟩:=hx i (by omega);obtain ⟨y,rfl,hy⟩:=one _ _ _ h2;obtain ⟨_,_,hc⟩:=World.cells?_some h1;exact ⟨y,fun j hj=>by rw[<- hc j hj,Go.Deep.add_add],hy⟩
 obtain ⟨E,hE⟩:=choose_lt each;have hfl:=ye sz f ((List.range n).map E) (fun x _=>hf x);refine ⟨(List.range n).map E,⟨fun x _=>hf x,?_⟩,fun e he=>?_⟩
 ·rw[aH,List.length_range];rw[aH,List.length_range] at hfl;refine ⟨hfl,some x,m,by simp,by simpa using hl,hm,fun h=>by simp at h,fun hp=>?_⟩;have hn:0<n:=by
   rw[hfl] at hp;exact Nat.pos_of_mul_pos_right hp
  obtain ⟨b,off,spot⟩:=x;have hspot:spot=none:=by
   have h0:=(hE 0 hn).1 0 hz;rw[aA (by rw[hf];exact hz)] at h0
   simpa [Addr.add] using World.cell?_spot h0
  subst hspot;refine ⟨b,off,rfl,fun j u hj=>?_⟩;have hjl:j<n*sz:=by
   have:=(List.getElem?_eq_some_iff.1 hj).1;rw[hfl] at this;exact this
  have ZF:j/sz<n:=(Nat.div_lt_iff_lt_mul hz).2 hjl;have hjm:j%sz<sz:=Nat.mod_lt _ hz;have hat:=uh sz f z ((List.range n).map E) (fun x _=>hf x) (j/sz) (j%sz) (by simpa using ZF) hjm;have hjj:j/sz*sz+j%sz=j:=by rw[Nat.mul_comm];exact Nat.div_add_mod j sz
  rw[hjj] at hat;have hg:((List.range n).map E).getD (j/sz) z=E (j/sz):=by
   rw[aw,b_,List.getElem?_range ZF];rfl
  rw[hg] at hat;have hc:=(hE (j/sz) ZF).1 (j%sz) hjm;rw[hjj,yd] at hc;rw[hc,<- hat];exact hj
 obtain ⟨i,hi,rfl⟩:=List.mem_map.1 he;exact (hE i (List.mem_range.1 hi)).2
def kN:prog.cellsOf 23=1:=by kernel_rfl
def zAF:prog.cellsOf 87=1:=by kernel_rfl
structure SlQ where
 id:Int
 lim:Int
 ro:Bool
 a:Option Addr
 n:Nat
 c:Nat
 L:List GP
section
variable {H:Type} {enc:TypeId×Value->H} {w:World}
def zBW {fuel:Nat} {cs:List Value} {x:DataW H×List MemPlace} (h:DataW.trod enc prog w 0 (fun _=>true) true fuel 23 cs=some x):∃ (v:Value) (l:List (Nd×Value)),cs=[v]/\mJ w v l/\∀ x∈l,x.1.Wf:=by
 have key:∀ a n c,cs=[.slice a n c]->∃ (v:Value) (l:List (Nd×Value)),cs=[v]/\mJ w v l/\∀ x∈l,x.1.Wf:=fun a n c e=>by
  subst e;obtain ⟨l,h1,h2⟩:=zHD (a:=a) (n:=n) (cap:=c) (d:=x.1) (p:=x.2) ⟨fuel,h⟩;exact ⟨_,l,rfl,h1,h2⟩
 rcases DataW.trod_slice underlying23 h with ⟨e,_⟩|⟨a,len,cap,_,_,_,_,e,_⟩
 ·exact key _ _ _ e
 exact key _ _ _ e
def zCc {fuel:Nat} {cs:List Value} {x:DataW H×List MemPlace} (h:DataW.trod enc prog w 0 (fun _=>true) true fuel 87 cs=some x):∃ (v:Value) (l:List Int),cs=[v]/\mM w v l:=by
 rcases open_ints underlying87 underlying24 (by kernel_rfl) h with ⟨hcs,_⟩|⟨x,l,c,zs,hcs,_,hl,hm,hz,_,hcell,mY⟩
 ·exact ⟨_,[],hcs,vR (aP w 0 24 1)⟩
 obtain ⟨g1,g2⟩:=Un (k:=.u64) (w:=w) (a:=some x) (len:=l) (cap:=c) (zs:=zs) (.inr ⟨_,rfl,hl,hm,by simpa using hz,hcell,mY⟩);exact ⟨_,zs.take l,hcs,by unfold mM il;rw[g1];exact g2⟩
end
def zAI:prog.cellsOf 141=4:=by kernel_rfl
def zBP:prog.cellsOf 63=5:=by kernel_rfl
def zGK:∃ f0 f1 f2 f3,prog.underlying 141=some (.struct #[f0,f1,f2,f3])/\(f0.offset=0/\f1.offset=1/\f2.offset=2/\f3.offset=3)/\f0.type=3/\f1.type=23/\f2.type=3/\f3.type=87:=
 ⟨_,_,_,_,underlying141,⟨rfl,rfl,rfl,rfl⟩,rfl,rfl,rfl,rfl⟩
def zI4:∃ f0 f1 f2 f3 f4,prog.underlying 63=some (.struct #[f0,f1,f2,f3,f4])/\(f0.offset=0/\f1.offset=1/\f2.offset=2/\f3.offset=3/\f4.offset=4)/\f0.type=2/\f1.type=3/\f2.type=24/\f3.type=47/\f4.type=54:=
 ⟨_,_,_,_,_,underlying63,⟨rfl,rfl,rfl,rfl,rfl⟩,rfl,rfl,rfl,rfl,rfl⟩
section
variable {H:Type} {enc:TypeId×Value->H} {w:World}
def zJK {fuel:Nat} {cs:List Value} {x:DataW H×List MemPlace} (h:DataW.trod enc prog w 0 (fun _=>true) true fuel 141 cs=some x):∃ y:rj,cs=S2 y/\mJ w y.lv y.l/\(∀ p∈y.l,p.1.Wf)/\mM w y.kv y.keys:=by
 obtain ⟨f0,f1,f2,f3,hs,⟨o0,o1,o2,o3⟩,t0,t1,t2,t3⟩:=zGK;obtain ⟨xs,n,_,_,hlen,hxl,hf⟩:=DataW.trod_struct hs h;rw[zAI] at hlen;have hx:xs.length=4:=by simpa using hxl
 have g:∀ j (hj:j<4),xs[j]?=some (xs[j]'(by omega)):=fun j hj=>aA (by omega)
 have h0:=(hf 0 f0 rfl).trans (g 0 (by omega));have h1:=(hf 1 f1 rfl).trans (g 1 (by omega));have h2:=(hf 2 f2 rfl).trans (g 2 (by omega));have h3:=(hf 3 f3 rfl).trans (g 3 (by omega));rw[t0,o0,vB] at h0;rw[t1,o1,kN] at h1;rw[t2,o2,vB] at h2;rw[t3,o3,zAF] at h3;obtain ⟨k,e0,_,w0⟩:=dg underlying3 h0;obtain ⟨v,l,e1,hr,El⟩:=zBW h1;obtain ⟨gn,e2,_,w2⟩:=dg underlying3 h2;obtain ⟨kv,ks,e3,hk⟩:=zCc h3;have d0:=xg e0;have d1:=xg e1;have d2:=xg e2;have d3:=xg e3;refine ⟨⟨k,v,l,gn,kv,ks⟩,?_,hr,El,hk⟩
 match cs,hlen,d0,d1,d2,d3 with
 |[a,b,c',d],_,d0,d1,d2,d3 =>
  simp at d0 d1 d2 d3;subst d0 d1 d2 d3
  rfl
def open_actsB {a:Option Addr} {n cap:Nat} {d:DataW H} {p:List MemPlace} (h:DataW.Trod enc prog w 0 (fun _=>true) true 59 (.slice a n cap) d p):∃ l:List rj,Gy w (.slice a n cap) l:=by
 obtain ⟨l,h1,h2⟩:=ZE PG S2 (fun y=>mJ w y.lv y.l/\(∀ p∈y.l,p.1.Wf)/\mM w y.kv y.keys) underlying59 zAI zMU (by decide) (fun fuel cs x h=>zJK h) h;exact ⟨l,h1,h2⟩
def zKo {fuel:Nat} {cs:List Value} {x:DataW H×List MemPlace} (h:DataW.trod enc prog w 0 (fun _=>true) true fuel 63 cs=some x):∃ y:Rq×Value,cs=EO y/\ll w y.2 y.1.data/\y.1.Wf:=by
 obtain ⟨f0,f1,f2,f3,f4,hs,⟨o0,o1,o2,o3,o4⟩,t0,t1,t2,t3,t4⟩:=zI4;obtain ⟨xs,n,_,_,hlen,hxl,hf⟩:=DataW.trod_struct hs h;rw[zBP] at hlen;have hx:xs.length=5:=by simpa using hxl
 have g:∀ j (hj:j<5),xs[j]?=some (xs[j]'(by omega)):=fun j hj=>aA (by omega)
 have h0:=(hf 0 f0 rfl).trans (g 0 (by omega));have h1:=(hf 1 f1 rfl).trans (g 1 (by omega));have h2:=(hf 2 f2 rfl).trans (g 2 (by omega));have h3:=(hf 3 f3 rfl).trans (g 3 (by omega));have h4:=(hf 4 f4 rfl).trans (g 4 (by omega));rw[t0,o0,zFx] at h0;rw[t1,o1,vB] at h1;rw[t2,o2,zBX] at h2;rw[t3,o3,zBO] at h3;rw[t4,o4,kP] at h4;obtain ⟨tk,e0,_,_⟩:=dg underlying2 h0;obtain ⟨kd,e1,_,_⟩:=dg underlying3 h1;obtain ⟨k,e2,_,w2⟩:=dg underlying24 h2;obtain ⟨c,e3,_,w3⟩:=dg underlying47 h3;obtain ⟨v,l,e4,hr⟩:=zBt h4;have d0:=xg e0;have d1:=xg e1;have d2:=xg e2;have d3:=xg e3;have d4:=xg e4;have b2:=kK w2;have b3:=kO w3;obtain ⟨k,rfl⟩:=dU b2.1;obtain ⟨c,rfl⟩:=dU b3.1;refine ⟨(⟨tk,kd,k,c,l⟩,v),?_,hr,show k<18446744073709551616/\c<4294967296 by omega⟩
 match cs,hlen,d0,d1,d2,d3,d4 with
 |[a,b,c',d,e'],_,d0,d1,d2,d3,d4 =>
  simp at d0 d1 d2 d3 d4;subst d0 d1 d2 d3 d4
  rfl
def open_reqs {a:Option Addr} {n cap:Nat} {d:DataW H} {p:List MemPlace} (h:DataW.Trod enc prog w 0 (fun _=>true) true 60 (.slice a n cap) d p):∃ l:List (Rq×Value),AW w (.slice a n cap) l/\∀ p∈l,p.1.Wf:=by
 obtain ⟨l,h1,h2⟩:=ZE (NN,.slice none 0 0) EO (fun y=>ll w y.2 y.1.data/\y.1.Wf) underlying60 zBP Qd (by decide) (fun fuel cs x h=>zKo h) h;exact ⟨l,⟨h1,fun p hp=>(h2 p hp).1⟩,fun p hp=>(h2 p hp).2⟩
end
def qA:prog.cellsOf 103=2:=by kernel_rfl
def zBb:prog.cellsOf 76=1:=by kernel_rfl
def zD3:prog.cellsOf 69=1:=by kernel_rfl
def zB7:prog.cellsOf 78=5:=by kernel_rfl
def zEa:∃ f0 f1,prog.underlying 103=some (.struct #[f0,f1])/\(f0.offset=0/\f1.offset=1)/\f0.type=3/\f1.type=87:=
 ⟨_,_,underlying103,⟨rfl,rfl⟩,rfl,rfl⟩
def zD1:∃ f0 f1 f2 f3 f4,prog.underlying 78=some (.struct #[f0,f1,f2,f3,f4])/\(f0.offset=0/\f1.offset=1/\f2.offset=2/\f3.offset=3/\f4.offset=4)/\f0.type=4/\f1.type=3/\f2.type=76/\f3.type=23/\f4.type=69:=
 ⟨_,_,_,_,_,underlying78,⟨rfl,rfl,rfl,rfl,rfl⟩,rfl,rfl,rfl,rfl,rfl⟩
structure Ui where
 eH:Bool
 tk:Int
 kv:Value
 nv:Value
 rv:Value
 ks:List KP
 es:List (Nd×Value)
 res:List Int
def Ui.pst (q:Ui):fP:={wH yq with eH:=q.eH,eE:=gV q.ks,needs:=q.es.map (·.1),res:=q.res}
section
variable {H:Type} {enc:TypeId×Value->H} {w:World}
def zFn {fuel:Nat} {cs:List Value} {x:DataW H×List MemPlace} (h:DataW.trod enc prog w 0 (fun _=>true) true fuel 103 cs=some x):∃ y:KP,cs=iy y/\mM w y.2.1 y.2.2:=by
 obtain ⟨f0,f1,hs,⟨o0,o1⟩,t0,t1⟩:=zEa;obtain ⟨xs,n,_,_,hlen,hxl,hf⟩:=DataW.trod_struct hs h;rw[qA] at hlen;have hx:xs.length=2:=by simpa using hxl
 have g:∀ j (hj:j<2),xs[j]?=some (xs[j]'(by omega)):=fun j hj=>aA (by omega)
 have h0:=(hf 0 f0 rfl).trans (g 0 (by omega));have h1:=(hf 1 f1 rfl).trans (g 1 (by omega));rw[t0,o0,vB] at h0;rw[t1,o1,zAF] at h1;obtain ⟨k,e0,_,w0⟩:=dg underlying3 h0;obtain ⟨v,l,e1,hr⟩:=zCc h1;have d0:=xg e0;have d1:=xg e1;refine ⟨(k,v,l),?_,hr⟩
 match cs,hlen,d0,d1 with
 |[a,b],_,d0,d1 =>
  simp at d0 d1;subst d0 d1
  rfl
def zDt {fuel:Nat} {cs:List Value} {x:DataW H×List MemPlace} (h:DataW.trod enc prog w 0 (fun _=>true) true fuel 76 cs=some x):∃ (v:Value) (l:List KP),cs=[v]/\rN w v l:=by
 have key:∀ a n c,cs=[.slice a n c]->∃ (v:Value) (l:List KP),cs=[v]/\rN w v l:=fun a n c e=>by
  subst e;obtain ⟨l,h1,h2⟩:=ZE (0,.slice none 0 0,[]) iy (fun y=>mM w y.2.1 y.2.2) underlying76 qA xV (by decide) (fun fuel cs x h=>zFn h) (a:=a) (n:=n) (cap:=c) (d:=x.1) (p:=x.2) ⟨fuel,h⟩;exact ⟨_,l,rfl,h1,h2⟩
 rcases DataW.trod_slice underlying76 h with ⟨e,_⟩|⟨a,len,cap,_,_,_,_,e,_⟩
 ·exact key _ _ _ e
 exact key _ _ _ e
def zIf {fuel:Nat} {cs:List Value} {x:DataW H×List MemPlace} (h:DataW.trod enc prog w 0 (fun _=>true) true fuel 69 cs=some x):∃ (v:Value) (l:List Int),cs=[v]/\Rd w 1 v l.length (l.map qQ):=by
 rcases open_ints underlying69 underlying39 (by kernel_rfl) h with ⟨hcs,_⟩|⟨x,l,c,zs,hcs,_,hl,hm,hz,_,hcell,mY⟩
 ·exact ⟨_,[],hcs,vR (f:=qQ) (aP w 0 39 1)⟩
 obtain ⟨g1,g2⟩:=Un (k:=.i64) (w:=w) (a:=some x) (len:=l) (cap:=c) (zs:=zs) (.inr ⟨_,rfl,hl,hm,by simpa using hz,hcell,mY⟩);exact ⟨_,zs.take l,hcs,by rw[g1];exact g2⟩
def open_planv {cs:Array Value} {d:DataW H} {p:List MemPlace} (h:DataW.Trod enc prog w 0 (fun _=>true) true 78 (.agg cs) d p) :
  ∃ y:Ui,cs=#[.bool y.eH,.int .i64 y.tk,y.kv,y.nv,y.rv]/\jF w y.pst y.kv y.ks y.nv y.es y.rv/\∀ x∈y.es,x.1.Wf:=by
 obtain ⟨fuel,h⟩:=h;have h:DataW.trod enc prog w 0 (fun _=>true) true fuel 78 cs.toList=some (d,p):=h;obtain ⟨f0,f1,f2,f3,f4,hs,⟨o0,o1,o2,o3,o4⟩,t0,t1,t2,t3,t4⟩:=zD1;obtain ⟨xs,n,_,_,hlen,hxl,hf⟩:=DataW.trod_struct hs h;rw[zB7] at hlen;have hx:xs.length=5:=by simpa using hxl
 have g:∀ j (hj:j<5),xs[j]?=some (xs[j]'(by omega)):=fun j hj=>aA (by omega)
 have h0:=(hf 0 f0 rfl).trans (g 0 (by omega));have h1:=(hf 1 f1 rfl).trans (g 1 (by omega));have h2:=(hf 2 f2 rfl).trans (g 2 (by omega));have h3:=(hf 3 f3 rfl).trans (g 3 (by omega));have h4:=(hf 4 f4 rfl).trans (g 4 (by omega));rw[t0,o0,zAZ] at h0;rw[t1,o1,vB] at h1;rw[t2,o2,zBb] at h2;rw[t3,o3,kN] at h3;rw[t4,o4,zD3] at h4;obtain ⟨k0,e0,_⟩:=DataW.trod_bool underlying4 h0;obtain ⟨k1,e1,_,w1⟩:=dg underlying3 h1;obtain ⟨kv,ks,e2,hk⟩:=zDt h2;obtain ⟨nv,es,e3,hn,hw⟩:=zBW h3;obtain ⟨rv,rs,e4,hr⟩:=zIf h4;have d0:=xg e0;have d1:=xg e1;have d2:=xg e2;have d3:=xg e3;have d4:=xg e4;refine ⟨⟨k0,k1,kv,nv,rv,ks,es,rs⟩,?_,⟨hk,rfl,hn,rfl,hr⟩,hw⟩;clear hf h h0 h1 h2 h3 h4 hr hw hk hn e0 e1 e2 e3 e4;obtain ⟨cs⟩:=cs
 match cs,hlen,d0,d1,d2,d3,d4 with
 |[p0,p1,p2,p3,p4],_,d0,d1,d2,d3,d4 =>
  simp at d0 d1 d2 d3 d4;subst d0 d1 d2 d3 d4
  rfl
end
def applies_open (q:Ui) (a:Option Addr) (n cap:Nat) (b:Option Addr) (m cap2:Nat) (much:Bool) (w:World)
  (h0:jF w q.pst q.kv q.ks q.nv q.es q.rv/\∀ x∈q.es,x.1.Wf) (h1:∃ l:List rj,Gy w (.slice a n cap) l) (h2:∃ l:List (Rq×Value),AW w (.slice b m cap2) l/\∀ p∈l,p.1.Wf) :
  Calls prog 8 #[.agg #[.bool q.eH,.int .i64 q.tk,q.kv,q.nv,q.rv],.slice a n cap,.slice b m cap2,.bool much] w fun e w'=>e=.returned (.bool true)/\Below w.heap.size w w':=by
 obtain ⟨ac,ha⟩:=h1;obtain ⟨qs,hq,_⟩:=h2;obtain ⟨eH,tk,kv,nv,rv,ks,es,res⟩:=q;obtain ⟨h0,hw⟩:=h0;obtain ⟨ka,kc,na,nc,ra,rn,rc,e1,e2,e3⟩:=h0.lN;dsimp only at *;subst e1 e2 e3;exact zDx _ eH tk ka na ra kc nc rn rc ks es _ _ ac qs much w h0 hw ha hq
end Go.Proofs.YtcgfilmmokmdjaaGreat
