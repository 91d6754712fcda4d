import Derived.Test.YtcgfilmmokmdjaaGreatQBA
import Derived.Test.YtcgfilmmokmdjaaGreatSkb
import Derived.Test.YtcgfilmmokmdjaaGreatBah
set_option linter.all false
namespace Go.Proofs.YtcgfilmmokmdjaaGreat
open Go.RowKit Go.ChangeShapes Go.WideShapes Go.Deep
theorem zC9:Tryz.prog.cellsOf 29=1:=by kernel_rfl
theorem zDT:Tryz.prog.cellsOf 31=4:=by kernel_rfl
theorem zB3:Tryz.prog.cellsOf 23=1:=by kernel_rfl
theorem zCj:Tryz.prog.cellsOf 87=1:=by kernel_rfl
theorem zHw:∃ f0 f1 f2 f3,Tryz.prog.underlying 31=some (.struct #[f0,f1,f2,f3])∧(f0.offset=0∧f1.offset=1∧f2.offset=2∧f3.offset=3)∧f0.type=3∧f1.type=2∧f2.type=4∧f3.type=29:=
 ⟨_,_,_,_,Tryz.underlying31,⟨rfl,rfl,rfl,rfl⟩,rfl,rfl,rfl,rfl⟩
structure SlQ where
 id:Int
 lim:Int
 ro:Bool
 a:Option Addr
 n:Nat
 c:Nat
 L:List GP
section
variable {H:Type} {enc:TypeId×Value→H} {w:World}
theorem zHD {a:Option Addr} {n cap:Nat} {d:DataW H} {p:List MemPlace} (h:DataW.Trod enc Tryz.prog w 0 (fun _=>true) true 29 (.slice a n cap) d p):∃ L:List GP,fD w (.slice a n cap) L∧∀ x∈L,KJ x.1:=by
 obtain ⟨l,h1,h2⟩:=k7 Iy iL (fun x=>fG w x.2 x.1.m.st∧KJ x.1) Tryz.underlying29 zAc uA (by decide) (fun fuel cs x h=>by
  obtain ⟨s,g,h1,h2,h3⟩:=zJ9 h
  exact ⟨(g,s),h1,h2,h3⟩) h
 exact ⟨l,⟨h1,fun p hp=>(h2 p hp).1⟩,fun p hp=>(h2 p hp).2⟩
theorem zFM {fuel:Nat} {cs:List Value} {x:DataW H×List MemPlace} (h:DataW.trod enc Tryz.prog w 0 (fun _=>true) true fuel 29 cs=some x):∃ a n c L,cs=[.slice a n c]∧fD w (.slice a n c) L∧∀ x∈L,KJ x.1:=by
 have key:∀ a n c,cs=[.slice a n c]→∃ a n c L,cs=[.slice a n c]∧fD w (.slice a n c) L∧∀ x∈L,KJ x.1:=fun a n c e=>by
  subst e;obtain ⟨l,h1,h2⟩:=zHD (a:=a) (n:=n) (cap:=c) (d:=x.1) (p:=x.2) ⟨fuel,h⟩;exact ⟨a,n,c,l,rfl,h1,h2⟩
 rcases DataW.trod_slice Tryz.underlying29 h with ⟨e,_⟩|⟨a,len,cap,_,_,_,_,e,_⟩
 ·
  exact key _ _ _ e
 exact key _ _ _ e
theorem zEa {fuel:Nat} {cs:List Value} {x:DataW H×List MemPlace} (h:DataW.trod enc Tryz.prog w 0 (fun _=>true) true fuel 23 cs=some x):∃ (v:Value) (l:List (Nd×Value)),cs=[v]∧nC w v l∧∀ x∈l,x.1.Wf:=by
 have key:∀ a n c,cs=[.slice a n c]→∃ (v:Value) (l:List (Nd×Value)),cs=[v]∧nC w v l∧∀ x∈l,x.1.Wf:=fun a n c e=>by
  subst e;obtain ⟨l,h1,h2⟩:=zFr (a:=a) (n:=n) (cap:=c) (d:=x.1) (p:=x.2) ⟨fuel,h⟩;exact ⟨_,l,rfl,h1,h2⟩
 rcases DataW.trod_slice Tryz.underlying23 h with ⟨e,_⟩|⟨a,len,cap,_,_,_,_,e,_⟩
 ·
  exact key _ _ _ e
 exact key _ _ _ e
theorem zFX {fuel:Nat} {cs:List Value} {x:DataW H×List MemPlace} (h:DataW.trod enc Tryz.prog w 0 (fun _=>true) true fuel 87 cs=some x):∃ (v:Value) (l:List Int),cs=[v]∧lT w v l:=by
 rcases open_ints Tryz.underlying87 Tryz.underlying24 (by kernel_rfl) h with ⟨hcs,_⟩|⟨x,l,c,zs,hcs,_,hl,hm,hz,_,hcell,V8⟩
 ·
  exact ⟨_,[],hcs,tu (aT w 0 24 1)⟩
 obtain ⟨g1,g2⟩:=Wj (k:=.u64) (w:=w) (a:=some x) (len:=l) (cap:=c) (zs:=zs) (.inr ⟨_,rfl,hl,hm,by simpa using hz,hcell,V8⟩);exact ⟨_,zs.take l,hcs,by unfold lT iE;rw[g1];exact g2⟩
theorem open_slov {cs:Array Value} {d:DataW H} {p:List MemPlace} (h:DataW.Trod enc Tryz.prog w 0 (fun _=>true) true 31 (.agg cs) d p) :
  ∃ y:SlQ,cs=zK y.id y.lim y.ro y.a y.n y.c∧fD w (.slice y.a y.n y.c) y.L∧∀ x∈y.L,KJ x.1:=by
 obtain ⟨fuel,h⟩:=h;have h:DataW.trod enc Tryz.prog w 0 (fun _=>true) true fuel 31 cs.toList=some (d,p):=h;obtain ⟨f0,f1,f2,f3,hs,⟨o0,o1,o2,o3⟩,t0,t1,t2,t3⟩:=zHw;obtain ⟨xs,n,_,_,hlen,hxl,hf⟩:=dR hs h;rw[zDT] at hlen;have hx:xs.length=4:=by simpa using hxl
 have g:∀ j (hj:j<4),xs[j]?=some (xs[j]'(by omega)):=fun j hj=>aB (by omega)
 have h0:=(hf 0 f0 rfl).trans (g 0 (by omega));have h1:=(hf 1 f1 rfl).trans (g 1 (by omega));have h2:=(hf 2 f2 rfl).trans (g 2 (by omega));have h3:=(hf 3 f3 rfl).trans (g 3 (by omega));rw[t0,o0,wF] at h0;rw[t1,o1,wD] at h1;rw[t2,o2,kT] at h2;rw[t3,o3,zC9] at h3;obtain ⟨k0,e0,_,w0⟩:=bH Tryz.underlying3 h0;obtain ⟨k1,e1,_,w1⟩:=bH Tryz.underlying2 h1;obtain ⟨k2,e2,_⟩:=DataW.trod_bool Tryz.underlying4 h2;obtain ⟨a,m,c,L,e3,hr,hw⟩:=zFM h3;have d0:=yW e0;have d1:=yW e1;have d2:=yW e2;have d3:=yW e3;refine ⟨⟨k0,k1,k2,a,m,c,L⟩,?_,hr,hw⟩;clear hf h h0 h1 h2 h3 hr hw e0 e1 e2 e3;obtain ⟨cs⟩:=cs
 match cs,hlen,d0,d1,d2,d3 with
 |[p0,p1,p2,p3],_,d0,d1,d2,d3 =>
  simp at d0 d1 d2 d3;subst d0 d1 d2 d3
  rfl
end
end Go.Proofs.YtcgfilmmokmdjaaGreat
namespace Go.Proofs.YtcgfilmmokmdjaaGreat
open Go.RowKit Go.ChangeShapes Go.WideShapes Go.Deep
theorem kC:Tryz.prog.cellsOf 141=4:=by kernel_rfl
theorem zAX:Tryz.prog.cellsOf 63=5:=by kernel_rfl
theorem zE4:∃ f0 f1 f2 f3,Tryz.prog.underlying 141=some (.struct #[f0,f1,f2,f3])∧(f0.offset=0∧f1.offset=1∧f2.offset=2∧f3.offset=3)∧f0.type=3∧f1.type=23∧f2.type=3∧f3.type=87:=
 ⟨_,_,_,_,Tryz.underlying141,⟨rfl,rfl,rfl,rfl⟩,rfl,rfl,rfl,rfl⟩
theorem zHa:∃ f0 f1 f2 f3 f4,Tryz.prog.underlying 63=some (.struct #[f0,f1,f2,f3,f4])∧(f0.offset=0∧f1.offset=1∧f2.offset=2∧f3.offset=3∧f4.offset=4)∧f0.type=2∧f1.type=3∧f2.type=24∧f3.type=47∧f4.type=54:=
 ⟨_,_,_,_,_,Tryz.underlying63,⟨rfl,rfl,rfl,rfl,rfl⟩,rfl,rfl,rfl,rfl,rfl⟩
section
variable {H:Type} {enc:TypeId×Value→H} {w:World}
theorem zHp {fuel:Nat} {cs:List Value} {x:DataW H×List MemPlace} (h:DataW.trod enc Tryz.prog w 0 (fun _=>true) true fuel 141 cs=some x):∃ y:oM,cs=PY y∧nC w y.lv y.l∧(∀ p∈y.l,p.1.Wf)∧lT w y.kv y.keys:=by
 obtain ⟨f0,f1,f2,f3,hs,⟨o0,o1,o2,o3⟩,t0,t1,t2,t3⟩:=zE4;obtain ⟨xs,n,_,_,hlen,hxl,hf⟩:=dR hs h;rw[kC] at hlen;have hx:xs.length=4:=by simpa using hxl
 have g:∀ j (hj:j<4),xs[j]?=some (xs[j]'(by omega)):=fun j hj=>aB (by omega)
 have h0:=(hf 0 f0 rfl).trans (g 0 (by omega));have h1:=(hf 1 f1 rfl).trans (g 1 (by omega));have h2:=(hf 2 f2 rfl).trans (g 2 (by omega));have h3:=(hf 3 f3 rfl).trans (g 3 (by omega));rw[t0,o0,wF] at h0;rw[t1,o1,zB3] at h1;rw[t2,o2,wF] at h2;rw[t3,o3,zCj] at h3;obtain ⟨k,e0,_,w0⟩:=bH Tryz.underlying3 h0;obtain ⟨v,l,e1,hr,hwf⟩:=zEa h1;obtain ⟨gn,e2,_,w2⟩:=bH Tryz.underlying3 h2;obtain ⟨kv,ks,e3,hk⟩:=zFX h3;have d0:=yW e0;have d1:=yW e1;have d2:=yW e2;have d3:=yW e3;refine ⟨⟨k,v,l,gn,kv,ks⟩,?_,hr,hwf,hk⟩
 match cs,hlen,d0,d1,d2,d3 with
 |[a,b,c',d],_,d0,d1,d2,d3 =>
  simp at d0 d1 d2 d3;subst d0 d1 d2 d3
  rfl
theorem open_actsB {a:Option Addr} {n cap:Nat} {d:DataW H} {p:List MemPlace} (h:DataW.Trod enc Tryz.prog w 0 (fun _=>true) true 59 (.slice a n cap) d p):∃ l:List oM,EM w (.slice a n cap) l:=by
 obtain ⟨l,h1,h2⟩:=k7 Nb PY (fun y=>nC w y.lv y.l∧(∀ p∈y.l,p.1.Wf)∧lT w y.kv y.keys) Tryz.underlying59 kC zKw (by decide) (fun fuel cs x h=>zHp h) h;exact ⟨l,h1,h2⟩
theorem zJE {fuel:Nat} {cs:List Value} {x:DataW H×List MemPlace} (h:DataW.trod enc Tryz.prog w 0 (fun _=>true) true fuel 63 cs=some x):∃ y:Rq×Value,cs=rF y∧rB w y.2 y.1.data∧y.1.Wf:=by
 obtain ⟨f0,f1,f2,f3,f4,hs,⟨o0,o1,o2,o3,o4⟩,t0,t1,t2,t3,t4⟩:=zHa;obtain ⟨xs,n,_,_,hlen,hxl,hf⟩:=dR hs h;rw[zAX] at hlen;have hx:xs.length=5:=by simpa using hxl
 have g:∀ j (hj:j<5),xs[j]?=some (xs[j]'(by omega)):=fun j hj=>aB (by omega)
 have h0:=(hf 0 f0 rfl).trans (g 0 (by omega));have h1:=(hf 1 f1 rfl).trans (g 1 (by omega));have h2:=(hf 2 f2 rfl).trans (g 2 (by omega));have h3:=(hf 3 f3 rfl).trans (g 3 (by omega));have h4:=(hf 4 f4 rfl).trans (g 4 (by omega));rw[t0,o0,wD] at h0;rw[t1,o1,wF] at h1;rw[t2,o2,tX] at h2;rw[t3,o3,tM] at h3;rw[t4,o4,qY] at h4;obtain ⟨tk,e0,_,_⟩:=bH Tryz.underlying2 h0;obtain ⟨kd,e1,_,_⟩:=bH Tryz.underlying3 h1;obtain ⟨k,e2,_,w2⟩:=bH Tryz.underlying24 h2;obtain ⟨c,e3,_,w3⟩:=bH Tryz.underlying47 h3;obtain ⟨v,l,e4,hr⟩:=zAx h4;have d0:=yW e0;have d1:=yW e1;have d2:=yW e2;have d3:=yW e3;have d4:=yW e4;have b2:=uN w2;have b3:=uS w3;obtain ⟨k,rfl⟩:=dV b2.1;obtain ⟨c,rfl⟩:=dV b3.1;refine ⟨(⟨tk,kd,k,c,l⟩,v),?_,hr,show k<18446744073709551616∧c<4294967296 by omega⟩
 match cs,hlen,d0,d1,d2,d3,d4 with
 |[a,b,c',d,e'],_,d0,d1,d2,d3,d4 =>
  simp at d0 d1 d2 d3 d4;subst d0 d1 d2 d3 d4
  rfl
theorem open_reqs {a:Option Addr} {n cap:Nat} {d:DataW H} {p:List MemPlace} (h:DataW.Trod enc Tryz.prog w 0 (fun _=>true) true 60 (.slice a n cap) d p):∃ l:List (Rq×Value),rG w (.slice a n cap) l∧∀ p∈l,p.1.Wf:=by
 obtain ⟨l,h1,h2⟩:=k7 (La,.slice none 0 0) rF (fun y=>rB w y.2 y.1.data∧y.1.Wf) Tryz.underlying60 zAX th (by decide) (fun fuel cs x h=>zJE h) h;exact ⟨l,⟨h1,fun p hp=>(h2 p hp).1⟩,fun p hp=>(h2 p hp).2⟩
end
end Go.Proofs.YtcgfilmmokmdjaaGreat
namespace Go.Proofs.YtcgfilmmokmdjaaGreat
open Go.RowKit
theorem makes_open (q:SlQ) (a:Option Addr) (n cap:Nat) (b:Option Addr) (m cap2:Nat) (much:Bool) (w:World)
  (h0:fD w (.slice q.a q.n q.c) q.L∧∀ x∈q.L,KJ x.1) (h1:∃ l:List oM,EM w (.slice a n cap) l) (h2:∃ l:List (Rq×Value),rG w (.slice b m cap2) l∧∀ p∈l,p.1.Wf) :
  Calls Tryz.prog 4 #[.agg (zK q.id q.lim q.ro q.a q.n q.c),.slice a n cap,.slice b m cap2,.bool much] w fun e w'=>e=.returned (.bool true)∧Below w.heap.size w w':=by
 obtain ⟨ac,ha⟩:=h1;obtain ⟨qs,hq,_⟩:=h2;exact zEy q.id q.lim q.ro q.a q.n q.c q.L _ _ ac qs much w h0.1 ha hq
end Go.Proofs.YtcgfilmmokmdjaaGreat
