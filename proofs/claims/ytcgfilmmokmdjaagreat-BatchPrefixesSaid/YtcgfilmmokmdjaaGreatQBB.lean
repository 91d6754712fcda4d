/- A part of the walk. -/
import Derived.Test.YtcgfilmmokmdjaaGreatQBA
import Derived.Test.YtcgfilmmokmdjaaGreatSkb
import Derived.Test.YtcgfilmmokmdjaaGreatBah
set_option linter.all false
namespace Go.Proofs.YtcgfilmmokmdjaaGreat
open Go.RowKit Go.ChangeShapes Go.WideShapes Go.Deep
theorem zCg : Tryz.prog.cellsOf 23 = 1:=by kernel_rfl
theorem zDP : Tryz.prog.cellsOf 87 = 1:=by kernel_rfl
structure SlQ where
 id : Int
 lim : Int
 ro : Bool
 a : Option Addr
 n : Nat
 c : Nat
 L : List GP
section
variable {H : Type} {enc : TypeId × Value → H} {w : World}
theorem zFM {fuel : Nat} {cs : List Value} {x : DataW H × List MemPlace} (h : DataW.trod enc Tryz.prog w 0 (fun _ => true) true fuel 23 cs = some x) : ∃ (v : Value) (l : List (Nd × Value)),cs = [v] ∧ mr w v l ∧ ∀ x ∈ l,x.1.Wf:=by
 have key : ∀ a n c,cs = [.slice a n c] → ∃ (v : Value) (l : List (Nd × Value)),cs = [v] ∧ mr w v l ∧ ∀ x ∈ l,x.1.Wf:=fun a n c e => by
  subst e;obtain ⟨l,h1,h2⟩:=zGQ (a:=a) (n:=n) (cap:=c) (d:=x.1) (p:=x.2) ⟨fuel,h⟩;exact ⟨_,l,rfl,h1,h2⟩
 rcases DataW.trod_slice Tryz.underlying23 h with ⟨e,_⟩ | ⟨a,len,cap,_,_,_,_,e,_⟩
 ·
  exact key _ _ _ e
 exact key _ _ _ e
theorem zGC {fuel : Nat} {cs : List Value} {x : DataW H × List MemPlace} (h : DataW.trod enc Tryz.prog w 0 (fun _ => true) true fuel 87 cs = some x) : ∃ (v : Value) (l : List Int),cs = [v] ∧ lJ w v l:=by
 rcases open_ints Tryz.underlying87 Tryz.underlying24 (by kernel_rfl) h with ⟨hcs,_⟩ | ⟨x,l,c,zs,hcs,_,hl,hm,hz,_,hcell,hwz⟩
 ·
  exact ⟨_,[],hcs,kq (aU w 0 24 1)⟩
 obtain ⟨g1,g2⟩:=zEQ (k:=.u64) (w:=w) (a:=some x) (len:=l) (cap:=c) (zs:=zs) (.inr ⟨_,rfl,hl,hm,by simpa using hz,hcell,hwz⟩);exact ⟨_,zs.take l,hcs,by unfold lJ iw; rw [g1]; exact g2⟩
end
end Go.Proofs.YtcgfilmmokmdjaaGreat
namespace Go.Proofs.YtcgfilmmokmdjaaGreat
open Go.RowKit Go.ChangeShapes Go.WideShapes Go.Deep
theorem kZ : Tryz.prog.cellsOf 141 = 4:=by kernel_rfl
theorem zAt : Tryz.prog.cellsOf 63 = 5:=by kernel_rfl
theorem zFm : ∃ f0 f1 f2 f3,Tryz.prog.underlying 141 = some (.struct #[f0,f1,f2,f3]) ∧ (f0.offset = 0 ∧ f1.offset = 1 ∧ f2.offset = 2 ∧ f3.offset = 3) ∧ f0.type = 3 ∧ f1.type = 23 ∧ f2.type = 3 ∧ f3.type = 87:=
 ⟨_,_,_,_,Tryz.underlying141,⟨rfl,rfl,rfl,rfl⟩,rfl,rfl,rfl,rfl⟩
theorem zID : ∃ f0 f1 f2 f3 f4,Tryz.prog.underlying 63 = some (.struct #[f0,f1,f2,f3,f4]) ∧ (f0.offset = 0 ∧ f1.offset = 1 ∧ f2.offset = 2 ∧ f3.offset = 3 ∧ f4.offset = 4) ∧ f0.type = 2 ∧ f1.type = 3 ∧ f2.type = 24 ∧ f3.type = 47 ∧ f4.type = 54:=
 ⟨_,_,_,_,_,Tryz.underlying63,⟨rfl,rfl,rfl,rfl,rfl⟩,rfl,rfl,rfl,rfl,rfl⟩
section
variable {H : Type} {enc : TypeId × Value → H} {w : World}
theorem zIQ {fuel : Nat} {cs : List Value} {x : DataW H × List MemPlace} (h : DataW.trod enc Tryz.prog w 0 (fun _ => true) true fuel 141 cs = some x) : ∃ y : Bp,cs = Uc y ∧ mr w y.lv y.l ∧ (∀ p ∈ y.l,p.1.Wf) ∧ lJ w y.kv y.keys:=by
 obtain ⟨f0,f1,f2,f3,hs,⟨o0,o1,o2,o3⟩,t0,t1,t2,t3⟩:=zFm;obtain ⟨xs,n,_,_,hlen,hxl,hf⟩:=DataW.trod_struct hs h;rw [kZ] at hlen;have hx : xs.length = 4:=by simpa using hxl
 have g : ∀ j (hj : j < 4),xs[j]? = some (xs[j]'(by omega)):=fun j hj => aB (by omega)
 have h0:=(hf 0 f0 rfl).trans (g 0 (by omega));have h1:=(hf 1 f1 rfl).trans (g 1 (by omega));have h2:=(hf 2 f2 rfl).trans (g 2 (by omega));have h3:=(hf 3 f3 rfl).trans (g 3 (by omega));rw [t0,o0,tC] at h0;rw [t1,o1,zCg] at h1;rw [t2,o2,tC] at h2;rw [t3,o3,zDP] at h3;obtain ⟨k,e0,_,w0⟩:=DataW.trod_int Tryz.underlying3 h0;obtain ⟨v,l,e1,hr,SV⟩:=zFM h1;obtain ⟨gn,e2,_,w2⟩:=DataW.trod_int Tryz.underlying3 h2;obtain ⟨kv,ks,e3,hk⟩:=zGC h3;have d0:=vA e0;have d1:=vA e1;have d2:=vA e2;have d3:=vA e3;refine ⟨⟨k,v,l,gn,kv,ks⟩,?_,hr,SV,hk⟩
 match cs,hlen,d0,d1,d2,d3 with
 | [a,b,c',d],_,d0,d1,d2,d3 =>
  simp at d0 d1 d2 d3;subst d0 d1 d2 d3
  rfl
theorem open_actsB {a : Option Addr} {n cap : Nat} {d : DataW H} {p : List MemPlace} (h : DataW.Trod enc Tryz.prog w 0 (fun _ => true) true 59 (.slice a n cap) d p) : ∃ l : List Bp,JN w (.slice a n cap) l:=by
 obtain ⟨l,h1,h2⟩:=zCs Rw Uc (fun y => mr w y.lv y.l ∧ (∀ p ∈ y.l,p.1.Wf) ∧ lJ w y.kv y.keys) Tryz.underlying59 kZ zLV (by decide) (fun fuel cs x h => zIQ h) h;exact ⟨l,h1,h2⟩
theorem zJn {fuel : Nat} {cs : List Value} {x : DataW H × List MemPlace} (h : DataW.trod enc Tryz.prog w 0 (fun _ => true) true fuel 63 cs = some x) : ∃ y : Rq × Value,cs = CD y ∧ CZ w y.2 y.1.data ∧ y.1.Wf:=by
 obtain ⟨f0,f1,f2,f3,f4,hs,⟨o0,o1,o2,o3,o4⟩,t0,t1,t2,t3,t4⟩:=zID;obtain ⟨xs,n,_,_,hlen,hxl,hf⟩:=DataW.trod_struct hs h;rw [zAt] at hlen;have hx : xs.length = 5:=by simpa using hxl
 have g : ∀ j (hj : j < 5),xs[j]? = some (xs[j]'(by omega)):=fun j hj => aB (by omega)
 have h0:=(hf 0 f0 rfl).trans (g 0 (by omega));have h1:=(hf 1 f1 rfl).trans (g 1 (by omega));have h2:=(hf 2 f2 rfl).trans (g 2 (by omega));have h3:=(hf 3 f3 rfl).trans (g 3 (by omega));have h4:=(hf 4 f4 rfl).trans (g 4 (by omega));rw [t0,o0,zFP] at h0;rw [t1,o1,tC] at h1;rw [t2,o2,zA4] at h2;rw [t3,o3,zAs] at h3;rw [t4,o4,kH] at h4;obtain ⟨tk,e0,_,_⟩:=DataW.trod_int Tryz.underlying2 h0;obtain ⟨kd,e1,_,_⟩:=DataW.trod_int Tryz.underlying3 h1;obtain ⟨k,e2,_,w2⟩:=DataW.trod_int Tryz.underlying24 h2;obtain ⟨c,e3,_,w3⟩:=DataW.trod_int Tryz.underlying47 h3;obtain ⟨v,l,e4,hr⟩:=zBT h4;have d0:=vA e0;have d1:=vA e1;have d2:=vA e2;have d3:=vA e3;have d4:=vA e4;have b2:=kB w2;have b3:=kF w3;obtain ⟨k,rfl⟩:=dS b2.1;obtain ⟨c,rfl⟩:=dS b3.1;refine ⟨(⟨tk,kd,k,c,l⟩,v),?_,hr,show k < 18446744073709551616 ∧ c < 4294967296 by omega⟩
 match cs,hlen,d0,d1,d2,d3,d4 with
 | [a,b,c',d,e'],_,d0,d1,d2,d3,d4 =>
  simp at d0 d1 d2 d3 d4;subst d0 d1 d2 d3 d4
  rfl
theorem open_reqs {a : Option Addr} {n cap : Nat} {d : DataW H} {p : List MemPlace} (h : DataW.Trod enc Tryz.prog w 0 (fun _ => true) true 60 (.slice a n cap) d p) : ∃ l : List (Rq × Value),Dc w (.slice a n cap) l ∧ ∀ p ∈ l,p.1.Wf:=by
 obtain ⟨l,h1,h2⟩:=zCs (PK,.slice none 0 0) CD (fun y => CZ w y.2 y.1.data ∧ y.1.Wf) Tryz.underlying60 zAt qM (by decide) (fun fuel cs x h => zJn h) h;exact ⟨l,⟨h1,fun p hp => (h2 p hp).1⟩,fun p hp => (h2 p hp).2⟩
end
end Go.Proofs.YtcgfilmmokmdjaaGreat
namespace Go.Proofs.YtcgfilmmokmdjaaGreat
open Go.RowKit
theorem prefixes_open (a : Option Addr) (n cap : Nat) (b : Option Addr) (m Oj : Nat) (cut : Int) (w : World) (h1 : ∃ l : List Bp,JN w (.slice a n cap) l) (h2 : ∃ l : List (Rq × Value),Dc w (.slice b m Oj) l ∧ ∀ p ∈ l,p.1.Wf) (h3 : (Lit.int .i64 cut).wf = true) :
  Calls Tryz.prog 5 #[.slice a n cap,.slice b m Oj,.int .i64 cut] w fun e w' => e = .returned (.bool true) ∧ Below w.heap.size w w':=by
 obtain ⟨ac,ha⟩:=h1;obtain ⟨qs,hq,_⟩:=h2;exact zCZ _ _ cut ac qs w ha hq h3
end Go.Proofs.YtcgfilmmokmdjaaGreat
