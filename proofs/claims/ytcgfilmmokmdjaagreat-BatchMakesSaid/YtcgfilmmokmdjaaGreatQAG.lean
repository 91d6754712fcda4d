import Derived.Test.YtcgfilmmokmdjaaGreatQAF
import Derived.Test.YtcgfilmmokmdjaaGreatMp
import Derived.Test.YtcgfilmmokmdjaaGreatQAA
import Derived.Test.YtcgfilmmokmdjaaGreatQAD
import Derived.Maps.AppendAt
import Derived.Shelf.SlSortCmp.KitK
import Derived.Ground.SlsfProg
set_option linter.all false
set_option maxRecDepth 100000
set_option maxHeartbeats 32000000
namespace Go.Proofs.YtcgfilmmokmdjaaGreat
def vH (f:Nat→List It) (k:Nat) (v:List It):Nat→List It:=fun i=>if i=k then v else f i
theorem SC (f:Nat→List It) (k:Nat) (v:List It):vH f k v k=v:=ah rfl
theorem PB (f:Nat→List It) {k i:Nat} (h:i≠k) (v:List It):vH f k v i=f i:=ai h
theorem X8 (f:Nat→List It) (k:Nat) (v:List It):∀ n,n≤k→cat (vH f k v) n=cat f n
 |0,_=>rfl
 |n+1,h=>by
  show cat (vH f k v) n++vH f k v n=cat f n++f n
  rw[X8 f k v n (by omega),PB f (by omega)]
theorem X9 (f:Nat→List It) (k:Nat) (v:List It):∀ n,k<n→zv (cat (vH f k v) n)+zv (f k)=zv (cat f n)+zv v
 |0,h=>by omega
 |n+1,h=>by
  show zv (cat (vH f k v) n++vH f k v n)+zv (f k)=zv (cat f n++f n)+zv v
  rw[xM,xM]
  by_cases e:k=n
  ·
   subst e;rw[X8 f k v k (ag _),SC];omega
  have:=X9 f k v n (by omega);rw[PB f (by omega)];omega
theorem fZ.upd {M:Mp} (h:fZ M) {k:Nat} (hk:k<8) {v:List It} (hv:wG v=true) (hs:∀ x∈v,zl x.key=k) {L G:Int}
  (hL:L+(zv (M.st k):Int)=M.live+(zv v:Int)) (g0:0≤G) (g1:G≤1099511627776):fZ ⟨vH M.st k v,L,G⟩:=by
 have Mu:=X9 M.st k v 8 hk;refine ⟨fun i hi=>?_,fun i hi x hx=>?_,?_,g0,g1⟩
 ·
  by_cases e:i=k
  ·
   show wG (vH M.st k v i)=true
   rw[e,SC];exact hv
  show wG (vH M.st k v i)=true
  rw[PB _ e];exact h.ok i hi
 ·
  have hx:x∈vH M.st k v i:=hx
  by_cases e:i=k
  ·
   rw[e,SC] at hx;rw[e];exact hs x hx
  rw[PB _ e] at hx;exact h.sp i hi x hx
 show L=(zv (cat (vH M.st k v) 8):Int)
 have hl:=h.lv;rw[show vN M=cat M.st 8 from rfl] at hl;omega
theorem zJO {l:List It} {x:It} (h:wG l=true) (hx:okB x=true):wG (ins l x)=true:=by
 rw[ub] at h ⊢;exact ⟨WH h.1 x,ke x (bn hx) l h.2⟩
theorem zH8 {l:List It} (h:wG l=true) (key:Int):wG (gP l key)=true:=by
 rw[ub] at h ⊢;exact ⟨Rl h.1 key,fun y hy=>h.2 y (List.mem_filter.1 hy).1⟩
theorem xp {M:Mp} (h:fZ M) (key:Int):zg M key=fT (M.st (zl key)) key:=by unfold zg;rw[ah ((zV M).2 h)]
theorem PD {M:Mp} (h:fZ M) {x:It} (hx:okB x=true) (hg:M.d_+(iG (zg M x.key):Int)≤1099511627776) :
  wV M x=⟨vH M.st (zl x.key) (ins (M.st (zl x.key)) x),M.live+(xT x:Int)-(iG (zg M x.key):Int),M.d_+(iG (zg M x.key):Int)⟩:=by
 rw[xp h] at hg ⊢;unfold wV;rw[ah ⟨(zV M).2 h,hx,hg⟩]
 congr 1
 funext i
 unfold vH
 by_cases e:i=zl x.key
 ·
  rw[ah e,ah e,e]
 rw[ai e,ai e]
theorem SD {M:Mp} (h:fZ M) {key:Int} (hg:M.d_+(iG (zg M key):Int)≤1099511627776) :
  yP M key=⟨vH M.st (zl key) (gP (M.st (zl key)) key),M.live-(iG (zg M key):Int),M.d_+(iG (zg M key):Int)⟩:=by
 have hd:∀ l:List It,fT l key=none→gP l key=l:=fun l hl=>List.filter_eq_self.2 fun y hy=>by
  have:=zC7 hl y hy;simp[this]
 have hu:(fun i=>if i=zl key then gP (M.st i) key else M.st i)=vH M.st (zl key) (gP (M.st (zl key)) key):=funext fun i=>by
  unfold vH
  by_cases e:i=zl key
  ·
   rw[ah e,ah e,e]
  rw[ai e,ai e]
 have hgo:=xp h key;unfold yP;generalize zg M key=o at *
 cases o with
 |none =>
  have e:vH M.st (zl key) (gP (M.st (zl key)) key)=M.st:=funext fun i=>by
   unfold vH
   by_cases e:i=zl key
   ·
    rw[ah e,e,hd _ hgo.symm]
   rw[ai e]
  obtain ⟨f,L,G⟩:=M
  show (⟨f,L,G⟩:Mp)=⟨_,L-((0:Nat):Int),G+((0:Nat):Int)⟩
  rw[show L-((0:Nat):Int)=L by omega,show G+((0:Nat):Int)=G by omega,e]
 |some y =>
  have Jy:M.d_+(xT y:Int)≤1099511627776:=hg
  show (if M.d_+(xT y:Int)≤1099511627776 then _ else M)=_
  rw[ah Jy,hu]
  rfl
theorem X_ {M:Mp} (h:fZ M) {n:Int} (h0:0≤n) (hg:M.d_+n≤1099511627776):xF M n=⟨M.st,M.live,M.d_+n⟩:=by
 unfold xF;rw[ah ⟨(zV M).2 h,h0,by omega⟩]
theorem fZ.ins {M:Mp} (h:fZ M) {x:It} (hx:okB x=true) (hg:M.d_+(iG (zg M x.key):Int)≤1099511627776):fZ (wV M x):=by
 rw[PD h hx hg];have hk:=wX x.key;have h0:=h.g0;refine h.upd hk (zJO (h.ok _ hk) hx) (ke (p:=fun y=>zl y.key=zl x.key) x rfl _ (h.sp _ hk)) ?_ (by omega) hg;have:=RE x _ (uE (h.ok _ hk));rw[xp h];unfold xT;omega
theorem fZ.del {M:Mp} (h:fZ M) {key:Int} (hg:M.d_+(iG (zg M key):Int)≤1099511627776):fZ (yP M key):=by
 rw[SD h hg];have hk:=wX key;have h0:=h.g0;refine h.upd hk (zH8 (h.ok _ hk) key) (fun y hy=>h.sp _ hk y (List.mem_filter.1 hy).1) ?_ (by omega) hg;have:=Xg key _ (uE (h.ok _ hk));rw[xp h];omega
theorem fZ.Ex {M:Mp} (h:fZ M) {n:Int} (h0:0≤n) (hg:M.d_+n≤1099511627776):fZ (xF M n):=by
 rw[X_ h h0 hg];have:=h.g0;exact ⟨h.ok,h.sp,h.lv,by show 0≤M.d_+n;omega,hg⟩
theorem PE (o:Option It):iG o≤4127:=by
 cases o with
 |none=>exact aq _
 |some y=>exact xj _
theorem Ya (M:Mp) (k:Nat) (v:List It) (key:Int):fT (vH M.st k v (zl key)) key=if zl key=k then fT v key else fT (M.st (zl key)) key:=by
 unfold vH;split<;>rfl
theorem Yb {M:Mp} (h:fZ M) {x:It} (hx:okB x=true) (hg:M.d_+(iG (zg M x.key):Int)≤1099511627776) (key:Int) :
  zg (wV M x) key=if x.key=key then some x else zg M key:=by
 rw[xp (h.ins hx hg),PD h hx hg,xp h key]
 show fT (vH _ _ _ _) key=_
 rw[Ya]
 by_cases e:x.key=key
 ·
  rw[ah e,← e,ah rfl,vU]
 rw[ai e]
 by_cases e2:zl key=zl x.key
 ·
  rw[ah e2,wz x key (fun e3=>e e3.symm),e2]
 rw[ai e2]
theorem kR {M:Mp} (h:fZ M) {k:Int} (hg:M.d_+(iG (zg M k):Int)≤1099511627776) (key:Int) :
  zg (yP M k) key=if k=key then none else zg M key:=by
 rw[xp (h.del hg),SD h hg,xp h key]
 show fT (vH _ _ _ _) key=_
 rw[Ya]
 by_cases e:k=key
 ·
  rw[ah e,← e,ah rfl,kV]
 rw[ai e]
 by_cases e2:zl key=zl k
 ·
  rw[ah e2,uT k key (fun e3=>e e3.symm),e2]
 rw[ai e2]
theorem zI7 {M:Mp} (h:fZ M) {x:It} (hx:okB x=true) (hg:M.d_+(iG (zg M x.key):Int)≤1099511627776):(wV M x).live+(wV M x).d_=M.live+M.d_+(xT x:Int):=by
 rw[PD h hx hg]
 show M.live+(xT x:Int)-(iG (zg M x.key):Int)+(M.d_+(iG (zg M x.key):Int))=_
 omega
theorem kA {M:Mp} (h:fZ M) {k:Int} (hg:M.d_+(iG (zg M k):Int)≤1099511627776):(yP M k).live+(yP M k).d_=M.live+M.d_:=by
 rw[SD h hg]
 show M.live-(iG (zg M k):Int)+(M.d_+(iG (zg M k):Int))=_
 omega
theorem fZ.live0 {M:Mp} (h:fZ M):0≤M.live:=by
 have:=h.lv;omega
end Go.Proofs.YtcgfilmmokmdjaaGreat
namespace Go.Proofs.YtcgfilmmokmdjaaGreat
open Go.RowKit
def M0:Mp:=⟨fun _=>[],0,0⟩
end Go.Proofs.YtcgfilmmokmdjaaGreat
namespace Go.Proofs.YtcgfilmmokmdjaaGreat
structure StM (M:Mp) (k S B:Nat):Prop where
 v:fZ M
 sum:M.live+M.d_=(S:Int)
 le:S≤B
 len:∀ j,(M.st j).length≤k
theorem Yc {f:Nat→List It} {x:It}:∀ {n},x∈cat f n→∃ i,i<n∧x∈f i
 |0,h=>by cases h
 |n+1,h=>by
  rcases List.mem_append.1 (show x∈cat f n++f n from h) with h|h
  ·
   obtain ⟨i,hi,h⟩:=Yc h;exact ⟨i,by omega,h⟩
  exact ⟨n,by omega,h⟩
theorem qM {M:Mp} (h:fZ M):zJ M=fN (vN M):=by unfold zJ;rw[ah ((zV M).2 h)]
theorem qH {M:Mp} (h:fZ M):∀ x∈zJ M,oB x:=by
 rw[qM h];refine Wr fun x hx=>?_
 obtain ⟨i,hi,hx⟩:=Yc (show x∈cat M.st 8 from hx);exact (ub.1 (h.ok i hi)).2 x hx
theorem Yd {M:Mp} (h:fZ M):(zv (zJ M):Int)=M.live:=by
 rw[qM h,h.sum,h.lv]
def tE (l:List It) (g:Int):Mp:=
 if l.all okB=true∧0≤g∧g≤1099511627776 then ⟨fun i=>pI i (fN l),(zv (fN l):Int),g⟩ else M0
theorem SG {l:List It} {g:Int} (h:l.all okB=true) (h0:0≤g) (h1:g≤1099511627776):tE l g=⟨fun i=>pI i (fN l),(zv (fN l):Int),g⟩:=ah ⟨h,h0,h1⟩
theorem zJo {l:List It} {g:Int} (h:¬ (l.all okB=true∧0≤g∧g≤1099511627776)):tE l g=M0:=ai h
theorem zKK {l:List It} (h:l.all okB=true):∀ x∈l,oB x:=fun x hx=>by
 have:=List.all_eq_true.1 h x hx;unfold okB at this;exact bn this
theorem Yf {l:List It} (h:∀ x∈l,oB x):l.all okB=true:=List.all_eq_true.2 fun x hx=>by
 unfold okB;exact aC (h x hx)
theorem zKD (i:Nat) (T:List It):(pI i T).length≤T.length:=List.length_filter_le _ _
/-! ### The ek Put and Delete -/
def uX (M:Mp) (x:It):Mp:=
 if xC M=true∧okB x=true∧M.d_+(iG (zg M x.key):Int)≤1099511627776 then tE (ins (zJ M) x) (M.d_+(iG (zg M x.key):Int)) else M
def tD (M:Mp) (key:Int):Mp:=
 match zg M key with
 |none=>M
 |some y=>if M.d_+(xT y:Int)≤1099511627776 then tE (gP (zJ M) key) (M.d_+(xT y:Int)) else M
/-! ### Mv -/
structure Mw (M N:Mp):Prop where
 st:∀ i,i<8→M.st i=N.st i
 l:M.live=N.live
 g:M.d_=N.d_
theorem Mw.refl (M:Mp):Mw M M:=⟨fun _ _=>rfl,rfl,rfl⟩
theorem zIk (M:Mp) (x:It):Mw (wV M x) (uX M x):=by
 by_cases hv:fZ M
 ·
  have hv':=(zV M).2 hv
  by_cases hx:okB x=true
  ·
   by_cases hg:M.d_+(iG (zg M x.key):Int)≤1099511627776
   ·
    have hp:=qH hv;have ha:=yb M;have hfn:fT (zJ M) x.key=zg M x.key:=by
     have:=vk M x.key
     rwa [yQ ha] at this
    unfold uX;rw[ah ⟨hv',hx,hg⟩,PD hv hx hg];have h0:0≤M.d_+(iG (zg M x.key):Int):=by have:=hv.g0;omega
    rw[SG (Yf (ke x (bn hx) _ hp)) h0 hg,yQ (WH ha x)];refine ⟨fun i hi=>?_,?_,rfl⟩
    ·
     show vH M.st (zl x.key) (ins (M.st (zl x.key)) x) i=Go.Proofs.YtcgfilmmokmdjaaGreat.pI i (ins (zJ M) x)
     rw[zKj ha,qM hv,hv.pI hi];unfold vH
     by_cases e:i=zl x.key
     ·
      rw[ah e,ah e.symm,e]
     rw[ai e,ai (aQ e)]
    show M.live+(xT x:Int)-(iG (zg M x.key):Int)=(zv (ins (zJ M) x):Int)
    have h1:=RE x (zJ M) ha;rw[hfn] at h1;have h2:=Yd hv;unfold xT;omega
   unfold uX wV;rw[ai (fun h=>hg (by rw[xp hv];exact h.2.2)),ai (fun h=>hg h.2.2)];exact .refl M
  unfold uX wV;rw[ai (fun h=>hx h.2.1),ai (fun h=>hx h.2.1)];exact .refl M
 unfold uX wV;rw[ai (fun h=>hv ((zV M).1 h.1)),ai (fun h=>hv ((zV M).1 h.1))];exact .refl M
theorem zIJ (M:Mp) (key:Int):Mw (yP M key) (tD M key):=by
 unfold yP tD
 cases hgo:zg M key with
 |none=>exact .refl M
 |some y =>
  have hv:fZ M:=(zV M).1 (xg hgo).1
  show Mw (if M.d_+(xT y:Int)≤1099511627776 then _ else M) (if M.d_+(xT y:Int)≤1099511627776 then _ else M)
  by_cases hg:M.d_+(xT y:Int)≤1099511627776
  ·
   rw[ah hg,ah hg];have ha:=yb M;have hfn:fT (zJ M) key=zg M key:=by
    have:=vk M key
    rwa [yQ ha] at this
   have h0:0≤M.d_+(xT y:Int):=by have:=hv.g0;omega
   rw[SG (l:=gP (zJ M) key) (Yf fun x hx=>qH hv x (List.mem_filter.1 hx).1) h0 hg,yQ (Rl ha key)];refine ⟨fun i hi=>?_,?_,rfl⟩
   ·
    show (if i=zl key then gP (M.st i) key else M.st i)=Go.Proofs.YtcgfilmmokmdjaaGreat.pI i (gP (zJ M) key)
    rw[zKe ha,qM hv,hv.pI hi]
    by_cases e:i=zl key
    ·
     rw[ah e,ah e.symm]
    rw[ai e,ai (aQ e)]
   show M.live-(xT y:Int)=(zv (gP (zJ M) key):Int)
   have h1:=Xg key (zJ M) ha;rw[hfn,hgo] at h1;have h2:=Yd hv;have h3:iG (some y)=xT y:=rfl;omega
  rw[ai hg,ai hg];exact .refl M
structure Gn where
 num:Int
 rev:Int
 mode:Int
 size:Int
 m:Mp
def vv (x:It):Int:=x.off+(eN x.size.toNat:Int)
def FI (x y:It):Prop:=vv x≤y.off∨vv y≤x.off
instance (x y:It):Decidable (FI x y):=by unfold FI;infer_instance
def kH (l:List It) (size:Int):Prop:=l.Pairwise FI∧∀ x∈l,vv x≤size
instance (l:List It) (size:Int):Decidable (kH l size):=by unfold kH;infer_instance
def vr (l:List It) (size:Int):Bool:=decide (kH l size)
theorem Yg {x y:It} (h:FI x y):FI y x:=h.symm
theorem zE8 {l l':List It} (h:l.Perm l') (size:Int):kH l size↔kH l' size:=by
 unfold kH;rw[List.Perm.pairwise_iff (fun h=>Yg h) h];exact ⟨fun ⟨h1,h2⟩=>⟨h1,fun x hx=>h2 x (h.mem_iff.2 hx)⟩,fun ⟨h1,h2⟩=>⟨h1,fun x hx=>h2 x (h.mem_iff.1 hx)⟩⟩
theorem zKr {n:Nat} (h:n≤4096):0<eN n:=by
 rw[LR h];have:=us n;omega
theorem tx {x:It} (h:oB x):x.off<vv x:=by
 have h1:=h.2.2.2;have:=zKr (n:=x.size.toNat) (by omega);unfold vv;omega
def chain (e:Int):List It→Option Int
 |[]=>some e
 |x::r=>if x.off<e then none else chain (vv x) r
def PH (l:List It) (size:Int):Bool:=match chain 16 l with
 |none=>false
 |some e=>decide (e≤size)
theorem Yh:∀ (l:List It) (e size:Int),(∀ x∈l,oB x)→l.Pairwise (fun a b=>a.off≤b.off)→(∀ x∈l,e≤x.off∨x.off<e) →
  ((match chain e l with|none=>false|some e'=>decide (e'≤size))=true↔(l.Pairwise FI∧(∀ x∈l,e≤x.off)∧(∀ x∈l,vv x≤size)∧(l=[]→e≤size)))
 |[],e,size,_,_,_=>by simp[chain]
 |x::r,e,size,hok,hs,_=>by
  have hx:=tx (hok x (by simp));rw[dC] at hs ⊢;have ih:=Yh r (vv x) size (fun y hy=>hok y (by simp[hy])) hs.2 (fun y _=>by omega)
  by_cases h:x.off<e
  ·
   have h1:chain e (x::r)=none:=by unfold chain;rw[ah h]
   rw[h1]
   constructor
   ·
    intro h2;cases h2
   rintro ⟨_,h3,_⟩;have:=h3 x (by simp);omega
  have h1:chain e (x::r)=chain (vv x) r:=by
   show (if x.off<e then none else chain (vv x) r)=_
   rw[ai h]
  rw[h1,ih]
  constructor
  ·
   rintro ⟨h2,h3,h4,h5⟩;refine ⟨⟨fun y hy=>.inl (h3 y hy),h2⟩,fun y hy=>?_,fun y hy=>?_,fun e=>by cases e⟩
   ·
    rcases List.mem_cons.1 hy with rfl|hy
    ·
     omega
    have:=hs.1 y hy;omega
   rcases List.mem_cons.1 hy with rfl|hy
   ·
    cases r with
    |nil=>exact h5 rfl
    |cons z t =>
     have h6:=h4 z (by simp);have h7:=h3 z (by simp);have h8:=tx (hok z (by simp));omega
   exact h4 y hy
  rintro ⟨⟨h2,h3⟩,h4,h5,_⟩;refine ⟨h3,fun y hy=>?_,fun y hy=>h5 y (by simp[hy]),fun _=>h5 x (by simp)⟩;rcases h2 y hy with h6|h6
  ·
   exact h6
  have h7:=hs.1 y hy;have h8:=tx (hok y (by simp[hy]));omega
theorem zJP {l l':List It} {size:Int} (hok:∀ x∈l,oB x) (hp:l.Perm l') (hs:l'.Pairwise fun a b=>a.off≤b.off) (oH:16≤size):PH l' size=vr l size:=by
 have Mx:∀ x∈l',oB x:=fun x hx=>hok x (hp.mem_iff.2 hx)
 rw[cT];unfold PH vr;rw[Yh l' 16 size Mx hs (fun y _=>by omega),aR,zE8 hp];exact ⟨fun ⟨h1,_,h2,_⟩=>⟨h1,h2⟩,fun ⟨h1,h2⟩=>⟨h1,fun x hx=>(Mx x hx).1,h2,fun _=>oH⟩⟩
structure lh (g:Gn):Prop where
 num:1≤g.num∧g.num≤8
 rev:0≤g.rev∧g.rev≤4294967295
 mode:1≤g.mode∧g.mode≤3
 size:16≤g.size∧g.size≤1048576∧g.size%8=0
 m:xC g.m=true
 ends:vr (zJ g.m) g.size=true
 sum:g.size=16+g.m.live+g.m.d_
def wN (g:Gn):Bool:=decide (1≤g.num)&&decide (g.num≤8)&&decide (0≤g.rev)&&decide (g.rev≤4294967295)&&decide (1≤g.mode)&&decide (g.mode≤3)&&decide (16≤g.size)&&decide (g.size≤1048576)&&decide (g.size%8=0)&&xC g.m&&vr (zJ g.m) g.size&&decide (g.size=16+g.m.live+g.m.d_)
theorem yJ (g:Gn):wN g=true↔lh g:=by
 unfold wN;simp only[aN,aR];exact ⟨fun ⟨⟨⟨⟨⟨⟨⟨⟨⟨⟨⟨a,b⟩,c⟩,d⟩,e⟩,f⟩,g⟩,h⟩,i⟩,j⟩,k⟩,l⟩=>⟨⟨a,b⟩,⟨c,d⟩,⟨e,f⟩,⟨g,h,i⟩,j,k,l⟩,fun h=>⟨⟨⟨⟨⟨⟨⟨⟨⟨⟨⟨h.num.1,h.num.2⟩,h.rev.1⟩,h.rev.2⟩,h.mode.1⟩,h.mode.2⟩,h.size.1⟩,h.size.2.1⟩,h.size.2.2⟩,h.m⟩,h.ends⟩,h.sum⟩⟩
theorem Yi {g:Gn} (h:¬ lh g):wN g=false:=by
 cases e:wN g with
 |false=>rfl
 |true=>exact absurd ((yJ g).1 e) h
instance:Inhabited Mp:=⟨⟨fun _=>[],0,0⟩⟩
def ix:Gn:=⟨0,0,0,0,default⟩
instance:Inhabited Gn:=⟨ix⟩
def eV (l:List Gn) (i:Nat):Gn:=l.getD i ix
structure eX where
 id:Int
 lim:Int
 ro:Bool
 dY:List Gn
def Cw (s:eX) (i:Nat):Prop:=
 wN (eV s.dY i)=true∧(0<i→(eV s.dY (i-1)).num<(eV s.dY i).num)∧((eV s.dY i).mode=1↔i+1=s.dY.length)∧(eV s.dY i).size≤2*s.lim
structure eT (s:eX):Prop where
 id:0≤s.id∧s.id<4
 lim:4136≤s.lim∧s.lim≤262144
 len:1≤s.dY.length∧s.dY.length≤8
 g:∀ i,i<s.dY.length→Cw s i
 top:(eV s.dY (s.dY.length-1)).size+(((zJ (eV s.dY (s.dY.length-1)).m).length*24:Nat):Int)≤2*s.lim
open Classical in
noncomputable def zY (s:eX):Bool:=decide (eT s)
theorem zW (s:eX):zY s=true↔eT s:=by unfold zY;simp
theorem qN {s:eX} (h:¬ eT s):zY s=false:=by unfold zY;simp[h]
theorem eT.vg {s:eX} (h:eT s) {i:Nat} (hi:i<s.dY.length):lh (eV s.dY i):=(yJ _).1 (h.g i hi).1
theorem Yj {s:eX} {i:Nat} (hi:i<s.dY.length) (h:¬ Cw s i):zY s=false:=qN fun hv=>h (hv.g i hi)
structure jK where
 gen:Int
 mode:Int
 rev:Int
 it:It
 at_:Nat
def xU (l:List Gn) (key:Int):Nat→List jK
 |0=>[]
 |n+1=>(match zg (eV l n).m key with|some x=>[⟨(eV l n).num,(eV l n).mode,(eV l n).rev,x,n⟩]|none=>[])++xU l key n
noncomputable def yA (s:eX) (key:Int):List jK:=if zY s=true then xU s.dY key s.dY.length else []
end Go.Proofs.YtcgfilmmokmdjaaGreat
namespace Go.Proofs.YtcgfilmmokmdjaaGreat
open Go.RowKit
theorem qm {P:Program} {w:World} {ops:Array Oper} {o:Oper} {a:Act} {K:Act→World→Prop} {Q:Exit→Act→World→Prop} {E:Prop} (hgd:o.guard=none) (s x:Operand) (t:TypeId)
  (ho:o.op=.call {callee:=.builtin .append,args:=#[s,x],argTypes:=#[t,t]})
  {e:TypeId} {sz bytes:Nat} (hE:xt P t e sz bytes) (base:Nat)
  {v:Value} {n:Nat} {xs:List Value} (hs:a.eval s=v) (hown:w.ownsRow base e sz v n xs) {ad:Addr} {m c:Nat} {news:List Value} (hx:a.eval x=.slice (some ad) m c)
  (hl:news.length=m*sz) (hnews:∀ j u,news[j]?=some u→w.cell? (ad.add j)=some u)
  (h1:∀ u∈news,u.oneCell'=true) (h63:n+m≤maxLen) (hbytes:(n+m)*bytes≤140737488355328) (hbase:base≤w.heap.size)
  (h:∀ v' w',w'.ownsRow base e sz v' (n+m) (xs++news)→w.grownBy w' v.ownBlock→(v'.ownBlock=v.ownBlock∨v'.ownBlock=some w.heap.size)→K (a.put o.dst v') w') :
  if Region.wanted o (yielded ops a.tmps)=true then Oper.wp P o a w K Q else E:=by
 have hw:Region.wanted o (yielded ops a.tmps)=true:=by simp[Region.wanted,hgd]
 rw[ah hw];obtain ⟨ht,hsz,i,z,hi,hz,hs',hby,hzs⟩:=hE;obtain ⟨v',w',hrun,r1,r2,_,r4⟩:=run_append_own_at (P:=P) w base t o.type e i z sz bytes ht hi hz hs' hby hzs hsz v n xs hown ad m c news hl hnews h1 h63 hbytes hbase;unfold Oper.wp;simp[execOp,ho,resolve,invoke,builtin,hs,hx,hrun,Result.andThen];exact h v' w' r1 r2 r4
theorem zIE (W:World) (x:It) (k:Nat) (hk:W.heap.size=k):∀ j u,(iC x)[j]?=some u→(W.alloc (xN x)).drew.cell? ((⟨k,0,none⟩:Addr).add j)=some u:=by
 subst hk;intro j u hj;rw[yM,aI]
 show (W.alloc (xN x)).cell? _=some u
 rw[cell_of_row _ _ j _ _ (0,0) (dg W _)];rw[← Array.getElem?_toList];exact hj
def Iv (s:Sl):Prop:=∀ i j,i<8→j<8→i≠j→(s.v i).ownBlock=none∨(s.v i).ownBlock≠(s.v j).ownBlock
theorem Iv.nil:Iv Sl.nil:=fun _ _ _ _ _=>.inl rfl
theorem eQ.grown {W W':World} {b:Nat} {s:Sl} {l g:Int} {row:Option Nat} (h:eQ W b s l g) (hg:W.grownBy W' row) (hne:row≠some b):eQ W' b s l g:=by
 have hn:∀ i,some (⟨b,i,none⟩:Addr).block≠row:=fun i e=>hne e.symm
 refine ⟨fun j hj=>hg.cell (h.c j hj) (hn j),hg.cell h.cl (hn 8),hg.cell h.cg (hn 9),fun i=>?_⟩;rw[World.frozen?_of_block (w:=W) (hg.block b h.lt (hn 0))];exact h.f i
theorem ur {w:World} {B:Nat} {e:TypeId} {sz n:Nat} {v:Value} {xs:List Value} (h:w.ownsRow B e sz v n xs) {b:Nat} (hb:b<B):v.ownBlock≠some b:=fun e=>by
 have:=(h.lt b e).1;omega
theorem zMX {w w4:World} {bm B k:Nat} {s:Sl} {f:Nat→List It} {x:It} {va:Option Addr} {n vc:Nat} (ho:eZ w B s f) (hd:Iv s) (hk:k<8) (Iw:bm<B)
  (hown:w4.ownsRow B 49 4 (.slice va n vc) n (zU (f k++[x]))) (hg:w.grownBy w4 (s.v k).ownBlock) (hat:(Value.slice va n vc).ownBlock=(s.v k).ownBlock∨(Value.slice va n vc).ownBlock=some w.heap.size) :
  eZ (w4.setCell ⟨bm,k,none⟩ (.slice va n vc)) B (s.set k va n vc) (fun i=>if i=k then f k++[x] else f i)∧Iv (s.set k va n vc):=by
 have hlt:∀ i,i<8→∀ g,(s.v i).ownBlock=some g→g<w.heap.size:=fun i hi g hg=>((ho i hi).lt g hg).2
 constructor
 ·
  intro i hi
  show fC _ B ((s.set k va n vc).v i) (if i=k then f k++[x] else f i)
  rw[Sl.pJ]
  by_cases e:i=k
  ·
   rw[ah e,ah e];exact yO (yE hown (p:=⟨bm,k,none⟩) Iw _) rfl
  rw[ai e,ai e];exact yE (World.ownsRow.kept (ho i hi) hg (hd i k hi hk e)) (p:=⟨bm,k,none⟩) Iw _
 intro i j hi hj hij;rw[Sl.pJ,Sl.pJ]
 by_cases e:i=k
 ·
  subst e;rw[ah rfl,ai (aQ hij)];rcases hat with hat|hat
  ·
   rw[hat];exact hd i j hi hj hij
  rw[hat];refine .inr fun h2=>?_
  have:=hlt j hj _ h2.symm;omega
 rw[ai e]
 by_cases e2:j=k
 ·
  subst e2;rw[ah rfl];rcases hat with hat|hat
  ·
   rw[hat];exact hd i j hi hj hij
  rw[hat]
  cases hv:(s.v i).ownBlock with
  |none=>exact .inl rfl
  |some g =>
   refine .inr fun h2=>?_
   injection h2 with h2;have:=hlt i hi g hv;omega
 rw[ai e2];exact hd i j hi hj hij
theorem zJg {w0 w w4:World} {B0 bR bm B2 B3 k:Nat} {s:Sl} {f:Nat→List It} {x:It} {va:Option Addr} {n vc:Nat} {v3:Value} {T:List It} {L G:Int}
  (hR:eQ w bR Sl.nil 0 0) (hM:eQ w bm s L G) (hO:eZ w B3 s f) (hA:Iv s) (hT:fC w B2 v3 T) (hb:Below B0 w0 w) (h0:B0≤bm) (h1:bR<bm) (h2:bm<B2) (h3:B2≤B3) (FK:B3≤w.heap.size)
  (Gq:∀ g,v3.ownBlock=some g→g<B3) (hk:k<8) (hown:w4.ownsRow B3 49 4 (.slice va n vc) n (zU (f k++[x]))) (hg:w.grownBy w4 (s.v k).ownBlock)
  (hat:(Value.slice va n vc).ownBlock=(s.v k).ownBlock∨(Value.slice va n vc).ownBlock=some w.heap.size) :
  eQ (w4.setCell ⟨bm,k,none⟩ (.slice va n vc)) bR Sl.nil 0 0∧eQ (w4.setCell ⟨bm,k,none⟩ (.slice va n vc)) bm (s.set k va n vc) L G ∧
   eZ (w4.setCell ⟨bm,k,none⟩ (.slice va n vc)) B3 (s.set k va n vc) (fun i=>if i=k then f k++[x] else f i)∧Iv (s.set k va n vc) ∧
   fC (w4.setCell ⟨bm,k,none⟩ (.slice va n vc)) B2 v3 T∧Below B0 w0 (w4.setCell ⟨bm,k,none⟩ (.slice va n vc)):=by
 have hok:=hO k hk;have hap:=zMX hO hA hk (show bm<B3 by omega) hown hg hat;refine ⟨(hR.grown hg (ur hok (by omega))).eA (p:=⟨bm,k,none⟩) (show bm≠bR by omega) _,(hM.grown hg (ur hok (by omega))).Ge hk _ _ _,hap.1,hap.2,?_,?_⟩
 ·
  refine yE (World.ownsRow.kept hT hg ?_) (p:=⟨bm,k,none⟩) h2 _
  cases hv:v3.ownBlock with
  |none=>exact .inl rfl
  |some g =>
   refine .inr fun e=>?_
   have h4:=Gq g hv;have h5:=(World.ownsRow.lt hok g e.symm).1;omega
 exact (zL hb (World.ownsRow.mono hok (show B0≤B3 by omega)) (by omega) hg).setCell (p:=⟨bm,k,none⟩) h0 _
end Go.Proofs.YtcgfilmmokmdjaaGreat
namespace Go.Proofs.YtcgfilmmokmdjaaGreat
open Go.RowKit
abbrev zX (n r md z:Int) (s:Sl) (l g:Int):Array Value:=#[.int .i64 n,.int .i64 r,.int .i64 md,.int .i64 z,.slice (s.a 0) (s.n 0) (s.c 0),.slice (s.a 1) (s.n 1) (s.c 1),.slice (s.a 2) (s.n 2) (s.c 2),.slice (s.a 3) (s.n 3) (s.c 3),.slice (s.a 4) (s.n 4) (s.c 4),.slice (s.a 5) (s.n 5) (s.c 5),.slice (s.a 6) (s.n 6) (s.c 6),.slice (s.a 7) (s.n 7) (s.c 7),.int .i64 l,.int .i64 g]
abbrev zd (n r md z:Int) (s:Sl) (l g:Int):Value:=.agg (zX n r md z s l g)
theorem _root_.Go.RowKit.Below.keeps' {w w':World} (h:Below w.heap.size w w') {p:Addr} {u:Value} (hp:w.cell? p=some u):w'.cell? p=some u:=(h.cell (World.block_lt_of_cell? w p hp)).trans hp
theorem zD5 {w:World} {B:Nat} {e:TypeId} {sz n:Nat} {v:Value} {xs:List Value} {p:Addr} (h:w.ownsRow B e sz v n xs) (hne:v.ownBlock≠some p.block) (u:Value):(w.setCell p u).ownsRow B e sz v n xs:=by
 refine ⟨h.1,?_⟩;rcases h.2 with h0|⟨g,cap,cur,rfl,hb,hg,rest⟩
 ·
  exact .inl h0
 refine .inr ⟨g,cap,cur,rfl,hb,?_,rest⟩;rw[Below.heap_setCell w p u g (fun e=>hne (by rw[← e];rfl))];exact hg
def pts (W:World) (b:Nat) (vs:List (Nat×Value)):World:=vs.foldl (fun W p=>W.setCell ⟨b,p.1,none⟩ p.2) W
theorem zD {B b:Nat} {w0:World} (hb:B≤b):∀ (vs:List (Nat×Value)) {W:World},Below B w0 W→Below B w0 (pts W b vs)
 |[],_,h=>h
 |p::r,_,h=>zD hb r (h.setCell (p:=⟨b,p.1,none⟩) hb p.2)
theorem qj {b B:Nat} {e:TypeId} {sz n:Nat} {v:Value} {xs:List Value} (hne:v.ownBlock≠some b):∀ (vs:List (Nat×Value)) {W:World},W.ownsRow B e sz v n xs→(pts W b vs).ownsRow B e sz v n xs
 |[],_,h=>h
 |p::r,_,h=>qj hne r (zD5 (p:=⟨b,p.1,none⟩) h hne p.2)
theorem wI {b B:Nat} {e:TypeId} {sz n:Nat} {v:Value} {xs:List Value} (hb:b<B) {W:World} (h:W.ownsRow B e sz v n xs) (vs:List (Nat×Value)):(pts W b vs).ownsRow B e sz v n xs:=qj (ur h hb) vs h
theorem yC {b:Nat} {p:Addr} (hne:p.block≠b):∀ (vs:List (Nat×Value)) (W:World),(pts W b vs).cell? p=W.cell? p
 |[],_=>rfl
 |q::r,W=>(yC hne r _).trans (cz (h:=fun e=>hne (by rw[← e])) ..)
theorem xY {b:Nat} (p:Addr):∀ (vs:List (Nat×Value)) (W:World),(pts W b vs).frozen? p=W.frozen? p
 |[],_=>rfl
 |q::r,W=>(xY p r _).trans (by simp)
theorem uf {b:Nat}:∀ (vs:List (Nat×Value)) (W:World),(pts W b vs).heap.size=W.heap.size
 |[],_=>rfl
 |q::r,W=>(uf r _).trans (by simp)
theorem eZ.pts {w:World} {B b:Nat} {s:Sl} {f:Nat→List It} (h:eZ w B s f) (hb:b<B) (vs:List (Nat×Value)):eZ (Go.Proofs.YtcgfilmmokmdjaaGreat.pts w b vs) B s f:=fun i hi=>wI hb (h i hi) vs
structure eO (W:World) (b:Nat) (n r md z:Int) (s:Sl) (l g:Int):Prop where
 n0:W.cell? ⟨b,0,none⟩=some (.int .i64 n)
 n1:W.cell? ⟨b,1,none⟩=some (.int .i64 r)
 n2:W.cell? ⟨b,2,none⟩=some (.int .i64 md)
 n3:W.cell? ⟨b,3,none⟩=some (.int .i64 z)
 c:∀ j,j<8→W.cell? ⟨b,4+j,none⟩=some (s.v j)
 cl:W.cell? ⟨b,12,none⟩=some (.int .i64 l)
 cg:W.cell? ⟨b,13,none⟩=some (.int .i64 g)
 f:∀ i,W.frozen? ⟨b,i,none⟩=false
theorem eO.q {W:World} {b:Nat} {n r md z:Int} {s:Sl} {l g:Int} (h:eO W b n r md z s l g):W.cell? ⟨b,0,none⟩=some (.int .i64 n)∧W.cell? ⟨b,1,none⟩=some (.int .i64 r)∧W.cell? ⟨b,2,none⟩=some (.int .i64 md)∧W.cell? ⟨b,3,none⟩=some (.int .i64 z)∧W.cell? ⟨b,4,none⟩=some (.slice (s.a 0) (s.n 0) (s.c 0))∧W.cell? ⟨b,5,none⟩=some (.slice (s.a 1) (s.n 1) (s.c 1))∧W.cell? ⟨b,6,none⟩=some (.slice (s.a 2) (s.n 2) (s.c 2))∧W.cell? ⟨b,7,none⟩=some (.slice (s.a 3) (s.n 3) (s.c 3))∧W.cell? ⟨b,8,none⟩=some (.slice (s.a 4) (s.n 4) (s.c 4))∧W.cell? ⟨b,9,none⟩=some (.slice (s.a 5) (s.n 5) (s.c 5))∧W.cell? ⟨b,10,none⟩=some (.slice (s.a 6) (s.n 6) (s.c 6))∧W.cell? ⟨b,11,none⟩=some (.slice (s.a 7) (s.n 7) (s.c 7))∧W.cell? ⟨b,12,none⟩=some (.int .i64 l)∧W.cell? ⟨b,13,none⟩=some (.int .i64 g):=⟨h.n0,h.n1,h.n2,h.n3,h.c 0 (by decide),h.c 1 (by decide),h.c 2 (by decide),h.c 3 (by decide),h.c 4 (by decide),h.c 5 (by decide),h.c 6 (by decide),h.c 7 (by decide),h.cl,h.cg⟩
section
variable {W:World} {b:Nat} {n r md z:Int} {s:Sl} {l g:Int}
theorem eO.new (W:World) (n r md z:Int) (s:Sl) (l g:Int) (t:TypeId):eO (W.alloc (.cells (zX n r md z s l g) t)) W.heap.size n r md z s l g:=
 ⟨by simp,by simp,by simp,by simp,fun j hj=>by rcases Jc hj with h|h|h|h|h|h|h|h<;>subst h<;>simp[Sl.v],by simp,by simp,fun i=>by simp⟩
theorem zZ (w:World) (n r md z:Int) (s:Sl) (l g:Int) (t:TypeId):Below w.heap.size w (w.alloc (.cells (zX n r md z s l g) t)):=(aj _ _).alloc (ag _) _
theorem eO.lt (h:eO W b n r md z s l g):b<W.heap.size:=cA W _ h.cl
theorem eO.below {W':World} (h:eO W b n r md z s l g) (hB:Below W.heap.size W W'):eO W' b n r md z s l g:=
 ⟨hB.keeps' h.n0,hB.keeps' h.n1,hB.keeps' h.n2,hB.keeps' h.n3,fun j hj=>hB.keeps' (h.c j hj),hB.keeps' h.cl,hB.keeps' h.cg,fun i=>(hB.frozen (p:=⟨b,i,none⟩) h.lt).trans (h.f i)⟩
theorem eO.eE {c:Nat} (h:eO W b n r md z s l g) (hp:b≠c) (vs:List (Nat×Value)):eO (pts W c vs) b n r md z s l g:=
 ⟨(yC (p:=⟨b,0,none⟩) hp vs W).trans h.n0,(yC (p:=⟨b,1,none⟩) hp vs W).trans h.n1,(yC (p:=⟨b,2,none⟩) hp vs W).trans h.n2,(yC (p:=⟨b,3,none⟩) hp vs W).trans h.n3,fun j hj=>(yC (p:=⟨b,4+j,none⟩) hp vs W).trans (h.c j hj),(yC (p:=⟨b,12,none⟩) hp vs W).trans h.cl,(yC (p:=⟨b,13,none⟩) hp vs W).trans h.cg,fun i=>(xY _ vs W).trans (h.f i)⟩
theorem eO.c0 (h:eO W b n r md z s l g):W.cell? ⟨b,4,none⟩=some (.slice (s.a 0) (s.n 0) (s.c 0)):=h.c 0 (by decide)
theorem eO.c1 (h:eO W b n r md z s l g):W.cell? ⟨b,5,none⟩=some (.slice (s.a 1) (s.n 1) (s.c 1)):=h.c 1 (by decide)
theorem eO.c2 (h:eO W b n r md z s l g):W.cell? ⟨b,6,none⟩=some (.slice (s.a 2) (s.n 2) (s.c 2)):=h.c 2 (by decide)
theorem eO.c3 (h:eO W b n r md z s l g):W.cell? ⟨b,7,none⟩=some (.slice (s.a 3) (s.n 3) (s.c 3)):=h.c 3 (by decide)
theorem eO.c4 (h:eO W b n r md z s l g):W.cell? ⟨b,8,none⟩=some (.slice (s.a 4) (s.n 4) (s.c 4)):=h.c 4 (by decide)
theorem eO.c5 (h:eO W b n r md z s l g):W.cell? ⟨b,9,none⟩=some (.slice (s.a 5) (s.n 5) (s.c 5)):=h.c 5 (by decide)
theorem eO.c6 (h:eO W b n r md z s l g):W.cell? ⟨b,10,none⟩=some (.slice (s.a 6) (s.n 6) (s.c 6)):=h.c 6 (by decide)
theorem eO.c7 (h:eO W b n r md z s l g):W.cell? ⟨b,11,none⟩=some (.slice (s.a 7) (s.n 7) (s.c 7)):=h.c 7 (by decide)
end
abbrev zQ (n r md z:Int) (s:Sl) (l g:Int):List (Nat×Value):=[(0,.int .i64 n),(1,.int .i64 r),(2,.int .i64 md),(3,.int .i64 z),(4,.slice (s.a 0) (s.n 0) (s.c 0)),(5,.slice (s.a 1) (s.n 1) (s.c 1)),(6,.slice (s.a 2) (s.n 2) (s.c 2)),(7,.slice (s.a 3) (s.n 3) (s.c 3)),(8,.slice (s.a 4) (s.n 4) (s.c 4)),(9,.slice (s.a 5) (s.n 5) (s.c 5)),(10,.slice (s.a 6) (s.n 6) (s.c 6)),(11,.slice (s.a 7) (s.n 7) (s.c 7)),(12,.int .i64 l),(13,.int .i64 g)]
abbrev yu (s:Sl) (l g:Int):List (Nat×Value):=[(4,.slice (s.a 0) (s.n 0) (s.c 0)),(5,.slice (s.a 1) (s.n 1) (s.c 1)),(6,.slice (s.a 2) (s.n 2) (s.c 2)),(7,.slice (s.a 3) (s.n 3) (s.c 3)),(8,.slice (s.a 4) (s.n 4) (s.c 4)),(9,.slice (s.a 5) (s.n 5) (s.c 5)),(10,.slice (s.a 6) (s.n 6) (s.c 6)),(11,.slice (s.a 7) (s.n 7) (s.c 7)),(12,.int .i64 l),(13,.int .i64 g)]
theorem eO.all {W:World} {b:Nat} {n r md z:Int} {s:Sl} {l g:Int} (h:eO W b n r md z s l g) (n' r' md' z':Int) (s':Sl) (l' g':Int):eO (pts W b (zQ n' r' md' z' s' l' g')) b n' r' md' z' s' l' g':=by
 obtain ⟨a0,a1,a2,a3,c0,c1,c2,c3,c4,c5,c6,c7,c8,c9⟩:=h.q;refine ⟨?_,?_,?_,?_,fun j hj=>?_,?_,?_,fun i=>(xY _ _ W).trans (h.f i)⟩
 ·
  simp[pts,go_sem,a0]
 ·
  simp[pts,go_sem,a1]
 ·
  simp[pts,go_sem,a2]
 ·
  simp[pts,go_sem,a3]
 ·
  rcases Jc hj with e|e|e|e|e|e|e|e<;>subst e<;>simp[pts,go_sem,c0,c1,c2,c3,c4,c5,c6,c7,Sl.v]
 ·
  simp[pts,go_sem,c8]
 simp[pts,go_sem,c9]
theorem eO.map {W:World} {b:Nat} {n r md z:Int} {s:Sl} {l g:Int} (h:eO W b n r md z s l g) (s':Sl) (l' g':Int):eO (pts W b (yu s' l' g')) b n r md z s' l' g':=by
 obtain ⟨a0,a1,a2,a3,c0,c1,c2,c3,c4,c5,c6,c7,c8,c9⟩:=h.q;refine ⟨?_,?_,?_,?_,fun j hj=>?_,?_,?_,fun i=>(xY _ _ W).trans (h.f i)⟩
 ·
  simp[pts,go_sem,a0]
 ·
  simp[pts,go_sem,a1]
 ·
  simp[pts,go_sem,a2]
 ·
  simp[pts,go_sem,a3]
 ·
  rcases Jc hj with e|e|e|e|e|e|e|e<;>subst e<;>simp[pts,go_sem,c0,c1,c2,c3,c4,c5,c6,c7,Sl.v]
 ·
  simp[pts,go_sem,c8]
 simp[pts,go_sem,c9]
theorem eO.Gr {W:World} {b:Nat} {n r md z:Int} {s:Sl} {l g:Int} (h:eO W b n r md z s l g) (z':Int):eO (pts W b [(3,.int .i64 z')]) b n r md z' s l g:=by
 have a3:=h.n3;have ne:∀ i,i≠3→∀ u,W.cell? ⟨b,i,none⟩=some u→(pts W b [(3,.int .i64 z')]).cell? ⟨b,i,none⟩=some u:=fun i hi u hu=>(cz (h:=fun e=>hi (by injection e with _ e _;exact e.symm)) ..).trans hu
 exact ⟨ne 0 (by decide) _ h.n0,ne 1 (by decide) _ h.n1,ne 2 (by decide) _ h.n2,by simp[pts,go_sem,a3],fun j hj=>ne (4+j) (by omega) _ (h.c j hj),ne 12 (by decide) _ h.cl,ne 13 (by decide) _ h.cg,fun i=>(xY _ _ W).trans (h.f i)⟩
theorem eO.Jz {W:World} {b:Nat} {n r md z:Int} {s:Sl} {l g:Int} (h:eO W b n r md z s l g) (md':Int):eO (pts W b [(2,.int .i64 md')]) b n r md' z s l g:=by
 have a3:=h.n2;have ne:∀ i,i≠2→∀ u,W.cell? ⟨b,i,none⟩=some u→(pts W b [(2,.int .i64 md')]).cell? ⟨b,i,none⟩=some u:=fun i hi u hu=>(cz (h:=fun e=>hi (by injection e with _ e _;exact e.symm)) ..).trans hu
 exact ⟨ne 0 (by decide) _ h.n0,ne 1 (by decide) _ h.n1,by simp[pts,go_sem,a3],ne 3 (by decide) _ h.n3,fun j hj=>ne (4+j) (by omega) _ (h.c j hj),ne 12 (by decide) _ h.cl,ne 13 (by decide) _ h.cg,fun i=>(xY _ _ W).trans (h.f i)⟩
end Go.Proofs.YtcgfilmmokmdjaaGreat
namespace Go.Proofs.YtcgfilmmokmdjaaGreat
open Go.RowKit
abbrev GP:=Gn×Sl
def Iy:GP:=(ix,Sl.nil)
instance:Inhabited GP:=⟨Iy⟩
def pat (l:List GP) (i:Nat):GP:=l.getD i Iy
def iL (x:GP):List Value:=[.int .i64 x.1.num,.int .i64 x.1.rev,.int .i64 x.1.mode,.int .i64 x.1.size,.slice (x.2.a 0) (x.2.n 0) (x.2.c 0),.slice (x.2.a 1) (x.2.n 1) (x.2.c 1),.slice (x.2.a 2) (x.2.n 2) (x.2.c 2),.slice (x.2.a 3) (x.2.n 3) (x.2.c 3),.slice (x.2.a 4) (x.2.n 4) (x.2.c 4),.slice (x.2.a 5) (x.2.n 5) (x.2.c 5),.slice (x.2.a 6) (x.2.n 6) (x.2.c 6),.slice (x.2.a 7) (x.2.n 7) (x.2.c 7),.int .i64 x.1.m.live,.int .i64 x.1.m.d_]
abbrev SI (x:GP):Value:=zd x.1.num x.1.rev x.1.mode x.1.size x.2 x.1.m.live x.1.m.d_
theorem uA (x:GP):(iL x).length=14:=rfl
def ep (l:List GP):List Gn:=l.map Prod.fst
theorem zn (l:List GP):(ep l).length=l.length:=aH ..
theorem yv {l:List GP} {i:Nat}:eV (ep l) i=(pat l i).1:=by
 unfold eV ep pat;rw[ax,ax,b_]
 cases l[i]?<;>rfl
theorem yX {l:List GP} {i:Nat} (h:i<l.length):pat l i∈l:=by
 unfold pat;rw[ax,aB h];exact bI h
structure fD (w:World) (v:Value) (l:List GP):Prop where
 r:iN 14 iL w v l
 m:∀ p∈l,fG w p.2 p.1.m.st
theorem fD.below {w w':World} {v:Value} {l:List GP} (h:fD w v l) (hb:Below w.heap.size w w'):fD w' v l:=⟨iN.below h.r hb,fun p hp=>(h.m p hp).below hb⟩
theorem fD.shape {w:World} {v:Value} {l:List GP} (h:fD w v l):∃ a cap,v=.slice a l.length cap∧l.length≤cap∧cap≤maxLen:=by
 obtain ⟨a,cap,h1,h2,h3,_⟩:=iN.shape h.r (by decide) Iy;exact ⟨a,cap,h1,h2,h3⟩
structure oI (w:World) (b o:Nat) (x:GP):Prop where
 n0:w.cell? ⟨b,o,none⟩=some (.int .i64 x.1.num)
 n1:w.cell? ⟨b,o+1,none⟩=some (.int .i64 x.1.rev)
 n2:w.cell? ⟨b,o+2,none⟩=some (.int .i64 x.1.mode)
 n3:w.cell? ⟨b,o+3,none⟩=some (.int .i64 x.1.size)
 c0:w.cell? ⟨b,o+4,none⟩=some (.slice (x.2.a 0) (x.2.n 0) (x.2.c 0))
 c1:w.cell? ⟨b,o+5,none⟩=some (.slice (x.2.a 1) (x.2.n 1) (x.2.c 1))
 c2:w.cell? ⟨b,o+6,none⟩=some (.slice (x.2.a 2) (x.2.n 2) (x.2.c 2))
 c3:w.cell? ⟨b,o+7,none⟩=some (.slice (x.2.a 3) (x.2.n 3) (x.2.c 3))
 c4:w.cell? ⟨b,o+8,none⟩=some (.slice (x.2.a 4) (x.2.n 4) (x.2.c 4))
 c5:w.cell? ⟨b,o+9,none⟩=some (.slice (x.2.a 5) (x.2.n 5) (x.2.c 5))
 c6:w.cell? ⟨b,o+10,none⟩=some (.slice (x.2.a 6) (x.2.n 6) (x.2.c 6))
 c7:w.cell? ⟨b,o+11,none⟩=some (.slice (x.2.a 7) (x.2.n 7) (x.2.c 7))
 cl:w.cell? ⟨b,o+12,none⟩=some (.int .i64 x.1.m.live)
 cg:w.cell? ⟨b,o+13,none⟩=some (.int .i64 x.1.m.d_)
theorem oI.q {w:World} {b o:Nat} {x:GP} (h:oI w b o x):w.cell? ⟨b,o,none⟩=some (.int .i64 x.1.num)∧w.cell? ⟨b,o+1,none⟩=some (.int .i64 x.1.rev)∧w.cell? ⟨b,o+2,none⟩=some (.int .i64 x.1.mode)∧w.cell? ⟨b,o+3,none⟩=some (.int .i64 x.1.size)∧w.cell? ⟨b,o+4,none⟩=some (.slice (x.2.a 0) (x.2.n 0) (x.2.c 0))∧w.cell? ⟨b,o+5,none⟩=some (.slice (x.2.a 1) (x.2.n 1) (x.2.c 1))∧w.cell? ⟨b,o+6,none⟩=some (.slice (x.2.a 2) (x.2.n 2) (x.2.c 2))∧w.cell? ⟨b,o+7,none⟩=some (.slice (x.2.a 3) (x.2.n 3) (x.2.c 3))∧w.cell? ⟨b,o+8,none⟩=some (.slice (x.2.a 4) (x.2.n 4) (x.2.c 4))∧w.cell? ⟨b,o+9,none⟩=some (.slice (x.2.a 5) (x.2.n 5) (x.2.c 5))∧w.cell? ⟨b,o+10,none⟩=some (.slice (x.2.a 6) (x.2.n 6) (x.2.c 6))∧w.cell? ⟨b,o+11,none⟩=some (.slice (x.2.a 7) (x.2.n 7) (x.2.c 7))∧w.cell? ⟨b,o+12,none⟩=some (.int .i64 x.1.m.live)∧w.cell? ⟨b,o+13,none⟩=some (.int .i64 x.1.m.d_):=⟨h.n0,h.n1,h.n2,h.n3,h.c0,h.c1,h.c2,h.c3,h.c4,h.c5,h.c6,h.c7,h.cl,h.cg⟩
theorem oI.below {w w':World} {b o:Nat} {x:GP} (h:oI w b o x) (hb:Below w.heap.size w w'):oI w' b o x:=
 ⟨hb.keeps' h.n0,hb.keeps' h.n1,hb.keeps' h.n2,hb.keeps' h.n3,hb.keeps' h.c0,hb.keeps' h.c1,hb.keeps' h.c2,hb.keeps' h.c3,hb.keeps' h.c4,hb.keeps' h.c5,hb.keeps' h.c6,hb.keeps' h.c7,hb.keeps' h.cl,hb.keeps' h.cg⟩
theorem oI.Ey {w:World} {b:Nat} {g:Gn} {s:Sl} (h:eO w b g.num g.rev g.mode g.size s g.m.live g.m.d_):oI w b 0 (g,s):=
 ⟨h.n0,h.n1,h.n2,h.n3,h.c0,h.c1,h.c2,h.c3,h.c4,h.c5,h.c6,h.c7,h.cl,h.cg⟩
theorem oI.eE {w:World} {b c o:Nat} {x:GP} (h:oI w b o x) (hp:b≠c) (vs:List (Nat×Value)):oI (pts w c vs) b o x:=
 ⟨(yC (p:=⟨b,o,none⟩) hp vs w).trans h.n0,(yC (p:=⟨b,o+1,none⟩) hp vs w).trans h.n1,(yC (p:=⟨b,o+2,none⟩) hp vs w).trans h.n2,(yC (p:=⟨b,o+3,none⟩) hp vs w).trans h.n3,(yC (p:=⟨b,o+4,none⟩) hp vs w).trans h.c0,(yC (p:=⟨b,o+5,none⟩) hp vs w).trans h.c1,(yC (p:=⟨b,o+6,none⟩) hp vs w).trans h.c2,(yC (p:=⟨b,o+7,none⟩) hp vs w).trans h.c3,(yC (p:=⟨b,o+8,none⟩) hp vs w).trans h.c4,(yC (p:=⟨b,o+9,none⟩) hp vs w).trans h.c5,(yC (p:=⟨b,o+10,none⟩) hp vs w).trans h.c6,(yC (p:=⟨b,o+11,none⟩) hp vs w).trans h.c7,(yC (p:=⟨b,o+12,none⟩) hp vs w).trans h.cl,(yC (p:=⟨b,o+13,none⟩) hp vs w).trans h.cg⟩
theorem fD.at {w:World} {a:Option Addr} {n cap:Nat} {l:List GP} (h:fD w (.slice a n cap) l) {j:Nat} (hj:j<n):∃ b off,a=some ⟨b,off,none⟩∧oI w b (off+j*14) (pat l j):=by
 obtain ⟨a',cap',e,h2,h3,_,h5⟩:=iN.shape h.r (by decide) Iy;injection e with e1 e2 e3;subst e1 e2 e3;obtain ⟨b,off,e,hc⟩:=h5 (by omega);refine ⟨b,off,e,?_,hc j hj 1 _ rfl,hc j hj 2 _ rfl,hc j hj 3 _ rfl,hc j hj 4 _ rfl,hc j hj 5 _ rfl,hc j hj 6 _ rfl,hc j hj 7 _ rfl,hc j hj 8 _ rfl,hc j hj 9 _ rfl,hc j hj 10 _ rfl,hc j hj 11 _ rfl,hc j hj 12 _ rfl,hc j hj 13 _ rfl⟩;have:=hc j hj 0 _ rfl;rwa [bB] at this
theorem fD.Mz {w:World} {b off:Nat} {n cap:Nat} {l:List GP} (h:fD w (.slice (some ⟨b,off,none⟩) n cap) l) {j:Nat} (hj:j<n):oI w b (off+j*14) (pat l j):=by
 obtain ⟨b',o',e,h⟩:=h.at hj;injection e with e;injection e with e1 e2;subst e1 e2;exact h
structure SlP where
 id:Int
 lim:Int
 ro:Bool
 dY:List GP
abbrev zK (i l:Int) (r:Bool) (a:Option Addr) (n c:Nat):Array Value:=#[.int .i64 i,.int .i64 l,.bool r,.slice a n c]
abbrev zO (i l:Int) (r:Bool) (a:Option Addr) (n c:Nat):Value:=.agg (zK i l r a n c)
structure eW (W:World) (b:Nat) (i l:Int) (r:Bool) (a:Option Addr) (n c:Nat):Prop where
 c0:W.cell? ⟨b,0,none⟩=some (.int .i64 i)
 c1:W.cell? ⟨b,1,none⟩=some (.int .i64 l)
 c2:W.cell? ⟨b,2,none⟩=some (.bool r)
 c3:W.cell? ⟨b,3,none⟩=some (.slice a n c)
 f:∀ i,W.frozen? ⟨b,i,none⟩=false
theorem eW.q {W:World} {b:Nat} {i l:Int} {r:Bool} {a:Option Addr} {n c:Nat} (h:eW W b i l r a n c):W.cell? ⟨b,0,none⟩=some (.int .i64 i)∧W.cell? ⟨b,1,none⟩=some (.int .i64 l)∧W.cell? ⟨b,2,none⟩=some (.bool r)∧W.cell? ⟨b,3,none⟩=some (.slice a n c):=⟨h.c0,h.c1,h.c2,h.c3⟩
section
variable {W:World} {b:Nat} {i l:Int} {r:Bool} {a:Option Addr} {n c:Nat}
theorem eW.new (W:World) (i l:Int) (r:Bool) (a:Option Addr) (n c:Nat) (t:TypeId):eW (W.alloc (.cells (zK i l r a n c) t)) W.heap.size i l r a n c:=⟨by simp,by simp,by simp,by simp,fun i=>by simp⟩
theorem zM (w:World) (i l:Int) (r:Bool) (a:Option Addr) (n c:Nat) (t:TypeId):Below w.heap.size w (w.alloc (.cells (zK i l r a n c) t)):=(aj _ _).alloc (ag _) _
theorem eW.lt (h:eW W b i l r a n c):b<W.heap.size:=cA W _ h.c0
theorem eW.below {W':World} (h:eW W b i l r a n c) (hb:Below W.heap.size W W'):eW W' b i l r a n c:=⟨hb.keeps' h.c0,hb.keeps' h.c1,hb.keeps' h.c2,hb.keeps' h.c3,fun i=>(hb.frozen (p:=⟨b,i,none⟩) h.lt).trans (h.f i)⟩
abbrev zR (i l:Int) (r:Bool) (a:Option Addr) (n c:Nat):List (Nat×Value):=[(0,.int .i64 i),(1,.int .i64 l),(2,.bool r),(3,.slice a n c)]
theorem eW.all (h:eW W b i l r a n c) (i' l':Int) (r':Bool) (a':Option Addr) (n' c':Nat):eW (pts W b (zR i' l' r' a' n' c')) b i' l' r' a' n' c':=by
 obtain ⟨a0,a1,a2,a3⟩:=h.q;refine ⟨?_,?_,?_,?_,fun i=>(xY _ _ W).trans (h.f i)⟩
 ·
  simp[pts,go_sem,a0]
 ·
  simp[pts,go_sem,a1]
 ·
  simp[pts,go_sem,a2]
 simp[pts,go_sem,a3]
end
end Go.Proofs.YtcgfilmmokmdjaaGreat
namespace Go.Proofs.YtcgfilmmokmdjaaGreat
open Go.RowKit Go.Shelf
def zHj:Go.Shelf.Ren:=⟨fun|6=>129|15=>167|14=>166|28=>194|29=>195|20=>186|21=>187|22=>188|23=>189|24=>190|25=>191|26=>192|27=>193|46=>204|47=>205|48=>206|49=>207|50=>208|57=>213|n=>n,fun|22=>33|24=>49|25=>216|3=>3|39=>185|0=>0|53=>47|55=>24|4=>4|46=>256|45=>255|50=>221|5=>5|9=>9|66=>270|70=>274|76=>278|77=>279|n=>n,fun|n=>n⟩
theorem Yk:Go.Proofs.SlLaysF0.n6 Tryz.prog zHj:={
 mixed:=by kernel_rfl
 f6:=⟨Tryz.f129.name,by decide,Tryz.func129.trans (aO some (by kernel_rfl))⟩
 f14:=⟨Tryz.f166.name,by decide,Tryz.func166.trans (aO some (by kernel_rfl))⟩
 f15:=Tryz.func167.trans (aO some (by kernel_rfl))
 f20:=⟨Tryz.f186.name,by decide,Tryz.func186.trans (aO some (by kernel_rfl))⟩
 f21:=⟨Tryz.f187.name,by decide,Tryz.func187.trans (aO some (by kernel_rfl))⟩
 f22:=⟨Tryz.f188.name,by decide,Tryz.func188.trans (aO some (by kernel_rfl))⟩
 f23:=⟨Tryz.f189.name,by decide,Tryz.func189.trans (aO some (by kernel_rfl))⟩
 f24:=⟨Tryz.f190.name,by decide,Tryz.func190.trans (aO some (by kernel_rfl))⟩
 f25:=⟨Tryz.f191.name,by decide,Tryz.func191.trans (aO some (by kernel_rfl))⟩
 f26:=⟨Tryz.f192.name,by decide,Tryz.func192.trans (aO some (by kernel_rfl))⟩
 f27:=⟨Tryz.f193.name,by decide,Tryz.func193.trans (aO some (by kernel_rfl))⟩
 f28:=Tryz.func194.trans (aO some (by kernel_rfl))
 f29:=Tryz.func195.trans (aO some (by kernel_rfl))
 f46:=⟨Tryz.f204.name,by decide,Tryz.func204.trans (aO some (by kernel_rfl))⟩
 f47:=Tryz.func205.trans (aO some (by kernel_rfl))
 f48:=Tryz.func206.trans (aO some (by kernel_rfl))
 f49:=⟨Tryz.f207.name,by decide,Tryz.func207.trans (aO some (by kernel_rfl))⟩
 f50:=⟨Tryz.f208.name,by decide,Tryz.func208.trans (aO some (by kernel_rfl))⟩
 f57:=⟨Tryz.f213.name,by decide,Tryz.func213.trans (aO some (by kernel_rfl))⟩
 t0:=Tryz.underlying0
 a0:=Tryz.isAgg0
 z0:=Tryz.sizeOf0
 v0:=Tryz.zeroValue0
 t3:=Tryz.underlying3
 a3:=Tryz.isAgg3
 z3:=Tryz.sizeOf3
 v3:=Tryz.zeroValue3
 t4:=Tryz.underlying4
 a4:=Tryz.isAgg4
 z4:=Tryz.sizeOf4
 v4:=Tryz.zeroValue4
 t5:=Tryz.underlying5
 a5:=Tryz.isAgg5
 z5:=Tryz.sizeOf5
 v5:=Tryz.zeroValue5
 t9:=Tryz.underlying9
 a9:=Tryz.isAgg9
 z9:=Tryz.sizeOf9
 v9:=Tryz.zeroValue9
 t22:=Tryz.underlying33
 a22:=Tryz.isAgg33
 z22:=Tryz.sizeOf33
 v22:=Tryz.zeroValue33
 t25:=Tryz.underlying216
 a25:=Tryz.isAgg216
 z25:=Tryz.sizeOf216
 v25:=Tryz.zeroValue216
 t39:=Tryz.underlying185
 a39:=Tryz.isAgg185
 z39:=Tryz.sizeOf185
 v39:=Tryz.zeroValue185
 t45:=Tryz.underlying255
 a45:=Tryz.isAgg255
 z45:=Tryz.sizeOf255
 v45:=Tryz.zeroValue255
 t46:=Tryz.underlying256
 a46:=Tryz.isAgg256
 z46:=Tryz.sizeOf256
 v46:=Tryz.zeroValue256
 t50:=Tryz.underlying221
 a50:=Tryz.isAgg221
 z50:=Tryz.sizeOf221
 v50:=Tryz.zeroValue221
 t53:=Tryz.underlying47
 a53:=Tryz.isAgg47
 z53:=Tryz.sizeOf47
 v53:=Tryz.zeroValue47
 t55:=Tryz.underlying24
 a55:=Tryz.isAgg24
 z55:=Tryz.sizeOf24
 v55:=Tryz.zeroValue24
 t66:=Tryz.underlying270
 a66:=Tryz.isAgg270
 z66:=Tryz.sizeOf270
 v66:=Tryz.zeroValue270
 t70:=Tryz.underlying274
 a70:=Tryz.isAgg274
 z70:=Tryz.sizeOf274
 v70:=Tryz.zeroValue274
 t76:=Tryz.underlying278
 a76:=Tryz.isAgg278
 z76:=Tryz.sizeOf278
 v76:=Tryz.zeroValue278
 t77:=Tryz.underlying279
 a77:=Tryz.isAgg279
 z77:=Tryz.sizeOf279
 v77:=Tryz.zeroValue279}
def Iz (x y:Int):Int:=if x<y then -1 else if y<x then 1 else 0
theorem PI (x y:Int):(decide (Iz x y<0))=decide (x<y):=by
 unfold Iz
 by_cases h:x<y
 ·
  rw[ah h];simp[h]
 rw[ai h]
 by_cases h2:y<x
 ·
  rw[ah h2];simp[h]
 rw[ai h2];simp[h]
theorem wU (x:Int) (w:World):Calls Tryz.prog 168 #[.int .i64 x] w fun e w'=>e=.returned (.bool false)∧w'=w:=by
 go_enter Tryz.func168,Tryz.ntmps168
 have hx:(x != x)=false:=by simp
 go_wp2_with fail;go_ret;exact ⟨rfl,rfl⟩
theorem zB4 (x y:Int) (w:World):Calls Tryz.prog 131 #[.int .i64 x,.int .i64 y] w fun e w'=>e=.returned (.int .i64 (Iz x y))∧w'=w:=by
 unfold Iz
 by_cases h:x<y
 ·
  rw[ah h]
  go_enter Tryz.func131,Tryz.ntmps131
  go_wp2_with fail;refine (wU _ _).mono ?_;rintro e w1 ⟨rfl,rfl⟩;go_wp2_with fail;refine (wU _ _).mono ?_;rintro e w2 ⟨rfl,rfl⟩;go_wp2_with fail;go_ret;exact ⟨rfl,rfl⟩
 rw[ai h]
 by_cases h2:y<x
 ·
  rw[ah h2]
  go_enter Tryz.func131,Tryz.ntmps131
  go_wp2_with fail;refine (wU _ _).mono ?_;rintro e w1 ⟨rfl,rfl⟩;go_wp2_with fail;refine (wU _ _).mono ?_;rintro e w2 ⟨rfl,rfl⟩;go_wp2_with fail;go_ret;exact ⟨rfl,rfl⟩
 rw[ai h2]
 go_enter Tryz.func131,Tryz.ntmps131
 go_wp2_with fail;refine (wU _ _).mono ?_;rintro e w1 ⟨rfl,rfl⟩;go_wp2_with fail;refine (wU _ _).mono ?_;rintro e w2 ⟨rfl,rfl⟩;go_wp2_with fail;go_ret;exact ⟨rfl,rfl⟩
theorem zHH (x y:It) (w:World):Calls Tryz.prog 130 #[lN x,lN y] w fun e w'=>e=.returned (.int .i64 (Iz x.off y.off))∧∃ q os',w'=Sort.grow (w.drewN q) os':=by
 go_enter Tryz.func130,Tryz.ntmps130
 go_wp2_with fail;refine (zB4 _ _ _).mono ?_;rintro e w1 ⟨rfl,rfl⟩;go_wp2_with fail;go_ret;exact ⟨rfl,0,_,by rw[Sort.alloc_eq_grow,Sort.alloc_eq_grow,Sort.grow_grow];rfl⟩
theorem Yl (l:List It) (t:Nat) (h:t<l.length*4):(zU l)[t]?=some ((iC l.toArray[t/4]!)[t%4]!):=by
 have h4:t/4<l.length:=by omega
 have e:=vW 4 iC fE l (fun x _=>wm x) (t/4) (t%4) h4 (by omega);rw[show t/4*4+t%4=t from by omega] at e;have e2:l.toArray[t/4]! =l.getD (t/4) fE:=by
  rw[getElem!_pos _ _ (by simpa using h4),ax,aB h4];simp
 rw[e2];unfold zU;rw[e];have h5:t%4<(iC (l.getD (t/4) fE)).length:=by rw[wm];omega
 rw[aB h5,getElem!_pos (iC (l.getD (t/4) fE)) (t%4) h5]
theorem Ym {w:World} {g n:Nat} {l:List It} {cur:Array Value} {e:TypeId} (hg:w.heap[g]?=some (.cells cur e (0,0))) (hn:l.length=n) (ht:cur.toList.take (n*4)=zU l):Sort.HoldsK iC 4 w g 0 l.toArray:=by
 intro j hj;rw[Sort.size_flatK,cu] at hj;rw[Sort.get_flatK _ _ _ _ (by rw[cu];exact hj),aI];refine ⟨?_,by simp[World.frozen?,hg]⟩;rw[cell_of_row w g j cur e (0,0) hg];have h:=Yl l j hj;rw[← ht,cH,ah (by omega)] at h
 simpa using h
theorem zG0 {w:World} {g cap:Nat} {d:Array It} (h:Sort.HoldsK iC 4 w g 0 d) (hn:d.size≤cap) (hc:cap≤maxLen):ja w (.slice (some ⟨g,0,none⟩) d.size cap) d.toList:=by
 refine yh (n:=d.size) ⟨by rw[zy];simp,some ⟨g,0,none⟩,cap,rfl,hn,hc,fun h=>by simp at h,fun _=>⟨g,0,rfl,fun j u hj=>?_⟩⟩;have SJ:j<d.toList.length*4:=by
  have:=(List.getElem?_eq_some_iff.1 hj).1
  rwa [zy] at this
 have h2:=(h j (by rw[Sort.size_flatK];simpa using SJ)).1;rw[Sort.get_flatK _ _ _ _ (by simpa using SJ)] at h2;rw[Yl _ _ SJ] at hj;injection hj with hj;subst hj;exact h2
theorem zCt {w:World} {B g n:Nat} {d:Array It} {os:Array Obj} (hB:B≤g) (hg:g<w.heap.size):Below B w (sortWorldK iC 4 w g 0 n d os):=by
 refine ⟨rfl,rfl,rfl,size_sortWorldK_c iC 4 w g 0 n d os,fun k hk=>?_⟩;unfold sortWorldK Sort.grow Sort.putRowK Sort.putRow Sort.mapBlock
 show ((Array.modify _ g _)++os)[k]?=_
 rw[Array.getElem?_append_left (by rw[Array.size_modify];show k<w.heap.size;omega),Array.getElem?_modify,ai (by omega)]
 rfl
theorem zKF {l:List It} {d':Array It} (h:Sort.PermIn 0 l.toArray.size l.toArray d'):l.Perm d'.toList:=by
 obtain ⟨h1,_,h2⟩:=h;have e1:(d'.extract 0 l.toArray.size)=d':=by rw[← h1];simp
 have e2:(l.toArray.extract 0 l.toArray.size)=l.toArray:=by simp
 rw[e1,e2] at h2;exact h2.symm
theorem zHl {d':Array It} {n:Nat} (hn:d'.size=n) (h:Sort.SortedIn (ltOf fun x y:It=>Iz x.off y.off) 0 n d'):d'.toList.Pairwise fun a b=>a.off≤b.off:=by
 rw[List.pairwise_iff_getElem];intro i j hi hj hij;have hi':i<d'.size:=by simpa using hi
 have hj':j<d'.size:=by simpa using hj
 have h2:=h i j (aq _) hij (by omega);unfold ltOf at h2;rw[PI,decide_eq_false_iff_not,getElem!_pos d' i hi',getElem!_pos d' j hj'] at h2
 simpa using h2
theorem zMo:Sort.SWO (ltOf fun x y:It=>Iz x.off y.off) where
 irrefl x:=by unfold ltOf;rw[PI];simp
 trans x y z h1 h2:=by unfold ltOf at *;rw[PI] at *;simp at *;omega
 ntrans x y z h1 h2:=by unfold ltOf at *;rw[PI] at *;simp at *;omega
end Go.Proofs.YtcgfilmmokmdjaaGreat
