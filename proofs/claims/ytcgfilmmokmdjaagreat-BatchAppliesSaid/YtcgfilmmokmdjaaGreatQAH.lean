import Derived.Test.YtcgfilmmokmdjaaGreatMp
import Derived.Maps.AppendAt
import Derived.Shelf.SlSortCmp.KitK
import Derived.Ground.SlsfProg
set_option linter.all false
set_option maxRecDepth 100000
set_option maxHeartbeats 32000000
namespace Go.Proofs.YtcgfilmmokmdjaaGreat
open Go.Proofs.Tryz
def vk (f:Nat->List It) (k:Nat) (v:List It):Nat->List It:=fun i=>if i=k then v else f i
def VB (f:Nat->List It) (k:Nat) (v:List It):vk f k v k=v:=ah rfl
def Sv (f:Nat->List It) {k i:Nat} (h:i≠k) (v:List It):vk f k v i=f i:=ai h
def zCK (f:Nat->List It) (k:Nat) (v:List It):∀ n,n<=k->cat (vk f k v) n=cat f n
 |0,_=>rfl
 |n+1,h=>by
  show cat (vk f k v) n++vk f k v n=cat f n++f n
  rw[zCK f k v n (by omega),Sv f (by omega)]
def zFV (f:Nat->List It) (k:Nat) (v:List It):∀ n,k<n->zz (cat (vk f k v) n)+zz (f k)=zz (cat f n)+zz v
 |0,h=>by omega
 |n+1,h=>by
  show zz (cat (vk f k v) n++vk f k v n)+zz (f k)=zz (cat f n++f n)+zz v
  rw[xW,xW]
  by_cases e:k=n
  ·subst e;rw[zCK f k v k (ag _),VB];omega
  have:=zFV f k v n (by omega);rw[Sv f (by omega)];omega
variable {M:Mp}
def gJ.upd (h:gJ M) {k:Nat} (hk:k<8) {v:List It} (hv:wT v=true) (hs:∀ x∈v,zp x.key=k) {L G:Int}
  (hL:L+(zz (M.st k):Int)=M.live+(zz v:Int)) (g0:0<=G) (g1:G<=1099511627776):gJ ⟨vk M.st k v,L,G⟩:=by
 have OX:=zFV M.st k v 8 hk;refine ⟨fun i hi=>?_,fun i hi x hx=>?_,?_,g0,g1⟩
 ·by_cases e:i=k
  ·show wT (vk M.st k v i)=true
   rw[e,VB];exact hv
  show wT (vk M.st k v i)=true
  rw[Sv _ e];exact h.ok i hi
 ·have hx:x∈vk M.st k v i:=hx
  by_cases e:i=k
  ·rw[e,VB] at hx;rw[e];exact hs x hx
  rw[Sv _ e] at hx;exact h.sp i hi x hx
 show L=(zz (cat (vk M.st k v) 8):Int)
 have hl:=h.lv;rw[show vp M=cat M.st 8 from rfl] at hl;omega
variable {l:List It} {x:It}
def zKw (h:wT l=true) (hx:okB x=true):wT (ins l x)=true:=by
 rw[tC] at h |-;exact ⟨qj h.1 x,Ob x (aZ hx) l h.2⟩
def zJc (h:wT l=true) (key:Int):wT (iB l key)=true:=by
 rw[tC] at h |-;exact ⟨UE h.1 key,fun y hy=>h.2 y (List.mem_filter.1 hy).1⟩
def wK (h:gJ M) (key:Int):zl M key=gF (M.st (zp key)) key:=by unfold zl;rw[ah ((zi M).2 h)]
def Sw (h:gJ M) {x:It} (hx:okB x=true) (hg:M.ew+(jh (zl M x.key):Int)<=1099511627776) :
  wv M x=⟨vk M.st (zp x.key) (ins (M.st (zp x.key)) x),M.live+(xl x:Int)-(jh (zl M x.key):Int),M.ew+(jh (zl M x.key):Int)⟩:=by
 rw[wK h] at hg |-;unfold wv;rw[ah ⟨(zi M).2 h,hx,hg⟩]
 congr 1
 funext i
 unfold vk
 by_cases e:i=zp x.key
 ·rw[ah e,ah e,e]
 rw[ai e,ai e]
def VC (h:gJ M) {key:Int} (hg:M.ew+(jh (zl M key):Int)<=1099511627776) :
  yX M key=⟨vk M.st (zp key) (iB (M.st (zp key)) key),M.live-(jh (zl M key):Int),M.ew+(jh (zl M key):Int)⟩:=by
 have hd:∀ l:List It,gF l key=none->iB l key=l:=fun l hl=>List.filter_eq_self.2 fun y hy=>by
  have:=zEK hl y hy;simp[this]
 have hu:(fun i=>if i=zp key then iB (M.st i) key else M.st i)=vk M.st (zp key) (iB (M.st (zp key)) key):=funext fun i=>by
  unfold vk
  by_cases e:i=zp key
  ·rw[ah e,ah e,e]
  rw[ai e,ai e]
 have hgo:=wK h key;unfold yX;generalize zl M key=o at *
 cases o with
 |none =>
  have e:vk M.st (zp key) (iB (M.st (zp key)) key)=M.st:=funext fun i=>by
   unfold vk
   by_cases e:i=zp key
   ·rw[ah e,e,hd _ hgo.symm]
   rw[ai e]
  obtain ⟨f,L,G⟩:=M
  show (⟨f,L,G⟩:Mp)=⟨_,L-((0:Nat):Int),G+((0:Nat):Int)⟩
  rw[show L-((0:Nat):Int)=L by omega,show G+((0:Nat):Int)=G by omega,e]
 |some y =>
  have LD:M.ew+(xl y:Int)<=1099511627776:=hg
  show (if M.ew+(xl y:Int)<=1099511627776 then _ else M)=_
  rw[ah LD,hu]
  rfl
def zDI (h:gJ M) {n:Int} (h0:0<=n) (hg:M.ew+n<=1099511627776):xS M n=⟨M.st,M.live,M.ew+n⟩:=by
 unfold xS;rw[ah ⟨(zi M).2 h,h0,by omega⟩]
def gJ.ins (h:gJ M) {x:It} (hx:okB x=true) (hg:M.ew+(jh (zl M x.key):Int)<=1099511627776):gJ (wv M x):=by
 rw[Sw h hx hg];have hk:=wy x.key;have h0:=h.g0;refine h.upd hk (zKw (h.ok _ hk) hx) (Ob (p:=fun y=>zp y.key=zp x.key) x rfl _ (h.sp _ hk)) ?_ (by omega) hg;have:=UY x _ (uY (h.ok _ hk));rw[wK h];unfold xl;omega
def gJ.del (h:gJ M) {key:Int} (hg:M.ew+(jh (zl M key):Int)<=1099511627776):gJ (yX M key):=by
 rw[VC h hg];have hk:=wy key;have h0:=h.g0;refine h.upd hk (zJc (h.ok _ hk) key) (fun y hy=>h.sp _ hk y (List.mem_filter.1 hy).1) ?_ (by omega) hg;have:=Ty key _ (uY (h.ok _ hk));rw[wK h];omega
def gJ.Gg (h:gJ M) {n:Int} (h0:0<=n) (hg:M.ew+n<=1099511627776):gJ (xS M n):=by
 rw[zDI h h0 hg];have:=h.g0;exact ⟨h.ok,h.sp,h.lv,by show 0<=M.ew+n;omega,hg⟩
def Sy (o:Option It):jh o<=4127:=by
 cases o with
 |none=>exact aq _
 |some y=>exact wI _
def zHL (M:Mp) (k:Nat) (v:List It) (key:Int):gF (vk M.st k v (zp key)) key=if zp key=k then gF v key else gF (M.st (zp key)) key:=by
 unfold vk;split<;>rfl
def zFg (h:gJ M) {x:It} (hx:okB x=true) (hg:M.ew+(jh (zl M x.key):Int)<=1099511627776) (key:Int) :
  zl (wv M x) key=if x.key=key then some x else zl M key:=by
 rw[wK (h.ins hx hg),Sw h hx hg,wK h key]
 show gF (vk _ _ _ _) key=_
 rw[zHL]
 by_cases e:x.key=key
 ·rw[ah e,<- e,ah rfl,vy]
 rw[ai e]
 by_cases e2:zp key=zp x.key
 ·rw[ah e2,vW x key (fun e3=>e e3.symm),e2]
 rw[ai e2]
def Sz (h:gJ M) {k:Int} (hg:M.ew+(jh (zl M k):Int)<=1099511627776) (key:Int) :
  zl (yX M k) key=if k=key then none else zl M key:=by
 rw[wK (h.del hg),VC h hg,wK h key]
 show gF (vk _ _ _ _) key=_
 rw[zHL]
 by_cases e:k=key
 ·rw[ah e,<- e,ah rfl,pU]
 rw[ai e]
 by_cases e2:zp key=zp k
 ·rw[ah e2,ut k key (fun e3=>e e3.symm),e2]
 rw[ai e2]
def zKg (h:gJ M) {x:It} (hx:okB x=true) (hg:M.ew+(jh (zl M x.key):Int)<=1099511627776):(wv M x).live+(wv M x).ew=M.live+M.ew+(xl x:Int):=by
 rw[Sw h hx hg]
 show M.live+(xl x:Int)-(jh (zl M x.key):Int)+(M.ew+(jh (zl M x.key):Int))=_
 omega
def SA (h:gJ M) {k:Int} (hg:M.ew+(jh (zl M k):Int)<=1099511627776):(yX M k).live+(yX M k).ew=M.live+M.ew:=by
 rw[VC h hg]
 show M.live-(jh (zl M k):Int)+(M.ew+(jh (zl M k):Int))=_
 omega
def gJ.live0 (h:gJ M):0<=M.live:=by
 have:=h.lv;omega
open Go.RowKit
def M0:Mp:=⟨fun _=>[],0,0⟩
structure StM (M:Mp) (k S B:Nat):Prop where
 v:gJ M
 sum:M.live+M.ew=(S:Int)
 le:S<=B
 len:∀ j,(M.st j).length<=k
def zHn {f:Nat->List It} {x:It}:∀ {n},x∈cat f n->∃ i,i<n/\x∈f i
 |0,h=>by cases h
 |n+1,h=>by
  rcases List.mem_append.1 (show x∈cat f n++f n from h) with h|h
  ·obtain ⟨i,hi,h⟩:=zHn h;exact ⟨i,by omega,h⟩
  exact ⟨n,by omega,h⟩
def kC (h:gJ M):zN M=gu (vp M):=by unfold zN;rw[ah ((zi M).2 h)]
def qy (h:gJ M):∀ x∈zN M,pV x:=by
 rw[kC h];refine ZS fun x hx=>?_
 obtain ⟨i,hi,hx⟩:=zHn (show x∈cat M.st 8 from hx);exact (tC.1 (h.ok i hi)).2 x hx
def zCl (h:gJ M):(zz (zN M):Int)=M.live:=by
 rw[kC h,h.sum,h.lv]
def tv (l:List It) (g:Int):Mp:=
 if l.all okB=true/\0<=g/\g<=1099511627776 then ⟨fun i=>sr i (gu l),(zz (gu l):Int),g⟩ else M0
variable {g:Int}
def VE (h:l.all okB=true) (h0:0<=g) (h1:g<=1099511627776):tv l g=⟨fun i=>sr i (gu l),(zz (gu l):Int),g⟩:=ah ⟨h,h0,h1⟩
def zLO (h:¬ (l.all okB=true/\0<=g/\g<=1099511627776)):tv l g=M0:=ai h
def zLs (h:l.all okB=true):∀ x∈l,pV x:=fun x hx=>by
 have:=List.all_eq_true.1 h x hx;unfold okB at this;exact aZ this
def zHf (h:∀ x∈l,pV x):l.all okB=true:=List.all_eq_true.2 fun x hx=>by
 unfold okB;exact aD (h x hx)
def zLl (i:Nat) (T:List It):(sr i T).length<=T.length:=List.length_filter_le _ _
/-! ### The eC Put and Delete -/
def uw (M:Mp) (x:It):Mp:=
 if xQ M=true/\okB x=true/\M.ew+(jh (zl M x.key):Int)<=1099511627776 then tv (ins (zN M) x) (M.ew+(jh (zl M x.key):Int)) else M
def tu (M:Mp) (key:Int):Mp:=
 match zl M key with
 |none=>M
 |some y=>if M.ew+(xl y:Int)<=1099511627776 then tv (iB (zN M) key) (M.ew+(xl y:Int)) else M
/-! ### OY -/
structure OZ (M N:Mp):Prop where
 st:∀ i,i<8->M.st i=N.st i
 l:M.live=N.live
 g:M.ew=N.ew
def OZ.refl (M:Mp):OZ M M:=⟨fun _ _=>rfl,rfl,rfl⟩
def LG (M N:Mp):Bool:=(List.range 8).all (fun i=>decide (M.st i=N.st i))&&(M.live==N.live)&&(M.ew==N.ew)
def zKD (M:Mp) (x:It):OZ (wv M x) (uw M x):=by
 by_cases hv:gJ M
 ·have hv':=(zi M).2 hv
  by_cases hx:okB x=true
  ·by_cases hg:M.ew+(jh (zl M x.key):Int)<=1099511627776
   ·have hp:=qy hv;have ha:=xC M;have hfn:gF (zN M) x.key=zl M x.key:=by
     have:=uI M x.key
     rwa [yb ha] at this
    unfold uw;rw[ah ⟨hv',hx,hg⟩,Sw hv hx hg];have h0:0<=M.ew+(jh (zl M x.key):Int):=by have:=hv.g0;omega
    rw[VE (zHf (Ob x (aZ hx) _ hp)) h0 hg,yb (qj ha x)];refine ⟨fun i hi=>?_,?_,rfl⟩
    ·show vk M.st (zp x.key) (ins (M.st (zp x.key)) x) i=Go.Proofs.YtcgfilmmokmdjaaGreat.sr i (ins (zN M) x)
     rw[zMH ha,kC hv,hv.sr hi];unfold vk
     by_cases e:i=zp x.key
     ·rw[ah e,ah e.symm,e]
     rw[ai e,ai (aQ e)]
    show M.live+(xl x:Int)-(jh (zl M x.key):Int)=(zz (ins (zN M) x):Int)
    have h1:=UY x (zN M) ha;rw[hfn] at h1;have h2:=zCl hv;unfold xl;omega
   unfold uw wv;rw[ai (fun h=>hg (by rw[wK hv];exact h.2.2)),ai (fun h=>hg h.2.2)];exact .refl M
  unfold uw wv;rw[ai (fun h=>hx h.2.1),ai (fun h=>hx h.2.1)];exact .refl M
 unfold uw wv;rw[ai (fun h=>hv ((zi M).1 h.1)),ai (fun h=>hv ((zi M).1 h.1))];exact .refl M
def zJo (M:Mp) (key:Int):OZ (yX M key) (tu M key):=by
 unfold yX tu
 cases hgo:zl M key with
 |none=>exact .refl M
 |some y =>
  have hv:gJ M:=(zi M).1 (wG hgo).1
  show OZ (if M.ew+(xl y:Int)<=1099511627776 then _ else M) (if M.ew+(xl y:Int)<=1099511627776 then _ else M)
  by_cases hg:M.ew+(xl y:Int)<=1099511627776
  ·rw[ah hg,ah hg];have ha:=xC M;have hfn:gF (zN M) key=zl M key:=by
    have:=uI M key
    rwa [yb ha] at this
   have h0:0<=M.ew+(xl y:Int):=by have:=hv.g0;omega
   rw[VE (l:=iB (zN M) key) (zHf fun x hx=>qy hv x (List.mem_filter.1 hx).1) h0 hg,yb (UE ha key)];refine ⟨fun i hi=>?_,?_,rfl⟩
   ·show (if i=zp key then iB (M.st i) key else M.st i)=Go.Proofs.YtcgfilmmokmdjaaGreat.sr i (iB (zN M) key)
    rw[zMC ha,kC hv,hv.sr hi]
    by_cases e:i=zp key
    ·rw[ah e,ah e.symm]
    rw[ai e,ai (aQ e)]
   show M.live-(xl y:Int)=(zz (iB (zN M) key):Int)
   have h1:=Ty key (zN M) ha;rw[hfn,hgo] at h1;have h2:=zCl hv;have h3:jh (some y)=xl y:=rfl;omega
  rw[ai hg,ai hg];exact .refl M
structure Gn where
 num:Int
 rev:Int
 mode:Int
 size:Int
 m:Mp
def uR (x:It):Int:=x.off+(eY x.size.toNat:Int)
def IF (x y:It):Prop:=uR x<=y.off∨uR y<=x.off
instance (x y:It):Decidable (IF x y):=by unfold IF;infer_instance
def Jo (l:List It) (size:Int):Prop:=l.Pairwise IF/\∀ x∈l,uR x<=size
instance (l:List It) (size:Int):Decidable (Jo l size):=by unfold Jo;infer_instance
def uO (l:List It) (size:Int):Bool:=decide (Jo l size)
def zDA {y:It} (h:IF x y):IF y x:=h.symm
def zGQ {l':List It} (h:l.Perm l') (size:Int):Jo l size↔Jo l' size:=by
 unfold Jo;rw[List.Perm.pairwise_iff (fun h=>zDA h) h];exact ⟨fun ⟨h1,h2⟩=>⟨h1,fun x hx=>h2 x (h.mem_iff.2 hx)⟩,fun ⟨h1,h2⟩=>⟨h1,fun x hx=>h2 x (h.mem_iff.1 hx)⟩⟩
variable {n:Nat}
def zMQ (h:n<=4096):0<eY n:=by
 rw[Ns h];have:=xZ n;omega
def qh (h:pV x):x.off<uR x:=by
 have h1:=h.2.2.2;have:=zMQ (n:=x.size.toNat) (by omega);unfold uR;omega
def chain (e:Int):List It->Option Int
 |[]=>some e
 |x::r=>if x.off<e then none else chain (uR x) r
def SC (l:List It) (size:Int):Bool:=match chain 16 l with
 |none=>false
 |some e=>decide (e<=size)
def zCd:∀ (l:List It) (e size:Int),(∀ x∈l,pV x)->l.Pairwise (fun a b=>a.off<=b.off)->(∀ x∈l,e<=x.off∨x.off<e) ->
  ((match chain e l with|none=>false|some e'=>decide (e'<=size))=true↔(l.Pairwise IF/\(∀ x∈l,e<=x.off)/\(∀ x∈l,uR x<=size)/\(l=[]->e<=size)))
 |[],e,size,_,_,_=>by simp[chain]
 |x::r,e,size,hok,hs,_=>by
  have hx:=qh (hok x (by simp));rw[dM] at hs |-;have ih:=zCd r (uR x) size (fun y hy=>hok y (by simp[hy])) hs.2 (fun y _=>by omega)
  by_cases h:x.off<e
  ·have h1:chain e (x::r)=none:=by unfold chain;rw[ah h]
   rw[h1]
   constructor
   ·intro h2;cases h2
   rintro ⟨_,h3,_⟩;have:=h3 x (by simp);omega
  have h1:chain e (x::r)=chain (uR x) r:=by
   show (if x.off<e then none else chain (uR x) r)=_
   rw[ai h]
  rw[h1,ih]
  constructor
  ·rintro ⟨h2,h3,h4,h5⟩;refine ⟨⟨fun y hy=>.inl (h3 y hy),h2⟩,fun y hy=>?_,fun y hy=>?_,fun e=>by cases e⟩
   ·rcases List.mem_cons.1 hy with rfl|hy
    ·omega
    have:=hs.1 y hy;omega
   rcases List.mem_cons.1 hy with rfl|hy
   ·cases r with
    |nil=>exact h5 rfl
    |cons z t =>
     have h6:=h4 z (by simp);have h7:=h3 z (by simp);have h8:=qh (hok z (by simp));omega
   exact h4 y hy
  rintro ⟨⟨h2,h3⟩,h4,h5,_⟩;refine ⟨h3,fun y hy=>?_,fun y hy=>h5 y (by simp[hy]),fun _=>h5 x (by simp)⟩;rcases h2 y hy with h6|h6
  ·exact h6
  have h7:=hs.1 y hy;have h8:=qh (hok y (by simp[hy]));omega
def zKx {l':List It} {size:Int} (hok:∀ x∈l,pV x) (hp:l.Perm l') (hs:l'.Pairwise fun a b=>a.off<=b.off) (p_:16<=size):SC l' size=uO l size:=by
 have O0:∀ x∈l',pV x:=fun x hx=>hok x (hp.mem_iff.2 hx)
 rw[dt];unfold SC uO;rw[zCd l' 16 size O0 hs (fun y _=>by omega),aR,zGQ hp];exact ⟨fun ⟨h1,_,h2,_⟩=>⟨h1,h2⟩,fun ⟨h1,h2⟩=>⟨h1,fun x hx=>(O0 x hx).1,h2,fun _=>p_⟩⟩
structure lI (g:Gn):Prop where
 num:1<=g.num/\g.num<=8
 rev:0<=g.rev/\g.rev<=4294967295
 mode:1<=g.mode/\g.mode<=3
 size:16<=g.size/\g.size<=1048576/\g.size%8=0
 m:xQ g.m=true
 ends:uO (zN g.m) g.size=true
 sum:g.size=16+g.m.live+g.m.ew
def we (g:Gn):Bool:=decide (1<=g.num)&&decide (g.num<=8)&&decide (0<=g.rev)&&decide (g.rev<=4294967295)&&decide (1<=g.mode)&&decide (g.mode<=3)&&decide (16<=g.size)&&decide (g.size<=1048576)&&decide (g.size%8=0)&&xQ g.m&&uO (zN g.m) g.size&&decide (g.size=16+g.m.live+g.m.ew)
def yM (g:Gn):we g=true↔lI g:=by
 unfold we;simp only[aO,aR];exact ⟨fun ⟨⟨⟨⟨⟨⟨⟨⟨⟨⟨⟨a,b⟩,c⟩,d⟩,e⟩,f⟩,g⟩,h⟩,i⟩,j⟩,k⟩,l⟩=>⟨⟨a,b⟩,⟨c,d⟩,⟨e,f⟩,⟨g,h,i⟩,j,k,l⟩,fun h=>⟨⟨⟨⟨⟨⟨⟨⟨⟨⟨⟨h.num.1,h.num.2⟩,h.rev.1⟩,h.rev.2⟩,h.mode.1⟩,h.mode.2⟩,h.size.1⟩,h.size.2.1⟩,h.size.2.2⟩,h.m⟩,h.ends⟩,h.sum⟩⟩
def zFZ {g:Gn} (h:¬ lI g):we g=false:=by
 cases e:we g with
 |false=>rfl
 |true=>exact absurd ((yM g).1 e) h
instance:Inhabited Mp:=⟨⟨fun _=>[],0,0⟩⟩
def gX:Gn:=⟨0,0,0,0,default⟩
instance:Inhabited Gn:=⟨gX⟩
def fh (l:List Gn) (i:Nat):Gn:=l.getD i gX
structure fk where
 id:Int
 lim:Int
 ro:Bool
 ep:List Gn
def DY (s:fk) (i:Nat):Prop:=
 we (fh s.ep i)=true/\(0<i->(fh s.ep (i-1)).num<(fh s.ep i).num)/\((fh s.ep i).mode=1↔i+1=s.ep.length)/\(fh s.ep i).size<=2*s.lim
structure fg (s:fk):Prop where
 id:0<=s.id/\s.id<4
 lim:4136<=s.lim/\s.lim<=262144
 len:1<=s.ep.length/\s.ep.length<=8
 g:∀ i,i<s.ep.length->DY s i
 top:(fh s.ep (s.ep.length-1)).size+(((zN (fh s.ep (s.ep.length-1)).m).length*24:Nat):Int)<=2*s.lim
open Classical in
noncomputable def zb (s:fk):Bool:=decide (fg s)
def zX (s:fk):zb s=true↔fg s:=by unfold zb;simp
def kD {s:fk} (h:¬ fg s):zb s=false:=by unfold zb;simp[h]
def fg.vg {s:fk} (h:fg s) {i:Nat} (hi:i<s.ep.length):lI (fh s.ep i):=(yM _).1 (h.g i hi).1
variable {i:Nat}
def zDX {s:fk} (hi:i<s.ep.length) (h:¬ DY s i):zb s=false:=kD fun hv=>h (hv.g i hi)
structure lJ where
 gen:Int
 mode:Int
 rev:Int
 it:It
 at_:Nat
def xp (l:List Gn) (key:Int):Nat->List lJ
 |0=>[]
 |n+1=>(match zl (fh l n).m key with|some x=>[⟨(fh l n).num,(fh l n).mode,(fh l n).rev,x,n⟩]|none=>[])++xp l key n
noncomputable def yF (s:fk) (key:Int):List lJ:=if zb s=true then xp s.ep key s.ep.length else []
variable {w:World}
def kZ {P:Program} {ops:Array Oper} {o:Oper} {a:Act} {K:Act->World->Prop} {Q:Exit->Act->World->Prop} {E:Prop} (hgd:o.guard=none) (s x:Operand) (t:TypeId)
  (ho:o.op=.call {callee:=.builtin .append,args:=#[s,x],argTypes:=#[t,t]})
  {e:TypeId} {sz bytes:Nat} (hE:wQ P t e sz bytes) (base:Nat)
  {v:Value} {n:Nat} {xs:List Value} (hs:a.eval s=v) (hown:w.ownsRow base e sz v n xs) {ad:Addr} {m c:Nat} {news:List Value} (hx:a.eval x=.slice (some ad) m c)
  (hl:news.length=m*sz) (hnews:∀ j u,news[j]?=some u->w.cell? (ad.add j)=some u)
  (h1:∀ u∈news,u.oneCell'=true) (h63:n+m<=maxLen) (hbytes:(n+m)*bytes<=140737488355328) (hbase:base<=w.heap.size)
  (h:∀ v' w',w'.ownsRow base e sz v' (n+m) (xs++news)->w.grownBy w' v.ownBlock->(v'.ownBlock=v.ownBlock∨v'.ownBlock=some w.heap.size)->K (a.put o.dst v') w') :
  if Region.wanted o (yielded ops a.tmps)=true then Oper.wp P o a w K Q else E:=by
 have hw:Region.wanted o (yielded ops a.tmps)=true:=by simp[Region.wanted,hgd]
 rw[ah hw];obtain ⟨ht,hsz,i,z,hi,hz,hs',hby,hzs⟩:=hE;obtain ⟨v',w',hrun,r1,r2,_,r4⟩:=run_append_own_at (P:=P) w base t o.type e i z sz bytes ht hi hz hs' hby hzs hsz v n xs hown ad m c news hl hnews h1 h63 hbytes hbase;unfold Oper.wp;simp[execOp,ho,resolve,invoke,builtin,hs,hx,hrun,Result.andThen];exact h v' w' r1 r2 r4
def zJh (W:World) (x:It) (k:Nat) (hk:W.heap.size=k):∀ j u,(jk x)[j]?=some u->(W.alloc (xX x)).drew.cell? ((⟨k,0,none⟩:Addr).add j)=some u:=by
 subst hk;intro j u hj;rw[yd,aN]
 show (W.alloc (xX x)).cell? _=some u
 rw[cell_of_row _ _ j _ _ (0,0) (heap_alloc_new W _)];rw[<- Array.getElem?_toList];exact hj
def Ky (s:Sl):Prop:=∀ i j,i<8->j<8->i≠j->(s.v i).ownBlock=none∨(s.v i).ownBlock≠(s.v j).ownBlock
def Ky.nil:Ky Sl.nil:=fun _ _ _ _ _=>.inl rfl
variable {W:World} {b:Nat} {s:Sl}
def eZ.grown {W':World} {l:Int} {row:Option Nat} (h:eZ W b s l g) (hg:W.grownBy W' row) (hne:row≠some b):eZ W' b s l g:=by
 have hn:∀ i,some (⟨b,i,none⟩:Addr).block≠row:=fun i e=>hne e.symm
 refine ⟨fun j hj=>hg.cell (h.c j hj) (hn j),hg.cell h.cl (hn 8),hg.cell h.cg (hn 9),fun i=>?_⟩;rw[World.frozen?_of_block (w:=W) (hg.block b h.lt (hn 0))];exact h.f i
variable {B sz:Nat} {e:TypeId} {v:Value} {xs:List Value}
def tX (h:w.ownsRow B e sz v n xs) {b:Nat} (hb:b<B):v.ownBlock≠some b:=fun e=>by
 have:=(h.lt b e).1;omega
def zN3 {w4:World} {bm k:Nat} {f:Nat->List It} {va:Option Addr} {vc:Nat} (ho:fA w B s f) (hd:Ky s) (hk:k<8) (Kz:bm<B)
  (hown:w4.ownsRow B 49 4 (.slice va n vc) n (zg (f k++[x]))) (hg:w.grownBy w4 (s.v k).ownBlock) (hat:(Value.slice va n vc).ownBlock=(s.v k).ownBlock∨(Value.slice va n vc).ownBlock=some w.heap.size) :
  fA (w4.setCell ⟨bm,k,none⟩ (.slice va n vc)) B (s.set k va n vc) (fun i=>if i=k then f k++[x] else f i)/\Ky (s.set k va n vc):=by
 have hlt:∀ i,i<8->∀ g,(s.v i).ownBlock=some g->g<w.heap.size:=fun i hi g hg=>((ho i hi).lt g hg).2
 constructor
 ·intro i hi
  show fR _ B ((s.set k va n vc).v i) (if i=k then f k++[x] else f i)
  rw[Sl.su]
  by_cases e:i=k
  ·rw[ah e,ah e];exact yW (yJ hown (p:=⟨bm,k,none⟩) Kz _) rfl
  rw[ai e,ai e];exact yJ (World.ownsRow.kept (ho i hi) hg (hd i k hi hk e)) (p:=⟨bm,k,none⟩) Kz _
 intro i j hi hj hij;rw[Sl.su,Sl.su]
 by_cases e:i=k
 ·subst e;rw[ah rfl,ai (aQ hij)];rcases hat with hat|hat
  ·rw[hat];exact hd i j hi hj hij
  rw[hat];refine .inr fun h2=>?_
  have:=hlt j hj _ h2.symm;omega
 rw[ai e]
 by_cases e2:j=k
 ·subst e2;rw[ah rfl];rcases hat with hat|hat
  ·rw[hat];exact hd i j hi hj hij
  rw[hat]
  cases hv:(s.v i).ownBlock with
  |none=>exact .inl rfl
  |some g =>
   refine .inr fun h2=>?_
   injection h2 with h2;have:=hlt i hi g hv;omega
 rw[ai e2];exact hd i j hi hj hij
def zLH {w0 w4:World} {B0 bR bm B2 B3 k:Nat} {f:Nat->List It} {va:Option Addr} {vc:Nat} {v3:Value} {T:List It} {L G:Int}
  (hR:eZ w bR Sl.nil 0 0) (hM:eZ w bm s L G) (hO:fA w B3 s f) (hA:Ky s) (hT:fR w B2 v3 T) (hb:Below B0 w0 w) (h0:B0<=bm) (h1:bR<bm) (h2:bm<B2) (h3:B2<=B3) (Fj:B3<=w.heap.size)
  (Jp:∀ g,v3.ownBlock=some g->g<B3) (hk:k<8) (hown:w4.ownsRow B3 49 4 (.slice va n vc) n (zg (f k++[x]))) (hg:w.grownBy w4 (s.v k).ownBlock)
  (hat:(Value.slice va n vc).ownBlock=(s.v k).ownBlock∨(Value.slice va n vc).ownBlock=some w.heap.size) :
  eZ (w4.setCell ⟨bm,k,none⟩ (.slice va n vc)) bR Sl.nil 0 0/\eZ (w4.setCell ⟨bm,k,none⟩ (.slice va n vc)) bm (s.set k va n vc) L G /\
   fA (w4.setCell ⟨bm,k,none⟩ (.slice va n vc)) B3 (s.set k va n vc) (fun i=>if i=k then f k++[x] else f i)/\Ky (s.set k va n vc) /\
   fR (w4.setCell ⟨bm,k,none⟩ (.slice va n vc)) B2 v3 T/\Below B0 w0 (w4.setCell ⟨bm,k,none⟩ (.slice va n vc)):=by
 have hok:=hO k hk;have hap:=zN3 hO hA hk (show bm<B3 by omega) hown hg hat;refine ⟨(hR.grown hg (tX hok (by omega))).eR (p:=⟨bm,k,none⟩) (show bm≠bR by omega) _,(hM.grown hg (tX hok (by omega))).Jc hk _ _ _,hap.1,hap.2,?_,?_⟩
 ·refine yJ (World.ownsRow.kept hT hg ?_) (p:=⟨bm,k,none⟩) h2 _
  cases hv:v3.ownBlock with
  |none=>exact .inl rfl
  |some g =>
   refine .inr fun e=>?_
   have h4:=Jp g hv;have h5:=(World.ownsRow.lt hok g e.symm).1;omega
 exact (zK hb (World.ownsRow.mono hok (show B0<=B3 by omega)) (by omega) hg).setCell (p:=⟨bm,k,none⟩) h0 _
abbrev zU (n r md z:Int) (s:Sl) (l g:Int):Array Value:=#[.int .i64 n,.int .i64 r,.int .i64 md,.int .i64 z,.slice (s.a 0) (s.n 0) (s.c 0),.slice (s.a 1) (s.n 1) (s.c 1),.slice (s.a 2) (s.n 2) (s.c 2),.slice (s.a 3) (s.n 3) (s.c 3),.slice (s.a 4) (s.n 4) (s.c 4),.slice (s.a 5) (s.n 5) (s.c 5),.slice (s.a 6) (s.n 6) (s.c 6),.slice (s.a 7) (s.n 7) (s.c 7),.int .i64 l,.int .i64 g]
abbrev ze (n r md z:Int) (s:Sl) (l g:Int):Value:=.agg (zU n r md z s l g)
def _root_.Go.RowKit.Below.keeps' {w':World} (h:Below w.heap.size w w') {p:Addr} {u:Value} (hp:w.cell? p=some u):w'.cell? p=some u:=(h.cell (World.block_lt_of_cell? w p hp)).trans hp
def zFI {p:Addr} (h:w.ownsRow B e sz v n xs) (hne:v.ownBlock≠some p.block) (u:Value):(w.setCell p u).ownsRow B e sz v n xs:=by
 refine ⟨h.1,?_⟩;rcases h.2 with h0|⟨g,cap,cur,rfl,hb,hg,rest⟩
 ·exact .inl h0
 refine .inr ⟨g,cap,cur,rfl,hb,?_,rest⟩;rw[Below.heap_setCell w p u g (fun e=>hne (by rw[<- e];rfl))];exact hg
def pts (W:World) (b:Nat) (vs:List (Nat×Value)):World:=vs.foldl (fun W p=>W.setCell ⟨b,p.1,none⟩ p.2) W
def zC {B b:Nat} {w0:World} (hb:B<=b):∀ (vs:List (Nat×Value)) {W:World},Below B w0 W->Below B w0 (pts W b vs)
 |[],_,h=>h
 |p::r,_,h=>zC hb r (h.setCell (p:=⟨b,p.1,none⟩) hb p.2)
def kX {b B:Nat} {e:TypeId} {sz n:Nat} {v:Value} {xs:List Value} (hne:v.ownBlock≠some b):∀ (vs:List (Nat×Value)) {W:World},W.ownsRow B e sz v n xs->(pts W b vs).ownsRow B e sz v n xs
 |[],_,h=>h
 |p::r,_,h=>kX hne r (zFI (p:=⟨b,p.1,none⟩) h hne p.2)
def xY (hb:b<B) {W:World} (h:W.ownsRow B e sz v n xs) (vs:List (Nat×Value)):(pts W b vs).ownsRow B e sz v n xs:=kX (tX h hb) vs h
def yB {b:Nat} {p:Addr} (hne:p.block≠b):∀ (vs:List (Nat×Value)) (W:World),(pts W b vs).cell? p=W.cell? p
 |[],_=>rfl
 |q::r,W=>(yB hne r _).trans (cA (h:=fun e=>hne (by rw[<- e])) ..)
def wA {b:Nat} (p:Addr):∀ (vs:List (Nat×Value)) (W:World),(pts W b vs).frozen? p=W.frozen? p
 |[],_=>rfl
 |q::r,W=>(wA p r _).trans (by simp)
def wh {b:Nat}:∀ (vs:List (Nat×Value)) (W:World),(pts W b vs).heap.size=W.heap.size
 |[],_=>rfl
 |q::r,W=>(wh r _).trans (by simp)
def fA.pts {w:World} {B b:Nat} {s:Sl} {f:Nat->List It} (h:fA w B s f) (hb:b<B) (vs:List (Nat×Value)):fA (Go.Proofs.YtcgfilmmokmdjaaGreat.pts w b vs) B s f:=fun i hi=>xY hb (h i hi) vs
structure eU (W:World) (b:Nat) (n r md z:Int) (s:Sl) (l g:Int):Prop where
 n0:W.cell? ⟨b,0,none⟩=some (.int .i64 n)
 n1:W.cell? ⟨b,1,none⟩=some (.int .i64 r)
 n2:W.cell? ⟨b,2,none⟩=some (.int .i64 md)
 n3:W.cell? ⟨b,3,none⟩=some (.int .i64 z)
 c:∀ j,j<8->W.cell? ⟨b,4+j,none⟩=some (s.v j)
 cl:W.cell? ⟨b,12,none⟩=some (.int .i64 l)
 cg:W.cell? ⟨b,13,none⟩=some (.int .i64 g)
 f:∀ i,W.frozen? ⟨b,i,none⟩=false
variable {r md z:Int}
def eU.q {n:Int} {l:Int} (h:eU W b n r md z s l g):W.cell? ⟨b,0,none⟩=some (.int .i64 n)/\W.cell? ⟨b,1,none⟩=some (.int .i64 r)/\W.cell? ⟨b,2,none⟩=some (.int .i64 md)/\W.cell? ⟨b,3,none⟩=some (.int .i64 z)/\W.cell? ⟨b,4,none⟩=some (.slice (s.a 0) (s.n 0) (s.c 0))/\W.cell? ⟨b,5,none⟩=some (.slice (s.a 1) (s.n 1) (s.c 1))/\W.cell? ⟨b,6,none⟩=some (.slice (s.a 2) (s.n 2) (s.c 2))/\W.cell? ⟨b,7,none⟩=some (.slice (s.a 3) (s.n 3) (s.c 3))/\W.cell? ⟨b,8,none⟩=some (.slice (s.a 4) (s.n 4) (s.c 4))/\W.cell? ⟨b,9,none⟩=some (.slice (s.a 5) (s.n 5) (s.c 5))/\W.cell? ⟨b,10,none⟩=some (.slice (s.a 6) (s.n 6) (s.c 6))/\W.cell? ⟨b,11,none⟩=some (.slice (s.a 7) (s.n 7) (s.c 7))/\W.cell? ⟨b,12,none⟩=some (.int .i64 l)/\W.cell? ⟨b,13,none⟩=some (.int .i64 g):=⟨h.n0,h.n1,h.n2,h.n3,h.c 0 (by decide),h.c 1 (by decide),h.c 2 (by decide),h.c 3 (by decide),h.c 4 (by decide),h.c 5 (by decide),h.c 6 (by decide),h.c 7 (by decide),h.cl,h.cg⟩
section
variable {W:World} {b:Nat} {n r md z:Int} {s:Sl} {l g:Int}
def eU.new (W:World) (n r md z:Int) (s:Sl) (l g:Int) (t:TypeId):eU (W.alloc (.cells (zU n r md z s l g) t)) W.heap.size n r md z s l g:=
 ⟨by simp,by simp,by simp,by simp,fun j hj=>by rcases Li hj with h|h|h|h|h|h|h|h<;>subst h<;>simp[Sl.v],by simp,by simp,fun i=>by simp⟩
def zT (w:World) (n r md z:Int) (s:Sl) (l g:Int) (t:TypeId):Below w.heap.size w (w.alloc (.cells (zU n r md z s l g) t)):=(aj _ _).alloc (ag _) _
def eU.lt (h:eU W b n r md z s l g):b<W.heap.size:=bW W _ h.cl
def eU.bb {W':World} (h:eU W b n r md z s l g) (hB:Below W.heap.size W W'):eU W' b n r md z s l g:=
 ⟨hB.keeps' h.n0,hB.keeps' h.n1,hB.keeps' h.n2,hB.keeps' h.n3,fun j hj=>hB.keeps' (h.c j hj),hB.keeps' h.cl,hB.keeps' h.cg,fun i=>(hB.frozen (p:=⟨b,i,none⟩) h.lt).trans (h.f i)⟩
def eU.eL {c:Nat} (h:eU W b n r md z s l g) (hp:b≠c) (vs:List (Nat×Value)):eU (pts W c vs) b n r md z s l g:=
 ⟨(yB (p:=⟨b,0,none⟩) hp vs W).trans h.n0,(yB (p:=⟨b,1,none⟩) hp vs W).trans h.n1,(yB (p:=⟨b,2,none⟩) hp vs W).trans h.n2,(yB (p:=⟨b,3,none⟩) hp vs W).trans h.n3,fun j hj=>(yB (p:=⟨b,4+j,none⟩) hp vs W).trans (h.c j hj),(yB (p:=⟨b,12,none⟩) hp vs W).trans h.cl,(yB (p:=⟨b,13,none⟩) hp vs W).trans h.cg,fun i=>(wA _ vs W).trans (h.f i)⟩
def eU.c0 (h:eU W b n r md z s l g):W.cell? ⟨b,4,none⟩=some (.slice (s.a 0) (s.n 0) (s.c 0)):=h.c 0 (by decide)
def eU.c1 (h:eU W b n r md z s l g):W.cell? ⟨b,5,none⟩=some (.slice (s.a 1) (s.n 1) (s.c 1)):=h.c 1 (by decide)
def eU.c2 (h:eU W b n r md z s l g):W.cell? ⟨b,6,none⟩=some (.slice (s.a 2) (s.n 2) (s.c 2)):=h.c 2 (by decide)
def eU.c3 (h:eU W b n r md z s l g):W.cell? ⟨b,7,none⟩=some (.slice (s.a 3) (s.n 3) (s.c 3)):=h.c 3 (by decide)
def eU.c4 (h:eU W b n r md z s l g):W.cell? ⟨b,8,none⟩=some (.slice (s.a 4) (s.n 4) (s.c 4)):=h.c 4 (by decide)
def eU.c5 (h:eU W b n r md z s l g):W.cell? ⟨b,9,none⟩=some (.slice (s.a 5) (s.n 5) (s.c 5)):=h.c 5 (by decide)
def eU.c6 (h:eU W b n r md z s l g):W.cell? ⟨b,10,none⟩=some (.slice (s.a 6) (s.n 6) (s.c 6)):=h.c 6 (by decide)
def eU.c7 (h:eU W b n r md z s l g):W.cell? ⟨b,11,none⟩=some (.slice (s.a 7) (s.n 7) (s.c 7)):=h.c 7 (by decide)
end
abbrev zS (n r md z:Int) (s:Sl) (l g:Int):List (Nat×Value):=[(0,.int .i64 n),(1,.int .i64 r),(2,.int .i64 md),(3,.int .i64 z),(4,.slice (s.a 0) (s.n 0) (s.c 0)),(5,.slice (s.a 1) (s.n 1) (s.c 1)),(6,.slice (s.a 2) (s.n 2) (s.c 2)),(7,.slice (s.a 3) (s.n 3) (s.c 3)),(8,.slice (s.a 4) (s.n 4) (s.c 4)),(9,.slice (s.a 5) (s.n 5) (s.c 5)),(10,.slice (s.a 6) (s.n 6) (s.c 6)),(11,.slice (s.a 7) (s.n 7) (s.c 7)),(12,.int .i64 l),(13,.int .i64 g)]
abbrev xN (s:Sl) (l g:Int):List (Nat×Value):=[(4,.slice (s.a 0) (s.n 0) (s.c 0)),(5,.slice (s.a 1) (s.n 1) (s.c 1)),(6,.slice (s.a 2) (s.n 2) (s.c 2)),(7,.slice (s.a 3) (s.n 3) (s.c 3)),(8,.slice (s.a 4) (s.n 4) (s.c 4)),(9,.slice (s.a 5) (s.n 5) (s.c 5)),(10,.slice (s.a 6) (s.n 6) (s.c 6)),(11,.slice (s.a 7) (s.n 7) (s.c 7)),(12,.int .i64 l),(13,.int .i64 g)]
def eU.all {n:Int} {l:Int} (h:eU W b n r md z s l g) (n' r' md' z':Int) (s':Sl) (l' g':Int):eU (pts W b (zS n' r' md' z' s' l' g')) b n' r' md' z' s' l' g':=by
 obtain ⟨a0,a1,a2,a3,c0,c1,c2,c3,c4,c5,c6,c7,c8,c9⟩:=h.q;refine ⟨?_,?_,?_,?_,fun j hj=>?_,?_,?_,fun i=>(wA _ _ W).trans (h.f i)⟩
 ·simp[pts,go_sem,a0]
 ·simp[pts,go_sem,a1]
 ·simp[pts,go_sem,a2]
 ·simp[pts,go_sem,a3]
 ·rcases Li hj with e|e|e|e|e|e|e|e<;>subst e<;>simp[pts,go_sem,c0,c1,c2,c3,c4,c5,c6,c7,Sl.v]
 ·simp[pts,go_sem,c8]
 simp[pts,go_sem,c9]
def eU.map {n:Int} {l:Int} (h:eU W b n r md z s l g) (s':Sl) (l' g':Int):eU (pts W b (xN s' l' g')) b n r md z s' l' g':=by
 obtain ⟨a0,a1,a2,a3,c0,c1,c2,c3,c4,c5,c6,c7,c8,c9⟩:=h.q;refine ⟨?_,?_,?_,?_,fun j hj=>?_,?_,?_,fun i=>(wA _ _ W).trans (h.f i)⟩
 ·simp[pts,go_sem,a0]
 ·simp[pts,go_sem,a1]
 ·simp[pts,go_sem,a2]
 ·simp[pts,go_sem,a3]
 ·rcases Li hj with e|e|e|e|e|e|e|e<;>subst e<;>simp[pts,go_sem,c0,c1,c2,c3,c4,c5,c6,c7,Sl.v]
 ·simp[pts,go_sem,c8]
 simp[pts,go_sem,c9]
def eU.Jq {n:Int} {l:Int} (h:eU W b n r md z s l g) (z':Int):eU (pts W b [(3,.int .i64 z')]) b n r md z' s l g:=by
 have a3:=h.n3;have ne:∀ i,i≠3->∀ u,W.cell? ⟨b,i,none⟩=some u->(pts W b [(3,.int .i64 z')]).cell? ⟨b,i,none⟩=some u:=fun i hi u hu=>(cA (h:=fun e=>hi (by injection e with _ e _;exact e.symm)) ..).trans hu
 exact ⟨ne 0 (by decide) _ h.n0,ne 1 (by decide) _ h.n1,ne 2 (by decide) _ h.n2,by simp[pts,go_sem,a3],fun j hj=>ne (4+j) (by omega) _ (h.c j hj),ne 12 (by decide) _ h.cl,ne 13 (by decide) _ h.cg,fun i=>(wA _ _ W).trans (h.f i)⟩
def eU.O2 {n:Int} {l:Int} (h:eU W b n r md z s l g) (md':Int):eU (pts W b [(2,.int .i64 md')]) b n r md' z s l g:=by
 have a3:=h.n2;have ne:∀ i,i≠2->∀ u,W.cell? ⟨b,i,none⟩=some u->(pts W b [(2,.int .i64 md')]).cell? ⟨b,i,none⟩=some u:=fun i hi u hu=>(cA (h:=fun e=>hi (by injection e with _ e _;exact e.symm)) ..).trans hu
 exact ⟨ne 0 (by decide) _ h.n0,ne 1 (by decide) _ h.n1,by simp[pts,go_sem,a3],ne 3 (by decide) _ h.n3,fun j hj=>ne (4+j) (by omega) _ (h.c j hj),ne 12 (by decide) _ h.cl,ne 13 (by decide) _ h.cg,fun i=>(wA _ _ W).trans (h.f i)⟩
abbrev GP:=Gn×Sl
def LH:GP:=(gX,Sl.nil)
instance:Inhabited GP:=⟨LH⟩
def pat (l:List GP) (i:Nat):GP:=l.getD i LH
def iM (x:GP):List Value:=[.int .i64 x.1.num,.int .i64 x.1.rev,.int .i64 x.1.mode,.int .i64 x.1.size,.slice (x.2.a 0) (x.2.n 0) (x.2.c 0),.slice (x.2.a 1) (x.2.n 1) (x.2.c 1),.slice (x.2.a 2) (x.2.n 2) (x.2.c 2),.slice (x.2.a 3) (x.2.n 3) (x.2.c 3),.slice (x.2.a 4) (x.2.n 4) (x.2.c 4),.slice (x.2.a 5) (x.2.n 5) (x.2.c 5),.slice (x.2.a 6) (x.2.n 6) (x.2.c 6),.slice (x.2.a 7) (x.2.n 7) (x.2.c 7),.int .i64 x.1.m.live,.int .i64 x.1.m.ew]
abbrev VG (x:GP):Value:=ze x.1.num x.1.rev x.1.mode x.1.size x.2 x.1.m.live x.1.m.ew
def tJ (x:GP):(iM x).length=14:=rfl
def ey (l:List GP):List Gn:=l.map Prod.fst
def zk (l:List GP):(ey l).length=l.length:=aH ..
def yj {l:List GP}:fh (ey l) i=(pat l i).1:=by
 unfold fh ey pat;rw[aw,aw,b_]
 cases l[i]?<;>rfl
def yP {l:List GP} (h:i<l.length):pat l i∈l:=by
 unfold pat;rw[aw,aA h];exact bM h
structure fB (w:World) (v:Value) (l:List GP):Prop where
 r:jy 14 iM w v l
 m:∀ p∈l,fN w p.2 p.1.m.st
def fB.bb {w w':World} {v:Value} {l:List GP} (h:fB w v l) (hb:Below w.heap.size w w'):fB w' v l:=⟨jy.bb h.r hb,fun p hp=>(h.m p hp).bb hb⟩
def fB.shape {w:World} {v:Value} {l:List GP} (h:fB w v l):∃ a cap,v=.slice a l.length cap/\l.length<=cap/\cap<=maxLen:=by
 obtain ⟨a,cap,h1,h2,h3,_⟩:=jy.shape h.r (by decide) LH;exact ⟨a,cap,h1,h2,h3⟩
structure q_ (w:World) (b o:Nat) (x:GP):Prop where
 n0:w.cell? ⟨b,o,none⟩=some (.int .i64 x.1.num)
 n1:w.cell? ⟨b,o+1,none⟩=some (.int .i64 x.1.rev)
 n2:w.cell? ⟨b,o+2,none⟩=some (.int .i64 x.1.mode)
 n3:w.cell? ⟨b,o+3,none⟩=some (.int .i64 x.1.size)
 c0:w.cell? ⟨b,o+4,none⟩=some (.slice (x.2.a 0) (x.2.n 0) (x.2.c 0))
 c1:w.cell? ⟨b,o+5,none⟩=some (.slice (x.2.a 1) (x.2.n 1) (x.2.c 1))
 c2:w.cell? ⟨b,o+6,none⟩=some (.slice (x.2.a 2) (x.2.n 2) (x.2.c 2))
 c3:w.cell? ⟨b,o+7,none⟩=some (.slice (x.2.a 3) (x.2.n 3) (x.2.c 3))
 c4:w.cell? ⟨b,o+8,none⟩=some (.slice (x.2.a 4) (x.2.n 4) (x.2.c 4))
 c5:w.cell? ⟨b,o+9,none⟩=some (.slice (x.2.a 5) (x.2.n 5) (x.2.c 5))
 c6:w.cell? ⟨b,o+10,none⟩=some (.slice (x.2.a 6) (x.2.n 6) (x.2.c 6))
 c7:w.cell? ⟨b,o+11,none⟩=some (.slice (x.2.a 7) (x.2.n 7) (x.2.c 7))
 cl:w.cell? ⟨b,o+12,none⟩=some (.int .i64 x.1.m.live)
 cg:w.cell? ⟨b,o+13,none⟩=some (.int .i64 x.1.m.ew)
def q_.q {w:World} {b o:Nat} {x:GP} (h:q_ w b o x):w.cell? ⟨b,o,none⟩=some (.int .i64 x.1.num)/\w.cell? ⟨b,o+1,none⟩=some (.int .i64 x.1.rev)/\w.cell? ⟨b,o+2,none⟩=some (.int .i64 x.1.mode)/\w.cell? ⟨b,o+3,none⟩=some (.int .i64 x.1.size)/\w.cell? ⟨b,o+4,none⟩=some (.slice (x.2.a 0) (x.2.n 0) (x.2.c 0))/\w.cell? ⟨b,o+5,none⟩=some (.slice (x.2.a 1) (x.2.n 1) (x.2.c 1))/\w.cell? ⟨b,o+6,none⟩=some (.slice (x.2.a 2) (x.2.n 2) (x.2.c 2))/\w.cell? ⟨b,o+7,none⟩=some (.slice (x.2.a 3) (x.2.n 3) (x.2.c 3))/\w.cell? ⟨b,o+8,none⟩=some (.slice (x.2.a 4) (x.2.n 4) (x.2.c 4))/\w.cell? ⟨b,o+9,none⟩=some (.slice (x.2.a 5) (x.2.n 5) (x.2.c 5))/\w.cell? ⟨b,o+10,none⟩=some (.slice (x.2.a 6) (x.2.n 6) (x.2.c 6))/\w.cell? ⟨b,o+11,none⟩=some (.slice (x.2.a 7) (x.2.n 7) (x.2.c 7))/\w.cell? ⟨b,o+12,none⟩=some (.int .i64 x.1.m.live)/\w.cell? ⟨b,o+13,none⟩=some (.int .i64 x.1.m.ew):=⟨h.n0,h.n1,h.n2,h.n3,h.c0,h.c1,h.c2,h.c3,h.c4,h.c5,h.c6,h.c7,h.cl,h.cg⟩
def q_.bb {w':World} {o:Nat} {x:GP} (h:q_ w b o x) (hb:Below w.heap.size w w'):q_ w' b o x:=
 ⟨hb.keeps' h.n0,hb.keeps' h.n1,hb.keeps' h.n2,hb.keeps' h.n3,hb.keeps' h.c0,hb.keeps' h.c1,hb.keeps' h.c2,hb.keeps' h.c3,hb.keeps' h.c4,hb.keeps' h.c5,hb.keeps' h.c6,hb.keeps' h.c7,hb.keeps' h.cl,hb.keeps' h.cg⟩
def q_.Gh {g:Gn} (h:eU w b g.num g.rev g.mode g.size s g.m.live g.m.ew):q_ w b 0 (g,s):=
 ⟨h.n0,h.n1,h.n2,h.n3,h.c0,h.c1,h.c2,h.c3,h.c4,h.c5,h.c6,h.c7,h.cl,h.cg⟩
def q_.eL {c o:Nat} {x:GP} (h:q_ w b o x) (hp:b≠c) (vs:List (Nat×Value)):q_ (pts w c vs) b o x:=
 ⟨(yB (p:=⟨b,o,none⟩) hp vs w).trans h.n0,(yB (p:=⟨b,o+1,none⟩) hp vs w).trans h.n1,(yB (p:=⟨b,o+2,none⟩) hp vs w).trans h.n2,(yB (p:=⟨b,o+3,none⟩) hp vs w).trans h.n3,(yB (p:=⟨b,o+4,none⟩) hp vs w).trans h.c0,(yB (p:=⟨b,o+5,none⟩) hp vs w).trans h.c1,(yB (p:=⟨b,o+6,none⟩) hp vs w).trans h.c2,(yB (p:=⟨b,o+7,none⟩) hp vs w).trans h.c3,(yB (p:=⟨b,o+8,none⟩) hp vs w).trans h.c4,(yB (p:=⟨b,o+9,none⟩) hp vs w).trans h.c5,(yB (p:=⟨b,o+10,none⟩) hp vs w).trans h.c6,(yB (p:=⟨b,o+11,none⟩) hp vs w).trans h.c7,(yB (p:=⟨b,o+12,none⟩) hp vs w).trans h.cl,(yB (p:=⟨b,o+13,none⟩) hp vs w).trans h.cg⟩
def fB.at {w:World} {a:Option Addr} {n cap:Nat} {l:List GP} (h:fB w (.slice a n cap) l) {j:Nat} (hj:j<n):∃ b off,a=some ⟨b,off,none⟩/\q_ w b (off+j*14) (pat l j):=by
 obtain ⟨a',cap',e,h2,h3,_,h5⟩:=jy.shape h.r (by decide) LH;injection e with e1 e2 e3;subst e1 e2 e3;obtain ⟨b,off,e,hc⟩:=h5 (by omega);refine ⟨b,off,e,?_,hc j hj 1 _ rfl,hc j hj 2 _ rfl,hc j hj 3 _ rfl,hc j hj 4 _ rfl,hc j hj 5 _ rfl,hc j hj 6 _ rfl,hc j hj 7 _ rfl,hc j hj 8 _ rfl,hc j hj 9 _ rfl,hc j hj 10 _ rfl,hc j hj 11 _ rfl,hc j hj 12 _ rfl,hc j hj 13 _ rfl⟩;have:=hc j hj 0 _ rfl;rwa [bE] at this
def fB.O3 {off:Nat} {cap:Nat} {l:List GP} (h:fB w (.slice (some ⟨b,off,none⟩) n cap) l) {j:Nat} (hj:j<n):q_ w b (off+j*14) (pat l j):=by
 obtain ⟨b',o',e,h⟩:=h.at hj;injection e with e;injection e with e1 e2;subst e1 e2;exact h
structure SlP where
 id:Int
 lim:Int
 ro:Bool
 ep:List GP
abbrev zM (i l:Int) (r:Bool) (a:Option Addr) (n c:Nat):Array Value:=#[.int .i64 i,.int .i64 l,.bool r,.slice a n c]
abbrev zQ (i l:Int) (r:Bool) (a:Option Addr) (n c:Nat):Value:=.agg (zM i l r a n c)
structure fp (W:World) (b:Nat) (i l:Int) (r:Bool) (a:Option Addr) (n c:Nat):Prop where
 c0:W.cell? ⟨b,0,none⟩=some (.int .i64 i)
 c1:W.cell? ⟨b,1,none⟩=some (.int .i64 l)
 c2:W.cell? ⟨b,2,none⟩=some (.bool r)
 c3:W.cell? ⟨b,3,none⟩=some (.slice a n c)
 f:∀ i,W.frozen? ⟨b,i,none⟩=false
def fp.q {i l:Int} {r:Bool} {a:Option Addr} {c:Nat} (h:fp W b i l r a n c):W.cell? ⟨b,0,none⟩=some (.int .i64 i)/\W.cell? ⟨b,1,none⟩=some (.int .i64 l)/\W.cell? ⟨b,2,none⟩=some (.bool r)/\W.cell? ⟨b,3,none⟩=some (.slice a n c):=⟨h.c0,h.c1,h.c2,h.c3⟩
section
variable {W:World} {b:Nat} {i l:Int} {r:Bool} {a:Option Addr} {n c:Nat}
def fp.new (W:World) (i l:Int) (r:Bool) (a:Option Addr) (n c:Nat) (t:TypeId):fp (W.alloc (.cells (zM i l r a n c) t)) W.heap.size i l r a n c:=⟨by simp,by simp,by simp,by simp,fun i=>by simp⟩
def zR (w:World) (i l:Int) (r:Bool) (a:Option Addr) (n c:Nat) (t:TypeId):Below w.heap.size w (w.alloc (.cells (zM i l r a n c) t)):=(aj _ _).alloc (ag _) _
def fp.lt (h:fp W b i l r a n c):b<W.heap.size:=bW W _ h.c0
def fp.bb {W':World} (h:fp W b i l r a n c) (hb:Below W.heap.size W W'):fp W' b i l r a n c:=⟨hb.keeps' h.c0,hb.keeps' h.c1,hb.keeps' h.c2,hb.keeps' h.c3,fun i=>(hb.frozen (p:=⟨b,i,none⟩) h.lt).trans (h.f i)⟩
abbrev zI (i l:Int) (r:Bool) (a:Option Addr) (n c:Nat):List (Nat×Value):=[(0,.int .i64 i),(1,.int .i64 l),(2,.bool r),(3,.slice a n c)]
def fp.all (h:fp W b i l r a n c) (i' l':Int) (r':Bool) (a':Option Addr) (n' c':Nat):fp (pts W b (zI i' l' r' a' n' c')) b i' l' r' a' n' c':=by
 obtain ⟨a0,a1,a2,a3⟩:=h.q;refine ⟨?_,?_,?_,?_,fun i=>(wA _ _ W).trans (h.f i)⟩
 ·simp[pts,go_sem,a0]
 ·simp[pts,go_sem,a1]
 ·simp[pts,go_sem,a2]
 simp[pts,go_sem,a3]
end
open Go.Shelf
def zJC:Go.Shelf.Ren:=⟨fun|6=>129|15=>167|14=>166|28=>194|29=>195|20=>186|21=>187|22=>188|23=>189|24=>190|25=>191|26=>192|27=>193|46=>204|47=>205|48=>206|49=>207|50=>208|57=>213|n=>n,fun|22=>33|24=>49|25=>216|3=>3|39=>185|0=>0|53=>47|55=>24|4=>4|46=>256|45=>255|50=>221|5=>5|9=>9|66=>270|70=>274|76=>278|77=>279|n=>n,fun|n=>n⟩
def zMv:Go.Proofs.SlLaysF0.n6 prog zJC:={
 mixed:=by kernel_rfl
 f6:=⟨f129.name,by decide,func129.trans (aM some (by kernel_rfl))⟩
 f14:=⟨f166.name,by decide,func166.trans (aM some (by kernel_rfl))⟩
 f15:=func167.trans (aM some (by kernel_rfl))
 f20:=⟨f186.name,by decide,func186.trans (aM some (by kernel_rfl))⟩
 f21:=⟨f187.name,by decide,func187.trans (aM some (by kernel_rfl))⟩
 f22:=⟨f188.name,by decide,func188.trans (aM some (by kernel_rfl))⟩
 f23:=⟨f189.name,by decide,func189.trans (aM some (by kernel_rfl))⟩
 f24:=⟨f190.name,by decide,func190.trans (aM some (by kernel_rfl))⟩
 f25:=⟨f191.name,by decide,func191.trans (aM some (by kernel_rfl))⟩
 f26:=⟨f192.name,by decide,func192.trans (aM some (by kernel_rfl))⟩
 f27:=⟨f193.name,by decide,func193.trans (aM some (by kernel_rfl))⟩
 f28:=func194.trans (aM some (by kernel_rfl))
 f29:=func195.trans (aM some (by kernel_rfl))
 f46:=⟨f204.name,by decide,func204.trans (aM some (by kernel_rfl))⟩
 f47:=func205.trans (aM some (by kernel_rfl))
 f48:=func206.trans (aM some (by kernel_rfl))
 f49:=⟨f207.name,by decide,func207.trans (aM some (by kernel_rfl))⟩
 f50:=⟨f208.name,by decide,func208.trans (aM some (by kernel_rfl))⟩
 f57:=⟨f213.name,by decide,func213.trans (aM some (by kernel_rfl))⟩
 t0:=underlying0
 a0:=isAgg0
 z0:=sizeOf0
 v0:=zeroValue0
 t3:=underlying3
 a3:=isAgg3
 z3:=sizeOf3
 v3:=zeroValue3
 t4:=underlying4
 a4:=isAgg4
 z4:=sizeOf4
 v4:=zeroValue4
 t5:=underlying5
 a5:=isAgg5
 z5:=sizeOf5
 v5:=zeroValue5
 t9:=underlying9
 a9:=isAgg9
 z9:=sizeOf9
 v9:=zeroValue9
 t22:=underlying33
 a22:=isAgg33
 z22:=sizeOf33
 v22:=zeroValue33
 t25:=underlying216
 a25:=isAgg216
 z25:=sizeOf216
 v25:=zeroValue216
 t39:=underlying185
 a39:=isAgg185
 z39:=sizeOf185
 v39:=zeroValue185
 t45:=underlying255
 a45:=isAgg255
 z45:=sizeOf255
 v45:=zeroValue255
 t46:=underlying256
 a46:=isAgg256
 z46:=sizeOf256
 v46:=zeroValue256
 t50:=underlying221
 a50:=isAgg221
 z50:=sizeOf221
 v50:=zeroValue221
 t53:=underlying47
 a53:=isAgg47
 z53:=sizeOf47
 v53:=zeroValue47
 t55:=underlying24
 a55:=isAgg24
 z55:=sizeOf24
 v55:=zeroValue24
 t66:=underlying270
 a66:=isAgg270
 z66:=sizeOf270
 v66:=zeroValue270
 t70:=underlying274
 a70:=isAgg274
 z70:=sizeOf274
 v70:=zeroValue274
 t76:=underlying278
 a76:=isAgg278
 z76:=sizeOf278
 v76:=zeroValue278
 t77:=underlying279
 a77:=isAgg279
 z77:=sizeOf279
 v77:=zeroValue279}
def KA (x y:Int):Int:=if x<y then -1 else if y<x then 1 else 0
def SD (x y:Int):(decide (KA x y<0))=decide (x<y):=by
 unfold KA
 by_cases h:x<y
 ·rw[ah h];simp[h]
 rw[ai h]
 by_cases h2:y<x
 ·rw[ah h2];simp[h]
 rw[ai h2];simp[h]
def wt (x:Int) (w:World):Calls prog 168 #[.int .i64 x] w fun e w'=>e=.returned (.bool false)/\w'=w:=by
 go_enter func168,ntmps168
 have hx:(x != x)=false:=by simp
 go_wp2_with fail;go_ret;exact ⟨rfl,rfl⟩
def zC5 (x y:Int) (w:World):Calls prog 131 #[.int .i64 x,.int .i64 y] w fun e w'=>e=.returned (.int .i64 (KA x y))/\w'=w:=by
 unfold KA
 by_cases h:x<y
 ·rw[ah h]
  go_enter func131,ntmps131
  go_wp2_with fail;refine (wt _ _).mono ?_;rintro e w1 ⟨rfl,rfl⟩;go_wp2_with fail;refine (wt _ _).mono ?_;rintro e w2 ⟨rfl,rfl⟩;go_wp2_with fail;go_ret;exact ⟨rfl,rfl⟩
 rw[ai h]
 by_cases h2:y<x
 ·rw[ah h2]
  go_enter func131,ntmps131
  go_wp2_with fail;refine (wt _ _).mono ?_;rintro e w1 ⟨rfl,rfl⟩;go_wp2_with fail;refine (wt _ _).mono ?_;rintro e w2 ⟨rfl,rfl⟩;go_wp2_with fail;go_ret;exact ⟨rfl,rfl⟩
 rw[ai h2]
 go_enter func131,ntmps131
 go_wp2_with fail;refine (wt _ _).mono ?_;rintro e w1 ⟨rfl,rfl⟩;go_wp2_with fail;refine (wt _ _).mono ?_;rintro e w2 ⟨rfl,rfl⟩;go_wp2_with fail;go_ret;exact ⟨rfl,rfl⟩
def zIk (x y:It) (w:World):Calls prog 130 #[mg x,mg y] w fun e w'=>e=.returned (.int .i64 (KA x.off y.off))/\∃ q os',w'=Sort.grow (w.drewN q) os':=by
 go_enter func130,ntmps130
 go_wp2_with fail;refine (zC5 _ _ _).mono ?_;rintro e w1 ⟨rfl,rfl⟩;go_wp2_with fail;go_ret;exact ⟨rfl,0,_,by rw[Sort.alloc_eq_grow,Sort.alloc_eq_grow,Sort.grow_grow];rfl⟩
def zDF (l:List It) (t:Nat) (h:t<l.length*4):(zg l)[t]?=some ((jk l.toArray[t/4]!)[t%4]!):=by
 have h4:t/4<l.length:=by omega
 have e:=uh 4 jk fZ l (fun x _=>vH x) (t/4) (t%4) h4 (by omega);rw[show t/4*4+t%4=t from by omega] at e;have e2:l.toArray[t/4]! =l.getD (t/4) fZ:=by
  rw[getElem!_pos _ _ (by simpa using h4),aw,aA h4];simp
 rw[e2];unfold zg;rw[e];have h5:t%4<(jk (l.getD (t/4) fZ)).length:=by rw[vH];omega
 rw[aA h5,getElem!_pos (jk (l.getD (t/4) fZ)) (t%4) h5]
def zCG {g:Nat} {cur:Array Value} (hg:w.heap[g]?=some (.cells cur e (0,0))) (hn:l.length=n) (ht:cur.toList.take (n*4)=zg l):Sort.HoldsK jk 4 w g 0 l.toArray:=by
 intro j hj;rw[Sort.size_flatK,cD] at hj;rw[Sort.get_flatK _ _ _ _ (by rw[cD];exact hj),aN];refine ⟨?_,by simp[World.frozen?,hg]⟩;rw[cell_of_row w g j cur e (0,0) hg];have h:=zDF l j hj;rw[<- ht,dh,ah (by omega)] at h
 simpa using h
def zIQ {g cap:Nat} {d:Array It} (h:Sort.HoldsK jk 4 w g 0 d) (hn:d.size<=cap) (hc:cap<=maxLen):lg w (.slice (some ⟨g,0,none⟩) d.size cap) d.toList:=by
 refine xF (n:=d.size) ⟨by rw[yR];simp,some ⟨g,0,none⟩,cap,rfl,hn,hc,fun h=>by simp at h,fun _=>⟨g,0,rfl,fun j u hj=>?_⟩⟩;have VH:j<d.toList.length*4:=by
  have:=(List.getElem?_eq_some_iff.1 hj).1
  rwa [yR] at this
 have h2:=(h j (by rw[Sort.size_flatK];simpa using VH)).1;rw[Sort.get_flatK _ _ _ _ (by simpa using VH)] at h2;rw[zDF _ _ VH] at hj;injection hj with hj;subst hj;exact h2
def zD7 {g:Nat} {d:Array It} {os:Array Obj} (hB:B<=g) (hg:g<w.heap.size):Below B w (sortWorldK jk 4 w g 0 n d os):=by
 refine ⟨rfl,rfl,rfl,size_sortWorldK_c jk 4 w g 0 n d os,fun k hk=>?_⟩;unfold sortWorldK Sort.grow Sort.putRowK Sort.putRow Sort.mapBlock
 show ((Array.modify _ g _)++os)[k]?=_
 rw[Array.getElem?_append_left (by rw[Array.size_modify];show k<w.heap.size;omega),Array.getElem?_modify,ai (by omega)]
 rfl
def zLn {d':Array It} (h:Sort.PermIn 0 l.toArray.size l.toArray d'):l.Perm d'.toList:=by
 obtain ⟨h1,_,h2⟩:=h;have e1:(d'.extract 0 l.toArray.size)=d':=by rw[<- h1];simp
 have e2:(l.toArray.extract 0 l.toArray.size)=l.toArray:=by simp
 rw[e1,e2] at h2;exact h2.symm
def zJG {d':Array It} (hn:d'.size=n) (h:Sort.SortedIn (ltOf fun x y:It=>KA x.off y.off) 0 n d'):d'.toList.Pairwise fun a b=>a.off<=b.off:=by
 rw[List.pairwise_iff_getElem];intro i j hi hj hij;have hi':i<d'.size:=by simpa using hi
 have hj':j<d'.size:=by simpa using hj
 have h2:=h i j (aq _) hij (by omega);unfold ltOf at h2;rw[SD,decide_eq_false_iff_not,getElem!_pos d' i hi',getElem!_pos d' j hj'] at h2
 simpa using h2
def zOM:Sort.SWO (ltOf fun x y:It=>KA x.off y.off) where
 irrefl x:=by unfold ltOf;rw[SD];simp
 trans x y z h1 h2:=by unfold ltOf at *;rw[SD] at *;simp at *;omega
 ntrans x y z h1 h2:=by unfold ltOf at *;rw[SD] at *;simp at *;omega
end Go.Proofs.YtcgfilmmokmdjaaGreat
