import Derived.Test.YtcgfilmmokmdjaaGreatRows
import Derived.Test.YtcgfilmmokmdjaaGreatBase
import Derived.Deep.RegionLaw
import Derived.Deep.RegionWith
import Derived.Laws.Bits128
set_option linter.all false
set_option maxRecDepth 100000
set_option maxHeartbeats 32000000
namespace Go.Proofs.YtcgfilmmokmdjaaGreat
open Go.Proofs.Tryz
structure It where
 key:Int
 ck:Int
 off:Int
 size:Int
 deriving DecidableEq
def pV (x:It):Prop:=16<=x.off/\x.off<=1048576/\x.off%8=0/\0<=x.size/\x.size<=4096
instance (x:It):Decidable (pV x):=by unfold pV;exact inferInstance
def okB (x:It):Bool:=decide (pV x)
def fZ:It:=⟨0,0,0,0⟩
instance:Inhabited It:=⟨fZ⟩
def eA (l:List It) (j:Nat):It:=l.getD j fZ
variable {l:List It} {j:Nat}
def qk (h:j<l.length):eA l j∈l:=by
 unfold eA;rw[aw,aA h];exact bM h
def uc {x:It} (h:x∈l):∃ j,j<l.length/\eA l j=x:=by
 obtain ⟨j,hj,e⟩:=List.mem_iff_getElem.1 h;exact ⟨j,hj,by unfold eA;rw[aw,aA hj,bC,e]⟩
def xT (h:j<l.length):l.take (j+1)=l.take j++[eA l j]:=by
 rw[List.take_succ_eq_append_getElem h]
 congr
 unfold eA;rw[aw,aA h];rfl
def wL (l:List It) (k i:Nat):eA (l.drop k) i=eA l (k+i):=by
 unfold eA;rw[aw,cR,<- aw]
def vG {k i:Nat} (h:i<k):eA (l.take k) i=eA l i:=by
 unfold eA;rw[aw,dh,ah h,<- aw]
def um:∀ (a:List It) (i:Nat) (x:It),i<a.length->(a.set i x).take (i+1)=a.take i++[x]
 |[],i,x,h=>by simp at h
 |y::r,0,x,_=>rfl
 |y::r,i+1,x,h=>by
  have:=um r i x (by simpa using h);simp only[aI,dP,List.cons_append];rw[this]
def oC (l:List It) (k:Nat):Prop:=∀ j,j+1<k->(eA l j).key<(eA l (j+1)).key
def mK (l:List It):Prop:=oC l l.length
def Er:List It->Bool
 |[]=>true
 |[_]=>true
 |x::y::r=>decide (x.key<y.key)&&Er (y::r)
def tS:∀ l:List It,Er l=true↔mK l
 |[]=>⟨fun _ _ h=>by simp at h,fun _=>rfl⟩
 |[_]=>⟨fun _ _ h=>by simp at h,fun _=>rfl⟩
 |x::y::r=>by
  unfold Er;rw[aO,aR,tS (y::r)]
  constructor
  ·rintro ⟨h1,h2⟩ j hj
   cases j with
   |zero=>exact h1
   |succ j=>exact h2 j (by simpa using hj)
  intro h;exact ⟨h 0 (by simp),fun j hj=>h (j+1) (by simpa using hj)⟩
def ZM (h:j+1<l.length) (h':(eA l (j+1)).key<=(eA l j).key):Er l=false:=by
 cases e:Er l with
 |false=>rfl
 |true=>exact absurd ((tS l).1 e j h) (by omega)
def oC.succ {k:Nat} (h:oC l k) (h':∀ j,k=j+1->(eA l j).key<(eA l (j+1)).key):oC l (k+1):=fun j hj=>by
 by_cases e:k=j+1
 ·exact h' j e
 exact h j (by omega)
def mK.lt {l:List It} (h:mK l):∀ d i,i+d+1<l.length->(eA l i).key<(eA l (i+d+1)).key
 |0,i,hi=>h i hi
 |d+1,i,hi=>by
  have h1:=h.lt d i (by omega);have h2:=h (i+d+1) (by omega);have e:i+(d+1)+1=i+d+1+1:=by omega
  rw[e];omega
def mK.mono (h:mK l) {i j:Nat} (hij:i<j) (hj:j<l.length):(eA l i).key<(eA l j).key:=by
 have:=h.lt (j-i-1) i (by omega)
 rwa [show i+(j-i-1)+1=j by omega] at this
def wT (l:List It):Bool:=Er l&&l.all okB
def RK {p:It->Bool} (h:∀ j,j<l.length->p (eA l j)=true):l.all p=true:=by
 rw[dE];intro x hx;obtain ⟨j,hj,rfl⟩:=uc hx;exact h j hj
def qd {p:It->Bool} (h:j<l.length) (h':p (eA l j)=false):l.all p=false:=by
 cases e:l.all p with
 |false=>rfl
 |true=>rw[dE] at e;rw[e _ (qk h)] at h';cases h'
def zJH (h1:mK l) (h2:∀ j,j<l.length->okB (eA l j)=true):wT l=true:=by
 unfold wT;rw[(tS l).2 h1,RK h2];rfl
def zMO (h:j<l.length) (h':okB (eA l j)=false):wT l=false:=by
 unfold wT;rw[qd h h',Bool.and_false]
def ZN (h:Er l=false):wT l=false:=by unfold wT;rw[h];rfl
def tC:wT l=true↔mK l/\∀ x∈l,pV x:=by
 unfold wT;rw[aO,tS,dE];exact ⟨fun ⟨a,b⟩=>⟨a,fun x hx=>aZ (b x hx)⟩,fun ⟨a,b⟩=>⟨a,fun x hx=>aD (b x hx)⟩⟩
open Go.RowKit
def jk (x:It):List Value:=[.int .u64 x.key,.int .u32 x.ck,.int .i64 x.off,.int .i64 x.size]
abbrev mg (x:It):Value:=.agg #[.int .u64 x.key,.int .u32 x.ck,.int .i64 x.off,.int .i64 x.size]
abbrev lg (w:World) (v:Value) (l:List It):Prop:=jy 4 jk w v l
def vH (x:It):(jk x).length=4:=rfl
def zIo (k c o s:Int) (w:World) :
  Calls prog 141 #[.agg #[.int .u64 k,.int .u32 c,.int .i64 o,.int .i64 s]] w fun e w'=>e=.returned (.bool (okB ⟨k,c,o,s⟩))/\Below w.heap.size w w':=by
 have HT:Hid (pV ⟨k,c,o,s⟩->okB ⟨k,c,o,s⟩=true):=zh (fun h=>aD h);have HF:Hid (¬ pV ⟨k,c,o,s⟩->okB ⟨k,c,o,s⟩=false):=zh (fun h=>aC h)
 go_enter func141,ntmps141
 go_wp2_with fail
 ·go_ret;refine ⟨zJ ?_,(aj _ _).alloc (ag _) _⟩
  by_cases hs:s<=4096
  ·rw[HT.o ⟨by assumption,by assumption,by assumption,by assumption,hs⟩];exact aD hs
  rw[HF.o (fun h=>hs h.2.2.2.2)];exact aC hs
 all_goals
  go_ret;exact ⟨zJ (HF.o (fun h=>by have h1:=h.1;have h2:=h.2.1;have h3:=h.2.2.1;have h4:=h.2.2.2.1;simp only[] at h1 h2 h3 h4;first|contradiction|omega)).symm,(aj _ _).alloc (ag _) _⟩
def ZO (k c o s:Int) (w:World) :
  Calls prog 127 #[.agg #[.int .u64 k,.int .u32 c,.int .i64 o,.int .i64 s]] w fun e w'=>e=.returned (.bool (okB ⟨k,c,o,s⟩))/\Below w.heap.size w w':=by
 have HT:Hid (pV ⟨k,c,o,s⟩->okB ⟨k,c,o,s⟩=true):=zh (fun h=>aD h);have HF:Hid (¬ pV ⟨k,c,o,s⟩->okB ⟨k,c,o,s⟩=false):=zh (fun h=>aC h)
 go_enter func127,ntmps127
 go_wp2_with fail
 ·go_ret;refine ⟨zJ ?_,(aj _ _).alloc (ag _) _⟩
  by_cases hs:s<=4096
  ·rw[HT.o ⟨by assumption,by assumption,by assumption,by assumption,hs⟩];exact aD hs
  rw[HF.o (fun h=>hs h.2.2.2.2)];exact aC hs
 all_goals
  go_ret;exact ⟨zJ (HF.o (fun h=>by have h1:=h.1;have h2:=h.2.1;have h3:=h.2.2.1;have h4:=h.2.2.2.1;simp only[] at h1 h2 h3 h4;first|contradiction|omega)).symm,(aj _ _).alloc (ag _) _⟩
def zD6 (k c o s:Int) (w:World) :
  Calls prog 140 #[.agg #[.int .u64 k,.int .u32 c,.int .i64 o,.int .i64 s]] w fun e w'=>e=.returned (.bool (!okB ⟨k,c,o,s⟩))/\Below w.heap.size w w':=by
 have H:=zh fun w=>zIo k c o s w
 generalize okB ⟨k,c,o,s⟩=r at *
 go_enter func140,ntmps140
 go_wp2_with fail;refine (H.o _).mono ?_;rintro e w1 ⟨rfl,hb⟩;go_wp2_with fail;go_ret;exact ⟨rfl,zA ((aj _ _).alloc (ag _) _) hb⟩
def lg.bb {w w':World} {v:Value} {l:List It} (h:lg w v l) (hb:Below w.heap.size w w'):lg w' v l:=jy.bb h hb
def lg.shape {w:World} {v:Value} {l:List It} (h:lg w v l):∃ a cap,v=.slice a l.length cap/\l.length<=cap/\cap<=maxLen:=by
 obtain ⟨a,cap,h1,h2,h3,_⟩:=jy.shape h (by decide) fZ;exact ⟨a,cap,h1,h2,h3⟩
def lg.at {w:World} {a:Option Addr} {n cap:Nat} {l:List It} (h:lg w (.slice a n cap) l) {j:Nat} (hj:j<n):∃ b off,a=some ⟨b,off,none⟩ /\
  w.cell? ⟨b,off+j*4,none⟩=some (.int .u64 (eA l j).key)/\w.cell? ⟨b,off+j*4+1,none⟩=some (.int .u32 (eA l j).ck) /\
  w.cell? ⟨b,off+j*4+2,none⟩=some (.int .i64 (eA l j).off)/\w.cell? ⟨b,off+j*4+3,none⟩=some (.int .i64 (eA l j).size):=by
 obtain ⟨a',cap',e,h2,h3,_,h5⟩:=jy.shape h (by decide) fZ;injection e with e1 e2 e3;subst e1 e2 e3;obtain ⟨b,off,e,hc⟩:=h5 (by omega);refine ⟨b,off,e,?_,?_,?_,?_⟩
 ·have:=hc j hj 0 _ rfl;rwa [bE] at this
 ·exact hc j hj 1 _ rfl
 ·exact hc j hj 2 _ rfl
 exact hc j hj 3 _ rfl
def K9:(prog.info? 49).map (fun i=>(i.zero,i.size,i.bytes))=some (some (.agg #[.int .u64 0,.int .u32 0,.int .i64 0,.int .i64 0]),4,32):=by kernel_rfl
def yO:wQ prog 33 49 4 32:=by
 obtain ⟨i,h1,h2,h3,h4⟩:=cq K9;exact ⟨underlying33,by decide,i,_,h1,h2,h3,h4,rfl⟩
def zg (l:List It):List Value:=l.flatMap jk
def wS (l:List It) (k:Nat):zg (l.take k)=(zg l).take (k*4):=ZJ 4 jk l vH k
def tD (l:List It) (k:Nat):zg (l.drop k)=(zg l).drop (k*4):=ZK 4 jk l vH k
def zy (l m:List It):zg (l++m)=zg l++zg m:=by simp[zg]
def xj (x:It):zg [x]=jk x:=by simp[zg]
def tA (x:It) (l:List It):zg (x::l)=jk x++zg l:=rfl
def yR (l:List It):(zg l).length=l.length*4:=ye 4 jk l (fun x _=>vH x)
def zv (l:List It):∀ u∈zg l,u.oneCell'=true:=by
 intro u hu;obtain ⟨x,_,hx⟩:=List.mem_flatMap.1 hu;simp[jk] at hx;rcases hx with rfl|rfl|rfl|rfl<;>rfl
variable {w:World} {v:Value}
def un (h:lg w v l):Rd w 4 v l.length (zg l):=h.2
variable {n:Nat}
def xF (h:Rd w 4 v n (zg l)):lg w v l:=by
 have e:l.length=n:=by
  have:=h.1;rw[yR] at this;omega
 refine ⟨fun x _=>vH x,?_⟩;rw[e];exact h
abbrev fR (w:World) (base:Nat) (v:Value) (l:List It):Prop:=w.ownsRow base 49 4 v l.length (zg l)
variable {base:Nat}
def yW {xs:List Value} (h:w.ownsRow base 49 4 v n xs) (e:xs=zg l):fR w base v l:=by
 subst e;have:l.length=n:=by have:=h.1;rw[yR] at this;omega
 unfold fR;rw[this];exact h
def fR.rd (h:fR w base v l):lg w v l:=xF (zr h)
def C7 {cap:Nat} (h:n<=cap) (h':cap<=maxLen):n<=9223372036854775807:=by unfold maxLen at h';omega
def Uo (v:Value) (l:List It) (w:World) (h:lg w v l) :
  Calls prog 138 #[v] w fun e w'=>e=.returned (.bool (Er l))/\Below w.heap.size w w':=by
 obtain ⟨a,cap,rfl,h1,h2⟩:=h.shape;have HT:Hid (oC l l.length->Er l=true):=zh (fun h=>(tS l).2 h);have HF:Hid (∀ j,j+1<l.length->_):=zh (fun j=>ZM (l:=l) (j:=j));have hm:=C7 h1 h2;generalize hn:l.length=n at *;have Hr:=zh h;clear h h1 h2 hn
 go_enter func138,ntmps138
 go_wp2_with fail
 go_loopw [7] (fun i wr=>∃ k:Nat,k<=n/\i=.int .i64 (k:Int)/\oC l k/\Below w.heap.size w wr) (fun i _=>n-(intOf i).toNat)
 case atStart=>exact ⟨0,aq _,rfl,fun j hj=>absurd hj (by omega),aj _ _⟩
 obtain ⟨k,hk,rfl,B_,hb⟩:=hrel;have FR:=zh B_;have Hb:=zh hb;have hB:=hb.size;clear B_ hb
 by_cases hlt:k<n
 ·have hr:=Hr.o.bb Hb.o;obtain ⟨b,off,rfl,c0,c1,c2,c3⟩:=hr.at hlt
  by_cases h0:k=0
  ·subst h0;rw[Nat.zero_mul,bE] at c0 c1 c2 c3;clear hr;go_wp2_with fail
   go_quiet (fail)
   go_wp2_with fail;exact ⟨⟨1,by omega,by go_num,fun j hj=>absurd hj (by omega),below_drewN (Hb.o.alloc hB _) _⟩,by simp[intOf];omega⟩
  obtain ⟨j,rfl⟩:∃ j,k=j+1:=⟨k-1,by omega⟩
  have hd:decide ((0:Int)<((j+1:Nat):Int))=true:=by simp
  obtain ⟨_,_,e,d0,_⟩:=hr.at (show j<n by omega);injection e with e;injection e with e1 e2;subst e1 e2;generalize e1:(eA l (j+1)).key=x at *;generalize e2:(eA l j).key=y at *;generalize (eA l (j+1)).ck=x1 at *;generalize (eA l (j+1)).off=x2 at *;generalize (eA l (j+1)).size=x3 at *;have E:=zh (And.intro e1 e2);clear e1 e2 h0 hr;have hne:∀ o n,((wr.alloc o).drewN n).cell? ⟨b,off+j*4,none⟩=some (.int .u64 y):=fun o n=>Below.keeps (below_drewN ((aj _ _).alloc (ag _) o) n) _ _ d0
  have i1:(j:Int)+1<(n:Int):=by omega
  have i2:(j:Int)<(n:Int):=by omega
  have j1:IntKind.i64.wrap (j:Int)=(j:Int):=aF _ (by omega);go_wp2_with fail
  go_quiet (fail)
  clear j1 i1 i2;go_wp2_with fail
  ·have hle:x<=y:=by assumption
   go_ret;exact ⟨zJ (HF.o j hlt (by rw[E.o.1,E.o.2];exact hle)).symm,below_drewN (Hb.o.alloc hB _) _⟩
  have hxy:y<x:=by assumption
  refine ⟨⟨j+1+1,by omega,by go_num,FR.o.succ (fun i e=>?_),below_drewN (Hb.o.alloc hB _) _⟩,by simp[intOf];omega⟩;obtain rfl:j=i:=by omega
  rw[E.o.1,E.o.2];exact hxy
 obtain rfl:k=n:=by omega
 go_wp2_with fail;go_ret;exact ⟨zJ (HT.o FR.o).symm,Hb.o⟩
def zLp (v:Value) (l:List It) (w:World) (h:lg w v l) :
  Calls prog 178 #[v,.func (.func 140) #[] #[]] w fun e w'=>(∃ k:Int,e=.returned (.int .i64 k)/\decide (0<=k)=!l.all okB)/\Below w.heap.size w w':=by
 obtain ⟨a,cap,rfl,h1,h2⟩:=h.shape;have HT:Hid ((∀ j,j<l.length->_)->_):=zh (RK (l:=l) (p:=okB));have HF:Hid (∀ j,j<l.length->_->_):=zh (fun j=>qd (l:=l) (p:=okB) (j:=j));have hm:=C7 h1 h2;generalize hn:l.length=n at *;have Hr:=zh h;clear h h1 h2 hn
 go_enter func178,ntmps178
 go_wp2_with fail
 go_loopw [8] (fun i wr=>∃ k:Nat,k<=n/\i=.int .i64 (k:Int)/\(∀ j,j<k->okB (eA l j)=true)/\Below w.heap.size w wr) (fun i _=>n-(intOf i).toNat)
 case atStart=>exact ⟨0,aq _,rfl,fun j hj=>absurd hj (by omega),aj _ _⟩
 obtain ⟨k,hk,rfl,hok,hb⟩:=hrel;have nr:=zh hok;have Hb:=zh hb;have hB:=hb.size;clear hok hb
 by_cases hlt:k<n
 ·have hr:=Hr.o.bb Hb.o;obtain ⟨b,off,rfl,c0,c1,c2,c3⟩:=hr.at hlt;have HV:=zh fun w=>zD6 (eA l k).key (eA l k).ck (eA l k).off (eA l k).size w
  generalize hx:eA l k=x at *;have EX:=zh hx;clear hx;clear hr;go_wp2_with fail;refine (HV.o _).mono ?_;rintro e w1 ⟨rfl,hb1⟩;have nS:=zh (zA Hb.o hb1)
  cases hx:okB x
  ·have HX:=zh hx;clear hb1 hx;go_wp2_with fail;go_ret;refine ⟨⟨k,rfl,?_⟩,nS.o⟩;rw[HF.o k hlt (by rw[EX.o];exact HX.o)];simp
  have HX:=zh hx;clear hb1 hx;go_wp2_with fail;refine ⟨⟨k+1,by omega,by go_num,fun j hj=>?_,nS.o⟩,by simp[intOf];omega⟩
  by_cases e:j=k
  ·rw[e,EX.o];exact HX.o
  exact nr.o j (by omega)
 obtain rfl:k=n:=by omega
 go_wp2_with fail;go_ret;refine ⟨⟨-1,rfl,?_⟩,Hb.o⟩;rw[HT.o nr.o];rfl
def zJ8 (v:Value) (l:List It) (w:World) (h:lg w v l) :
  Calls prog 139 #[v,.func (.func 140) #[] #[]] w fun e w'=>e=.returned (.bool (!l.all okB))/\Below w.heap.size w w':=by
 have HA:=zh (zLp v l w h);obtain ⟨a,cap,rfl,h1,h2⟩:=h.shape;clear h h1 h2
 go_enter func139,ntmps139
 go_wp2_with fail;refine HA.o.mono ?_;rintro e w1 ⟨⟨k,rfl,hk⟩,hb1⟩;have Hk:=zh hk;have nS:=zh hb1;clear hk hb1;go_wp2_with fail;go_ret;exact ⟨zJ Hk.o,nS.o⟩
def ZP (v:Value) (l:List It) (w:World) (h:lg w v l) :
  Calls prog 99 #[v] w fun e w'=>e=.returned (.bool (wT l))/\Below w.heap.size w w':=by
 have HA:=zh (Uo v l w h);have HC:=zh (fun w h=>zJ8 v l w h);have Hr:=zh h;obtain ⟨a,cap,rfl,h1,h2⟩:=h.shape;clear h h1 h2
 go_enter func99,ntmps99
 go_wp2_with fail;refine HA.o.mono ?_;rintro e w1 ⟨rfl,hb1⟩;have nS:=zh hb1
 cases hab:Er l
 ·have HF:=zh (ZN hab);clear hb1 hab;go_wp2_with fail;go_ret;exact ⟨zJ HF.o.symm,nS.o⟩
 have HF:=zh (show wT l=l.all okB by unfold wT;rw[hab];rfl);clear hb1 hab;go_wp2_with fail;refine (HC.o w1 (Hr.o.bb nS.o)).mono ?_;rintro e w2 ⟨rfl,hb2⟩;have E9:=zh (zA nS.o hb2);clear hb2;go_wp2_with fail;go_ret;exact ⟨zJ (HF.o.symm),E9.o⟩
def zJ1 (v:Value) (l:List It) (w:World) (h:lg w v l) :
  Calls prog 161 #[v] w fun e w'=>e=.returned (.bool (wT l))/\Below w.heap.size w w':=by
 obtain ⟨a,cap,rfl,h1,h2⟩:=h.shape;have HT:Hid (oC l l.length->(∀ j,j<l.length->okB (eA l j)=true)->wT l=true):=zh (zJH);have Up:Hid (∀ j,j+1<l.length->(eA l (j+1)).key<=(eA l j).key->wT l=false):=zh (fun j h1 h2=>ZN (ZM h1 h2));have RM:Hid (∀ j,j<l.length->okB (eA l j)=false->wT l=false):=zh (fun j=>zMO (l:=l) (j:=j));have hm:=C7 h1 h2;generalize hn:l.length=n at *;have Hr:=zh h;clear h h1 h2 hn
 go_enter func161,ntmps161
 go_wp2_with fail
 go_loopw [3] (fun i wr=>∃ k:Nat,k<=n/\i=.int .i64 (k:Int)/\oC l k/\(∀ j,j<k->okB (eA l j)=true)/\Below w.heap.size w wr) (fun i _=>n-(intOf i).toNat)
 case atStart=>exact ⟨0,aq _,rfl,fun j hj=>absurd hj (by omega),fun j hj=>absurd hj (by omega),aj _ _⟩
 obtain ⟨k,hk,rfl,B_,hok,hb⟩:=hrel;have FR:=zh B_;have nr:=zh hok;have Hb:=zh hb;have hB:=hb.size;clear B_ hok hb
 by_cases hlt:k<n
 ·have hr:=Hr.o.bb Hb.o;obtain ⟨b,off,rfl,c0,c1,c2,c3⟩:=hr.at hlt;obtain ⟨r,Uq⟩:∃ r,okB (eA l k)=r:=⟨_,rfl⟩
  have HV:=zh fun w=>ZO (eA l k).key (eA l k).ck (eA l k).off (eA l k).size w
  rw[show okB ⟨(eA l k).key,(eA l k).ck,(eA l k).off,(eA l k).size⟩=r from Uq] at HV;have HR:=zh Uq;clear Uq;have f1:=zB c1;have f2:=zB c2;have f3:=zB c3;have i1:(k:Int)<(n:Int):=by omega
  have iq:=zh (RM.o k hlt);rw[HR.o] at iq
  cases r
  ·have f0:=zB c0;generalize eA l k=x at *;clear c0 c1 c2 c3 hr;go_wp2_with fail;refine zD (by kernel_rfl) (by kernel_rfl) ?_
   repeat (go_big_quiet_step ((exact zH (HV.o _))))
   refine ay ?_;intro _ hw';obtain ⟨q,hw'⟩:=hw';subst hw';go_wp2_with fail;go_ret;exact ⟨zJ (iq.o (by first|trivial|rfl)).symm,zA Hb.o q.h⟩
  have HK:=zh (show ∀ j,j<k+1->okB (eA l j)=true from fun j hj=>by
   by_cases e:j=k
   ·rw[e];exact HR.o
   exact nr.o j (by omega))
  by_cases h0:k=0
  ·subst h0;rw[Nat.zero_mul,bE] at c0 f1 f2 f3;have f0:=zB c0;clear c0 c1 c2 c3 hr;generalize eA l 0=x at *;go_wp2_with fail;refine zD (by kernel_rfl) (by kernel_rfl) ?_
   repeat (go_big_quiet_step ((exact zH (HV.o _))))
   refine ay ?_;intro _ hw';obtain ⟨q,hw'⟩:=hw';subst hw';go_wp2_with fail;exact ⟨⟨1,by omega,by go_num,fun j hj=>absurd hj (by omega),HK.o,zA Hb.o q.h⟩,by simp[intOf];omega⟩
  obtain ⟨j,rfl⟩:∃ j,k=j+1:=⟨k-1,by omega⟩
  have hd:decide ((0:Int)<((j+1:Nat):Int))=true:=by simp
  have f0:=zB c0;obtain ⟨_,_,e,d0,_⟩:=hr.at (show j<n by omega);injection e with e;injection e with e1 e2;subst e1 e2;have g0:=zB d0;have FT:=zh (Up.o j hlt)
  have HK3:=zh (show (eA l j).key<(eA l (j+1)).key->oC l (j+1+1) from fun h=>FR.o.succ fun i e=>by
   obtain rfl:j=i:=by omega
   exact h)
  clear c0 c1 c2 c3 hr d0;generalize eA l (j+1)=x at *;generalize eA l j=y at *;have i2:(j:Int)<(n:Int):=by omega
  have i3:(j:Int)+1<(n:Int):=by omega
  have j1:IntKind.i64.wrap (j:Int)=(j:Int):=aF _ (by omega);go_wp2_with fail;refine zD (by kernel_rfl) (by kernel_rfl) ?_
  repeat (go_big_quiet_step ((exact zH (HV.o _))))
  refine ay ?_;intro _ hw';obtain ⟨q,hw'⟩:=hw';subst hw';clear i2 i3 j1;go_wp2_with fail
  ·have hle:x.key<=y.key:=by assumption
   go_ret;exact ⟨zJ (FT.o hle).symm,zA Hb.o q.h⟩
  have hxy:y.key<x.key:=by assumption
  exact ⟨⟨j+1+1,by omega,by go_num,HK3.o hxy,HK.o,zA Hb.o q.h⟩,by simp[intOf];omega⟩
 obtain rfl:k=n:=by omega
 go_wp2_with fail;go_ret;exact ⟨zJ (HT.o FR.o nr.o).symm,Hb.o⟩
def ins:List It->It->List It
 |[],x=>[x]
 |y::r,x=>if y.key<x.key then y::ins r x else if y.key=x.key then x::r else x::y::r
def gu (l:List It):List It:=l.foldl ins []
def RN:∀ (out:List It) (x:It) (k:Nat),k<=out.length->(∀ j,j<k->(eA out j).key<x.key)->(k<out.length->x.key<=(eA out k).key) ->
  ins out x=out.take k++x::out.drop (if k<out.length/\(eA out k).key=x.key then k+1 else k)
 |[],x,k,hk,_,_=>by
  obtain rfl:k=0:=by simpa using hk
  simp[ins]
 |y::r,x,0,_,_,h2=>by
  have h:=h2 (by simp);have e0:eA (y::r) 0=y:=rfl;rw[e0] at h;unfold ins;rw[ai (by omega)]
  by_cases e:y.key=x.key
  ·rw[ah e,ah ⟨by simp,by rw[e0];exact e⟩];simp
  rw[ai e,ai (fun h=>e (by rw[e0] at h;exact h.2))];simp
 |y::r,x,k+1,hk,h1,h2=>by
  have e0:eA (y::r) 0=y:=rfl;have hs:∀ j,eA (y::r) (j+1)=eA r j:=fun j=>rfl
  unfold ins;rw[ah (by have:=h1 0 (by omega);rwa [e0] at this)];rw[RN r x k (by simpa using hk) (fun j hj=>by have:=h1 (j+1) (by omega);rwa [hs] at this) (fun hj=>by have:=h2 (by simpa using hj);rwa [hs] at this)];rw[hs]
  by_cases e:k<r.length/\(eA r k).key=x.key
  ·rw[ah e,ah ⟨by simpa using e.1,e.2⟩];simp
  rw[ai e,ai (fun h=>e ⟨by simpa using h.1,h.2⟩)];simp
def uJ (x:It):∀ out:List It,(ins out x).length<=out.length+1
 |[]=>by simp[ins]
 |y::r=>by
  have:=uJ x r;unfold ins
  split
  ·simp;omega
  split<;>simp
def ZQ:gu []=[]:=rfl
def Ur (h:j<l.length):gu (l.take (j+1))=ins (gu (l.take j)) (eA l j):=by
 unfold gu;rw[xT h,dQ];rfl
def vt (l:List It):∀ j,j<=l.length->(gu (l.take j)).length<=j
 |0,_=>by simp[gu]
 |j+1,h=>by
  rw[Ur (by omega)];have:=uJ (eA l j) (gu (l.take j));have:=vt l j (by omega);omega
def xB (l:List It):(gu l).length<=l.length:=by
 have:=vt l l.length (ag _)
 rwa [bQ] at this
def Ob {p:It->Prop} (x:It) (hx:p x):∀ out:List It,(∀ y∈out,p y)->∀ y∈ins out x,p y
 |[],_=>by simp[ins];exact hx
 |y::r,h=>by
  have hr:=Ob x hx r (fun z hz=>h z (by simp[hz]));intro z hz;unfold ins at hz
  split at hz
  ·rcases List.mem_cons.1 hz with rfl|hz
   ·exact h _ (by simp)
   exact hr z hz
  split at hz
  ·rcases List.mem_cons.1 hz with rfl|hz
   ·exact hx
   exact h z (by simp[hz])
  rcases List.mem_cons.1 hz with rfl|hz
  ·exact hx
  exact h z hz
def ZR {p:It->Prop}:∀ (l out:List It),(∀ y∈l,p y)->(∀ y∈out,p y)->∀ y∈l.foldl ins out,p y
 |[],_,_,h=>h
 |x::l,out,hl,h=>ZR l (ins out x) (fun y hy=>hl y (by simp[hy])) (Ob x (hl x (by simp)) out h)
def ZS {p:It->Prop} (h:∀ y∈l,p y):∀ y∈gu l,p y:=ZR l [] h (fun _ hy=>by cases hy)
def nT:List It->Prop
 |[]=>True
 |[_]=>True
 |x::y::r=>x.key<y.key/\nT (y::r)
def wF:∀ l:List It,nT l↔mK l
 |[]=>⟨fun _ _ h=>by simp at h,fun _=>trivial⟩
 |[_]=>⟨fun _ _ h=>by simp at h,fun _=>trivial⟩
 |x::y::r=>by
  unfold nT;rw[wF (y::r)]
  constructor
  ·rintro ⟨h1,h2⟩ j hj
   cases j with
   |zero=>exact h1
   |succ j=>exact h2 j (by simpa using hj)
  intro h;exact ⟨h 0 (by simp),fun j hj=>h (j+1) (by simpa using hj)⟩
def nT.tail {x:It} {r:List It} (h:nT (x::r)):nT r:=by
 cases r with
 |nil=>trivial
 |cons y r=>exact h.2
def nT.cons {x:It} {r:List It} (h:nT r) (hx:∀ y,r.head?=some y->x.key<y.key):nT (x::r):=by
 cases r with
 |nil=>trivial
 |cons y r=>exact ⟨hx y rfl,h⟩
def zKr (x y:It) (r:List It) (z:It) (h:(ins r x).head?=some z) (hx:y.key<x.key) (hr:∀ y',r.head?=some y'->y.key<y'.key):y.key<z.key:=by
 cases r with
 |nil=>simp[ins] at h;subst h;exact hx
 |cons u r =>
  unfold ins at h
  split at h
  ·simp at h;subst h;exact hr _ rfl
  split at h<;>(simp at h;subst h;exact hx)
def kG (x:It):∀ out:List It,nT out->nT (ins out x)
 |[],_=>trivial
 |y::r,h=>by
  unfold ins
  split
  ·rename_i hlt;refine (kG x r h.tail).cons fun z hz=>zKr x y r z hz hlt fun y' E_=>?_
   cases r with
   |nil=>cases E_
   |cons u r=>simp at E_;subst E_;exact h.1
  split
  ·rename_i h1 h2;refine h.tail.cons fun z hz=>?_
   cases r with
   |nil=>cases hz
   |cons u r=>simp at hz;subst hz;rw[<- h2];exact h.1
  exact ⟨by omega,h⟩
def ZT:∀ (l out:List It),nT out->nT (l.foldl ins out)
 |[],_,h=>h
 |x::l,out,h=>ZT l (ins out x) (kG x out h)
def vT (l:List It):mK (gu l):=(wF _).1 (ZT l [] trivial)
def Us (x:It):∀ out:List It,(∀ y∈out,y.key<x.key)->ins out x=out++[x]
 |[],_=>rfl
 |y::r,h=>by
  unfold ins;rw[ah (h y (by simp)),Us x r (fun z hz=>h z (by simp[hz]))];rfl
def ZU {l:List It} (h:mK l):∀ j,j<=l.length->gu (l.take j)=l.take j
 |0,_=>by simp[gu]
 |j+1,hj=>by
  rw[Ur (by omega),ZU h j (by omega),Us,<- xT (by omega)];intro y hy;obtain ⟨i,hi,rfl⟩:=uc hy;rw[aB] at hi;rw[vG (by omega)];exact h.mono (by omega) (by omega)
def yb (h:mK l):gu l=l:=by
 have:=ZU h l.length (ag _)
 rwa [bQ] at this
def gF (l:List It) (key:Int):Option It:=l.find? fun x=>x.key==key
def Place (l:List It) (key:Int) (r:Nat):Prop:=r<=l.length/\(∀ j,r=j+1->(eA l j).key<key)/\(r<l.length->key<=(eA l r).key)
variable {key:Int} {r:Nat}
def Place.lt (h:Place l key r) (ha:mK l) {j:Nat} (hj:j<r):(eA l j).key<key:=by
 obtain ⟨h1,h2,_⟩:=h;have h3:=h2 (r-1) (by omega)
 by_cases e:j=r-1
 ·rw[e];exact h3
 have:=ha.mono (show j<r-1 by omega) (by omega);omega
def zNA:∀ {r:Nat},r<l.length->(eA l r).key=key->(∀ j,j<r->(eA l j).key≠key)->gF l key=some (eA l r):=by
 induction l with
 |nil=>intro r h;simp at h
 |cons x l ih =>
  intro r hr hk hn;unfold gF;rw[List.find?_cons]
  cases r with
  |zero =>
   have:x.key=key:=hk;rw[show (x.key==key)=true from beq_iff_eq.2 this];rfl
  |succ r =>
   have h0:x.key≠key:=hn 0 (by omega);rw[show (x.key==key)=false from beq_eq_false_iff_ne.2 h0];exact ih (r:=r) (by simpa using hr) hk (fun j hj=>hn (j+1) (by omega))
def zJz (h:∀ j,j<l.length->(eA l j).key≠key):gF l key=none:=by
 unfold gF;rw[List.find?_eq_none];intro x hx;obtain ⟨j,hj,rfl⟩:=uc hx
 simpa using h j hj
def Place.found (h:Place l key r) (ha:mK l) (hr:r<l.length) (hk:(eA l r).key=key):gF l key=some (eA l r):=
 zNA hr hk fun j hj=>by have:=h.lt ha hj;omega
def Place.not (h:Place l key r) (ha:mK l) (hk:r<l.length->(eA l r).key≠key):gF l key=none:=
 zJz fun j hj=>by
  by_cases e:j<r
  ·have:=h.lt ha e;omega
  by_cases e2:j=r
  ·rw[e2];exact hk (by omega)
  have h1:=h.2.2 (by omega);have h2:=ha.mono (show r<j by omega) hj;omega
def Ut {wo:World} {a oa:Option Addr} {oc m:Nat} {xs:List Value} (h:∀ z,a=some z->wo.heap.size<=z.block) (ho:wo.ownsRow base 49 4 (.slice oa m oc) m xs) (k:Nat) :
  ∀ z,a=some z->some z.block≠(Value.slice oa k oc).ownBlock:=by
 intro z hz e;have h1:=h z hz;have h2:=ho.lt z.block (by rw[e];cases oa<;>rfl);omega
def qp (v:Value) (l:List It) (w:World) (h:lg w v l) (hs:l.length<=1000000) :
  Calls prog 164 #[v] w fun e w'=>∃ v',e=.returned v'/\fR w' w.heap.size v' (gu l)/\Below w.heap.size w w':=by
 obtain ⟨a,cap,rfl,_,_⟩:=h.shape;have HS:Hid (∀ j,j<l.length->_):=zh (fun j=>Ur (l:=l) (j:=j));have HL:=zh (vt l);have HE:=zh (show gu (l.take l.length)=gu l by rw[bQ]);generalize hn:l.length=n at *;have Hr:=zh h;clear h hn
 go_enter func164,ntmps164
 go_wp2_with fail
 go_loopw [3,4] (fun ov iv wr=>∃ j:Nat,iv=.int .i64 (j:Int)/\j<=n/\fR wr w.heap.size ov (gu (l.take j))/\Below w.heap.size w wr) (fun _ iv _=>n-(intOf iv).toNat)
 case atStart=>exact ⟨0,rfl,aq _,aP _ _ _ _,aj _ _⟩
 obtain ⟨j,rfl,hj,hown,hb⟩:=hrel;have hB:=hb.size;obtain ⟨oa,oc,rfl,ho1,ho2,Ae⟩:=zG hown;have Oc:=zh Ae;have Hb:=zh hb;have iJ:Hid (wr.ownsRow w.heap.size 49 4 _ (gu (l.take j)).length (zg (gu (l.take j)))):=zh (hown);clear hown hb Ae
 by_cases hlt:j<n
 ·have hL:=HL.o j hj;have Uu:=zh (HS.o j hlt);generalize gu (l.take j)=o at *;generalize hm:o.length=m at *;have HM:=zh hm;clear hm;obtain ⟨b,off,rfl,c0,c1,c2,c3⟩:=Hr.o.at hlt;generalize eA l j=x at *;have rA:=zh (fun w' (h:Below w.heap.size w w')=>And.intro (Below.keeps h _ _ c0) (And.intro (Below.keeps h _ _ c1) (And.intro (Below.keeps h _ _ c2) (Below.keeps h _ _ c3))));have c0:=Below.keeps Hb.o _ _ c0;clear c1 c2 c3;obtain ⟨wo,ewo⟩:∃ wo:World,wo=wr:=⟨_,rfl⟩
  subst ewo;go_wp2_with fail
  go_loopw [5] (fun kv w2=>∃ k:Nat,kv=.int .i64 (k:Int)/\k<=m/\(∀ i,i<k->(eA o i).key<x.key)/\Below wo.heap.size wo w2) (fun kv _=>m-(intOf kv).toNat)
  case atStart=>exact ⟨0,rfl,aq _,fun i hi=>absurd hi (by omega),aj _ _⟩
  obtain ⟨k,rfl,hk,hkey,hb2⟩:=hrel;have K_:=zh hkey;have E9:=zh hb2;have d0:=Below.keeps hb2 _ _ c0;clear hkey hb2;have i1:(j:Int)<(n:Int):=by omega
  by_cases Fa:k<m
  ·have ho:=(xF (zr iJ.o)).bb E9.o;obtain ⟨bo,oo,rfl,e0,_⟩:=ho.at Fa;clear ho;have i2:(k:Int)<(m:Int):=by omega
   generalize hy:(eA o k).key=y at *;have HY:=zh hy;clear hy
   by_cases Iu:y<x.key
   ·have hyd:decide (y<x.key)=true:=aD Iu;go_wp2_with fail
    go_quiet (fail)
    clear i1 i2;go_wp2_with fail
    exact ⟨⟨k+1,by go_num,by omega,fun i hi=>by
     by_cases e:i=k
     ·rw[e,HY.o];exact Iu
     exact K_.o i (by omega),below_drewN E9.o _⟩,by simp[intOf];omega⟩
   have hyd:decide (y<x.key)=false:=aC Iu;have I_:=zh (RN o x k (by rw[HM.o];exact hk) K_.o (by rw[HY.o];omega));obtain ⟨sa,sc,hrun,hsl,hsb⟩:=vO yO (un ((xF (zr iJ.o)).bb E9.o)) k hk;rw[<- tD] at hsl;obtain ⟨d,hd,sV,hd2⟩:∃ d,m-k=d/\0<d/\d<=m:=⟨m-k,rfl,by omega,by omega⟩
   rw[hd] at hsl hrun;have HD:=zh hd;have Uv:=zh hsl;have Ca:=zh (fun nq=>cT (base:=wr.heap.size) (e:=49) (size:=4) (wr.drewN nq) #[] 0 (ag _) (by decide) rfl);clear hsl hsb hd;go_wp2_with fail
   go_quiet (fail)
   clear i1 i2;go_wp2_with (at_builtin;go_must (refine zP rfl (.tmp 32) (.tmp 35) 33 rfl yO wr.heap.size rfl (Ca.o nq) rfl ((Uv.o.bb (below_drewN (aj _ _) nq)).alloc _) (zv _) (by unfold maxLen;omega) (by omega) (by simp) ?_);intro v3 w3 eB eW hv3;clear hv3);rw[aN,bV] at eB;have hb3:=zK ((below_drewN (aj wr.heap.size wr) nq).alloc (ag _) _) (Ca.o nq) (by simp) eW;obtain ⟨ra,rc,rfl,hr1,hr2,hr3⟩:=zG eB;obtain ⟨rb,Uw,rfl,g0,_⟩:=(xF (zr eB)).at sV;have ZV:=(eB.lt rb rfl).1;simp only[wL,Nat.zero_mul,bE,HY.o] at g0;have k0:=Below.keeps hb3 _ _ d0;have La:=zh (zr eB);have Lc:=zh hb3;have hdd:decide ((0:Int)<(d:Int))=true:=by simp;omega
   have i1:(j:Int)<(n:Int):=by omega
   clear eB eW hb3 hr3 hrun
   by_cases Es:y=x.key
   ·have Nn:(y==x.key)=true:=beq_iff_eq.2 Es;obtain ⟨ta,tc,Ki,Od,Ld⟩:=vO yO La.o 1 sV;rw[show ((1:Nat):Int)=1 from rfl] at Ki;have Oe:=zh Od;have Og:=zh Ld;clear Od Ld;go_wp2_with fail
    go_quiet (fail)
    go_wp2_with fail;obtain ⟨w4,hw4⟩:∃ w4,w4=w3.drewN nq:=⟨_,rfl⟩
    rw[<- hw4];have Kj:=zh (show Below wo.heap.size wo w4 by rw[hw4];exact below_drewN (zA E9.o Lc.o) nq)
    have Oh:=zh (show Rd w4 4 (.slice ta (d-1) tc) (d-1) (zg (o.drop (k+1))) by
     rw[hw4,show k+1=k+1 from rfl,<- ct,tD];exact Oe.o.bb (below_drewN (aj _ _) nq))
    have Oi:=zh (show ∀ z,ta=some z->wo.heap.size<=z.block from fun z hz=>by
     obtain ⟨y',E_,e⟩:=Og.o z hz
     injection E_ with E_
     rw[<- e,<- E_];exact ak E9.o.size ZV)
    have FU:=zh (Ut Oi.o iJ.o k);have Oj:=zh (show ins o x=o.take k++x::o.drop (k+1) by rw[I_.o,ah ⟨by rw[HM.o];exact Fa,HY.o.trans Es⟩]);have Ol:=zh (show d-1<=m by omega);clear hw4 La Lc Oe Og Ki g0 k0 Nn Es;have Et:=xH (P:=prog) yO (n:=m) Oc.o k (ak hk ho1);have Az:=zh (zA Hb.o Kj.o);have AB:w.heap.size<=w4.heap.size:=Az.o.size;have lq:=zh (vY (zE iJ.o Kj.o) k hk);have HT:=zh (zv [x]);have hrl:=Ol.o
    go_region_held3 (fun w'=>w'.cell? ⟨b,off+j*4,none⟩=some (.int .u64 x.key)/\w'.cell? ⟨b,off+j*4+1,none⟩=some (.int .u32 x.ck)/\w'.cell? ⟨b,off+j*4+2,none⟩=some (.int .i64 x.off)/\w'.cell? ⟨b,off+j*4+3,none⟩=some (.int .i64 x.size))
     (first|exact rA.o _ Az.o.drew|exact rA.o _ (Az.o.drew.alloc AB _)|exact rA.o _ (zK (Az.o.drew.alloc AB _) ((lq.o.drew).alloc _) (by simp;omega) iK)|exact rA.o _ (zK (zK (Az.o.drew.alloc AB _) ((lq.o.drew).alloc _) (by simp;omega) iK) fW (ak (by simp;omega) iK.size) mq))
     (first|(refine wP (by rfl) _ _ _ (by rfl) yO w.heap.size (by rfl) ((lq.o.drew).alloc _) (by rfl) (Rd.new _ 4 (jk x) 49 1 rfl (by decide)) (by simpa [zg] using HT.o) (by unfold maxLen;omega) (by omega) (by simp;omega) ?_;intro v5 w5 fW iK Fb;clear Fb)|(refine wP (by rfl) _ _ _ (by rfl) yO w.heap.size (by rfl) fW (by rfl) (((Oh.o.drew).alloc _).grown iK FU.o) (zv _) (by unfold maxLen;omega) (by omega) (ak (by simp;omega) iK.size) ?_;intro v6 w6 iU mq FV;clear FV))
    have mL:zg (o.take k)++jk x++zg (o.drop (k+1))=zg (gu (l.take (j+1))):=by rw[Uu.o,Oj.o,zy,tA,aY]
    rw[wS] at mL;have Cb:=zh mL;have jH:=zh (zK (zK (Az.o.drew.alloc AB _) ((lq.o.drew).alloc _) (by simp;omega) iK) fW (ak (by simp;omega) iK.size) mq);have o7:=zh iU;clear mL fW iU iK mq;go_wp2_with fail;exact ⟨⟨j+1,by go_num,by omega,yW o7.o Cb.o,jH.o⟩,by simp[intOf];omega⟩
   have Nn:(y==x.key)=false:=beq_eq_false_iff_ne.2 Es;go_wp2_with fail
   go_quiet (fail)
   go_wp2_with fail;obtain ⟨w4,hw4⟩:∃ w4,w4=w3.drewN nq:=⟨_,rfl⟩
   rw[<- hw4];have Kj:=zh (show Below wo.heap.size wo w4 by rw[hw4];exact below_drewN (zA E9.o Lc.o) nq)
   have Oh:=zh (show Rd w4 4 _ d (zg (o.drop k)) by
    rw[hw4];exact La.o.bb (below_drewN (aj _ _) nq))
   have Oi:=zh (show ∀ z,some (⟨rb,Uw,none⟩:Addr)=some z->wo.heap.size<=z.block from fun z hz=>by
    injection hz with hz
    rw[<- hz];exact ak E9.o.size ZV)
   have FU:=zh (Ut Oi.o iJ.o k);have Oj:=zh (show ins o x=o.take k++x::o.drop k by rw[I_.o,ai (fun h=>Es (HY.o.symm.trans h.2))]);have Ol:=zh (show d<=m by omega);clear hw4 La Lc g0 k0 Nn Es;have Et:=xH (P:=prog) yO (n:=m) Oc.o k (ak hk ho1);have Az:=zh (zA Hb.o Kj.o);have AB:w.heap.size<=w4.heap.size:=Az.o.size;have lq:=zh (vY (zE iJ.o Kj.o) k hk);have HT:=zh (zv [x]);have hrl:=Ol.o
   go_region_held3 (fun w'=>w'.cell? ⟨b,off+j*4,none⟩=some (.int .u64 x.key)/\w'.cell? ⟨b,off+j*4+1,none⟩=some (.int .u32 x.ck)/\w'.cell? ⟨b,off+j*4+2,none⟩=some (.int .i64 x.off)/\w'.cell? ⟨b,off+j*4+3,none⟩=some (.int .i64 x.size))
    (first|exact rA.o _ Az.o.drew|exact rA.o _ (Az.o.drew.alloc AB _)|exact rA.o _ (zK (Az.o.drew.alloc AB _) ((lq.o.drew).alloc _) (by simp;omega) iK)|exact rA.o _ (zK (zK (Az.o.drew.alloc AB _) ((lq.o.drew).alloc _) (by simp;omega) iK) fW (ak (by simp;omega) iK.size) mq))
    (first|(refine wP (by rfl) _ _ _ (by rfl) yO w.heap.size (by rfl) ((lq.o.drew).alloc _) (by rfl) (Rd.new _ 4 (jk x) 49 1 rfl (by decide)) (by simpa [zg] using HT.o) (by unfold maxLen;omega) (by omega) (by simp;omega) ?_;intro v5 w5 fW iK Fb;clear Fb)|(refine wP (by rfl) _ _ _ (by rfl) yO w.heap.size (by rfl) fW (by rfl) (((Oh.o.drew).alloc _).grown iK FU.o) (zv _) (by unfold maxLen;omega) (by omega) (ak (by simp;omega) iK.size) ?_;intro v6 w6 iU mq FV;clear FV))
   have mL:zg (o.take k)++jk x++zg (o.drop k)=zg (gu (l.take (j+1))):=by rw[Uu.o,Oj.o,zy,tA,aY]
   rw[wS] at mL;have Cb:=zh mL;have jH:=zh (zK (zK (Az.o.drew.alloc AB _) ((lq.o.drew).alloc _) (by simp;omega) iK) fW (ak (by simp;omega) iK.size) mq);have o7:=zh iU;clear mL fW iU iK mq;go_wp2_with fail;exact ⟨⟨j+1,by go_num,by omega,yW o7.o Cb.o,jH.o⟩,by simp[intOf];omega⟩
  obtain rfl:k=m:=by omega
  have I_:=zh (RN o x k (by rw[HM.o];exact ag _) K_.o (by rw[HM.o];intro h;omega));obtain ⟨sa,sc,hrun,hsl,hsb⟩:=vO yO (zr (zE iJ.o E9.o)) k hk;rw[Nat.sub_self,cu (by rw[yR,HM.o];exact ag _)] at hsl;rw[Nat.sub_self] at hrun;have Uv:=zh hsl;have Ca:=zh (fun nq=>cT (base:=wr.heap.size) (e:=49) (size:=4) (wr.drewN nq) #[] 0 (ag _) (by decide) rfl);clear hsl hsb;go_wp2_with fail
  go_quiet (fail)
  clear i1;go_wp2_with (at_builtin;go_must (refine zP rfl (.tmp 32) (.tmp 35) 33 rfl yO wr.heap.size rfl (Ca.o nq) rfl ((Uv.o.bb (below_drewN (aj _ _) nq)).alloc _) (fun _ h=>by cases h) (by unfold maxLen;omega) (by omega) (by simp) ?_);intro v3 w3 eB eW hv3;clear hv3);rw[aN,bV] at eB;have hb3:=zK ((below_drewN (aj wr.heap.size wr) nq).alloc (ag _) _) (Ca.o nq) (by simp) eW;obtain ⟨ra,rc,rfl,hr1,hr2,hr3⟩:=zG eB;have La:=zh (zr eB);have Lc:=zh hb3
  have Oi:=zh (show ∀ z,ra=some z->wo.heap.size<=z.block from fun z hz=>by
   subst hz
   exact ak E9.o.size (eB.lt _ rfl).1)
  have FU:=zh (Ut Oi.o iJ.o k);have Oj:=zh (show ins o x=o.take k++x::[] by rw[I_.o,ai (fun h=>by have:=HM.o;omega),cu (by rw[HM.o];exact ag _)]);have Ol:Hid (0<=k):=zh (aq _);clear eB eW hb3 hr3 hrun;go_wp2_with fail
  go_quiet (fail)
  go_wp2_with fail;obtain ⟨w4,hw4⟩:∃ w4,w4=w3.drewN nq:=⟨_,rfl⟩
  rw[<- hw4];have Kj:=zh (show Below wo.heap.size wo w4 by rw[hw4];exact below_drewN (zA E9.o Lc.o) nq)
  have Oh:=zh (show Rd w4 4 _ 0 (zg []) by
   rw[hw4];exact La.o.bb (below_drewN (aj _ _) nq))
  clear hw4 La Lc;have Et:=xH (P:=prog) yO (n:=k) Oc.o k ho1;have Az:=zh (zA Hb.o Kj.o);have AB:w.heap.size<=w4.heap.size:=Az.o.size;have lq:=zh (vY (zE iJ.o Kj.o) k hk);have HT:=zh (zv [x]);have hrl:=Ol.o
  go_region_held3 (fun w'=>w'.cell? ⟨b,off+j*4,none⟩=some (.int .u64 x.key)/\w'.cell? ⟨b,off+j*4+1,none⟩=some (.int .u32 x.ck)/\w'.cell? ⟨b,off+j*4+2,none⟩=some (.int .i64 x.off)/\w'.cell? ⟨b,off+j*4+3,none⟩=some (.int .i64 x.size))
   (first|exact rA.o _ Az.o.drew|exact rA.o _ (Az.o.drew.alloc AB _)|exact rA.o _ (zK (Az.o.drew.alloc AB _) ((lq.o.drew).alloc _) (by simp;omega) iK)|exact rA.o _ (zK (zK (Az.o.drew.alloc AB _) ((lq.o.drew).alloc _) (by simp;omega) iK) fW (ak (by simp;omega) iK.size) mq))
   (first|(refine wP (by rfl) _ _ _ (by rfl) yO w.heap.size (by rfl) ((lq.o.drew).alloc _) (by rfl) (Rd.new _ 4 (jk x) 49 1 rfl (by decide)) (by simpa [zg] using HT.o) (by unfold maxLen;omega) (by omega) (by simp;omega) ?_;intro v5 w5 fW iK Fb;clear Fb)|(refine wP (by rfl) _ _ _ (by rfl) yO w.heap.size (by rfl) fW (by rfl) (((Oh.o.drew).alloc _).grown iK FU.o) (zv _) (by unfold maxLen;omega) (by omega) (ak (by simp;omega) iK.size) ?_;intro v6 w6 iU mq FV;clear FV))
  have mL:zg (o.take k)++jk x++zg []=zg (gu (l.take (j+1))):=by rw[Uu.o,Oj.o,zy,tA,aY]
  rw[wS] at mL;have Cb:=zh mL;have jH:=zh (zK (zK (Az.o.drew.alloc AB _) ((lq.o.drew).alloc _) (by simp;omega) iK) fW (ak (by simp;omega) iK.size) mq);have o7:=zh iU;clear mL fW iU iK mq;go_wp2_with fail;exact ⟨⟨j+1,by go_num,by omega,yW o7.o Cb.o,jH.o⟩,by simp[intOf];omega⟩
 obtain rfl:j=n:=by omega
 go_wp2_with fail;go_ret;exact ⟨_,rfl,by rw[<- HE.o];exact iJ.o,Hb.o⟩
def ZW (x:It):It:=⟨x.key,x.ck,16+8*(x.off%4096),x.size%4096⟩
def mk (l:List It):List It:=(gu (l.take 40)).map ZW
def upd (o:List It) (k:Nat):List It:=(o.take k).map ZW++o.drop k
def Ux (v:Value) (l:List It) (w:World) (h:lg w v l) (hs:l.length<=1000000) :
  Calls prog 134 #[v] w fun e w'=>∃ v',e=.returned v'/\fR w' w.heap.size v' l/\Below w.heap.size w w':=by
 obtain ⟨a,cap,rfl,h1,h2⟩:=h.shape;have ZX:∀ (w:World) (a:Option Addr) (n c n' c':Nat),(binOp .eql 33 (.slice a n c) (.slice none n' c')).run prog w=.ok (.bool a.isNone) w:=fun w a n c n' c'=>Lib.run_eql_slice_nil w _ _ a n c n' c' underlying33
 cases a with
 |none =>
  have h0:l=[]:=by
   obtain ⟨_,a',cap',e,_,_,h5,_⟩:=h.2;injection e with e1 e2 e3;have:=h5 e1.symm;exact List.length_eq_zero_iff.1 (by omega)
  subst h0;clear h
  go_enter func134,ntmps134
  go_wp2_with fail;go_ret;exact ⟨_,rfl,aP _ _ _ _,aj _ _⟩
 |some p =>
  have Hr:=zh (un h);generalize hn:l.length=n at *;clear h
  go_enter func134,ntmps134
  go_wp2_with (at_builtin;go_must (refine zP rfl (.tmp 5) (.tmp 6) 33 rfl yO w.heap.size rfl (cT (size:=4) _ #[] 0 (ag _) (by decide) rfl) rfl (Hr.o.alloc _) (zv _) (by unfold maxLen;omega) (by omega) (by simp) ?_);intro v3 w3 eB eW hv3;clear hv3);have HB:=zh (zK ((aj w.heap.size w).alloc (ag _) _) (cT (e:=49) (size:=4) w #[] 0 (ag _) (by decide) rfl) (by simp) eW);have HO:=zh (yW eB (bV _));clear eB eW;go_wp2_with fail;go_ret;exact ⟨_,rfl,HO.o,HB.o⟩
def ww (l:List It):Prop:=∀ (v:Value) (w:World),lg w v l->Calls prog 135 #[v] w fun e w'=>∃ v',e=.returned v'/\fR w' w.heap.size v' (gu l)/\Below w.heap.size w w'
def zHH (l:List It) (ha:mK l) (hs:l.length<=1000000):ww l:=by
 intro v w h;have HC:=zh (Ux v l w h hs);have HA:=zh (fun v w h=>Uo v l w h);rw[(tS l).2 ha] at HA;have HS:=zh (yb ha);obtain ⟨a,cap,rfl,h1,h2⟩:=h.shape;clear h ha
 go_enter func135,ntmps135
 go_wp2_with fail;refine HC.o.mono ?_;rintro e w1 ⟨v1,rfl,hown1,hb1⟩;have HO:=zh hown1;have HB:=zh hb1;clear hown1 hb1;go_wp2_with fail;refine (HA.o _ _ HO.o.rd).mono ?_;rintro e w2 ⟨rfl,hb2⟩;have gp:=zh (zE HO.o hb2);have eX:=zh (zA HB.o hb2);clear hb2;go_wp2_with fail;go_ret;exact ⟨_,rfl,by rw[HS.o];exact gp.o,eX.o⟩
structure AE (w:World) (lb kb:Nat) (a:Option Addr) (n cap:Nat) (l:List It) (key:Int):Prop where
 lv:w.cell? ⟨lb,0,none⟩=some (.slice a n cap)
 kv:w.cell? ⟨kb,0,none⟩=some (.int .u64 key)
 rd:lg w (.slice a n cap) l
def AE.bb {w w':World} {lb kb:Nat} {a:Option Addr} {n cap:Nat} {l:List It} {key:Int} (h:AE w lb kb a n cap l key) (hb:Below w.heap.size w w'):AE w' lb kb a n cap l key:=
 ⟨Below.keeps hb _ _ h.lv,Below.keeps hb _ _ h.kv,h.rd.bb hb⟩
def zMd (i lb kb:Nat) (a:Option Addr) (n cap:Nat) (l:List It) (key:Int) (w:World) (h:AE w lb kb a n cap l key) (hi:i<n) (_hn:n<=1000000) :
  Calls prog 177 #[.int .i64 (i:Int),.pointer (some ⟨lb,0,none⟩),.pointer (some ⟨kb,0,none⟩)] w fun e w'=>e=.returned (.bool (decide (key<=(eA l i).key)))/\Below w.heap.size w w':=by
 obtain ⟨h1,h2,h3⟩:=h;obtain ⟨b,off,rfl,c0,_⟩:=h3.at hi;generalize (eA l i).key=x at *;have i1:(i:Int)<(n:Int):=by omega
 clear h3
 go_enter func177,ntmps177
 go_wp2_with fail
 go_quiet (fail)
 go_wp2_with fail;go_ret;exact ⟨rfl,below_drewN (aj _ _) _⟩
def zGA (lb kb:Nat) (a:Option Addr) (n cap:Nat) (l:List It) (key:Int) (w:World) (h:AE w lb kb a n cap l key) (hn:n<=1000000) :
  Calls prog 176 #[.int .i64 (n:Int),.func (.func 177) #[] #[.pointer (some ⟨lb,0,none⟩),.pointer (some ⟨kb,0,none⟩)]] w fun e w' =>
   (∃ r:Nat,e=.returned (.int .i64 (r:Int))/\r<=n/\(∀ j,r=j+1->(eA l j).key<key)/\(r<n->key<=(eA l r).key))/\Below w.heap.size w w':=by
 have H:=zh h;clear h
 go_enter func176,ntmps176
 go_wp2_with fail
 go_loopw [5,6] (fun iv jv wr=>∃ i j:Nat,iv=.int .i64 (i:Int)/\jv=.int .i64 (j:Int)/\i<=j/\j<=n/\(∀ k,i=k+1->(eA l k).key<key)/\(j<n->key<=(eA l j).key)/\Below w.heap.size w wr) (fun iv jv _=>(intOf jv-intOf iv).toNat)
 case atStart=>exact ⟨0,n,rfl,rfl,aq _,ag _,fun k hk=>by omega,fun h=>by omega,aj _ _⟩
 obtain ⟨i,j,rfl,rfl,hij,hj,hlo,hhi,hb⟩:=hrel;have HL:=zh hlo;have HH:=zh hhi;have Hb:=zh hb;clear hlo hhi hb
 by_cases hlt:i<j
 ·obtain ⟨m,hm,hm1,lU⟩:∃ m:Nat,(i+j)/2=m/\i<=m/\m<j:=⟨(i+j)/2,rfl,by omega,by omega⟩
  have HC:=zh (fun W hW=>zMd m lb kb a n cap l key W (H.o.bb hW) (by omega) hn);have RO:((i:Int)+(j:Int))/2=(m:Int):=by omega
  have HMi:=zh hm;clear hm;generalize hq:decide (key<=(eA l m).key)=q at *;have HQ:=zh hq;clear hq;go_wp2_with fail;refine (HC.o _ Hb.o).mono ?_;rintro e w1 ⟨rfl,hb1⟩;have nS:=zh (zA Hb.o hb1);clear hb1
  cases q
  ·go_wp2_with fail;refine ⟨⟨m+1,j,by go_num,rfl,by omega,hj,fun k hk=>?_,HH.o,nS.o⟩,by simp[intOf];omega⟩;obtain rfl:m=k:=by omega
   have:=cN HQ.o;omega
  go_wp2_with fail;exact ⟨⟨i,m,rfl,rfl,hm1,by omega,HL.o,fun _=>aZ HQ.o,nS.o⟩,by simp[intOf];omega⟩
 obtain rfl:i=j:=by omega
 go_wp2_with fail;go_ret;exact ⟨⟨i,rfl,hj,HL.o,HH.o⟩,Hb.o⟩
def kT (v:Value) (l:List It) (key:Int) (w:World) (h:lg w v l) (hs:l.length<=1000000) :
  Calls prog 136 #[v,.int .u64 key] w fun e w'=>(∃ r:Nat,Place l key r/\e=.returned (.tuple #[.int .i64 (r:Int),.bool (decide (r<l.length/\(eA l r).key=key))]))/\Below w.heap.size w w':=by
 obtain ⟨a,cap,rfl,h1,h2⟩:=h.shape;have HP:Hid (∀ r,r<=l.length->(∀ j,r=j+1->(eA l j).key<key)->(r<l.length->key<=(eA l r).key)->Place l key r):=zh (fun r a b c=>⟨a,b,c⟩);generalize hn:l.length=n at *;have Hr:=zh h;have HW:Hid (Below w.heap.size w ((w.alloc (.cells #[.slice a n cap] 33)).alloc (.cells #[.int .u64 key] 24))):=zh (((aj _ _).alloc (ag _) _).alloc (by simp) _);have HC:=zh (zGA w.heap.size (w.heap.size+1) a n cap l key ((w.alloc (.cells #[.slice a n cap] 33)).alloc (.cells #[.int .u64 key] 24)) ⟨by simp,by simp,Hr.o.bb HW.o⟩ hs);have HX:Hid (AE ((w.alloc (.cells #[.slice a n cap] 33)).alloc (.cells #[.int .u64 key] 24)) w.heap.size (w.heap.size+1) a n cap l key):=zh (⟨by simp,by simp,Hr.o.bb HW.o⟩);clear h hn h1 h2
 go_enter func136,ntmps136
 go_wp2_with fail;refine HC.o.mono ?_;rintro e w1 ⟨⟨r,rfl,r1,r2,r3⟩,hb1⟩;have HR:=zh (HP.o r r1 r2 r3);obtain ⟨x1,x2,x3⟩:=HX.o.bb hb1;have nS:=zh (zA HW.o hb1);clear hb1 r2 r3
 by_cases Uy:r<n
 ·obtain ⟨b,off,rfl,c0,_⟩:=x3.at Uy;have i1:(r:Int)<(n:Int):=by omega
  have HE:=zh (show ((eA l r).key==key)=decide (r<n/\(eA l r).key=key) by rw[dt];simp[Uy]);generalize hy:(eA l r).key=y at *;have HY:=zh hy;clear x3 hy;go_wp2_with fail
  go_quiet (fail)
  go_wp2_with fail;go_ret2;exact ⟨⟨r,HR.o,ZL (by rw[HY.o];exact HE.o)⟩,below_drewN nS.o _⟩
 obtain rfl:r=n:=by omega
 have HE:=zh (show false=decide (r<r/\(eA l r).key=key) by simp);clear x3;go_wp2_with fail
 go_quiet (fail)
 go_wp2_with fail;go_ret2;exact ⟨⟨r,HR.o,ZL HE.o⟩,below_drewN nS.o _⟩
def ZY (v:Value) (l:List It) (key:Int) (w:World) (h:lg w v l) (hk:ww l) (hs:l.length<=1000000) :
  Calls prog 100 #[v,.int .u64 key] w fun e w'=>e=.returned (.tuple #[mg ((gF (gu l) key).getD fZ),.bool (gF (gu l) key).isSome])/\Below w.heap.size w w':=by
 have HS:=zh (fun w h=>hk v w h);have hlen:=xB l;have HA:=zh (vT l);have HF:=zh (fun v w h=>kT v (gu l) key w h (by omega));have Hr:=zh h;obtain ⟨a,cap,rfl,_,_⟩:=h.shape;generalize gu l=s at *;have HW:Hid (Below w.heap.size w (w.alloc (.cells #[.int .u64 0,.int .u32 0,.int .i64 0,.int .i64 0] 49))):=zh ((aj _ _).alloc (ag _) _);have hW:(w.alloc (.cells #[.int .u64 0,.int .u32 0,.int .i64 0,.int .i64 0] 49)).heap.size=w.heap.size+1:=by simp
 clear h hk
 go_enter func100,ntmps100
 go_wp2_with fail;refine (HS.o _ (Hr.o.bb HW.o)).mono ?_;rintro e w1 ⟨v1,rfl,hown1,hb1⟩;have HO:=zh hown1;have HB:=zh hb1;clear hown1 hb1;go_wp2_with fail;refine (HF.o _ _ HO.o.rd).mono ?_;rintro e w2 ⟨⟨r,hp,rfl⟩,hb2⟩;have eX:=zh (HB.o.trans (hb2.mono HB.o.size));have g:∀ i u,(w.alloc (.cells #[.int .u64 0,.int .u32 0,.int .i64 0,.int .i64 0] 49)).cell? ⟨w.heap.size,i,none⟩=some u->w2.cell? ⟨w.heap.size,i,none⟩=some u:=fun i u hu=>(eX.o.cell (p:=⟨w.heap.size,i,none⟩) (by simp)).trans hu
 have f:∀ i,w2.frozen? ⟨w.heap.size,i,none⟩=false:=fun i=>(eX.o.frozen (p:=⟨w.heap.size,i,none⟩) (by simp)).trans (by simp)
 have g0:=g 0 _ (by simp;rfl);have g1:=g 1 _ (by simp;rfl);have g2:=g 2 _ (by simp;rfl);have g3:=g 3 _ (by simp;rfl);have f0:=f 0;have f1:=f 1;have f2:=f 2;have f3:=f 3;have hs2:w.heap.size<w2.heap.size:=by have:=eX.o.size;omega
 have Iv:Hid (Below w.heap.size w w2):=zh (HW.o.trans (eX.o.mono (by omega)));have mH:=zh (HO.o.rd.bb hb2);have HP:=zh hp;clear g f hb2 hp hW
 by_cases hy:r<s.length/\(eA s r).key=key
 ·have AH:=zh (HP.o.found HA.o hy.1 hy.2);rw[aD hy];obtain ⟨_,cv,rfl,_,_⟩:=mH.o.shape;obtain ⟨b,off,rfl,c0,c1,c2,c3⟩:=mH.o.at hy.1;have hrl:=hy.1;generalize hx:eA s r=x at *;have HX:=zh hx;clear hx hy;go_wp2_with fail;exact au (v:=.tuple #[mg x,.bool true]) (by simp[results,results100,go_sem,g0,g1,g2,g3]) rfl ⟨by rw[AH.o];rfl,((((Iv.o.setCell (ag _) _).setCell (ag _) _).setCell (ag _) _).setCell (ag _) _)⟩
 have AH:=zh (HP.o.not HA.o (fun h h'=>hy ⟨h,h'⟩));rw[aC hy];clear hy;go_wp2_with fail;exact au (v:=.tuple #[mg fZ,.bool false]) (by simp[results,results100,go_sem,g0,g1,g2,g3,fZ]) rfl ⟨by rw[AH.o];rfl,((((Iv.o.setCell (ag _) _).setCell (ag _) _).setCell (ag _) _).setCell (ag _) _)⟩
end Go.Proofs.YtcgfilmmokmdjaaGreat
