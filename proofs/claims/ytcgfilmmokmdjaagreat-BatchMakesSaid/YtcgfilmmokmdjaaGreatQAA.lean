import Derived.Test.YtcgfilmmokmdjaaGreatRows
import Derived.Test.YtcgfilmmokmdjaaGreatBase
import Derived.BigQuiet
import Derived.Deep.QuietTactic
import Derived.Deep.RegionHeld3
import Derived.Deep.RegionLaw
import Derived.Deep.RegionWith
import Derived.Laws.OwnMore
import Derived.Laws.Bits128
set_option linter.all false
set_option maxRecDepth 100000
set_option maxHeartbeats 32000000
namespace Go.Proofs.YtcgfilmmokmdjaaGreat
structure It where
 key:Int
 ck:Int
 off:Int
 size:Int
 deriving DecidableEq
def It.Wf (x:It):Prop:=0≤x.key∧x.key<18446744073709551616∧0≤x.ck∧x.ck<4294967296∧-9223372036854775808≤x.off∧x.off≤9223372036854775807∧-9223372036854775808≤x.size∧x.size≤9223372036854775807
def oB (x:It):Prop:=16≤x.off∧x.off≤1048576∧x.off%8=0∧0≤x.size∧x.size≤4096
instance (x:It):Decidable (oB x):=by unfold oB;exact inferInstance
def okB (x:It):Bool:=decide (oB x)
def fE:It:=⟨0,0,0,0⟩
instance:Inhabited It:=⟨fE⟩
def ea (l:List It) (j:Nat):It:=l.getD j fE
theorem t8 {l:List It} {j:Nat} (h:j<l.length):ea l j∈l:=by
 unfold ea;rw[ax,aB h];exact bI h
theorem uI {l:List It} {x:It} (h:x∈l):∃ j,j<l.length∧ea l j=x:=by
 obtain ⟨j,hj,e⟩:=List.mem_iff_getElem.1 h;exact ⟨j,hj,by unfold ea;rw[ax,aB hj,bC,e]⟩
theorem xI {l:List It} {j:Nat} (h:j<l.length):l.take (j+1)=l.take j++[ea l j]:=by
 rw[List.take_succ_eq_append_getElem h]
 congr
 unfold ea;rw[ax,aB h];rfl
theorem wA (l:List It) (k i:Nat):ea (l.drop k) i=ea l (k+i):=by
 unfold ea;rw[ax,cQ,← ax]
theorem wl {l:List It} {k i:Nat} (h:i<k):ea (l.take k) i=ea l i:=by
 unfold ea;rw[ax,cH,ah h,← ax]
theorem uM:∀ (a:List It) (i:Nat) (x:It),i<a.length→(a.set i x).take (i+1)=a.take i++[x]
 |[],i,x,h=>by simp at h
 |y::r,0,x,_=>rfl
 |y::r,i+1,x,h=>by
  have:=uM r i x (by simpa using h);simp only[aJ,dK,List.cons_append];rw[this]
def np (l:List It) (k:Nat):Prop:=∀ j,j+1<k→(ea l j).key<(ea l (j+1)).key
def lR (l:List It):Prop:=np l l.length
def C0:List It→Bool
 |[]=>true
 |[_]=>true
 |x::y::r=>decide (x.key<y.key)&&C0 (y::r)
theorem ul:∀ l:List It,C0 l=true↔lR l
 |[]=>⟨fun _ _ h=>by simp at h,fun _=>rfl⟩
 |[_]=>⟨fun _ _ h=>by simp at h,fun _=>rfl⟩
 |x::y::r=>by
  unfold C0;rw[aN,aR,ul (y::r)]
  constructor
  ·
   rintro ⟨h1,h2⟩ j hj
   cases j with
   |zero=>exact h1
   |succ j=>exact h2 j (by simpa using hj)
  intro h;exact ⟨h 0 (by simp),fun j hj=>h (j+1) (by simpa using hj)⟩
theorem Wl {l:List It} {j:Nat} (h:j+1<l.length) (h':(ea l (j+1)).key≤(ea l j).key):C0 l=false:=by
 cases e:C0 l with
 |false=>rfl
 |true=>exact absurd ((ul l).1 e j h) (by omega)
theorem np.succ {l:List It} {k:Nat} (h:np l k) (h':∀ j,k=j+1→(ea l j).key<(ea l (j+1)).key):np l (k+1):=fun j hj=>by
 by_cases e:k=j+1
 ·
  exact h' j e
 exact h j (by omega)
theorem lR.lt {l:List It} (h:lR l):∀ d i,i+d+1<l.length→(ea l i).key<(ea l (i+d+1)).key
 |0,i,hi=>h i hi
 |d+1,i,hi=>by
  have h1:=h.lt d i (by omega);have h2:=h (i+d+1) (by omega);have e:i+(d+1)+1=i+d+1+1:=by omega
  rw[e];omega
theorem lR.mono {l:List It} (h:lR l) {i j:Nat} (hij:i<j) (hj:j<l.length):(ea l i).key<(ea l j).key:=by
 have:=h.lt (j-i-1) i (by omega)
 rwa [show i+(j-i-1)+1=j by omega] at this
def wG (l:List It):Bool:=C0 l&&l.all okB
theorem kF {l:List It} {p:It→Bool} (h:∀ j,j<l.length→p (ea l j)=true):l.all p=true:=by
 rw[dy];intro x hx;obtain ⟨j,hj,rfl⟩:=uI hx;exact h j hj
theorem tv {l:List It} {p:It→Bool} {j:Nat} (h:j<l.length) (h':p (ea l j)=false):l.all p=false:=by
 cases e:l.all p with
 |false=>rfl
 |true=>rw[dy] at e;rw[e _ (t8 h)] at h';cases h'
theorem zHm {l:List It} (h1:lR l) (h2:∀ j,j<l.length→okB (ea l j)=true):wG l=true:=by
 unfold wG;rw[(ul l).2 h1,kF h2];rfl
theorem zKq {l:List It} {j:Nat} (h:j<l.length) (h':okB (ea l j)=false):wG l=false:=by
 unfold wG;rw[tv h h',Bool.and_false]
theorem Wm {l:List It} (h:C0 l=false):wG l=false:=by unfold wG;rw[h];rfl
theorem ub {l:List It}:wG l=true↔lR l∧∀ x∈l,oB x:=by
 unfold wG;rw[aN,ul,dy];exact ⟨fun ⟨a,b⟩=>⟨a,fun x hx=>bn (b x hx)⟩,fun ⟨a,b⟩=>⟨a,fun x hx=>aC (b x hx)⟩⟩
end Go.Proofs.YtcgfilmmokmdjaaGreat
namespace Go.Proofs.YtcgfilmmokmdjaaGreat
open Go.RowKit
def iC (x:It):List Value:=[.int .u64 x.key,.int .u32 x.ck,.int .i64 x.off,.int .i64 x.size]
abbrev lN (x:It):Value:=.agg #[.int .u64 x.key,.int .u32 x.ck,.int .i64 x.off,.int .i64 x.size]
abbrev ja (w:World) (v:Value) (l:List It):Prop:=iN 4 iC w v l
theorem wm (x:It):(iC x).length=4:=rfl
theorem zHK (k c o s:Int) (w:World) :
  Calls Tryz.prog 141 #[.agg #[.int .u64 k,.int .u32 c,.int .i64 o,.int .i64 s]] w fun e w'=>e=.returned (.bool (okB ⟨k,c,o,s⟩))∧Below w.heap.size w w':=by
 have HT:=zh (show oB ⟨k,c,o,s⟩→okB ⟨k,c,o,s⟩=true from fun h=>aC h);have HF:=zh (show ¬ oB ⟨k,c,o,s⟩→okB ⟨k,c,o,s⟩=false from fun h=>aD h)
 go_enter Tryz.func141,Tryz.ntmps141
 go_wp2_with fail
 ·
  go_ret;refine ⟨zI ?_,(aj _ _).alloc (ag _) _⟩
  by_cases hs:s≤4096
  ·
   rw[HT.out ⟨by assumption,by assumption,by assumption,by assumption,hs⟩];exact aC hs
  rw[HF.out (fun h=>hs h.2.2.2.2)];exact aD hs
 all_goals
  go_ret;exact ⟨zI (HF.out (fun h=>by have h1:=h.1;have h2:=h.2.1;have h3:=h.2.2.1;have h4:=h.2.2.2.1;simp only[] at h1 h2 h3 h4;first|contradiction|omega)).symm,(aj _ _).alloc (ag _) _⟩
theorem Wn (k c o s:Int) (w:World) :
  Calls Tryz.prog 127 #[.agg #[.int .u64 k,.int .u32 c,.int .i64 o,.int .i64 s]] w fun e w'=>e=.returned (.bool (okB ⟨k,c,o,s⟩))∧Below w.heap.size w w':=by
 have HT:=zh (show oB ⟨k,c,o,s⟩→okB ⟨k,c,o,s⟩=true from fun h=>aC h);have HF:=zh (show ¬ oB ⟨k,c,o,s⟩→okB ⟨k,c,o,s⟩=false from fun h=>aD h)
 go_enter Tryz.func127,Tryz.ntmps127
 go_wp2_with fail
 ·
  go_ret;refine ⟨zI ?_,(aj _ _).alloc (ag _) _⟩
  by_cases hs:s≤4096
  ·
   rw[HT.out ⟨by assumption,by assumption,by assumption,by assumption,hs⟩];exact aC hs
  rw[HF.out (fun h=>hs h.2.2.2.2)];exact aD hs
 all_goals
  go_ret;exact ⟨zI (HF.out (fun h=>by have h1:=h.1;have h2:=h.2.1;have h3:=h.2.2.1;have h4:=h.2.2.2.1;simp only[] at h1 h2 h3 h4;first|contradiction|omega)).symm,(aj _ _).alloc (ag _) _⟩
theorem zCs (k c o s:Int) (w:World) :
  Calls Tryz.prog 140 #[.agg #[.int .u64 k,.int .u32 c,.int .i64 o,.int .i64 s]] w fun e w'=>e=.returned (.bool (!okB ⟨k,c,o,s⟩))∧Below w.heap.size w w':=by
 have H:=zh fun w=>zHK k c o s w
 generalize okB ⟨k,c,o,s⟩=r at *
 go_enter Tryz.func140,Tryz.ntmps140
 go_wp2_with fail;refine (H.out _).mono ?_;rintro e w1 ⟨rfl,hb⟩;go_wp2_with fail;go_ret;exact ⟨rfl,zA ((aj _ _).alloc (ag _) _) hb⟩
theorem ja.below {w w':World} {v:Value} {l:List It} (h:ja w v l) (hb:Below w.heap.size w w'):ja w' v l:=iN.below h hb
theorem ja.shape {w:World} {v:Value} {l:List It} (h:ja w v l):∃ a cap,v=.slice a l.length cap∧l.length≤cap∧cap≤maxLen:=by
 obtain ⟨a,cap,h1,h2,h3,_⟩:=iN.shape h (by decide) fE;exact ⟨a,cap,h1,h2,h3⟩
theorem ja.at {w:World} {a:Option Addr} {n cap:Nat} {l:List It} (h:ja w (.slice a n cap) l) {j:Nat} (hj:j<n):∃ b off,a=some ⟨b,off,none⟩ ∧
  w.cell? ⟨b,off+j*4,none⟩=some (.int .u64 (ea l j).key)∧w.cell? ⟨b,off+j*4+1,none⟩=some (.int .u32 (ea l j).ck) ∧
  w.cell? ⟨b,off+j*4+2,none⟩=some (.int .i64 (ea l j).off)∧w.cell? ⟨b,off+j*4+3,none⟩=some (.int .i64 (ea l j).size):=by
 obtain ⟨a',cap',e,h2,h3,_,h5⟩:=iN.shape h (by decide) fE;injection e with e1 e2 e3;subst e1 e2 e3;obtain ⟨b,off,e,hc⟩:=h5 (by omega);refine ⟨b,off,e,?_,?_,?_,?_⟩
 ·
  have:=hc j hj 0 _ rfl;rwa [bB] at this
 ·
  exact hc j hj 1 _ rfl
 ·
  exact hc j hj 2 _ rfl
 exact hc j hj 3 _ rfl
theorem I3:(Tryz.prog.info? 49).map (fun i=>(i.zero,i.size,i.bytes))=some (some (.agg #[.int .u64 0,.int .u32 0,.int .i64 0,.int .i64 0]),4,32):=by kernel_rfl
theorem yI:xt Tryz.prog 33 49 4 32:=by
 obtain ⟨i,h1,h2,h3,h4⟩:=cm I3;exact ⟨Tryz.underlying33,by decide,i,_,h1,h2,h3,h4,rfl⟩
def zU (l:List It):List Value:=l.flatMap iC
theorem wE (l:List It) (k:Nat):zU (l.take k)=(zU l).take (k*4):=Wd 4 iC l wm k
theorem uc (l:List It) (k:Nat):zU (l.drop k)=(zU l).drop (k*4):=Wh 4 iC l wm k
theorem zu (l m:List It):zU (l++m)=zU l++zU m:=by simp[zU]
theorem xS (x:It):zU [x]=iC x:=by simp[zU]
theorem ua (x:It) (l:List It):zU (x::l)=iC x++zU l:=rfl
theorem zy (l:List It):(zU l).length=l.length*4:=yR 4 iC l (fun x _=>wm x)
theorem zq (l:List It):∀ u∈zU l,u.oneCell'=true:=by
 intro u hu;obtain ⟨x,_,hx⟩:=List.mem_flatMap.1 hu;simp[iC] at hx;rcases hx with rfl|rfl|rfl|rfl<;>rfl
theorem ui {w:World} {v:Value} {l:List It} (h:ja w v l):Rd w 4 v l.length (zU l):=h.2
theorem yh {w:World} {v:Value} {l:List It} {n:Nat} (h:Rd w 4 v n (zU l)):ja w v l:=by
 have e:l.length=n:=by
  have:=h.1;rw[zy] at this;omega
 refine ⟨fun x _=>wm x,?_⟩;rw[e];exact h
abbrev fC (w:World) (base:Nat) (v:Value) (l:List It):Prop:=w.ownsRow base 49 4 v l.length (zU l)
theorem yO {w:World} {base n:Nat} {v:Value} {l:List It} {xs:List Value} (h:w.ownsRow base 49 4 v n xs) (e:xs=zU l):fC w base v l:=by
 subst e;have:l.length=n:=by have:=h.1;rw[zy] at this;omega
 unfold fC;rw[this];exact h
theorem fC.rd {w:World} {base:Nat} {v:Value} {l:List It} (h:fC w base v l):ja w v l:=yh (zk h)
theorem C1 {n cap:Nat} (h:n≤cap) (h':cap≤maxLen):n≤9223372036854775807:=by unfold maxLen at h';omega
theorem Q6 (v:Value) (l:List It) (w:World) (h:ja w v l) :
  Calls Tryz.prog 138 #[v] w fun e w'=>e=.returned (.bool (C0 l))∧Below w.heap.size w w':=by
 obtain ⟨a,cap,rfl,h1,h2⟩:=h.shape;have HT:=zh (show np l l.length→C0 l=true from fun h=>(ul l).2 h);have HF:=zh (show ∀ j,j+1<l.length→_ from fun j=>Wl (l:=l) (j:=j));have hm:=C1 h1 h2;generalize hn:l.length=n at *;have Hr:=zh h;clear h h1 h2 hn
 go_enter Tryz.func138,Tryz.ntmps138
 go_wp2_with fail
 go_loopw [7] (fun i wr=>∃ k:Nat,k≤n∧i=.int .i64 (k:Int)∧np l k∧Below w.heap.size w wr) (fun i _=>n-(intOf i).toNat)
 case atStart=>exact ⟨0,aq _,rfl,fun j hj=>absurd hj (by omega),aj _ _⟩
 obtain ⟨k,hk,rfl,AK,hb⟩:=hrel;have Ee:=zh AK;have Hb:=zh hb;have hB:=hb.size;clear AK hb
 by_cases hlt:k<n
 ·
  have hr:=Hr.out.below Hb.out;obtain ⟨b,off,rfl,c0,c1,c2,c3⟩:=hr.at hlt
  by_cases h0:k=0
  ·
   subst h0;rw[Nat.zero_mul,bB] at c0 c1 c2 c3;clear hr;go_wp2_with fail
   go_quiet (fail)
   go_wp2_with fail;exact ⟨⟨1,by omega,by go_num,fun j hj=>absurd hj (by omega),below_drewN (Hb.out.alloc hB _) _⟩,by simp[intOf];omega⟩
  obtain ⟨j,rfl⟩:∃ j,k=j+1:=⟨k-1,by omega⟩
  have hd:decide ((0:Int)<((j+1:Nat):Int))=true:=by simp
  obtain ⟨_,_,e,d0,_⟩:=hr.at (show j<n by omega);injection e with e;injection e with e1 e2;subst e1 e2;generalize e1:(ea l (j+1)).key=x at *;generalize e2:(ea l j).key=y at *;generalize (ea l (j+1)).ck=x1 at *;generalize (ea l (j+1)).off=x2 at *;generalize (ea l (j+1)).size=x3 at *;have E:=zh (And.intro e1 e2);clear e1 e2 h0 hr;have hne:∀ o n,((wr.alloc o).drewN n).cell? ⟨b,off+j*4,none⟩=some (.int .u64 y):=fun o n=>Below.keeps (below_drewN ((aj _ _).alloc (ag _) o) n) _ _ d0
  have i1:(j:Int)+1<(n:Int):=by omega
  have i2:(j:Int)<(n:Int):=by omega
  have j1:IntKind.i64.wrap (j:Int)=(j:Int):=aF _ (by omega);go_wp2_with fail
  go_quiet (fail)
  clear j1 i1 i2;go_wp2_with fail
  ·
   have hle:x≤y:=by assumption
   go_ret;exact ⟨zI (HF.out j hlt (by rw[E.out.1,E.out.2];exact hle)).symm,below_drewN (Hb.out.alloc hB _) _⟩
  have hxy:y<x:=by assumption
  refine ⟨⟨j+1+1,by omega,by go_num,Ee.out.succ (fun i e=>?_),below_drewN (Hb.out.alloc hB _) _⟩,by simp[intOf];omega⟩;obtain rfl:j=i:=by omega
  rw[E.out.1,E.out.2];exact hxy
 obtain rfl:k=n:=by omega
 go_wp2_with fail;go_ret;exact ⟨zI (HT.out Ee.out).symm,Hb.out⟩
theorem zKH (v:Value) (l:List It) (w:World) (h:ja w v l) :
  Calls Tryz.prog 178 #[v,.func (.func 140) #[] #[]] w fun e w'=>(∃ k:Int,e=.returned (.int .i64 k)∧decide (0≤k)=!l.all okB)∧Below w.heap.size w w':=by
 obtain ⟨a,cap,rfl,h1,h2⟩:=h.shape;have HT:=zh (show (∀ j,j<l.length→_)→_ from kF (l:=l) (p:=okB));have HF:=zh (show ∀ j,j<l.length→_→_ from fun j=>tv (l:=l) (p:=okB) (j:=j));have hm:=C1 h1 h2;generalize hn:l.length=n at *;have Hr:=zh h;clear h h1 h2 hn
 go_enter Tryz.func178,Tryz.ntmps178
 go_wp2_with fail
 go_loopw [8] (fun i wr=>∃ k:Nat,k≤n∧i=.int .i64 (k:Int)∧(∀ j,j<k→okB (ea l j)=true)∧Below w.heap.size w wr) (fun i _=>n-(intOf i).toNat)
 case atStart=>exact ⟨0,aq _,rfl,fun j hj=>absurd hj (by omega),aj _ _⟩
 obtain ⟨k,hk,rfl,hok,hb⟩:=hrel;have mf:=zh hok;have Hb:=zh hb;have hB:=hb.size;clear hok hb
 by_cases hlt:k<n
 ·
  have hr:=Hr.out.below Hb.out;obtain ⟨b,off,rfl,c0,c1,c2,c3⟩:=hr.at hlt;have HV:=zh fun w=>zCs (ea l k).key (ea l k).ck (ea l k).off (ea l k).size w
  generalize hx:ea l k=x at *;have EX:=zh hx;clear hx;clear hr;go_wp2_with fail;refine (HV.out _).mono ?_;rintro e w1 ⟨rfl,hb1⟩;have mQ:=zh (zA Hb.out hb1)
  cases hx:okB x
  ·
   have HX:=zh hx;clear hb1 hx;go_wp2_with fail;go_ret;refine ⟨⟨k,rfl,?_⟩,mQ.out⟩;rw[HF.out k hlt (by rw[EX.out];exact HX.out)];simp
  have HX:=zh hx;clear hb1 hx;go_wp2_with fail;refine ⟨⟨k+1,by omega,by go_num,fun j hj=>?_,mQ.out⟩,by simp[intOf];omega⟩
  by_cases e:j=k
  ·
   rw[e,EX.out];exact HX.out
  exact mf.out j (by omega)
 obtain rfl:k=n:=by omega
 go_wp2_with fail;go_ret;refine ⟨⟨-1,rfl,?_⟩,Hb.out⟩;rw[HT.out mf.out];rfl
theorem zIf (v:Value) (l:List It) (w:World) (h:ja w v l) :
  Calls Tryz.prog 139 #[v,.func (.func 140) #[] #[]] w fun e w'=>e=.returned (.bool (!l.all okB))∧Below w.heap.size w w':=by
 have HA:=zh (zKH v l w h);obtain ⟨a,cap,rfl,h1,h2⟩:=h.shape;clear h h1 h2
 go_enter Tryz.func139,Tryz.ntmps139
 go_wp2_with fail;refine HA.out.mono ?_;rintro e w1 ⟨⟨k,rfl,hk⟩,hb1⟩;have Hk:=zh hk;have mQ:=zh hb1;clear hk hb1;go_wp2_with fail;go_ret;exact ⟨zI Hk.out,mQ.out⟩
theorem Wo (v:Value) (l:List It) (w:World) (h:ja w v l) :
  Calls Tryz.prog 99 #[v] w fun e w'=>e=.returned (.bool (wG l))∧Below w.heap.size w w':=by
 have HA:=zh (Q6 v l w h);have HC:=zh (fun w h=>zIf v l w h);have Hr:=zh h;obtain ⟨a,cap,rfl,h1,h2⟩:=h.shape;clear h h1 h2
 go_enter Tryz.func99,Tryz.ntmps99
 go_wp2_with fail;refine HA.out.mono ?_;rintro e w1 ⟨rfl,hb1⟩;have mQ:=zh hb1
 cases hab:C0 l
 ·
  have HF:=zh (Wm hab);clear hb1 hab;go_wp2_with fail;go_ret;exact ⟨zI HF.out.symm,mQ.out⟩
 have HF:=zh (show wG l=l.all okB by unfold wG;rw[hab];rfl);clear hb1 hab;go_wp2_with fail;refine (HC.out w1 (Hr.out.below mQ.out)).mono ?_;rintro e w2 ⟨rfl,hb2⟩;have DN:=zh (zA mQ.out hb2);clear hb2;go_wp2_with fail;go_ret;exact ⟨zI (HF.out.symm),DN.out⟩
theorem zIX (v:Value) (l:List It) (w:World) (h:ja w v l) :
  Calls Tryz.prog 161 #[v] w fun e w'=>e=.returned (.bool (wG l))∧Below w.heap.size w w':=by
 obtain ⟨a,cap,rfl,h1,h2⟩:=h.shape;have HT:=zh (show np l l.length→(∀ j,j<l.length→okB (ea l j)=true)→wG l=true from zHm);have Q7:=zh (show ∀ j,j+1<l.length→(ea l (j+1)).key≤(ea l j).key→wG l=false from fun j h1 h2=>Wm (Wl h1 h2));have HF2:=zh (show ∀ j,j<l.length→okB (ea l j)=false→wG l=false from fun j=>zKq (l:=l) (j:=j));have hm:=C1 h1 h2;generalize hn:l.length=n at *;have Hr:=zh h;clear h h1 h2 hn
 go_enter Tryz.func161,Tryz.ntmps161
 go_wp2_with fail
 go_loopw [3] (fun i wr=>∃ k:Nat,k≤n∧i=.int .i64 (k:Int)∧np l k∧(∀ j,j<k→okB (ea l j)=true)∧Below w.heap.size w wr) (fun i _=>n-(intOf i).toNat)
 case atStart=>exact ⟨0,aq _,rfl,fun j hj=>absurd hj (by omega),fun j hj=>absurd hj (by omega),aj _ _⟩
 obtain ⟨k,hk,rfl,AK,hok,hb⟩:=hrel;have Ee:=zh AK;have mf:=zh hok;have Hb:=zh hb;have hB:=hb.size;clear AK hok hb
 by_cases hlt:k<n
 ·
  have hr:=Hr.out.below Hb.out;obtain ⟨b,off,rfl,c0,c1,c2,c3⟩:=hr.at hlt;obtain ⟨r,Q8⟩:∃ r,okB (ea l k)=r:=⟨_,rfl⟩
  have HV:=zh fun w=>Wn (ea l k).key (ea l k).ck (ea l k).off (ea l k).size w
  rw[show okB ⟨(ea l k).key,(ea l k).ck,(ea l k).off,(ea l k).size⟩=r from Q8] at HV;have HR:=zh Q8;clear Q8;have f1:=zB c1;have f2:=zB c2;have f3:=zB c3;have i1:(k:Int)<(n:Int):=by omega
  have gN:=zh (HF2.out k hlt);rw[HR.out] at gN
  cases r
  ·
   have f0:=zB c0;generalize ea l k=x at *;clear c0 c1 c2 c3 hr;go_wp2_with fail;refine zC (by kernel_rfl) (by kernel_rfl) ?_
   repeat (go_big_quiet_step ((exact zE (HV.out _))))
   refine aA ?_;intro _ hw';obtain ⟨q,hw'⟩:=hw';subst hw';go_wp2_with fail;go_ret;exact ⟨zI (gN.out (by first|trivial|rfl)).symm,zA Hb.out q.h⟩
  have HK:=zh (show ∀ j,j<k+1→okB (ea l j)=true from fun j hj=>by
   by_cases e:j=k
   ·
    rw[e];exact HR.out
   exact mf.out j (by omega))
  by_cases h0:k=0
  ·
   subst h0;rw[Nat.zero_mul,bB] at c0 f1 f2 f3;have f0:=zB c0;clear c0 c1 c2 c3 hr;generalize ea l 0=x at *;go_wp2_with fail;refine zC (by kernel_rfl) (by kernel_rfl) ?_
   repeat (go_big_quiet_step ((exact zE (HV.out _))))
   refine aA ?_;intro _ hw';obtain ⟨q,hw'⟩:=hw';subst hw';go_wp2_with fail;exact ⟨⟨1,by omega,by go_num,fun j hj=>absurd hj (by omega),HK.out,zA Hb.out q.h⟩,by simp[intOf];omega⟩
  obtain ⟨j,rfl⟩:∃ j,k=j+1:=⟨k-1,by omega⟩
  have hd:decide ((0:Int)<((j+1:Nat):Int))=true:=by simp
  have f0:=zB c0;obtain ⟨_,_,e,d0,_⟩:=hr.at (show j<n by omega);injection e with e;injection e with e1 e2;subst e1 e2;have g0:=zB d0;have Ef:=zh (Q7.out j hlt)
  have HK3:=zh (show (ea l j).key<(ea l (j+1)).key→np l (j+1+1) from fun h=>Ee.out.succ fun i e=>by
   obtain rfl:j=i:=by omega
   exact h)
  clear c0 c1 c2 c3 hr d0;generalize ea l (j+1)=x at *;generalize ea l j=y at *;have i2:(j:Int)<(n:Int):=by omega
  have i3:(j:Int)+1<(n:Int):=by omega
  have j1:IntKind.i64.wrap (j:Int)=(j:Int):=aF _ (by omega);go_wp2_with fail;refine zC (by kernel_rfl) (by kernel_rfl) ?_
  repeat (go_big_quiet_step ((exact zE (HV.out _))))
  refine aA ?_;intro _ hw';obtain ⟨q,hw'⟩:=hw';subst hw';clear i2 i3 j1;go_wp2_with fail
  ·
   have hle:x.key≤y.key:=by assumption
   go_ret;exact ⟨zI (Ef.out hle).symm,zA Hb.out q.h⟩
  have hxy:y.key<x.key:=by assumption
  exact ⟨⟨j+1+1,by omega,by go_num,HK3.out hxy,HK.out,zA Hb.out q.h⟩,by simp[intOf];omega⟩
 obtain rfl:k=n:=by omega
 go_wp2_with fail;go_ret;exact ⟨zI (HT.out Ee.out mf.out).symm,Hb.out⟩
end Go.Proofs.YtcgfilmmokmdjaaGreat
namespace Go.Proofs.YtcgfilmmokmdjaaGreat
def ins:List It→It→List It
 |[],x=>[x]
 |y::r,x=>if y.key<x.key then y::ins r x else if y.key=x.key then x::r else x::y::r
def fN (l:List It):List It:=l.foldl ins []
theorem O_:∀ (out:List It) (x:It) (k:Nat),k≤out.length→(∀ j,j<k→(ea out j).key<x.key)→(k<out.length→x.key≤(ea out k).key) →
  ins out x=out.take k++x::out.drop (if k<out.length∧(ea out k).key=x.key then k+1 else k)
 |[],x,k,hk,_,_=>by
  obtain rfl:k=0:=by simpa using hk
  simp[ins]
 |y::r,x,0,_,_,h2=>by
  have h:=h2 (by simp);have e0:ea (y::r) 0=y:=rfl;rw[e0] at h;unfold ins;rw[ai (by omega)]
  by_cases e:y.key=x.key
  ·
   rw[ah e,ah ⟨by simp,by rw[e0];exact e⟩];simp
  rw[ai e,ai (fun h=>e (by rw[e0] at h;exact h.2))];simp
 |y::r,x,k+1,hk,h1,h2=>by
  have e0:ea (y::r) 0=y:=rfl;have hs:∀ j,ea (y::r) (j+1)=ea r j:=fun j=>rfl
  unfold ins;rw[ah (by have:=h1 0 (by omega);rwa [e0] at this)];rw[O_ r x k (by simpa using hk) (fun j hj=>by have:=h1 (j+1) (by omega);rwa [hs] at this) (fun hj=>by have:=h2 (by simpa using hj);rwa [hs] at this)];rw[hs]
  by_cases e:k<r.length∧(ea r k).key=x.key
  ·
   rw[ah e,ah ⟨by simpa using e.1,e.2⟩];simp
  rw[ai e,ai (fun h=>e ⟨by simpa using h.1,h.2⟩)];simp
theorem vm (x:It):∀ out:List It,(ins out x).length≤out.length+1
 |[]=>by simp[ins]
 |y::r=>by
  have:=vm x r;unfold ins
  split
  ·
   simp;omega
  split<;>simp
theorem Wp:fN []=[]:=rfl
theorem Q9 {l:List It} {j:Nat} (h:j<l.length):fN (l.take (j+1))=ins (fN (l.take j)) (ea l j):=by
 unfold fN;rw[xI h,dN];rfl
theorem vP (l:List It):∀ j,j≤l.length→(fN (l.take j)).length≤j
 |0,_=>by simp[fN]
 |j+1,h=>by
  rw[Q9 (by omega)];have:=vm (ea l j) (fN (l.take j));have:=vP l j (by omega);omega
theorem yZ (l:List It):(fN l).length≤l.length:=by
 have:=vP l l.length (ag _)
 rwa [cB] at this
theorem ke {p:It→Prop} (x:It) (hx:p x):∀ out:List It,(∀ y∈out,p y)→∀ y∈ins out x,p y
 |[],_=>by simp[ins];exact hx
 |y::r,h=>by
  have hr:=ke x hx r (fun z hz=>h z (by simp[hz]));intro z hz;unfold ins at hz
  split at hz
  ·
   rcases List.mem_cons.1 hz with rfl|hz
   ·
    exact h _ (by simp)
   exact hr z hz
  split at hz
  ·
   rcases List.mem_cons.1 hz with rfl|hz
   ·
    exact hx
   exact h z (by simp[hz])
  rcases List.mem_cons.1 hz with rfl|hz
  ·
   exact hx
  exact h z hz
theorem Wq {p:It→Prop}:∀ (l out:List It),(∀ y∈l,p y)→(∀ y∈out,p y)→∀ y∈l.foldl ins out,p y
 |[],_,_,h=>h
 |x::l,out,hl,h=>Wq l (ins out x) (fun y hy=>hl y (by simp[hy])) (ke x (hl x (by simp)) out h)
theorem Wr {p:It→Prop} {l:List It} (h:∀ y∈l,p y):∀ y∈fN l,p y:=Wq l [] h (fun _ hy=>by cases hy)
def mR:List It→Prop
 |[]=>True
 |[_]=>True
 |x::y::r=>x.key<y.key∧mR (y::r)
theorem xe:∀ l:List It,mR l↔lR l
 |[]=>⟨fun _ _ h=>by simp at h,fun _=>trivial⟩
 |[_]=>⟨fun _ _ h=>by simp at h,fun _=>trivial⟩
 |x::y::r=>by
  unfold mR;rw[xe (y::r)]
  constructor
  ·
   rintro ⟨h1,h2⟩ j hj
   cases j with
   |zero=>exact h1
   |succ j=>exact h2 j (by simpa using hj)
  intro h;exact ⟨h 0 (by simp),fun j hj=>h (j+1) (by simpa using hj)⟩
theorem mR.tail {x:It} {r:List It} (h:mR (x::r)):mR r:=by
 cases r with
 |nil=>trivial
 |cons y r=>exact h.2
theorem mR.cons {x:It} {r:List It} (h:mR r) (hx:∀ y,r.head?=some y→x.key<y.key):mR (x::r):=by
 cases r with
 |nil=>trivial
 |cons y r=>exact ⟨hx y rfl,h⟩
theorem zJI (x y:It) (r:List It) (z:It) (h:(ins r x).head?=some z) (hx:y.key<x.key) (hr:∀ y',r.head?=some y'→y.key<y'.key):y.key<z.key:=by
 cases r with
 |nil=>simp[ins] at h;subst h;exact hx
 |cons u r =>
  unfold ins at h
  split at h
  ·
   simp at h;subst h;exact hr _ rfl
  split at h<;>(simp at h;subst h;exact hx)
theorem qS (x:It):∀ out:List It,mR out→mR (ins out x)
 |[],_=>trivial
 |y::r,h=>by
  unfold ins
  split
  ·
   rename_i hlt;refine (qS x r h.tail).cons fun z hz=>zJI x y r z hz hlt fun y' DO=>?_
   cases r with
   |nil=>cases DO
   |cons u r=>simp at DO;subst DO;exact h.1
  split
  ·
   rename_i h1 h2;refine h.tail.cons fun z hz=>?_
   cases r with
   |nil=>cases hz
   |cons u r=>simp at hz;subst hz;rw[← h2];exact h.1
  exact ⟨by omega,h⟩
theorem Ws:∀ (l out:List It),mR out→mR (l.foldl ins out)
 |[],_,h=>h
 |x::l,out,h=>Ws l (ins out x) (qS x out h)
theorem ww (l:List It):lR (fN l):=(xe _).1 (Ws l [] trivial)
theorem Q_ (x:It):∀ out:List It,(∀ y∈out,y.key<x.key)→ins out x=out++[x]
 |[],_=>rfl
 |y::r,h=>by
  unfold ins;rw[ah (h y (by simp)),Q_ x r (fun z hz=>h z (by simp[hz]))];rfl
theorem kg {l:List It} (h:lR l):∀ j,j≤l.length→fN (l.take j)=l.take j
 |0,_=>by simp[fN]
 |j+1,hj=>by
  rw[Q9 (by omega),kg h j (by omega),Q_,← xI (by omega)];intro y hy;obtain ⟨i,hi,rfl⟩:=uI hy;rw[ay] at hi;rw[wl (by omega)];exact h.mono (by omega) (by omega)
theorem yQ {l:List It} (h:lR l):fN l=l:=by
 have:=kg h l.length (ag _)
 rwa [cB] at this
def fT (l:List It) (key:Int):Option It:=l.find? fun x=>x.key==key
def Place (l:List It) (key:Int) (r:Nat):Prop:=r≤l.length∧(∀ j,r=j+1→(ea l j).key<key)∧(r<l.length→key≤(ea l r).key)
theorem Place.lt {l:List It} {key:Int} {r:Nat} (h:Place l key r) (ha:lR l) {j:Nat} (hj:j<r):(ea l j).key<key:=by
 obtain ⟨h1,h2,_⟩:=h;have h3:=h2 (r-1) (by omega)
 by_cases e:j=r-1
 ·
  rw[e];exact h3
 have:=ha.mono (show j<r-1 by omega) (by omega);omega
theorem zLc {l:List It} {key:Int}:∀ {r:Nat},r<l.length→(ea l r).key=key→(∀ j,j<r→(ea l j).key≠key)→fT l key=some (ea l r):=by
 induction l with
 |nil=>intro r h;simp at h
 |cons x l ih =>
  intro r hr hk hn;unfold fT;rw[List.find?_cons]
  cases r with
  |zero =>
   have:x.key=key:=hk;rw[show (x.key==key)=true from beq_iff_eq.2 this];rfl
  |succ r =>
   have h0:x.key≠key:=hn 0 (by omega);rw[show (x.key==key)=false from beq_eq_false_iff_ne.2 h0];exact ih (r:=r) (by simpa using hr) hk (fun j hj=>hn (j+1) (by omega))
theorem zIU {l:List It} {key:Int} (h:∀ j,j<l.length→(ea l j).key≠key):fT l key=none:=by
 unfold fT;rw[List.find?_eq_none];intro x hx;obtain ⟨j,hj,rfl⟩:=uI hx
 simpa using h j hj
theorem Place.found {l:List It} {key:Int} {r:Nat} (h:Place l key r) (ha:lR l) (hr:r<l.length) (hk:(ea l r).key=key):fT l key=some (ea l r):=
 zLc hr hk fun j hj=>by have:=h.lt ha hj;omega
theorem Place.not {l:List It} {key:Int} {r:Nat} (h:Place l key r) (ha:lR l) (hk:r<l.length→(ea l r).key≠key):fT l key=none:=
 zIU fun j hj=>by
  by_cases e:j<r
  ·
   have:=h.lt ha e;omega
  by_cases e2:j=r
  ·
   rw[e2];exact hk (by omega)
  have h1:=h.2.2 (by omega);have h2:=ha.mono (show r<j by omega) hj;omega
end Go.Proofs.YtcgfilmmokmdjaaGreat
namespace Go.Proofs.YtcgfilmmokmdjaaGreat
open Go.RowKit
theorem Ra {wo:World} {base:Nat} {a oa:Option Addr} {oc m:Nat} {xs:List Value} (h:∀ z,a=some z→wo.heap.size≤z.block) (ho:wo.ownsRow base 49 4 (.slice oa m oc) m xs) (k:Nat) :
  ∀ z,a=some z→some z.block≠(Value.slice oa k oc).ownBlock:=by
 intro z hz e;have h1:=h z hz;have h2:=ho.lt z.block (by rw[e];cases oa<;>rfl);omega
theorem qB (v:Value) (l:List It) (w:World) (h:ja w v l) (hs:l.length≤1000000) :
  Calls Tryz.prog 164 #[v] w fun e w'=>∃ v',e=.returned v'∧fC w' w.heap.size v' (fN l)∧Below w.heap.size w w':=by
 obtain ⟨a,cap,rfl,_,_⟩:=h.shape;have HS:=zh (show ∀ j,j<l.length→_ from fun j=>Q9 (l:=l) (j:=j));have HL:=zh (vP l);have HE:=zh (show fN (l.take l.length)=fN l by rw[cB]);generalize hn:l.length=n at *;have Hr:=zh h;clear h hn
 go_enter Tryz.func164,Tryz.ntmps164
 go_wp2_with fail
 go_loopw [3,4] (fun ov iv wr=>∃ j:Nat,iv=.int .i64 (j:Int)∧j≤n∧fC wr w.heap.size ov (fN (l.take j))∧Below w.heap.size w wr) (fun _ iv _=>n-(intOf iv).toNat)
 case atStart=>exact ⟨0,rfl,aq _,aT _ _ _ _,aj _ _⟩
 obtain ⟨j,rfl,hj,hown,hb⟩:=hrel;have hB:=hb.size;obtain ⟨oa,oc,rfl,ho1,ho2,rL⟩:=zH hown;have LC:=zh rL;have Hb:=zh hb;have iy:=zh (show wr.ownsRow w.heap.size 49 4 _ (fN (l.take j)).length (zU (fN (l.take j))) from hown);clear hown hb rL
 by_cases hlt:j<n
 ·
  have hL:=HL.out j hj;have BD:=zh (HS.out j hlt);generalize fN (l.take j)=o at *;generalize hm:o.length=m at *;have HM:=zh hm;clear hm;obtain ⟨b,off,rfl,c0,c1,c2,c3⟩:=Hr.out.at hlt;generalize ea l j=x at *;have oQ:=zh (fun w' (h:Below w.heap.size w w')=>And.intro (Below.keeps h _ _ c0) (And.intro (Below.keeps h _ _ c1) (And.intro (Below.keeps h _ _ c2) (Below.keeps h _ _ c3))));have c0:=Below.keeps Hb.out _ _ c0;clear c1 c2 c3;obtain ⟨wo,ewo⟩:∃ wo:World,wo=wr:=⟨_,rfl⟩
  subst ewo;go_wp2_with fail
  go_loopw [5] (fun kv w2=>∃ k:Nat,kv=.int .i64 (k:Int)∧k≤m∧(∀ i,i<k→(ea o i).key<x.key)∧Below wo.heap.size wo w2) (fun kv _=>m-(intOf kv).toNat)
  case atStart=>exact ⟨0,rfl,aq _,fun i hi=>absurd hi (by omega),aj _ _⟩
  obtain ⟨k,rfl,hk,hkey,hb2⟩:=hrel;have I4:=zh hkey;have DN:=zh hb2;have d0:=Below.keeps hb2 _ _ c0;clear hkey hb2;have i1:(j:Int)<(n:Int):=by omega
  by_cases F8:k<m
  ·
   have ho:=(yh (zk iy.out)).below DN.out;obtain ⟨bo,oo,rfl,e0,_⟩:=ho.at F8;clear ho;have i2:(k:Int)<(m:Int):=by omega
   generalize hy:(ea o k).key=y at *;have HY:=zh hy;clear hy
   by_cases Fy:y<x.key
   ·
    have hyd:decide (y<x.key)=true:=aC Fy;go_wp2_with fail
    go_quiet (fail)
    clear i1 i2;go_wp2_with fail
    exact ⟨⟨k+1,by go_num,by omega,fun i hi=>by
     by_cases e:i=k
     ·
      rw[e,HY.out];exact Fy
     exact I4.out i (by omega),below_drewN DN.out _⟩,by simp[intOf];omega⟩
   have hyd:decide (y<x.key)=false:=aD Fy;have F9:=zh (O_ o x k (by rw[HM.out];exact hk) I4.out (by rw[HY.out];omega));obtain ⟨sa,sc,hrun,hsl,hsb⟩:=wt yI (ui ((yh (zk iy.out)).below DN.out)) k hk;rw[← uc] at hsl;obtain ⟨d,hd,rC,hd2⟩:∃ d,m-k=d∧0<d∧d≤m:=⟨m-k,rfl,by omega,by omega⟩
   rw[hd] at hsl hrun;have HD:=zh hd;have Rb:=zh hsl;have AL:=zh (fun nq=>cI (base:=wr.heap.size) (e:=49) (size:=4) (wr.drewN nq) #[] 0 (ag _) (by decide) rfl);clear hsl hsb hd;go_wp2_with fail
   go_quiet (fail)
   clear i1 i2;go_wp2_with (at_builtin;go_must (refine zP rfl (.tmp 32) (.tmp 35) 33 rfl yI wr.heap.size rfl (AL.out nq) rfl ((Rb.out.below (below_drewN (aj _ _) nq)).alloc _) (zq _) (by unfold maxLen;omega) (by omega) (by simp) ?_);intro v3 w3 ei eL hv3;clear hv3);rw[aI,bQ] at ei;have hb3:=zL ((below_drewN (aj wr.heap.size wr) nq).alloc (ag _) _) (AL.out nq) (by simp) eL;obtain ⟨ra,rc,rfl,hr1,hr2,hr3⟩:=zH ei;obtain ⟨rb,Rc,rfl,g0,_⟩:=(yh (zk ei)).at rC;have Wu:=(ei.lt rb rfl).1;simp only[wA,Nat.zero_mul,bB,HY.out] at g0;have k0:=Below.keeps hb3 _ _ d0;have I5:=zh (zk ei);have I6:=zh hb3;have hdd:decide ((0:Int)<(d:Int))=true:=by simp;omega
   have i1:(j:Int)<(n:Int):=by omega
   clear ei eL hb3 hr3 hrun
   by_cases C2:y=x.key
   ·
    have KL:(y==x.key)=true:=beq_iff_eq.2 C2;obtain ⟨ta,tc,Ia,LD,I7⟩:=wt yI I5.out 1 rC;rw[show ((1:Nat):Int)=1 from rfl] at Ia;have LG:=zh LD;have LH:=zh I7;clear LD I7;go_wp2_with fail
    go_quiet (fail)
    go_wp2_with fail;obtain ⟨w4,hw4⟩:∃ w4,w4=w3.drewN nq:=⟨_,rfl⟩
    rw[← hw4];have Ib:=zh (show Below wo.heap.size wo w4 by rw[hw4];exact below_drewN (zA DN.out I6.out) nq)
    have LI:=zh (show Rd w4 4 (.slice ta (d-1) tc) (d-1) (zU (o.drop (k+1))) by
     rw[hw4,show k+1=k+1 from rfl,← cn,uc];exact LG.out.below (below_drewN (aj _ _) nq))
    have LJ:=zh (show ∀ z,ta=some z→wo.heap.size≤z.block from fun z hz=>by
     obtain ⟨y',DO,e⟩:=LH.out z hz
     injection DO with DO
     rw[← e,← DO];exact ak DN.out.size Wu)
    have Eg:=zh (Ra LJ.out iy.out k);have LK:=zh (show ins o x=o.take k++x::o.drop (k+1) by rw[F9.out,ah ⟨by rw[HM.out];exact F8,HY.out.trans C2⟩]);have LL:=zh (show d-1≤m by omega);clear hw4 I5 I6 LG LH Ia g0 k0 KL C2;have Ga:=yl (P:=Tryz.prog) yI (n:=m) LC.out k (ak hk ho1);have rZ:=zh (zA Hb.out Ib.out);have Am:w.heap.size≤w4.heap.size:=rZ.out.size;have jA:=zh (vC (zG iy.out Ib.out) k hk);have HT:=zh (zq [x]);have hrl:=LL.out
    go_region_held3 (fun w'=>w'.cell? ⟨b,off+j*4,none⟩=some (.int .u64 x.key)∧w'.cell? ⟨b,off+j*4+1,none⟩=some (.int .u32 x.ck)∧w'.cell? ⟨b,off+j*4+2,none⟩=some (.int .i64 x.off)∧w'.cell? ⟨b,off+j*4+3,none⟩=some (.int .i64 x.size))
     (first|exact oQ.out _ rZ.out.drew|exact oQ.out _ (rZ.out.drew.alloc Am _)|exact oQ.out _ (zL (rZ.out.drew.alloc Am _) ((jA.out.drew).alloc _) (by simp;omega) iz)|exact oQ.out _ (zL (zL (rZ.out.drew.alloc Am _) ((jA.out.drew).alloc _) (by simp;omega) iz) gG (ak (by simp;omega) iz.size) mS))
     (first|(refine vL (by rfl) _ _ _ (by rfl) yI w.heap.size (by rfl) ((jA.out.drew).alloc _) (by rfl) (Rd.new _ 4 (iC x) 49 1 rfl (by decide)) (by simpa [zU] using HT.out) (by unfold maxLen;omega) (by omega) (by simp;omega) ?_;intro v5 w5 gG iz LM;clear LM)|(refine vL (by rfl) _ _ _ (by rfl) yI w.heap.size (by rfl) gG (by rfl) (((LI.out.drew).alloc _).grown iz Eg.out) (zq _) (by unfold maxLen;omega) (by omega) (ak (by simp;omega) iz.size) ?_;intro v6 w6 iV mS Gb;clear Gb))
    have lS:zU (o.take k)++iC x++zU (o.drop (k+1))=zU (fN (l.take (j+1))):=by rw[BD.out,LK.out,zu,ua,bt]
    rw[wE] at lS;have AO:=zh lS;have iZ:=zh (zL (zL (rZ.out.drew.alloc Am _) ((jA.out.drew).alloc _) (by simp;omega) iz) gG (ak (by simp;omega) iz.size) mS);have nr:=zh iV;clear lS gG iV iz mS;go_wp2_with fail;exact ⟨⟨j+1,by go_num,by omega,yO nr.out AO.out,iZ.out⟩,by simp[intOf];omega⟩
   have KL:(y==x.key)=false:=beq_eq_false_iff_ne.2 C2;go_wp2_with fail
   go_quiet (fail)
   go_wp2_with fail;obtain ⟨w4,hw4⟩:∃ w4,w4=w3.drewN nq:=⟨_,rfl⟩
   rw[← hw4];have Ib:=zh (show Below wo.heap.size wo w4 by rw[hw4];exact below_drewN (zA DN.out I6.out) nq)
   have LI:=zh (show Rd w4 4 _ d (zU (o.drop k)) by
    rw[hw4];exact I5.out.below (below_drewN (aj _ _) nq))
   have LJ:=zh (show ∀ z,some (⟨rb,Rc,none⟩:Addr)=some z→wo.heap.size≤z.block from fun z hz=>by
    injection hz with hz
    rw[← hz];exact ak DN.out.size Wu)
   have Eg:=zh (Ra LJ.out iy.out k);have LK:=zh (show ins o x=o.take k++x::o.drop k by rw[F9.out,ai (fun h=>C2 (HY.out.symm.trans h.2))]);have LL:=zh (show d≤m by omega);clear hw4 I5 I6 g0 k0 KL C2;have Ga:=yl (P:=Tryz.prog) yI (n:=m) LC.out k (ak hk ho1);have rZ:=zh (zA Hb.out Ib.out);have Am:w.heap.size≤w4.heap.size:=rZ.out.size;have jA:=zh (vC (zG iy.out Ib.out) k hk);have HT:=zh (zq [x]);have hrl:=LL.out
   go_region_held3 (fun w'=>w'.cell? ⟨b,off+j*4,none⟩=some (.int .u64 x.key)∧w'.cell? ⟨b,off+j*4+1,none⟩=some (.int .u32 x.ck)∧w'.cell? ⟨b,off+j*4+2,none⟩=some (.int .i64 x.off)∧w'.cell? ⟨b,off+j*4+3,none⟩=some (.int .i64 x.size))
    (first|exact oQ.out _ rZ.out.drew|exact oQ.out _ (rZ.out.drew.alloc Am _)|exact oQ.out _ (zL (rZ.out.drew.alloc Am _) ((jA.out.drew).alloc _) (by simp;omega) iz)|exact oQ.out _ (zL (zL (rZ.out.drew.alloc Am _) ((jA.out.drew).alloc _) (by simp;omega) iz) gG (ak (by simp;omega) iz.size) mS))
    (first|(refine vL (by rfl) _ _ _ (by rfl) yI w.heap.size (by rfl) ((jA.out.drew).alloc _) (by rfl) (Rd.new _ 4 (iC x) 49 1 rfl (by decide)) (by simpa [zU] using HT.out) (by unfold maxLen;omega) (by omega) (by simp;omega) ?_;intro v5 w5 gG iz LM;clear LM)|(refine vL (by rfl) _ _ _ (by rfl) yI w.heap.size (by rfl) gG (by rfl) (((LI.out.drew).alloc _).grown iz Eg.out) (zq _) (by unfold maxLen;omega) (by omega) (ak (by simp;omega) iz.size) ?_;intro v6 w6 iV mS Gb;clear Gb))
   have lS:zU (o.take k)++iC x++zU (o.drop k)=zU (fN (l.take (j+1))):=by rw[BD.out,LK.out,zu,ua,bt]
   rw[wE] at lS;have AO:=zh lS;have iZ:=zh (zL (zL (rZ.out.drew.alloc Am _) ((jA.out.drew).alloc _) (by simp;omega) iz) gG (ak (by simp;omega) iz.size) mS);have nr:=zh iV;clear lS gG iV iz mS;go_wp2_with fail;exact ⟨⟨j+1,by go_num,by omega,yO nr.out AO.out,iZ.out⟩,by simp[intOf];omega⟩
  obtain rfl:k=m:=by omega
  have F9:=zh (O_ o x k (by rw[HM.out];exact ag _) I4.out (by rw[HM.out];intro h;omega));obtain ⟨sa,sc,hrun,hsl,hsb⟩:=wt yI (zk (zG iy.out DN.out)) k hk;rw[Nat.sub_self,bY (by rw[zy,HM.out];exact ag _)] at hsl;rw[Nat.sub_self] at hrun;have Rb:=zh hsl;have AL:=zh (fun nq=>cI (base:=wr.heap.size) (e:=49) (size:=4) (wr.drewN nq) #[] 0 (ag _) (by decide) rfl);clear hsl hsb;go_wp2_with fail
  go_quiet (fail)
  clear i1;go_wp2_with (at_builtin;go_must (refine zP rfl (.tmp 32) (.tmp 35) 33 rfl yI wr.heap.size rfl (AL.out nq) rfl ((Rb.out.below (below_drewN (aj _ _) nq)).alloc _) (fun _ h=>by cases h) (by unfold maxLen;omega) (by omega) (by simp) ?_);intro v3 w3 ei eL hv3;clear hv3);rw[aI,bQ] at ei;have hb3:=zL ((below_drewN (aj wr.heap.size wr) nq).alloc (ag _) _) (AL.out nq) (by simp) eL;obtain ⟨ra,rc,rfl,hr1,hr2,hr3⟩:=zH ei;have I5:=zh (zk ei);have I6:=zh hb3
  have LJ:=zh (show ∀ z,ra=some z→wo.heap.size≤z.block from fun z hz=>by
   subst hz
   exact ak DN.out.size (ei.lt _ rfl).1)
  have Eg:=zh (Ra LJ.out iy.out k);have LK:=zh (show ins o x=o.take k++x::[] by rw[F9.out,ai (fun h=>by have:=HM.out;omega),bY (by rw[HM.out];exact ag _)]);have LL:=zh (show 0≤k from aq _);clear ei eL hb3 hr3 hrun;go_wp2_with fail
  go_quiet (fail)
  go_wp2_with fail;obtain ⟨w4,hw4⟩:∃ w4,w4=w3.drewN nq:=⟨_,rfl⟩
  rw[← hw4];have Ib:=zh (show Below wo.heap.size wo w4 by rw[hw4];exact below_drewN (zA DN.out I6.out) nq)
  have LI:=zh (show Rd w4 4 _ 0 (zU []) by
   rw[hw4];exact I5.out.below (below_drewN (aj _ _) nq))
  clear hw4 I5 I6;have Ga:=yl (P:=Tryz.prog) yI (n:=k) LC.out k ho1;have rZ:=zh (zA Hb.out Ib.out);have Am:w.heap.size≤w4.heap.size:=rZ.out.size;have jA:=zh (vC (zG iy.out Ib.out) k hk);have HT:=zh (zq [x]);have hrl:=LL.out
  go_region_held3 (fun w'=>w'.cell? ⟨b,off+j*4,none⟩=some (.int .u64 x.key)∧w'.cell? ⟨b,off+j*4+1,none⟩=some (.int .u32 x.ck)∧w'.cell? ⟨b,off+j*4+2,none⟩=some (.int .i64 x.off)∧w'.cell? ⟨b,off+j*4+3,none⟩=some (.int .i64 x.size))
   (first|exact oQ.out _ rZ.out.drew|exact oQ.out _ (rZ.out.drew.alloc Am _)|exact oQ.out _ (zL (rZ.out.drew.alloc Am _) ((jA.out.drew).alloc _) (by simp;omega) iz)|exact oQ.out _ (zL (zL (rZ.out.drew.alloc Am _) ((jA.out.drew).alloc _) (by simp;omega) iz) gG (ak (by simp;omega) iz.size) mS))
   (first|(refine vL (by rfl) _ _ _ (by rfl) yI w.heap.size (by rfl) ((jA.out.drew).alloc _) (by rfl) (Rd.new _ 4 (iC x) 49 1 rfl (by decide)) (by simpa [zU] using HT.out) (by unfold maxLen;omega) (by omega) (by simp;omega) ?_;intro v5 w5 gG iz LM;clear LM)|(refine vL (by rfl) _ _ _ (by rfl) yI w.heap.size (by rfl) gG (by rfl) (((LI.out.drew).alloc _).grown iz Eg.out) (zq _) (by unfold maxLen;omega) (by omega) (ak (by simp;omega) iz.size) ?_;intro v6 w6 iV mS Gb;clear Gb))
  have lS:zU (o.take k)++iC x++zU []=zU (fN (l.take (j+1))):=by rw[BD.out,LK.out,zu,ua,bt]
  rw[wE] at lS;have AO:=zh lS;have iZ:=zh (zL (zL (rZ.out.drew.alloc Am _) ((jA.out.drew).alloc _) (by simp;omega) iz) gG (ak (by simp;omega) iz.size) mS);have nr:=zh iV;clear lS gG iV iz mS;go_wp2_with fail;exact ⟨⟨j+1,by go_num,by omega,yO nr.out AO.out,iZ.out⟩,by simp[intOf];omega⟩
 obtain rfl:j=n:=by omega
 go_wp2_with fail;go_ret;exact ⟨_,rfl,by rw[← HE.out];exact iy.out,Hb.out⟩
def zMa (x:It):It:=⟨x.key,x.ck,16+8*(x.off%4096),x.size%4096⟩
def upd (o:List It) (k:Nat):List It:=(o.take k).map zMa++o.drop k
theorem Rf (v:Value) (l:List It) (w:World) (h:ja w v l) (hs:l.length≤1000000) :
  Calls Tryz.prog 134 #[v] w fun e w'=>∃ v',e=.returned v'∧fC w' w.heap.size v' l∧Below w.heap.size w w':=by
 obtain ⟨a,cap,rfl,h1,h2⟩:=h.shape;have Wv:∀ (w:World) (a:Option Addr) (n c n' c':Nat),(binOp .eql 33 (.slice a n c) (.slice none n' c')).run Tryz.prog w=.ok (.bool a.isNone) w:=fun w a n c n' c'=>Lib.run_eql_slice_nil w _ _ a n c n' c' Tryz.underlying33
 cases a with
 |none =>
  have h0:l=[]:=by
   obtain ⟨_,a',cap',e,_,_,h5,_⟩:=h.2;injection e with e1 e2 e3;have:=h5 e1.symm;exact List.length_eq_zero_iff.1 (by omega)
  subst h0;clear h
  go_enter Tryz.func134,Tryz.ntmps134
  go_wp2_with fail;go_ret;exact ⟨_,rfl,aT _ _ _ _,aj _ _⟩
 |some p =>
  have Hr:=zh (ui h);generalize hn:l.length=n at *;clear h
  go_enter Tryz.func134,Tryz.ntmps134
  go_wp2_with (at_builtin;go_must (refine zP rfl (.tmp 5) (.tmp 6) 33 rfl yI w.heap.size rfl (cI (size:=4) _ #[] 0 (ag _) (by decide) rfl) rfl (Hr.out.alloc _) (zq _) (by unfold maxLen;omega) (by omega) (by simp) ?_);intro v3 w3 ei eL hv3;clear hv3);have HB:=zh (zL ((aj w.heap.size w).alloc (ag _) _) (cI (e:=49) (size:=4) w #[] 0 (ag _) (by decide) rfl) (by simp) eL);have HO:=zh (yO ei (bQ _));clear ei eL;go_wp2_with fail;go_ret;exact ⟨_,rfl,HO.out,HB.out⟩
def wW (l:List It):Prop:=∀ (v:Value) (w:World),ja w v l→Calls Tryz.prog 135 #[v] w fun e w'=>∃ v',e=.returned v'∧fC w' w.heap.size v' (fN l)∧Below w.heap.size w w'
theorem zFw (l:List It) (ha:lR l) (hs:l.length≤1000000):wW l:=by
 intro v w h;have HC:=zh (Rf v l w h hs);have HA:=zh (fun v w h=>Q6 v l w h);rw[(ul l).2 ha] at HA;have HS:=zh (yQ ha);obtain ⟨a,cap,rfl,h1,h2⟩:=h.shape;clear h ha
 go_enter Tryz.func135,Tryz.ntmps135
 go_wp2_with fail;refine HC.out.mono ?_;rintro e w1 ⟨v1,rfl,hown1,hb1⟩;have HO:=zh hown1;have HB:=zh hb1;clear hown1 hb1;go_wp2_with fail;refine (HA.out _ _ HO.out.rd).mono ?_;rintro e w2 ⟨rfl,hb2⟩;have gC:=zh (zG HO.out hb2);have eM:=zh (zA HB.out hb2);clear hb2;go_wp2_with fail;go_ret;exact ⟨_,rfl,by rw[HS.out];exact gC.out,eM.out⟩
structure r_ (w:World) (lb kb:Nat) (a:Option Addr) (n cap:Nat) (l:List It) (key:Int):Prop where
 lv:w.cell? ⟨lb,0,none⟩=some (.slice a n cap)
 kv:w.cell? ⟨kb,0,none⟩=some (.int .u64 key)
 rd:ja w (.slice a n cap) l
theorem r_.below {w w':World} {lb kb:Nat} {a:Option Addr} {n cap:Nat} {l:List It} {key:Int} (h:r_ w lb kb a n cap l key) (hb:Below w.heap.size w w'):r_ w' lb kb a n cap l key:=
 ⟨Below.keeps hb _ _ h.lv,Below.keeps hb _ _ h.kv,h.rd.below hb⟩
theorem zK4 (i lb kb:Nat) (a:Option Addr) (n cap:Nat) (l:List It) (key:Int) (w:World) (h:r_ w lb kb a n cap l key) (hi:i<n) (_hn:n≤1000000) :
  Calls Tryz.prog 177 #[.int .i64 (i:Int),.pointer (some ⟨lb,0,none⟩),.pointer (some ⟨kb,0,none⟩)] w fun e w'=>e=.returned (.bool (decide (key≤(ea l i).key)))∧Below w.heap.size w w':=by
 obtain ⟨h1,h2,h3⟩:=h;obtain ⟨b,off,rfl,c0,_⟩:=h3.at hi;generalize (ea l i).key=x at *;have i1:(i:Int)<(n:Int):=by omega
 clear h3
 go_enter Tryz.func177,Tryz.ntmps177
 go_wp2_with fail
 go_quiet (fail)
 go_wp2_with fail;go_ret;exact ⟨rfl,below_drewN (aj _ _) _⟩
theorem zEo (lb kb:Nat) (a:Option Addr) (n cap:Nat) (l:List It) (key:Int) (w:World) (h:r_ w lb kb a n cap l key) (hn:n≤1000000) :
  Calls Tryz.prog 176 #[.int .i64 (n:Int),.func (.func 177) #[] #[.pointer (some ⟨lb,0,none⟩),.pointer (some ⟨kb,0,none⟩)]] w fun e w' =>
   (∃ r:Nat,e=.returned (.int .i64 (r:Int))∧r≤n∧(∀ j,r=j+1→(ea l j).key<key)∧(r<n→key≤(ea l r).key))∧Below w.heap.size w w':=by
 have H:=zh h;clear h
 go_enter Tryz.func176,Tryz.ntmps176
 go_wp2_with fail
 go_loopw [5,6] (fun iv jv wr=>∃ i j:Nat,iv=.int .i64 (i:Int)∧jv=.int .i64 (j:Int)∧i≤j∧j≤n∧(∀ k,i=k+1→(ea l k).key<key)∧(j<n→key≤(ea l j).key)∧Below w.heap.size w wr) (fun iv jv _=>(intOf jv-intOf iv).toNat)
 case atStart=>exact ⟨0,n,rfl,rfl,aq _,ag _,fun k hk=>by omega,fun h=>by omega,aj _ _⟩
 obtain ⟨i,j,rfl,rfl,hij,hj,hlo,hhi,hb⟩:=hrel;have HL:=zh hlo;have HH:=zh hhi;have Hb:=zh hb;clear hlo hhi hb
 by_cases hlt:i<j
 ·
  obtain ⟨m,hm,hm1,lB⟩:∃ m:Nat,(i+j)/2=m∧i≤m∧m<j:=⟨(i+j)/2,rfl,by omega,by omega⟩
  have HC:=zh (fun W hW=>zK4 m lb kb a n cap l key W (H.out.below hW) (by omega) hn);have Pa:((i:Int)+(j:Int))/2=(m:Int):=by omega
  have HMi:=zh hm;clear hm;generalize hq:decide (key≤(ea l m).key)=q at *;have HQ:=zh hq;clear hq;go_wp2_with fail;refine (HC.out _ Hb.out).mono ?_;rintro e w1 ⟨rfl,hb1⟩;have mQ:=zh (zA Hb.out hb1);clear hb1
  cases q
  ·
   go_wp2_with fail;refine ⟨⟨m+1,j,by go_num,rfl,by omega,hj,fun k hk=>?_,HH.out,mQ.out⟩,by simp[intOf];omega⟩;obtain rfl:m=k:=by omega
   have:=cS HQ.out;omega
  go_wp2_with fail;exact ⟨⟨i,m,rfl,rfl,hm1,by omega,HL.out,fun _=>bn HQ.out,mQ.out⟩,by simp[intOf];omega⟩
 obtain rfl:i=j:=by omega
 go_wp2_with fail;go_ret;exact ⟨⟨i,rfl,hj,HL.out,HH.out⟩,Hb.out⟩
theorem qe (v:Value) (l:List It) (key:Int) (w:World) (h:ja w v l) (hs:l.length≤1000000) :
  Calls Tryz.prog 136 #[v,.int .u64 key] w fun e w'=>(∃ r:Nat,Place l key r∧e=.returned (.tuple #[.int .i64 (r:Int),.bool (decide (r<l.length∧(ea l r).key=key))]))∧Below w.heap.size w w':=by
 obtain ⟨a,cap,rfl,h1,h2⟩:=h.shape;have HP:=zh (show ∀ r,r≤l.length→(∀ j,r=j+1→(ea l j).key<key)→(r<l.length→key≤(ea l r).key)→Place l key r from fun r a b c=>⟨a,b,c⟩);generalize hn:l.length=n at *;have Hr:=zh h;have HW:=zh (show Below w.heap.size w ((w.alloc (.cells #[.slice a n cap] 33)).alloc (.cells #[.int .u64 key] 24)) from ((aj _ _).alloc (ag _) _).alloc (by simp) _);have HC:=zh (zEo w.heap.size (w.heap.size+1) a n cap l key ((w.alloc (.cells #[.slice a n cap] 33)).alloc (.cells #[.int .u64 key] 24)) ⟨by simp,by simp,Hr.out.below HW.out⟩ hs);have HX:=zh (show r_ ((w.alloc (.cells #[.slice a n cap] 33)).alloc (.cells #[.int .u64 key] 24)) w.heap.size (w.heap.size+1) a n cap l key from ⟨by simp,by simp,Hr.out.below HW.out⟩);clear h hn h1 h2
 go_enter Tryz.func136,Tryz.ntmps136
 go_wp2_with fail;refine HC.out.mono ?_;rintro e w1 ⟨⟨r,rfl,r1,r2,r3⟩,hb1⟩;have HR:=zh (HP.out r r1 r2 r3);obtain ⟨x1,x2,x3⟩:=HX.out.below hb1;have mQ:=zh (zA HW.out hb1);clear hb1 r2 r3
 by_cases Ic:r<n
 ·
  obtain ⟨b,off,rfl,c0,_⟩:=x3.at Ic;have i1:(r:Int)<(n:Int):=by omega
  have HE:=zh (show ((ea l r).key==key)=decide (r<n∧(ea l r).key=key) by rw[cT];simp[Ic]);generalize hy:(ea l r).key=y at *;have HY:=zh hy;clear x3 hy;go_wp2_with fail
  go_quiet (fail)
  go_wp2_with fail;go_ret2;exact ⟨⟨r,HR.out,Wk (by rw[HY.out];exact HE.out)⟩,below_drewN mQ.out _⟩
 obtain rfl:r=n:=by omega
 have HE:=zh (show false=decide (r<r∧(ea l r).key=key) by simp);clear x3;go_wp2_with fail
 go_quiet (fail)
 go_wp2_with fail;go_ret2;exact ⟨⟨r,HR.out,Wk HE.out⟩,below_drewN mQ.out _⟩
theorem Ww (v:Value) (l:List It) (key:Int) (w:World) (h:ja w v l) (hk:wW l) (hs:l.length≤1000000) :
  Calls Tryz.prog 100 #[v,.int .u64 key] w fun e w'=>e=.returned (.tuple #[lN ((fT (fN l) key).getD fE),.bool (fT (fN l) key).isSome])∧Below w.heap.size w w':=by
 have HS:=zh (fun w h=>hk v w h);have hlen:=yZ l;have HA:=zh (ww l);have HF:=zh (fun v w h=>qe v (fN l) key w h (by omega));have Hr:=zh h;obtain ⟨a,cap,rfl,_,_⟩:=h.shape;generalize fN l=s at *;have HW:=zh (show Below w.heap.size w (w.alloc (.cells #[.int .u64 0,.int .u32 0,.int .i64 0,.int .i64 0] 49)) from (aj _ _).alloc (ag _) _);have hW:(w.alloc (.cells #[.int .u64 0,.int .u32 0,.int .i64 0,.int .i64 0] 49)).heap.size=w.heap.size+1:=by simp
 clear h hk
 go_enter Tryz.func100,Tryz.ntmps100
 go_wp2_with fail;refine (HS.out _ (Hr.out.below HW.out)).mono ?_;rintro e w1 ⟨v1,rfl,hown1,hb1⟩;have HO:=zh hown1;have HB:=zh hb1;clear hown1 hb1;go_wp2_with fail;refine (HF.out _ _ HO.out.rd).mono ?_;rintro e w2 ⟨⟨r,hp,rfl⟩,hb2⟩;have eM:=zh (HB.out.trans (hb2.mono HB.out.size));have g:∀ i u,(w.alloc (.cells #[.int .u64 0,.int .u32 0,.int .i64 0,.int .i64 0] 49)).cell? ⟨w.heap.size,i,none⟩=some u→w2.cell? ⟨w.heap.size,i,none⟩=some u:=fun i u hu=>(eM.out.cell (p:=⟨w.heap.size,i,none⟩) (by simp)).trans hu
 have f:∀ i,w2.frozen? ⟨w.heap.size,i,none⟩=false:=fun i=>(eM.out.frozen (p:=⟨w.heap.size,i,none⟩) (by simp)).trans (by simp)
 have g0:=g 0 _ (by simp;rfl);have g1:=g 1 _ (by simp;rfl);have g2:=g 2 _ (by simp;rfl);have g3:=g 3 _ (by simp;rfl);have f0:=f 0;have f1:=f 1;have f2:=f 2;have f3:=f 3;have hs2:w.heap.size<w2.heap.size:=by have:=eM.out.size;omega
 have Ie:=zh (show Below w.heap.size w w2 from HW.out.trans (eM.out.mono (by omega)));have oC:=zh (HO.out.rd.below hb2);have HP:=zh hp;clear g f hb2 hp hW
 by_cases hy:r<s.length∧(ea s r).key=key
 ·
  have sj:=zh (HP.out.found HA.out hy.1 hy.2);rw[aC hy];obtain ⟨_,cv,rfl,_,_⟩:=oC.out.shape;obtain ⟨b,off,rfl,c0,c1,c2,c3⟩:=oC.out.at hy.1;have hrl:=hy.1;generalize hx:ea s r=x at *;have HX:=zh hx;clear hx hy;go_wp2_with fail;exact au (v:=.tuple #[lN x,.bool true]) (by simp[results,Tryz.results100,go_sem,g0,g1,g2,g3]) rfl ⟨by rw[sj.out];rfl,((((Ie.out.setCell (ag _) _).setCell (ag _) _).setCell (ag _) _).setCell (ag _) _)⟩
 have sj:=zh (HP.out.not HA.out (fun h h'=>hy ⟨h,h'⟩));rw[aD hy];clear hy;go_wp2_with fail;exact au (v:=.tuple #[lN fE,.bool false]) (by simp[results,Tryz.results100,go_sem,g0,g1,g2,g3,fE]) rfl ⟨by rw[sj.out];rfl,((((Ie.out.setCell (ag _) _).setCell (ag _) _).setCell (ag _) _).setCell (ag _) _)⟩
end Go.Proofs.YtcgfilmmokmdjaaGreat
