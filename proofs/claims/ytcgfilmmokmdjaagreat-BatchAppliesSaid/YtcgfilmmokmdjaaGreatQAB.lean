import Derived.Test.YtcgfilmmokmdjaaGreatQAA
import Derived.Deep.Onto
import Derived.StillTailTactics
set_option linter.all false
set_option maxRecDepth 100000
set_option maxHeartbeats 32000000
namespace Go.Proofs.YtcgfilmmokmdjaaGreat
open Go.Proofs.Tryz
open Go.RowKit
abbrev Fc (n:Int):Value:=.int .u64 n
abbrev mM (w:World) (v:Value) (l:List Int):Prop:=il Fc w v l
def pW (l:List Int) (j:Nat):Int:=l.getD j 0
variable {w:World}
def mM.fO {v:Value} {l:List Int} (h:mM w v l):∃ a cap,v=.slice a l.length cap/\l.length<=cap/\cap<=maxLen:=by
 obtain ⟨a,cap,h1,h2,h3,_⟩:=il.shape h 0;exact ⟨a,cap,h1,h2,h3⟩
variable {n cap:Nat}
def mM.at {a:Option Addr} {l:List Int} (h:mM w (.slice a n cap) l) {j:Nat} (hj:j<n):∃ b off,a=some ⟨b,off,none⟩/\w.cell? ⟨b,off+j,none⟩=some (.int .u64 (pW l j)):=by
 obtain ⟨a',cap',e,h2,h3,_,h5⟩:=il.shape h 0;injection e with e1 e2 e3;subst e1 e2 e3;obtain ⟨b,off,e,hc⟩:=h5 (by omega);exact ⟨b,off,e,hc j hj⟩
variable {j:Nat}
def Om {l:List Int} (h:j<l.length):pW l j∈l:=by
 unfold pW;rw[aw,aA h];exact bM h
def zE9 {l:List Int} {x:Int} (h:j<l.length) (h':pW l j=x):l.contains x=true:=by
 rw[List.contains_iff_mem];rw[<- h'];exact Om h
def zEU {l:List Int} {x:Int} (h:∀ j,j<l.length->pW l j≠x):l.contains x=false:=by
 cases e:l.contains x with
 |false=>rfl
 |true =>
  rw[List.contains_iff_mem] at e;obtain ⟨j,hj,e⟩:=List.mem_iff_getElem.1 e;exact absurd (by simp[pW,aA hj,e]) (h j hj)
def zGJ (v:Value) (l:List Int) (x:Int) (w:World) (h:mM w v l) :
  Calls prog 196 #[v,.int .u64 x] w fun e w'=>(∃ k:Int,e=.returned (.int .i64 k)/\decide (0<=k)=l.contains x)/\w=w':=by
 obtain ⟨a,cap,rfl,h1,h2⟩:=h.fO;have HT:Hid ((∀ j,j<l.length->pW l j≠x)->l.contains x=false):=zh (zEU);have HF:Hid (∀ j,j<l.length->pW l j=x->l.contains x=true):=zh (fun j=>zE9);have hm:=C7 h1 h2;generalize l.contains x=r at *;generalize hn:l.length=n at *;have Hr:=zh h;clear h h1 h2 hn
 go_enter func196,ntmps196
 go_wp2_with fail
 go_loop [8] (fun i=>∃ k:Nat,k<=n/\i=.int .i64 (k:Int)/\(∀ j,j<k->pW l j≠x)) (fun i=>n-(intOf i).toNat)
 case atStart=>exact ⟨0,aq _,rfl,fun j hj=>absurd hj (by omega)⟩
 obtain ⟨k,hk,rfl,hno⟩:=hrel;have ZZ:=zh hno;clear hno
 by_cases hlt:k<n
 ·obtain ⟨b,off,rfl,c0⟩:=Hr.o.at hlt;generalize hy:pW l k=y at *;have HY:=zh hy;clear hy
  by_cases hxy:x=y
  ·have hd:(x==y)=true:=beq_iff_eq.2 hxy;have HR:=zh (HF.o k hlt (by rw[HY.o,hxy]));clear hxy;go_wp2_with fail;go_ret;exact ⟨⟨k,rfl,by rw[HR.o];simp⟩,rfl⟩
  have hd:(x==y)=false:=beq_eq_false_iff_ne.2 hxy;have o8:=zh hxy;clear hxy;go_wp2_with fail;refine ⟨⟨k+1,by omega,by go_num,fun j hj=>?_⟩,by simp[intOf];omega⟩
  by_cases e:j=k
  ·rw[e,HY.o];exact fun e=>o8.o e.symm
  exact ZZ.o j (by omega)
 obtain rfl:k=n:=by omega
 go_wp2_with fail;go_ret;exact ⟨⟨-1,rfl,by rw[HT.o ZZ.o];rfl⟩,rfl⟩
def zC1 (v:Value) (l:List Int) (x:Int) (w:World) (h:mM w v l) :
  Calls prog 171 #[v,.int .u64 x] w fun e w'=>e=.returned (.bool (l.contains x))/\w=w':=by
 have HX:=zh (zGJ v l x w h);obtain ⟨a,cap,rfl,_,_⟩:=h.fO;generalize l.contains x=r at *;clear h
 go_enter func171,ntmps171
 go_wp2_with fail;refine HX.o.mono ?_;rintro e w1 ⟨⟨k,rfl,hk⟩,rfl⟩;have HK:=zh hk;clear hk;go_wp2_with fail;go_ret;exact ⟨zJ HK.o,rfl⟩
def Gone (w:World) (gb:Nat) (gone:List Int):Prop:=∃ a n cap,w.cell? ⟨gb,0,none⟩=some (.slice a n cap)/\mM w (.slice a n cap) gone
def Gone.bb {w w':World} {gb:Nat} {gone:List Int} (h:Gone w gb gone) (hb:Below w.heap.size w w'):Gone w' gb gone:=by
 obtain ⟨a,n,cap,h1,h2⟩:=h;exact ⟨a,n,cap,Below.keeps hb _ _ h1,h2.bb hb⟩
def Z5 (k c o s:Int) (gb:Nat) (gone:List Int) (w:World) (h:Gone w gb gone) :
  Calls prog 170 #[.agg #[.int .u64 k,.int .u32 c,.int .i64 o,.int .i64 s],.pointer (some ⟨gb,0,none⟩)] w fun e w'=>e=.returned (.bool (gone.contains k))/\Below w.heap.size w w':=by
 have HW:Hid (Below w.heap.size w (w.alloc (.cells #[.int .u64 k,.int .u32 c,.int .i64 o,.int .i64 s] 49))):=zh ((aj _ _).alloc (ag _) _);obtain ⟨a,n,cap,h1,h2⟩:=h;have HC:=zh (zC1 (.slice a n cap) gone k (w.alloc (.cells #[.int .u64 k,.int .u32 c,.int .i64 o,.int .i64 s] 49)) (h2.bb HW.o));have h1':=Below.keeps HW.o _ _ h1;generalize gone.contains k=r at *;clear h2
 go_enter func170,ntmps170
 go_wp2_with fail;refine HC.o.mono ?_;rintro e w1 ⟨rfl,rfl⟩;go_wp2_with fail;go_ret;exact ⟨rfl,HW.o⟩
def kept (gone:List Int) (l:List It):List It:=l.filter fun x=>!gone.contains x.key
def zIl (gone:List Int) {l:List It} {j:Nat} (h:j<l.length):kept gone (l.take (j+1))=kept gone (l.take j)++(if gone.contains (eA l j).key then [] else [eA l j]):=by
 unfold kept;rw[xT h,cU]
 congr 1
 cases e:gone.contains (eA l j).key<;>simp only[cG,List.filter_nil,e]<;>rfl
variable {l:List It}
def Z6 {gone:List Int} (h:∀ j,j<l.length->gone.contains (eA l j).key=false):kept gone l=l:=by
 unfold kept;rw[List.filter_eq_self];intro x hx;obtain ⟨j,hj,rfl⟩:=uc hx;rw[h j hj];rfl
def Z7 (y:It):∀ (l:List It) (k:Nat),k<l.length->((((zg l).set (k*4) (.int .u64 y.key)).set (k*4+1) (.int .u32 y.ck)).set (k*4+2) (.int .i64 y.off)).set (k*4+3) (.int .i64 y.size)=zg (l.set k y)
 |[],_,h=>by simp at h
 |x::r,0,_=>rfl
 |x::r,k+1,h=>by
  have ih:=Z7 y r k (by simpa using h);have e0:(k+1)*4=k*4+1+1+1+1:=by omega
  have e1:(k+1)*4+1=k*4+1+1+1+1+1:=by omega
  have e2:(k+1)*4+2=k*4+2+1+1+1+1:=by omega
  have e3:(k+1)*4+3=k*4+3+1+1+1+1:=by omega
  rw[e1,e2,e3,e0]
  show _=jk x++zg (r.set k y)
  rw[<- ih]
  rfl
variable {B g:Nat}
def Uz (h:w.ownsRow B 49 4 (.slice (some ⟨g,0,none⟩) n cap) n (zg l)) (k:Nat) (hk:k<l.length) (y:It) :
  ((((w.setCell ⟨g,k*4,none⟩ (.int .u64 y.key)).setCell ⟨g,k*4+1,none⟩ (.int .u32 y.ck)).setCell ⟨g,k*4+2,none⟩ (.int .i64 y.off)).setCell ⟨g,k*4+3,none⟩ (.int .i64 y.size)).ownsRow B 49 4 (.slice (some ⟨g,0,none⟩) n cap) n (zg (l.set k y)):=by
 rw[<- Z7 y l k hk];exact ((((h.stored _ _).1.stored _ _).1.stored _ _).1.stored _ _).1
def ua:∀ m:Nat,(Builtin.zeroCells (mg fZ).cells m).toList=zg (List.replicate m fZ)
 |0=>by simp[Builtin.zeroCells,zg]
 |m+1=>by
  rw[List.replicate_succ',zy,<- ua m,xj]
  show (Array.map _ (Array.range ((m+1)*4))).toList=(Array.map _ (Array.range (m*4))).toList++_
  have e:(m+1)*4=m*4+1+1+1+1:=by omega
  rw[e];simp only[Array.toList_map,Array.toList_range,List.range_succ,aU,List.map_cons,List.map_nil,aY]
  congr 1
  show _=[Value.int .u64 0,.int .u32 0,.int .i64 0,.int .i64 0]
  have s4:(mg fZ).cells.size=4:=rfl;rw[s4];rw[show m*4%4=0 by omega,show (m*4+1)%4=1 by omega,show (m*4+1+1)%4=2 by omega,show (m*4+1+1+1)%4=3 by omega]
  rfl
def zJY (h:w.ownsRow B 49 4 (.slice (some ⟨g,0,none⟩) n cap) n (zg l)) (i:Nat) (hi:i<n) :
  ∃ w',(∀ ty c,(Builtin.clear_ #[33] ty #[.slice (some ⟨g,i*4,none⟩) (n-i) c]).run prog w=.ok (.tuple #[]) w')/\w'.ownsRow B 49 4 (.slice (some ⟨g,0,none⟩) n cap) n (zg (l.take i++List.replicate (n-i) fZ))/\w.grownBy w' (some g):=by
 have hl:l.length=n:=by have:=h.1;rw[yR] at this;omega
 obtain ⟨w',h1,h2,h3⟩:=qX (P:=prog) h (i*4) (zg (List.replicate (n-i) fZ)) (by rw[yR,dw];omega) (zv _);refine ⟨w',fun ty c=>?_,?_,h3⟩
 ·obtain ⟨m,hm⟩:∃ m,n-i=m+1:=⟨n-i-1,by omega⟩
  rw[hm] at h1 |-;simp only[Builtin.clear_];simp[run_underlying underlying33];have hz:=ua (m+1);simp only[mg,fZ] at hz;rw[hz,show zg (List.replicate (m+1) ⟨0,0,0,0⟩)=zg (List.replicate (m+1) fZ) from rfl,h1]
  rfl
 rw[zy,wS];rw[cu (by rw[yR,yR,dw];omega),cz] at h2;exact h2
def zKp (v:Value) (l:List It) (gb:Nat) (gone:List Int) (w:World) (h:lg w v l) (hg:Gone w gb gone) :
  Calls prog 178 #[v,.func (.func 170) #[] #[.pointer (some ⟨gb,0,none⟩)]] w fun e w' =>
   ((e=.returned (.int .i64 (-1))/\∀ j,j<l.length->gone.contains (eA l j).key=false)∨∃ k:Nat,k<l.length/\e=.returned (.int .i64 (k:Int))/\gone.contains (eA l k).key=true/\∀ j,j<k->gone.contains (eA l j).key=false)/\Below w.heap.size w w':=by
 obtain ⟨a,cap,rfl,h1,h2⟩:=h.shape;have hm:=C7 h1 h2;have Hg:=zh hg;generalize hn:l.length=n at *;have Hr:=zh h;clear h h1 h2 hn hg
 go_enter func178,ntmps178
 go_wp2_with fail
 go_loopw [8] (fun i wr=>∃ k:Nat,k<=n/\i=.int .i64 (k:Int)/\(∀ j,j<k->gone.contains (eA l j).key=false)/\Below w.heap.size w wr) (fun i _=>n-(intOf i).toNat)
 case atStart=>exact ⟨0,aq _,rfl,fun j hj=>absurd hj (by omega),aj _ _⟩
 obtain ⟨k,hk,rfl,hok,hb⟩:=hrel;have nr:=zh hok;have Hb:=zh hb;have hB:=hb.size;clear hok hb
 by_cases hlt:k<n
 ·have hr:=Hr.o.bb Hb.o;obtain ⟨b,off,rfl,c0,c1,c2,c3⟩:=hr.at hlt;have HV:=zh (Z5 (eA l k).key (eA l k).ck (eA l k).off (eA l k).size gb gone wr (Hg.o.bb Hb.o));generalize hx:eA l k=x at *;have EX:=zh hx;clear hr hx;go_wp2_with fail;refine HV.o.mono ?_;rintro e w1 ⟨rfl,hb1⟩;have nS:=zh (zA Hb.o hb1)
  cases hx:gone.contains x.key
  ·have HX:=zh hx;clear hb1 hx;go_wp2_with fail;refine ⟨⟨k+1,by omega,by go_num,fun j hj=>?_,nS.o⟩,by simp[intOf];omega⟩
   by_cases e:j=k
   ·rw[e,EX.o];exact HX.o
   exact nr.o j (by omega)
  have HX:=zh hx;clear hb1 hx;go_wp2_with fail;go_ret;exact ⟨.inr ⟨k,hlt,rfl,by rw[EX.o];exact HX.o,nr.o⟩,nS.o⟩
 obtain rfl:k=n:=by omega
 go_wp2_with fail;go_ret;exact ⟨.inl ⟨rfl,nr.o⟩,Hb.o⟩
def zNO (v:Value) (l:List It) (gb:Nat) (gone:List Int) (B:Nat) (w:World) (hown:fR w B v l) (hB:B<=w.heap.size) (hg:∀ W,Below B w W->Gone W gb gone) :
  Calls prog 169 #[v,.func (.func 170) #[] #[.pointer (some ⟨gb,0,none⟩)]] w fun e w'=>∃ v',e=.returned v'/\fR w' B v' (kept gone l)/\Below B w w':=by
 have HI:=zh (zKp v l gb gone w hown.rd (hg w (aj _ _)));have HG:=zh hg;have CQ:Hid ((∀ j,j<l.length->_)->_):=zh (Z6 (gone:=gone) (l:=l));have Z8:Hid (∀ j,j<l.length->_):=zh (fun j hj=>zIl gone (l:=l) (j:=j) hj);have HKE:=zh (show kept gone (l.take l.length)=kept gone l by rw[bQ]);obtain ⟨oa,oc,rfl,ho1,ho2,Ae⟩:=zG hown;have hm:=C7 ho1 ho2;have iJ:Hid (w.ownsRow B 49 4 _ l.length (zg l)):=zh (hown);have Oc:=zh Ae;generalize hn:l.length=n at *;have HN:=zh hn;clear hg Ae hn hown
 go_enter func169,ntmps169
 go_wp2_with fail;refine HI.o.mono ?_;rintro e w1 ⟨hres,hb1⟩;have eV:Hid (Below B w w1):=zh (hb1.mono hB);have ja:=zh (zE iJ.o hb1);clear hb1;rcases hres with ⟨rfl,hno⟩|⟨i0,UA,rfl,Oo,hno⟩
 ·have HK:=zh (CQ.o hno);clear hno;go_wp2_with fail;go_ret;exact ⟨_,rfl,yW ja.o (by rw[HK.o]),eV.o⟩
 have hneg:((i0:Int)==-1)=false:=beq_eq_false_iff_ne.2 (by omega);have hk0:kept gone (l.take (i0+1))=l.take i0:=by
  rw[Z8.o i0 UA,Oo];simp only[if_true,cz];refine Z6 fun j hj=>?_
  rw[aB] at hj;rw[vG (by omega)];exact hno j (by omega)
 have FW:=zh hk0;obtain ⟨g,rfl⟩:∃ g,oa=some ⟨g,0,none⟩:=by
  rcases ja.o.2 with ⟨e,h0⟩|⟨g,_,_,e,_⟩
  ·omega
  injection e with e;exact ⟨g,e⟩
 have hgB:=(ja.o.lt g rfl).1;clear Oo hno hk0;go_wp2_with fail
 go_loopw [5,6] (fun iv jv wr=>∃ (i j:Nat) (a:List It),iv=.int .i64 (i:Int)/\jv=.int .i64 (j:Int)/\i<j/\j<=n/\a.length=n/\wr.ownsRow B 49 4 (.slice (some ⟨g,0,none⟩) n oc) n (zg a)/\a.take i=kept gone (l.take j)/\a.drop j=l.drop j/\Below B w wr) (fun _ jv _=>n-(intOf jv).toNat)
 case atStart=>exact ⟨i0,i0+1,l,rfl,by go_num,by omega,by omega,HN.o,ja.o,FW.o.symm,rfl,eV.o⟩
 obtain ⟨i,j,a,rfl,rfl,hij,hj,ha,hown,Z9,hdj,hb⟩:=hrel;have HA:=zh ha;have HO:=zh hown;have HT:=zh Z9;have HD:=zh hdj;have Hb:=zh hb;have Cc:B<=wr.heap.size:=ak hB hb.size;have hgr:=(hown.lt g rfl).2;clear ha hown Z9 hdj hb
 by_cases hlt:j<n
 ·obtain ⟨_,_,e,c0,c1,c2,c3⟩:=(xF (zr HO.o)).at hlt;injection e with e;injection e with e1 e2;subst e1 e2;simp only[aN] at c0 c1 c2 c3;have UB:eA a j=eA l j:=by
   have h1:=wL a j 0;rw[HD.o,wL,bE] at h1;exact h1.symm
  rw[UB] at c0 c1 c2 c3;have Z_:=zh (Z8.o j hlt);have HAX:=zh UB;clear UB;generalize eA l j=x at *;have Af:Hid (Below B w (wr.alloc (.cells #[.int .u64 x.key,.int .u32 x.ck,.int .i64 x.off,.int .i64 x.size] 49))):=zh (Hb.o.alloc Cc _);have HM:=zh (Z5 x.key x.ck x.off x.size gb gone (wr.alloc (.cells #[.int .u64 x.key,.int .u32 x.ck,.int .i64 x.off,.int .i64 x.size] 49)) (HG.o _ Af.o));go_wp2_with fail;refine HM.o.mono ?_;rintro e w2 ⟨rfl,hb2⟩;have gp:=zh (zE (HO.o.alloc _) hb2);have eX:Hid (Below B w w2):=zh (Af.o.trans (hb2.mono (by simp;omega)));have d0:=Below.keeps hb2 ⟨wr.heap.size,0,none⟩ (.int .u64 x.key) (by simp);have d1:=Below.keeps hb2 ⟨wr.heap.size,1,none⟩ (.int .u32 x.ck) (by simp);have d2:=Below.keeps hb2 ⟨wr.heap.size,2,none⟩ (.int .i64 x.off) (by simp)
  have d3:=Below.keeps hb2 ⟨wr.heap.size,3,none⟩ (.int .i64 x.size) (by simp);have hs2:B<=w2.heap.size:=ak hB eX.o.size;clear hb2 c0 c1 c2 c3
  cases hr:gone.contains x.key
  ·have HR:=zh hr;obtain ⟨_,_,e,c0,c1,c2,c3⟩:=(xF (zr gp.o)).at (show i<n by omega);injection e with e;injection e with e1 e2;subst e1 e2;simp only[aN] at c0 c1 c2 c3;have f0:=gp.o.frozenAt (i*4);have f1:=gp.o.frozenAt (i*4+1);have f2:=gp.o.frozenAt (i*4+2);have f3:=gp.o.frozenAt (i*4+3);have HS:=zh (Uz gp.o i (by rw[HA.o];omega) x);clear hr;go_wp2_with fail;have hdr:(a.set i x).drop (j+1)=l.drop (j+1):=by
    rw[List.drop_set_of_lt (by omega),<- ct,HD.o,ct]
   have RQ:(a.set i x).take (i+1)=kept gone (l.take (j+1)):=by
    rw[Z_.o,HR.o,<- HT.o,um a i x (by rw[HA.o];omega)]
    rfl
   refine ⟨⟨i+1,j+1,a.set i x,by go_num,by go_num,by omega,by omega,by rw[a_];exact HA.o,HS.o,RQ,hdr,?_⟩,by simp[intOf];omega⟩;exact ((((eX.o.setCell hgB _).setCell hgB _).setCell hgB _).setCell hgB _)
  have HR:=zh hr;clear hr;go_wp2_with fail;have hdr:a.drop (j+1)=l.drop (j+1):=by
   rw[<- ct,HD.o,ct]
  refine ⟨⟨i,j+1,a,rfl,by go_num,by omega,by omega,HA.o,gp.o,?_,hdr,eX.o⟩,by simp[intOf];omega⟩;rw[Z_.o,HR.o,HT.o];simp
 obtain rfl:j=n:=by omega
 obtain ⟨w3,hcl,eB,eW⟩:=zJY HO.o i (by omega);have lD:=zh (vY eB i (by omega));have f_:=zh (Hb.o.grown eW Cc (by intro r hr;injection hr with hr;omega));have Et:=xH (P:=prog) yO (n:=j) (cap:=oc) Oc.o i (by omega);clear eB eW;go_wp2_with fail;go_ret;refine ⟨_,rfl,yW lD.o ?_,f_.o⟩;have hia:i<=a.length:=by rw[HA.o];omega
 rw[<- wS,List.take_append_of_le_length (by rw[aB];omega),List.take_take,Nat.min_self,HT.o,HKE.o]
def RT (old fresh:List It) (gone:List Int):List It:=gu (kept gone (gu old)++gu fresh)
def eo (gone:List Int) (l:List It):(kept gone l).length<=l.length:=List.length_filter_le _ _
def zJA (vo vf vg:Value) (old fresh:List It) (gone:List Int) (w:World) (ho:lg w vo old) (hf:lg w vf fresh) (hg:mM w vg gone)
  (so:ww old) (sf:ww fresh) (sm:ww (kept gone (gu old)++gu fresh)) (h1:old.length<=100000) (h2:fresh.length<=100000) :
  Calls prog 132 #[vo,vf,vg] w fun e w'=>∃ v',e=.returned v'/\fR w' w.heap.size v' (RT old fresh gone)/\Below w.heap.size w w':=by
 have SO:=zh (fun w h=>so vo w h);have SF:=zh (fun w h=>sf vf w h);have SM:=zh (fun v w h=>sm v w h);have HM:Hid (RT old fresh gone=gu (kept gone (gu old)++gu fresh)):=zh (rfl);obtain ⟨a1,c1,rfl,_,_⟩:=ho.shape;obtain ⟨a2,c2,rfl,_,_⟩:=hf.shape;obtain ⟨a3,c3,rfl,_,_⟩:=hg.fO;have l1:=xB old;have l2:=xB fresh;have l3:=eo gone (gu old);generalize gu old=s1 at *;generalize gu fresh=s2 at *;obtain ⟨W0,hW0⟩:∃ W0,W0=w.alloc (.cells #[.slice a3 gone.length c3] 87):=⟨_,rfl⟩
 have Af:=zh hW0;have eP:=zh (show Below w.heap.size w W0 by rw[hW0];exact (aj _ _).alloc (ag _) _);have UC:Hid (Gone W0 w.heap.size gone):=zh (⟨a3,gone.length,c3,by rw[hW0];simp,hg.bb eP.o⟩);have hs0:w.heap.size<=W0.heap.size:=eP.o.size;have Ho:=zh ho;have Hf:=zh hf;have HDF:=zh (fun v w' B (h:fR w' B v s1) hB hg=>zNO v s1 w.heap.size gone B w' h hB hg);generalize hk:kept gone s1=k1 at *;have HK:=zh hk;clear ho hf hg so sf sm hW0 hk
 go_enter func132,ntmps132
 go_wp2_with fail;rw[<- Af.o];refine (SO.o _ (Ho.o.bb eP.o)).mono ?_;rintro e w1 ⟨v1,rfl,hown1,hb1⟩;have ja:=zh hown1;have eV:=zh hb1;clear hown1 hb1;go_wp2_with fail;refine (HDF.o v1 w1 W0.heap.size ja.o eV.o.size (fun W h=>UC.o.bb (eV.o.trans h))).mono ?_;rintro e w2 ⟨v2,rfl,eM,hb2⟩;have gp:=zh eM;have eX:=zh (eV.o.trans hb2);have C8:=zh (k_ eP.o hs0 (eV.o.trans hb2));clear eM hb2;go_wp2_with fail;refine (SF.o _ (Hf.o.bb C8.o)).mono ?_;rintro e w3 ⟨v3,rfl,eB,hb3⟩;have lD:=zh (zE gp.o hb3);have ng:=zh (un eB.rd);have f_:=zh (eX.o.trans (hb3.mono eX.o.size));clear eB hb3;go_wp2_with (at_builtin;go_must (refine zP rfl (.tmp 13) (.tmp 15) 33 rfl yO W0.heap.size rfl lD.o rfl ng.o (zv _) (by unfold maxLen;omega) (by omega) f_.o.size ?_);intro v4 w4 fw gI hv4;clear hv4);have iP:=zh (yW fw (zy k1 s2).symm)
 have gq:=zh (zK f_.o lD.o f_.o.size gI);clear fw gI;go_wp2_with fail;refine (SM.o _ _ iP.o.rd).mono ?_;rintro e w5 ⟨v5,rfl,fW,hb5⟩;have jA:=zh fW;have gW:=zh (gq.o.trans (hb5.mono gq.o.size));clear fW hb5;go_wp2_with fail;go_ret;refine ⟨_,rfl,?_,eP.o.trans (gW.o.mono hs0)⟩;rw[HM.o];exact jA.o.mono (ak hs0 gq.o.size)
def iB (l:List It) (key:Int):List It:=l.filter fun y=>!(y.key==key)
def zu (y:It) (r:List It) (key:Int):gF (y::r) key=if y.key=key then some y else gF r key:=by
 unfold gF;rw[List.find?_cons]
 by_cases h:y.key=key
 ·rw[ah h,show (y.key==key)=true from beq_iff_eq.2 h]
 rw[ai h,show (y.key==key)=false from beq_eq_false_iff_ne.2 h]
def vy (x:It):∀ l:List It,gF (ins l x) x.key=some x
 |[]=>by rw[show ins [] x=[x] from rfl,zu,ah rfl]
 |y::r=>by
  unfold ins
  split
  ·rw[zu,ai (by omega)];exact vy x r
  split<;>rw[zu,ah rfl]
def vW (x:It) (key:Int) (h:key≠x.key):∀ l:List It,gF (ins l x) key=gF l key
 |[]=>by rw[show ins [] x=[x] from rfl,zu,ai (aQ h)]
 |y::r=>by
  have ih:=vW x key h r;unfold ins
  split
  ·rw[zu,zu,ih]
  split
  ·rw[zu,zu,ai (aQ h),ai (by omega)]
  rw[zu,ai (aQ h)]
def pU (l:List It) (key:Int):gF (iB l key) key=none:=by
 unfold gF iB;rw[List.find?_eq_none];intro x hx;have:=(List.mem_filter.1 hx).2;simp at this |-;exact this
def ut (k key:Int) (h:key≠k):∀ l:List It,gF (iB l k) key=gF l key
 |[]=>rfl
 |y::r=>by
  have ih:=ut k key h r;unfold iB at ih |-;rw[cG]
  by_cases e:y.key=k
  ·rw[ai (by simp[e]),zu,ai (by omega),ih]
  rw[ah (by simp[e]),zu,zu,ih]
variable {r:Nat}
def vw (h:r<l.length):l[r]=eA l r:=by
 unfold eA;rw[aw,aA h];rfl
def tp:∀ {l:List It},nT l->l.Pairwise fun a b=>a.key<b.key
 |[],_=>.nil
 |x::r,h=>by
  have hp:=tp h.tail;refine .cons (fun y hy=>?_) hp
  cases r with
  |nil=>cases hy
  |cons z r =>
   have hz:x.key<z.key:=h.1
   cases hy with
   |head=>exact hz
   |tail _ hy=>have:=(List.pairwise_cons.1 hp).1 y hy;omega
def UD:∀ {l:List It},(l.Pairwise fun a b=>a.key<b.key)->nT l
 |[],_=>trivial
 |[x],_=>trivial
 |x::y::r,h=>⟨(List.pairwise_cons.1 h).1 y (by simp),UD (List.pairwise_cons.1 h).2⟩
def UE (h:mK l) (key:Int):mK (iB l key):=
 (wF _).1 (UD (List.Pairwise.filter _ (tp ((wF _).2 h))))
def qj (h:mK l) (x:It):mK (ins l x):=(wF _).1 (kG x l ((wF _).2 h))
def tM (l:List It) (key:Int):(iB l key).length<=l.length:=List.length_filter_le _ _
def zNM {x:It} (h:Place l x.key r) (ha:mK l):ins l x=if r<l.length/\(eA l r).key=x.key then l.set r x else l.take r++x::l.drop r:=by
 have:=RN l x r h.1 (fun j hj=>h.lt ha hj) (fun hr=>h.2.2 hr);rw[this]
 split
 ·rename_i hc;rw[List.set_eq_take_append_cons_drop,ah hc.1]
 rfl
def zIO {key:Int} (h:Place l key r) (ha:mK l):iB l key=if r<l.length/\(eA l r).key=key then l.take r++l.drop (r+1) else l:=by
 have Lf:∀ (q:List It),(∀ x∈q,x.key≠key)->iB q key=q:=fun q hq=>by
  unfold iB;rw[List.filter_eq_self];intro x hx;simp;exact hq x hx
 have pw:=tp ((wF _).2 ha)
 split
 ·rename_i hc;have e:l=l.take r++eA l r::l.drop (r+1):=by
   have e1:l.drop r=eA l r::l.drop (r+1):=by
    rw[dH hc.1,vw hc.1]
   rw[<- e1,b7]
  have qB:=pw;rw[e,List.pairwise_append] at qB;obtain ⟨_,p2,p3⟩:=qB;have h1:iB (l.take r) key=l.take r:=Lf _ fun y hy=>by have:=p3 y hy (eA l r) (by simp);omega
  have h2:iB (l.drop (r+1)) key=l.drop (r+1):=Lf _ fun y hy=>by have:=(List.pairwise_cons.1 p2).1 y hy;omega
  conv=>lhs;rw[e]
  unfold iB at h1 h2 |-;rw[cU,h1,cG,ai (by simp[hc.2]),h2]
 rename_i hc;refine Lf _ fun y hy=>?_
 obtain ⟨j,hj,rfl⟩:=uc hy;rcases bD j r with tj|tj
 ·have:=h.lt ha tj;omega
 by_cases UF:j=r
 ·subst UF;exact fun e=>hc ⟨hj,e⟩
 have h1:=h.2.2 (by omega);have h2:(eA l r).key<(eA l j).key:=by
  have:=List.pairwise_iff_getElem.1 pw r j (by omega) hj (by omega);rw[vw,vw] at this;exact this
 omega
def sj (d d':List It):Prop:=∀ k:Int,d.filter (fun y=>y.key==k)=d'.filter (fun y=>y.key==k)
def sj.refl (d:List It):sj d d:=fun _=>rfl
def sj.symm {d d':List It} (h:sj d d'):sj d' d:=fun k=>(h k).symm
def sj.trans {a b c:List It} (h:sj a b) (h':sj b c):sj a c:=fun k=>(h k).trans (h' k)
def sj.app {a a' b b':List It} (h:sj a a') (h':sj b b'):sj (a++b) (a'++b'):=fun k=>by rw[cU,cU,h k,h' k]
variable {u v:List It}
def zLA (h:∀ x∈u,∀ y∈v,x.key≠y.key):sj (u++v) (v++u):=fun k=>by
 rw[cU,cU]
 by_cases hu:u.filter (fun y=>y.key==k)=[]
 ·rw[hu];simp
 obtain ⟨x,hx⟩:=List.exists_mem_of_ne_nil _ hu;obtain ⟨hx1,hx2⟩:=List.mem_filter.1 hx;have hv:v.filter (fun y=>y.key==k)=[]:=by
  rw[List.filter_eq_nil_iff];intro y hy e;simp at hx2 e;exact h x hx1 y hy (by omega)
 rw[hv];simp
variable {d d':List It}
def sj.mem (h:sj d d') {x:It} (hx:x∈d):x∈d':=by
 have:x∈d.filter (fun y=>y.key==x.key):=List.mem_filter.2 ⟨hx,by simp⟩;rw[h x.key] at this;exact (List.mem_filter.1 this).1
def lV (d:List It) (a b:Nat):List It:=(d.drop a).take (b-a)
variable {a b:Nat}
def xK (h:b<=d.length):(lV d a b).length=b-a:=by
 unfold lV;rw[aB,aT];omega
variable {c:Nat}
def qu (h1:a<=b) (h2:b<=c):lV d a c=lV d a b++lV d b c:=by
 unfold lV;rw[show c-a=(b-a)+(c-b) by omega,List.take_add,ct,show a+(b-a)=b by omega]
def parts (h1:a<=b):d=d.take a++lV d a b++d.drop b:=by
 have:d.drop b=(d.drop a).drop (b-a):=by rw[ct];congr 1;omega
 unfold lV;rw[this,aY,b7,b7]
def RX (h:b<=d.length) {x:It}:x∈lV d a b↔∃ j,a<=j/\j<b/\eA d j=x:=by
 unfold lV
 constructor
 ·intro hx;obtain ⟨j,hj,rfl⟩:=uc hx;rw[aB,aT] at hj;exact ⟨a+j,by omega,by omega,by rw[vG (by omega),wL]⟩
 rintro ⟨j,h1,h2,rfl⟩;have:eA d j=eA ((d.drop a).take (b-a)) (j-a):=by
  rw[vG (by omega),wL];congr 1;omega
 rw[this];have hl:j-a<((d.drop a).take (b-a)).length:=by rw[aB,aT];omega
 rw[<- vw hl];exact bM hl
structure Moved (d d':List It) (a b:Nat):Prop where
 lo:d'.take a=d.take a
 hi:d'.drop b=d.drop b
 mid:sj (lV d a b) (lV d' a b)
 len:d'.length=d.length
def Moved.refl (d:List It) (a b:Nat):Moved d d a b:=⟨rfl,rfl,.refl _,rfl⟩
def Moved.trans {d d' e:List It} {a b:Nat} (h:Moved d d' a b) (h':Moved d' e a b):Moved d e a b:=
 ⟨h'.lo.trans h.lo,h'.hi.trans h.hi,h.mid.trans h'.mid,h'.len.trans h.len⟩
variable {a':Nat}
def zDz (h:a<=a') (e:d'.take a'=d.take a'):d'.take a=d.take a:=by
 have:=aM (List.take a) e
 rwa [List.take_take,List.take_take,bY h] at this
variable {b':Nat}
def zES (h:b'<=b) (e:d'.drop b'=d.drop b'):d'.drop b=d.drop b:=by
 have:=aM (List.drop (b-b')) e
 rwa [ct,ct,show b'+(b-b')=b by omega] at this
def zKN (e:d'.take a'=d.take a'):lV d' a a'=lV d a a':=by
 unfold lV;have h1:∀ l:List It,(l.drop a).take (a'-a)=(l.take a').drop a:=fun l=>by rw[List.drop_take]
 rw[h1,h1,e]
def zKq (e:d'.drop b'=d.drop b'):lV d' b' b=lV d b' b:=by
 unfold lV;rw[e]
def Moved.wide (h:Moved d d' a' b') (h1:a<=a') (h2:a'<=b') (h3:b'<=b):Moved d d' a b:=
 ⟨zDz h1 h.lo,zES h3 h.hi,by
  rw[qu (d:=d) h1 (ak h2 h3),qu (d:=d') h1 (ak h2 h3),qu (d:=d) h2 h3,qu (d:=d') h2 h3,zKN h.lo,zKq h.hi]
  exact (sj.refl _).app (h.mid.app (.refl _)),h.len⟩
def Moved.sj {d d':List It} {a b:Nat} (h:Moved d d' a b) (hab:a<=b):sj d d':=by
 rw[parts (d:=d) hab,parts (d:=d') hab,h.lo,h.hi];exact (Go.Proofs.YtcgfilmmokmdjaaGreat.sj.app (.app (.refl _) h.mid) (.refl _))
def Moved.o {d d':List It} {a b:Nat} (h:Moved d d' a b) {i:Nat} (hi:i<a∨b<=i):eA d' i=eA d i:=by
 rcases hi with hi|hi
 ·rw[<- vG (l:=d') hi,h.lo,vG hi]
 have e:∀ l:List It,eA l i=eA (l.drop b) (i-b):=fun l=>by rw[wL];congr 1;omega
 rw[e d',h.hi,<- e d]
def Moved.src (h:Moved d d' a b) (hb:b<=d.length) {i:Nat} (h1:a<=i) (h2:i<b):∃ j,a<=j/\j<b/\eA d' i=eA d j:=by
 have hm:eA d' i∈lV d' a b:=(RX (by rw[h.len];exact hb)).2 ⟨i,h1,h2,rfl⟩;obtain ⟨j,h3,h4,h5⟩:=(RX hb).1 (h.mid.symm.mem hm);exact ⟨j,h3,h4,h5.symm⟩
def jX (d:List It) (a b:Nat):Prop:=∀ i j,a<=i->i<j->j<b->(eA d i).key<=(eA d j).key
def eH (d:List It) (s m e:Nat):List It:=d.take s++(lV d m e++lV d s m)++d.drop e
variable {s m e:Nat}
def kE (h1:s<=m) (h2:m<=e) (h3:e<=d.length) (hk:∀ i,s<=i->i<m->∀ j,m<=j->j<e->(eA d i).key≠(eA d j).key):Moved d (eH d s m e) s e:=by
 have l1:(d.take s).length=s:=by rw[aB];omega
 have l2:(lV d m e++lV d s m).length=e-s:=by rw[ax,xK h3,xK (by omega)];omega
 have Iw:s<=e:=by omega
 have e1:(eH d s m e).take s=d.take s:=by unfold eH;rw[aY];exact dI l1
 have e2:(eH d s m e).drop e=d.drop e:=by unfold eH;exact List.drop_left' (by rw[ax,l1,l2];omega)
 have e3:lV (eH d s m e) s e=lV d m e++lV d s m:=by
  have hr:eH d s m e=d.take s++((lV d m e++lV d s m)++d.drop e):=by unfold eH;rw[aY]
  show ((eH d s m e).drop s).take (e-s)=_
  rw[hr,List.drop_left' l1];exact dI l2
 refine ⟨e1,e2,?_,?_⟩
 ·rw[e3,qu h1 h2];refine zLA fun x hx y hy=>?_
  obtain ⟨i,i1,i2,rfl⟩:=(RX (by omega)).1 hx;obtain ⟨j,j1,j2,rfl⟩:=(RX h3).1 hy;exact hk i i1 i2 j j1 j2
 unfold eH;rw[ax,ax,l1,l2,aT];omega
variable {i:Nat}
def xU (h:i<u.length):eA (u++v) i=eA u i:=by
 unfold eA;rw[aw,aw,List.getElem?_append_left h]
def z8 (h:u.length<=i):eA (u++v) i=eA v (i-u.length):=by
 unfold eA;rw[aw,aw,List.getElem?_append_right h]
def Ej (h:i<b-a):eA (lV d a b) i=eA d (a+i):=by
 unfold lV;rw[vG h,wL]
def vZ (h1:s<=m) (h2:m<=e) (h3:e<=d.length) {i:Nat} (i1:s<=i) (i2:i<s+(e-m)):eA (eH d s m e) i=eA d (m+(i-s)):=by
 have l1:(d.take s).length=s:=by rw[aB];omega
 have l3:(lV d m e).length=e-m:=xK h3;have l4:(lV d s m).length=m-s:=xK (by omega);unfold eH;rw[xU (by rw[ax,ax,l1,l3,l4];omega),z8 (by omega),l1,xU (by omega),Ej (by omega)]
def vX (h1:s<=m) (h2:m<=e) (h3:e<=d.length) {i:Nat} (i1:s+(e-m)<=i) (i2:i<e):eA (eH d s m e) i=eA d (s+(i-(s+(e-m)))):=by
 have l1:(d.take s).length=s:=by rw[aB];omega
 have l3:(lV d m e).length=e-m:=xK h3;have l4:(lV d s m).length=m-s:=xK (by omega);unfold eH;rw[xU (by rw[ax,ax,l1,l3,l4];omega),z8 (by omega),l1,z8 (by omega),l3,Ej (by omega)]
 congr 2;omega
def zMK {d2 d3:List It} (h1:a<=c) (h2:c<=b) (hb:b<=d.length) (m2:Moved d d2 a c) (n2:jX d2 a c) (m3:Moved d2 d3 c b) (n3:jX d3 c b)
  (hx:∀ i,a<=i->i<c->∀ j,c<=j->j<b->(eA d i).key<=(eA d j).key):Moved d d3 a b/\jX d3 a b:=by
 refine ⟨(m2.wide (ag _) h1 h2).trans (m3.wide h1 h2 (ag _)),fun i j i1 ij j2=>?_⟩;rcases bD i c with hic|hic
 ·rw[m3.o (Or.inl hic)];rcases bD j c with RY|RY
  ·rw[m3.o (Or.inl RY)];exact n2 i j i1 ij RY
  obtain ⟨i',i3,i4,e1⟩:=m2.src (by omega) i1 hic;obtain ⟨j',j3,j4,e2⟩:=m3.src (by rw[m2.len];omega) RY j2;rw[e1,e2,m2.o (Or.inr j3)];exact hx i' i3 i4 j' j3 j4
 exact n3 i j hic ij j2
def UG (h0:a<=s) (h1:s<=m) (h2:m<=e) (h3:e<=b) (hb:b<=d.length) (hc:c=s+(e-m)) (na:jX d a m) (nb:jX d m b)
  (H1:∀ i,a<=i->i<s->∀ j,e<=j->j<b->(eA d i).key<=(eA d j).key) (H2:∀ i,s<=i->i<m->∀ j,m<=j->j<e->(eA d j).key<(eA d i).key) :
  Moved d (eH d s m e) a b/\jX (eH d s m e) a s/\jX (eH d s m e) s c/\jX (eH d s m e) c e/\jX (eH d s m e) e b /\
  ∀ i,a<=i->i<c->∀ j,c<=j->j<b->(eA (eH d s m e) i).key<=(eA (eH d s m e) j).key:=by
 subst hc;have M:=kE h1 h2 (ak h3 hb) (fun i i1 i2 j j1 j2=>by have:=H2 i i1 i2 j j1 j2;omega);have o:∀ {i},i<s∨e<=i->eA (eH d s m e) i=eA d i:=fun h=>M.o h
 have r1:∀ {i},s<=i->i<s+(e-m)->eA (eH d s m e) i=eA d (m+(i-s)):=fun i1 i2=>vZ h1 h2 (ak h3 hb) i1 i2
 have r2:∀ {i},s+(e-m)<=i->i<e->eA (eH d s m e) i=eA d (s+(i-(s+(e-m)))):=fun i1 i2=>vX h1 h2 (ak h3 hb) i1 i2
 refine ⟨M.wide h0 (by omega) h3,fun i j i1 ij j2=>?_,fun i j i1 ij j2=>?_,fun i j i1 ij j2=>?_,fun i j i1 ij j2=>?_,fun i i1 i2 j j1 j2=>?_⟩
 ·rw[o (Or.inl (by omega)),o (Or.inl j2)];exact na i j i1 ij (by omega)
 ·rw[r1 i1 (by omega),r1 (by omega) j2];exact nb _ _ (by omega) (by omega) (by omega)
 ·rw[r2 i1 (by omega),r2 (by omega) j2];exact na _ _ (by omega) (by omega) (by omega)
 ·rw[o (Or.inr i1),o (Or.inr (by omega))];exact nb i j (by omega) ij j2
 rcases bD i s with is|is
 ·rw[o (Or.inl is)];rcases bD j e with je|je
  ·rw[r2 j1 je];exact na _ _ i1 (by omega) (by omega)
  rw[o (Or.inr je)];exact H1 i i1 is j je j2
 rw[r1 is i2];rcases bD j e with je|je
 ·rw[r2 j1 je];exact Int.le_of_lt (H2 _ (by omega) (by omega) _ (by omega) (by omega))
 rw[o (Or.inr je)];exact nb _ _ (by omega) (by omega) j2
def Lh (x y:Int):Int:=if x<y then -1 else if y<x then 1 else 0
def G3 (x y:Int):(decide (Lh x y<0))=decide (x<y):=by
 unfold Lh
 by_cases h:x<y
 ·rw[ah h];simp[h]
 rw[ai h]
 by_cases h2:y<x
 ·rw[ah h2];simp[h]
 rw[ai h2];simp[h]
def uD (x:Int) (w:World):Calls prog 198 #[.int .u64 x] w fun e w'=>e=.returned (.bool false)/\Below w.heap.size w w':=by
 go_enter func198,ntmps198
 have hx:(x != x)=false:=by simp
 go_wp2_with fail;go_ret;exact ⟨rfl,aj _ _⟩
def zFd (x y:Int) (w:World):Calls prog 175 #[.int .u64 x,.int .u64 y] w fun e w'=>e=.returned (.int .i64 (Lh x y))/\Below w.heap.size w w':=by
 unfold Lh
 by_cases h:x<y
 ·rw[ah h]
  go_enter func175,ntmps175
  go_wp2_with fail;refine (uD _ _).mono ?_;rintro e w1 ⟨rfl,hb1⟩;have eV:=zh hb1;clear hb1;go_wp2_with fail;refine (uD _ _).mono ?_;rintro e w2 ⟨rfl,hb2⟩;have eX:=zh (zA eV.o hb2);clear hb2;go_wp2_with fail;go_ret;exact ⟨rfl,eX.o⟩
 rw[ai h]
 by_cases h2:y<x
 ·rw[ah h2]
  go_enter func175,ntmps175
  go_wp2_with fail;refine (uD _ _).mono ?_;rintro e w1 ⟨rfl,hb1⟩;have eV:=zh hb1;clear hb1;go_wp2_with fail;refine (uD _ _).mono ?_;rintro e w2 ⟨rfl,hb2⟩;have eX:=zh (zA eV.o hb2);clear hb2;go_wp2_with fail;go_ret;exact ⟨rfl,eX.o⟩
 rw[ai h2]
 go_enter func175,ntmps175
 go_wp2_with fail;refine (uD _ _).mono ?_;rintro e w1 ⟨rfl,hb1⟩;have eV:=zh hb1;clear hb1;go_wp2_with fail;refine (uD _ _).mono ?_;rintro e w2 ⟨rfl,hb2⟩;have eX:=zh (zA eV.o hb2);clear hb2;go_wp2_with fail;go_ret;exact ⟨rfl,eX.o⟩
def JS (x y:It) (w:World):Calls prog 174 #[mg x,mg y] w fun e w'=>e=.returned (.int .i64 (Lh x.key y.key))/\Below w.heap.size w w':=by
 have HW:Hid (Below w.heap.size w ((w.alloc (.cells #[.int .u64 x.key,.int .u32 x.ck,.int .i64 x.off,.int .i64 x.size] 49)).alloc (.cells #[.int .u64 y.key,.int .u32 y.ck,.int .i64 y.off,.int .i64 y.size] 49))):=zh (((aj _ _).alloc (ag _) _).alloc (by simp) _)
 go_enter func174,ntmps174
 go_wp2_with fail;refine (zFd _ _ _).mono ?_;rintro e w1 ⟨rfl,hb1⟩;have eV:=zh (zA HW.o hb1);clear hb1;go_wp2_with fail;go_ret;exact ⟨rfl,eV.o⟩
def tw (d:List It) (i j:Nat):List It:=(d.set i (eA d j)).set j (eA d i)
def kJ (d:List It) (a b:Nat):Nat->List It
 |0=>d
 |i+1=>tw (kJ d a b i) (a+i) (b+i)
def uZ (d:List It) (i j:Nat):(tw d i j).length=d.length:=by unfold tw;rw[a_,a_]
def xw (d:List It) (a b:Nat):∀ i,(kJ d a b i).length=d.length
 |0=>rfl
 |i+1=>by show (tw _ _ _).length=_;rw[uZ,xw]
def Iy (w:World) (g k:Nat) (y:It):World:=(((w.setCell ⟨g,k*4,none⟩ (.int .u64 y.key)).setCell ⟨g,k*4+1,none⟩ (.int .u32 y.ck)).setCell ⟨g,k*4+2,none⟩ (.int .i64 y.off)).setCell ⟨g,k*4+3,none⟩ (.int .i64 y.size)
def zw {a b c:World} {r:Option Nat} (a1:a.grownBy b r) (a2:b.grownBy c r):a.grownBy c r:=
 ⟨a2.os.trans a1.os,a2.tape.trans a1.tape,a2.output.trans a1.output,ak a1.size a2.size,fun k hk hne=>(a2.block k (cH hk a1.size) hne).trans (a1.block k hk hne)⟩
def zGd (a:World) (r:Option Nat):a.grownBy a.drew r:=⟨rfl,rfl,rfl,ag _,fun _ _ _=>rfl⟩
variable {q:List It}
def KD (h:w.ownsRow B 49 4 (.slice (some ⟨g,0,none⟩) n cap) n (zg q)) (k:Nat) (hk:k<q.length) (y:It) :
  (Iy w g k y).ownsRow B 49 4 (.slice (some ⟨g,0,none⟩) n cap) n (zg (q.set k y))/\w.grownBy (Iy w g k y) (some g):=by
 have s1:=h.stored (k*4) (.int .u64 y.key);have s2:=s1.1.stored (k*4+1) (.int .u32 y.ck);have s3:=s2.1.stored (k*4+2) (.int .i64 y.off);have s4:=s3.1.stored (k*4+3) (.int .i64 y.size);exact ⟨Uz h k hk y,zw (zw (zw s1.2 s2.2) s3.2) s4.2⟩
def UH (h:w.ownsRow B 49 4 (.slice (some ⟨g,0,none⟩) n cap) n (zg q)) (hq:q.length=n) {i j:Nat} (hi:i<n) (hj:j<n) {x y:It} (hx:eA q i=x) (hy:eA q j=y) :
  (Iy (Iy w g i y) g j x).drew.ownsRow B 49 4 (.slice (some ⟨g,0,none⟩) n cap) n (zg (tw q i j))/\w.grownBy (Iy (Iy w g i y) g j x).drew (some g):=by
 obtain ⟨h1,g1⟩:=KD h i (by omega) y;obtain ⟨h2,g2⟩:=KD h1 j (by rw[a_];omega) x;unfold tw;rw[hx,hy];exact ⟨h2.drew,zw (zw g1 g2) (zGd _ _)⟩
def tZ (g n cap a b k B:Nat) (d:List It) (fv:Value) (w:World) (hown:w.ownsRow B 49 4 (.slice (some ⟨g,0,none⟩) n cap) n (zg d)) (hn:d.length=n) (hs:n<=1000000) (hab:a+k<=b) (hb:b+k<=n) :
  Calls prog 216 #[.slice (some ⟨g,0,none⟩) n cap,.int .i64 (a:Int),.int .i64 (b:Int),.int .i64 (k:Int),fv] w fun e w'=>e=.returned (.tuple #[])/\w'.ownsRow B 49 4 (.slice (some ⟨g,0,none⟩) n cap) n (zg (kJ d a b k))/\w.grownBy w' (some g):=by
 have HO:=zh hown;have HL:=zh (fun i=>(xw d a b i).trans hn);have HS:=zh (fun i=>show kJ d a b (i+1)=tw (kJ d a b i) (a+i) (b+i) from rfl);have hgr:w.grownBy w (some g):=⟨rfl,rfl,rfl,ag _,fun _ _ _=>rfl⟩
 have HG:=zh hgr;have H0:Hid (kJ d a b 0=d):=zh (rfl);clear hown hn hgr
 go_enter func216,ntmps216
 go_wp2_with fail
 go_loopw [10] (fun iv wr=>∃ i:Nat,iv=.int .i64 (i:Int)/\i<=k/\wr.ownsRow B 49 4 (.slice (some ⟨g,0,none⟩) n cap) n (zg (kJ d a b i))/\w.grownBy wr (some g)) (fun iv _=>k-(intOf iv).toNat)
 case atStart=>exact ⟨0,rfl,by omega,by rw[H0.o];exact HO.o,HG.o⟩
 obtain ⟨i,rfl,hi,hown,hgr⟩:=hrel;have Ho:=zh hown;have Hg:=zh hgr;clear hown hgr
 by_cases hlt:i<k
 ·have Ev:=zh (HL.o i);have pq:=zh (HS.o i);generalize kJ d a b i=q at *;obtain ⟨_,_,e,c0,c1,c2,c3⟩:=(xF (zr Ho.o)).at (show a+i<n by omega);injection e with e;injection e with e1 e2;subst e1 e2;obtain ⟨_,_,e,d0,d1,d2,d3⟩:=(xF (zr Ho.o)).at (show b+i<n by omega);injection e with e;injection e with e1 e2;subst e1 e2;simp only[aN] at c0 c1 c2 c3 d0 d1 d2 d3;have j1:IntKind.i64.wrap ((a:Int)+(i:Int))=(a:Int)+(i:Int):=aF _ (by omega);have j2:IntKind.i64.wrap ((b:Int)+(i:Int))=(b:Int)+(i:Int):=aF _ (by omega);have j3:((a:Int)+(i:Int)).toNat=a+i:=by omega
  have j4:((b:Int)+(i:Int)).toNat=b+i:=by omega
  go_wp2_with fail;have j5:(0:Int)<=(a:Int)+(i:Int):=by omega
  have j6:(0:Int)<=(b:Int)+(i:Int):=by omega
  have j7:(a:Int)+(i:Int)<(n:Int):=by omega
  have j8:(b:Int)+(i:Int)<(n:Int):=by omega
  have fz:=fun k=>Ho.o.frozenAt k
  have f0:=fz ((a+i)*4);have f1:=fz ((a+i)*4+1);have f2:=fz ((a+i)*4+2);have f3:=fz ((a+i)*4+3);have f4:=fz ((b+i)*4);have f5:=fz ((b+i)*4+1);have f6:=fz ((b+i)*4+2);have f7:=fz ((b+i)*4+3);clear fz;generalize hx:eA q (a+i)=x at *;generalize hy:eA q (b+i)=y at *;have o8:=zh (And.intro hx hy);clear hx hy;have HF:=zh (UH Ho.o Ev.o (i:=a+i) (j:=b+i) (by omega) (by omega) o8.o.1 o8.o.2)
  go_region_with (fail)
  all_goals go_wp2_with fail
  all_goals exact ⟨⟨i+1,by go_num,by omega,by rw[pq.o];exact HF.o.1,zw Hg.o HF.o.2⟩,by simp[intOf];omega⟩
 obtain rfl:i=k:=by omega
 go_wp2_with fail;go_end0;exact ⟨rfl,Ho.o,Hg.o⟩
def KX {x:It} (hi:i<d.length) (j:Nat):eA (d.set i x) j=if j=i then x else eA d j:=by
 unfold eA;rw[aw,aw,dJ]
 by_cases h:j=i
 ·subst h;rw[ah rfl,ah rfl,ah hi];rfl
 rw[ai (aQ h),ai h]
def Oq (hi:i<d.length) (hj:j<d.length) (k:Nat):eA (tw d i j) k=if k=j then eA d i else if k=i then eA d j else eA d k:=by
 unfold tw;rw[KX (by rw[a_];exact hj),KX hi]
def Mm {d:List It} {a b:Nat}:∀ (k:Nat),a+k<=b->b+k<=d.length->∀ i,eA (kJ d a b k) i=if a<=i/\i<a+k then eA d (i-a+b) else if b<=i/\i<b+k then eA d (i-b+a) else eA d i
 |0,_,_,i=>by rw[ai (by omega),ai (by omega)];rfl
 |k+1,h1,h2,i=>by
  have ih:=Mm (d:=d) (a:=a) (b:=b) k (by omega) (by omega)
  show eA (tw (kJ d a b k) (a+k) (b+k)) i=_
  rw[Oq (by rw[xw];omega) (by rw[xw];omega)]
  by_cases e1:i=b+k
  ·subst e1;rw[ah rfl,ih,ai (by omega),ai (by omega),ai (by omega),ah (by omega)]
   congr 1;omega
  rw[ai e1]
  by_cases e2:i=a+k
  ·subst e2;rw[ah rfl,ih,ai (by omega),ai (by omega),ah (by omega)]
   congr 1;omega
  rw[ai e2,ih]
  by_cases c1:a<=i/\i<a+k
  ·rw[ah c1,ah (by omega)]
  rw[ai c1,ai (show ¬ (a<=i/\i<a+(k+1)) by omega)]
  by_cases c2:b<=i/\i<b+k
  ·rw[ah c2,ah (by omega)]
  rw[ai c2,ai (show ¬ (b<=i/\i<b+(k+1)) by omega)]
def RZ (hl:u.length=v.length) (h:∀ i,i<u.length->eA u i=eA v i):u=v:=by
 apply List.ext_getElem hl;intro i h1 h2;rw[vw h1,vw h2];exact h i h1
def qK {P X Y Z Q:List It} (h:X.length=Z.length):kJ (P++(X++(Y++(Z++Q)))) P.length (P.length+X.length+Y.length) X.length=P++(Z++(Y++(X++Q))):=by
 refine RZ (by rw[xw];simp only[ax];omega) fun i hi=>?_
 rw[xw] at hi;simp only[ax] at hi;rw[Mm _ (by omega) (by simp only[ax];omega)]
 by_cases p1:i<P.length
 ·rw[ai (by omega),ai (by omega),xU p1,xU p1]
 by_cases p2:i<P.length+X.length
 ·rw[ah (by omega),z8 (u:=P) (by omega),z8 (u:=X) (by omega),z8 (u:=Y) (by omega),xU (u:=Z) (by omega),z8 (u:=P) (by omega),xU (u:=Z) (by omega)]
  congr 1;omega
 by_cases p3:i<P.length+X.length+Y.length
 ·rw[ai (by omega),ai (by omega),z8 (u:=P) (by omega),z8 (u:=X) (by omega),xU (u:=Y) (by omega),z8 (u:=P) (by omega),z8 (u:=Z) (by omega),xU (u:=Y) (by omega)]
  congr 1;omega
 by_cases p4:i<P.length+X.length+Y.length+Z.length
 ·rw[ai (by omega),ah (by omega),z8 (u:=P) (by omega),xU (u:=X) (by omega),z8 (u:=P) (by omega),z8 (u:=Z) (by omega),z8 (u:=Y) (by omega),xU (u:=X) (by omega)]
  congr 1;omega
 rw[ai (by omega),ai (by omega),z8 (u:=P) (by omega),z8 (u:=X) (by omega),z8 (u:=Y) (by omega),z8 (u:=Z) (by omega),z8 (u:=P) (by omega),z8 (u:=Z) (by omega),z8 (u:=Y) (by omega),z8 (u:=X) (by omega)]
 congr 1;omega
structure px (T q:List It) (m i j:Nat):Prop where
 ex:∃ P U V Q:List It,q=P++(U++(V++Q))/\T=P++(V++(U++Q))/\U.length=i/\V.length=j/\P.length+i=m
 hi:0<i
 hj:0<j
variable {T:List It}
def px.gt (h:px T q m i j) (hij:j<i):px T (kJ q (m-i) m j) m (i-j) j:=by
 obtain ⟨⟨P,U,V,Q,rfl,rfl,hu,hv,hm⟩,h1,h2⟩:=h;refine ⟨⟨P++V,U.drop j,U.take j,Q,?_,?_,by rw[aT];omega,by rw[aB];omega,by rw[ax];omega⟩,by omega,h2⟩
 ·have hx:(U.take j).length=V.length:=by rw[aB];omega
  have hb:=qK (P:=P) (X:=U.take j) (Y:=U.drop j) (Z:=V) (Q:=Q) hx;have hlen:P.length+(U.take j).length+(U.drop j).length=m:=by rw[aB,aT];omega
  rw[hlen,hx,hv,show P.length=m-i by omega,<- aY (U.take j),b7] at hb;rw[hb];simp
 simp only[aY];rw[<- aY (U.take j),b7]
def px.lt (h:px T q m i j) (hij:i<j):px T (kJ q (m-i) (m+j-i) i) m i (j-i):=by
 obtain ⟨⟨P,U,V,Q,rfl,rfl,hu,hv,hm⟩,h1,h2⟩:=h;refine ⟨⟨P,V.drop (j-i),V.take (j-i),U++Q,?_,?_,by rw[aT];omega,by rw[aB];omega,hm⟩,h1,by omega⟩
 ·have hx:U.length=(V.drop (j-i)).length:=by rw[aT];omega
  have hb:=qK (P:=P) (X:=U) (Y:=V.take (j-i)) (Z:=V.drop (j-i)) (Q:=Q) hx;have hlen:P.length+U.length+(V.take (j-i)).length=m+j-i:=by rw[aB];omega
  rw[hlen,hu,show P.length=m-i by omega,<- aY (V.take (j-i)),b7] at hb;rw[hb]
 rw[<- aY (V.take (j-i)),b7]
def px.eq (h:px T q m i i):kJ q (m-i) m i=T:=by
 obtain ⟨⟨P,U,V,Q,rfl,rfl,hu,hv,hm⟩,h1,h2⟩:=h;have hb:=qK (P:=P) (X:=U) (Y:=[]) (Z:=V) (Q:=Q) (by omega);rw[hu,show P.length=m-i by omega] at hb;simp only[dK,bV,bE] at hb;rw[show m-i+i=m by omega] at hb;exact hb
def px.len (h:px T q m i j):i<=m/\m+j<=q.length:=by
 obtain ⟨⟨P,U,V,Q,rfl,rfl,hu,hv,hm⟩,h1,h2⟩:=h;simp only[ax];omega
def zHA (h1:a<m) (h2:m<b) (h3:b<=d.length):px (eH d a m b) d m (m-a) (b-m):=by
 refine ⟨⟨d.take a,lV d a m,lV d m b,d.drop b,?_,?_,xK (by omega),xK h3,by rw[aB];omega⟩,by omega,by omega⟩
 ·have:=parts (d:=d) (a:=a) (b:=b) (by omega);rw[qu (bT h1) (bT h2)] at this
  simpa using this
 unfold eH;simp
def zGZ (g n cap a m b B:Nat) (d:List It) (fv:Value) (w:World) (hown:w.ownsRow B 49 4 (.slice (some ⟨g,0,none⟩) n cap) n (zg d)) (hn:d.length=n) (hs:n<=1000000) (h1:a<m) (h2:m<b) (h3:b<=n) :
  Calls prog 214 #[.slice (some ⟨g,0,none⟩) n cap,.int .i64 (a:Int),.int .i64 (m:Int),.int .i64 (b:Int),fv] w fun e w'=>e=.returned (.tuple #[])/\w'.ownsRow B 49 4 (.slice (some ⟨g,0,none⟩) n cap) n (zg (eH d a m b))/\w.grownBy w' (some g):=by
 have HO:=zh hown;have HR:=zh (zHA h1 h2 (by omega):px (eH d a m b) d m (m-a) (b-m));have hgr:w.grownBy w (some g):=⟨rfl,rfl,rfl,ag _,fun _ _ _=>rfl⟩
 have HG:=zh hgr;have HN:=zh hn;generalize eH d a m b=T at *;clear hown hgr hn
 go_enter func214,ntmps214
 go_wp2_with fail
 go_loopw [10,11] (fun iv jv wr=>∃ (i j:Nat) (q:List It),iv=.int .i64 (i:Int)/\jv=.int .i64 (j:Int)/\px T q m i j/\q.length=n/\wr.ownsRow B 49 4 (.slice (some ⟨g,0,none⟩) n cap) n (zg q)/\w.grownBy wr (some g)) (fun iv jv _=>(intOf iv).toNat+(intOf jv).toNat)
 case atStart=>exact ⟨m-a,b-m,d,by go_num,by go_num,HR.o,HN.o,HO.o,HG.o⟩
 obtain ⟨i,j,q,rfl,rfl,hr,hq,ho,hg⟩:=hrel;have hl:=hr.len;have hip:=hr.hi;have hjp:=hr.hj;rw[hq] at hl;have Ho:=zh ho;have Hg:=zh hg;have Hr:=zh hr;have Hq:=zh hq;clear ho hg hr hq;rcases Nat.lt_trichotomy i j with hij|hij|hij
 ·have HC:=zh (tZ g n cap (m-i) (m+j-i) i B q fv wr Ho.o Hq.o hs (by omega) (by omega));have e1:((m-i:Nat):Int)=(m:Int)-(i:Int):=by omega
  have e2:((m+j-i:Nat):Int)=(m:Int)+(j:Int)-(i:Int):=by omega
  rw[e1,e2] at HC;have iq:=zh (Hr.o.lt hij);have FX:=zh ((xw q (m-i) (m+j-i) i).trans Hq.o);generalize kJ q (m-i) (m+j-i) i=q2 at *;clear e1 e2;have hne:((i:Int) != (j:Int))=true:=by rw[bne_iff_ne];omega
  go_wp2_with fail;refine HC.o.mono ?_;rintro e w2 ⟨rfl,eM,fu⟩;have gp:=zh eM;have lW:=zh (zw Hg.o fu);clear eM fu;go_wp2_with fail;exact ⟨⟨i,j-i,q2,rfl,by go_num,iq.o,FX.o,gp.o,lW.o⟩,by simp[intOf];omega⟩
 ·subst hij;have HC:=zh (tZ g n cap (m-i) m i B q fv wr Ho.o Hq.o hs (by omega) (by omega));have e1:((m-i:Nat):Int)=(m:Int)-(i:Int):=by omega
  rw[e1,Hr.o.eq] at HC;clear e1;have hne:((i:Int) != (i:Int))=false:=by simp
  go_wp2_with fail;refine HC.o.mono ?_;rintro e w2 ⟨rfl,eM,fu⟩;have gp:=zh eM;have lW:=zh (zw Hg.o fu);clear eM fu;go_wp2_with fail;go_end0;exact ⟨rfl,gp.o,lW.o⟩
 have HC:=zh (tZ g n cap (m-i) m j B q fv wr Ho.o Hq.o hs (by omega) (by omega));have e1:((m-i:Nat):Int)=(m:Int)-(i:Int):=by omega
 rw[e1] at HC;have iq:=zh (Hr.o.gt hij);have FX:=zh ((xw q (m-i) m j).trans Hq.o);generalize kJ q (m-i) m j=q2 at *;clear e1;have hne:((i:Int) != (j:Int))=true:=by rw[bne_iff_ne];omega
 go_wp2_with fail;refine HC.o.mono ?_;rintro e w2 ⟨rfl,eM,fu⟩;have gp:=zh eM;have lW:=zh (zw Hg.o fu);clear eM fu;go_wp2_with fail;exact ⟨⟨i-j,j,q2,by go_num,rfl,iq.o,FX.o,gp.o,lW.o⟩,by simp[intOf];omega⟩
end Go.Proofs.YtcgfilmmokmdjaaGreat
