import Derived.Test.YtcgfilmmokmdjaaGreatQAA
import Derived.Deep.Onto
import Derived.StillTailTactics
set_option linter.all false
set_option maxRecDepth 100000
set_option maxHeartbeats 32000000
namespace Go.Proofs.YtcgfilmmokmdjaaGreat
open Go.RowKit
abbrev Eh (n:Int):Value:=.int .u64 n
abbrev lT (w:World) (v:Value) (l:List Int):Prop:=iE Eh w v l
def nR (l:List Int) (j:Nat):Int:=l.getD j 0
theorem lT.fK {w:World} {v:Value} {l:List Int} (h:lT w v l):∃ a cap,v=.slice a l.length cap∧l.length≤cap∧cap≤maxLen:=by
 obtain ⟨a,cap,h1,h2,h3,_⟩:=iE.shape h 0;exact ⟨a,cap,h1,h2,h3⟩
theorem lT.at {w:World} {a:Option Addr} {n cap:Nat} {l:List Int} (h:lT w (.slice a n cap) l) {j:Nat} (hj:j<n):∃ b off,a=some ⟨b,off,none⟩∧w.cell? ⟨b,off+j,none⟩=some (.int .u64 (nR l j)):=by
 obtain ⟨a',cap',e,h2,h3,_,h5⟩:=iE.shape h 0;injection e with e1 e2 e3;subst e1 e2 e3;obtain ⟨b,off,e,hc⟩:=h5 (by omega);exact ⟨b,off,e,hc j hj⟩
theorem ko {l:List Int} {j:Nat} (h:j<l.length):nR l j∈l:=by
 unfold nR;rw[ax,aB h];exact bI h
theorem zDw {l:List Int} {x:Int} {j:Nat} (h:j<l.length) (h':nR l j=x):l.contains x=true:=by
 rw[List.contains_iff_mem];rw[← h'];exact ko h
theorem zDI {l:List Int} {x:Int} (h:∀ j,j<l.length→nR l j≠x):l.contains x=false:=by
 cases e:l.contains x with
 |false=>rfl
 |true =>
  rw[List.contains_iff_mem] at e;obtain ⟨j,hj,e⟩:=List.mem_iff_getElem.1 e;exact absurd (by simp[nR,aB hj,e]) (h j hj)
theorem zE3 (v:Value) (l:List Int) (x:Int) (w:World) (h:lT w v l) :
  Calls Tryz.prog 196 #[v,.int .u64 x] w fun e w'=>(∃ k:Int,e=.returned (.int .i64 k)∧decide (0≤k)=l.contains x)∧w=w':=by
 obtain ⟨a,cap,rfl,h1,h2⟩:=h.fK;have HT:=zh (show (∀ j,j<l.length→nR l j≠x)→l.contains x=false from zDI);have HF:=zh (show ∀ j,j<l.length→nR l j=x→l.contains x=true from fun j=>zDw);have hm:=C1 h1 h2;generalize l.contains x=r at *;generalize hn:l.length=n at *;have Hr:=zh h;clear h h1 h2 hn
 go_enter Tryz.func196,Tryz.ntmps196
 go_wp2_with fail
 go_loop [8] (fun i=>∃ k:Nat,k≤n∧i=.int .i64 (k:Int)∧(∀ j,j<k→nR l j≠x)) (fun i=>n-(intOf i).toNat)
 case atStart=>exact ⟨0,aq _,rfl,fun j hj=>absurd hj (by omega)⟩
 obtain ⟨k,hk,rfl,hno⟩:=hrel;have Wx:=zh hno;clear hno
 by_cases hlt:k<n
 ·
  obtain ⟨b,off,rfl,c0⟩:=Hr.out.at hlt;generalize hy:nR l k=y at *;have HY:=zh hy;clear hy
  by_cases hxy:x=y
  ·
   have hd:(x==y)=true:=beq_iff_eq.2 hxy;have HR:=zh (HF.out k hlt (by rw[HY.out,hxy]));clear hxy;go_wp2_with fail;go_ret;exact ⟨⟨k,rfl,by rw[HR.out];simp⟩,rfl⟩
  have hd:(x==y)=false:=beq_eq_false_iff_ne.2 hxy;have nK:=zh hxy;clear hxy;go_wp2_with fail;refine ⟨⟨k+1,by omega,by go_num,fun j hj=>?_⟩,by simp[intOf];omega⟩
  by_cases e:j=k
  ·
   rw[e,HY.out];exact fun e=>nK.out e.symm
  exact Wx.out j (by omega)
 obtain rfl:k=n:=by omega
 go_wp2_with fail;go_ret;exact ⟨⟨-1,rfl,by rw[HT.out Wx.out];rfl⟩,rfl⟩
theorem zBx (v:Value) (l:List Int) (x:Int) (w:World) (h:lT w v l) :
  Calls Tryz.prog 171 #[v,.int .u64 x] w fun e w'=>e=.returned (.bool (l.contains x))∧w=w':=by
 have HX:=zh (zE3 v l x w h);obtain ⟨a,cap,rfl,_,_⟩:=h.fK;generalize l.contains x=r at *;clear h
 go_enter Tryz.func171,Tryz.ntmps171
 go_wp2_with fail;refine HX.out.mono ?_;rintro e w1 ⟨⟨k,rfl,hk⟩,rfl⟩;have HK:=zh hk;clear hk;go_wp2_with fail;go_ret;exact ⟨zI HK.out,rfl⟩
def Gone (w:World) (gb:Nat) (gone:List Int):Prop:=∃ a n cap,w.cell? ⟨gb,0,none⟩=some (.slice a n cap)∧lT w (.slice a n cap) gone
theorem Gone.below {w w':World} {gb:Nat} {gone:List Int} (h:Gone w gb gone) (hb:Below w.heap.size w w'):Gone w' gb gone:=by
 obtain ⟨a,n,cap,h1,h2⟩:=h;exact ⟨a,n,cap,Below.keeps hb _ _ h1,h2.below hb⟩
theorem Wy (k c o s:Int) (gb:Nat) (gone:List Int) (w:World) (h:Gone w gb gone) :
  Calls Tryz.prog 170 #[.agg #[.int .u64 k,.int .u32 c,.int .i64 o,.int .i64 s],.pointer (some ⟨gb,0,none⟩)] w fun e w'=>e=.returned (.bool (gone.contains k))∧Below w.heap.size w w':=by
 have HW:=zh (show Below w.heap.size w (w.alloc (.cells #[.int .u64 k,.int .u32 c,.int .i64 o,.int .i64 s] 49)) from (aj _ _).alloc (ag _) _);obtain ⟨a,n,cap,h1,h2⟩:=h;have HC:=zh (zBx (.slice a n cap) gone k (w.alloc (.cells #[.int .u64 k,.int .u32 c,.int .i64 o,.int .i64 s] 49)) (h2.below HW.out));have h1':=Below.keeps HW.out _ _ h1;generalize gone.contains k=r at *;clear h2
 go_enter Tryz.func170,Tryz.ntmps170
 go_wp2_with fail;refine HC.out.mono ?_;rintro e w1 ⟨rfl,rfl⟩;go_wp2_with fail;go_ret;exact ⟨rfl,HW.out⟩
def kept (gone:List Int) (l:List It):List It:=l.filter fun x=>!gone.contains x.key
theorem zHI (gone:List Int) {l:List It} {j:Nat} (h:j<l.length):kept gone (l.take (j+1))=kept gone (l.take j)++(if gone.contains (ea l j).key then [] else [ea l j]):=by
 unfold kept;rw[xI h,cU]
 congr 1
 cases e:gone.contains (ea l j).key<;>simp only[cC,List.filter_nil,e]<;>rfl
theorem WA {gone:List Int} {l:List It} (h:∀ j,j<l.length→gone.contains (ea l j).key=false):kept gone l=l:=by
 unfold kept;rw[List.filter_eq_self];intro x hx;obtain ⟨j,hj,rfl⟩:=uI hx;rw[h j hj];rfl
theorem WB (y:It):∀ (l:List It) (k:Nat),k<l.length→((((zU l).set (k*4) (.int .u64 y.key)).set (k*4+1) (.int .u32 y.ck)).set (k*4+2) (.int .i64 y.off)).set (k*4+3) (.int .i64 y.size)=zU (l.set k y)
 |[],_,h=>by simp at h
 |x::r,0,_=>rfl
 |x::r,k+1,h=>by
  have ih:=WB y r k (by simpa using h);have e0:(k+1)*4=k*4+1+1+1+1:=by omega
  have e1:(k+1)*4+1=k*4+1+1+1+1+1:=by omega
  have e2:(k+1)*4+2=k*4+2+1+1+1+1:=by omega
  have e3:(k+1)*4+3=k*4+3+1+1+1+1:=by omega
  rw[e1,e2,e3,e0]
  show _=iC x++zU (r.set k y)
  rw[← ih]
  rfl
theorem Rg {w:World} {B g n cap:Nat} {l:List It} (h:w.ownsRow B 49 4 (.slice (some ⟨g,0,none⟩) n cap) n (zU l)) (k:Nat) (hk:k<l.length) (y:It) :
  ((((w.setCell ⟨g,k*4,none⟩ (.int .u64 y.key)).setCell ⟨g,k*4+1,none⟩ (.int .u32 y.ck)).setCell ⟨g,k*4+2,none⟩ (.int .i64 y.off)).setCell ⟨g,k*4+3,none⟩ (.int .i64 y.size)).ownsRow B 49 4 (.slice (some ⟨g,0,none⟩) n cap) n (zU (l.set k y)):=by
 rw[← WB y l k hk];exact ((((h.stored _ _).1.stored _ _).1.stored _ _).1.stored _ _).1
theorem uG:∀ m:Nat,(Builtin.zeroCells (lN fE).cells m).toList=zU (List.replicate m fE)
 |0=>by simp[Builtin.zeroCells,zU]
 |m+1=>by
  rw[List.replicate_succ',zu,← uG m,xS]
  show (Array.map _ (Array.range ((m+1)*4))).toList=(Array.map _ (Array.range (m*4))).toList++_
  have e:(m+1)*4=m*4+1+1+1+1:=by omega
  rw[e];simp only[Array.toList_map,Array.toList_range,List.range_succ,bD,List.map_cons,List.map_nil,bt]
  congr 1
  show _=[Value.int .u64 0,.int .u32 0,.int .i64 0,.int .i64 0]
  have s4:(lN fE).cells.size=4:=rfl;rw[s4];rw[show m*4%4=0 by omega,show (m*4+1)%4=1 by omega,show (m*4+1+1)%4=2 by omega,show (m*4+1+1+1)%4=3 by omega]
  rfl
theorem zH5 {w:World} {B g n cap:Nat} {l:List It} (h:w.ownsRow B 49 4 (.slice (some ⟨g,0,none⟩) n cap) n (zU l)) (i:Nat) (hi:i<n) :
  ∃ w',(∀ ty c,(Builtin.clear_ #[33] ty #[.slice (some ⟨g,i*4,none⟩) (n-i) c]).run Tryz.prog w=.ok (.tuple #[]) w')∧w'.ownsRow B 49 4 (.slice (some ⟨g,0,none⟩) n cap) n (zU (l.take i++List.replicate (n-i) fE))∧w.grownBy w' (some g):=by
 have hl:l.length=n:=by have:=h.1;rw[zy] at this;omega
 obtain ⟨w',h1,h2,h3⟩:=tl (P:=Tryz.prog) h (i*4) (zU (List.replicate (n-i) fE)) (by rw[zy,dA];omega) (zq _);refine ⟨w',fun ty c=>?_,?_,h3⟩
 ·
  obtain ⟨m,hm⟩:∃ m,n-i=m+1:=⟨n-i-1,by omega⟩
  rw[hm] at h1 ⊢;simp only[Builtin.clear_];simp[run_underlying Tryz.underlying33];have hz:=uG (m+1);simp only[lN,fE] at hz;rw[hz,show zU (List.replicate (m+1) ⟨0,0,0,0⟩)=zU (List.replicate (m+1) fE) from rfl,h1]
  rfl
 rw[zu,wE];rw[bY (by rw[zy,zy,dA];omega),bZ] at h2;exact h2
theorem zJF (v:Value) (l:List It) (gb:Nat) (gone:List Int) (w:World) (h:ja w v l) (hg:Gone w gb gone) :
  Calls Tryz.prog 178 #[v,.func (.func 170) #[] #[.pointer (some ⟨gb,0,none⟩)]] w fun e w' =>
   ((e=.returned (.int .i64 (-1))∧∀ j,j<l.length→gone.contains (ea l j).key=false)∨∃ k:Nat,k<l.length∧e=.returned (.int .i64 (k:Int))∧gone.contains (ea l k).key=true∧∀ j,j<k→gone.contains (ea l j).key=false)∧Below w.heap.size w w':=by
 obtain ⟨a,cap,rfl,h1,h2⟩:=h.shape;have hm:=C1 h1 h2;have Hg:=zh hg;generalize hn:l.length=n at *;have Hr:=zh h;clear h h1 h2 hn hg
 go_enter Tryz.func178,Tryz.ntmps178
 go_wp2_with fail
 go_loopw [8] (fun i wr=>∃ k:Nat,k≤n∧i=.int .i64 (k:Int)∧(∀ j,j<k→gone.contains (ea l j).key=false)∧Below w.heap.size w wr) (fun i _=>n-(intOf i).toNat)
 case atStart=>exact ⟨0,aq _,rfl,fun j hj=>absurd hj (by omega),aj _ _⟩
 obtain ⟨k,hk,rfl,hok,hb⟩:=hrel;have mf:=zh hok;have Hb:=zh hb;have hB:=hb.size;clear hok hb
 by_cases hlt:k<n
 ·
  have hr:=Hr.out.below Hb.out;obtain ⟨b,off,rfl,c0,c1,c2,c3⟩:=hr.at hlt;have HV:=zh (Wy (ea l k).key (ea l k).ck (ea l k).off (ea l k).size gb gone wr (Hg.out.below Hb.out));generalize hx:ea l k=x at *;have EX:=zh hx;clear hr hx;go_wp2_with fail;refine HV.out.mono ?_;rintro e w1 ⟨rfl,hb1⟩;have mQ:=zh (zA Hb.out hb1)
  cases hx:gone.contains x.key
  ·
   have HX:=zh hx;clear hb1 hx;go_wp2_with fail;refine ⟨⟨k+1,by omega,by go_num,fun j hj=>?_,mQ.out⟩,by simp[intOf];omega⟩
   by_cases e:j=k
   ·
    rw[e,EX.out];exact HX.out
   exact mf.out j (by omega)
  have HX:=zh hx;clear hb1 hx;go_wp2_with fail;go_ret;exact ⟨.inr ⟨k,hlt,rfl,by rw[EX.out];exact HX.out,mf.out⟩,mQ.out⟩
 obtain rfl:k=n:=by omega
 go_wp2_with fail;go_ret;exact ⟨.inl ⟨rfl,mf.out⟩,Hb.out⟩
theorem zLt (v:Value) (l:List It) (gb:Nat) (gone:List Int) (B:Nat) (w:World) (hown:fC w B v l) (hB:B≤w.heap.size) (hg:∀ W,Below B w W→Gone W gb gone) :
  Calls Tryz.prog 169 #[v,.func (.func 170) #[] #[.pointer (some ⟨gb,0,none⟩)]] w fun e w'=>∃ v',e=.returned v'∧fC w' B v' (kept gone l)∧Below B w w':=by
 have HI:=zh (zJF v l gb gone w hown.rd (hg w (aj _ _)));have HG:=zh hg;have HKA:=zh (show (∀ j,j<l.length→_)→_ from WA (gone:=gone) (l:=l));have WC:=zh (show ∀ j,j<l.length→_ from fun j hj=>zHI gone (l:=l) (j:=j) hj);have HKE:=zh (show kept gone (l.take l.length)=kept gone l by rw[cB]);obtain ⟨oa,oc,rfl,ho1,ho2,rL⟩:=zH hown;have hm:=C1 ho1 ho2;have iy:=zh (show w.ownsRow B 49 4 _ l.length (zU l) from hown);have LC:=zh rL;generalize hn:l.length=n at *;have HN:=zh hn;clear hg rL hn hown
 go_enter Tryz.func169,Tryz.ntmps169
 go_wp2_with fail;refine HI.out.mono ?_;rintro e w1 ⟨hres,hb1⟩;have eP:=zh (show Below B w w1 from hb1.mono hB);have jQ:=zh (zG iy.out hb1);clear hb1;rcases hres with ⟨rfl,hno⟩|⟨i0,Rh,rfl,LN,hno⟩
 ·
  have HK:=zh (HKA.out hno);clear hno;go_wp2_with fail;go_ret;exact ⟨_,rfl,yO jQ.out (by rw[HK.out]),eP.out⟩
 have hneg:((i0:Int)==-1)=false:=beq_eq_false_iff_ne.2 (by omega);have hk0:kept gone (l.take (i0+1))=l.take i0:=by
  rw[WC.out i0 Rh,LN];simp only[if_true,bZ];refine WA fun j hj=>?_
  rw[ay] at hj;rw[wl (by omega)];exact hno j (by omega)
 have Ei:=zh hk0;obtain ⟨g,rfl⟩:∃ g,oa=some ⟨g,0,none⟩:=by
  rcases jQ.out.2 with ⟨e,h0⟩|⟨g,_,_,e,_⟩
  ·
   omega
  injection e with e;exact ⟨g,e⟩
 have hgB:=(jQ.out.lt g rfl).1;clear LN hno hk0;go_wp2_with fail
 go_loopw [5,6] (fun iv jv wr=>∃ (i j:Nat) (a:List It),iv=.int .i64 (i:Int)∧jv=.int .i64 (j:Int)∧i<j∧j≤n∧a.length=n∧wr.ownsRow B 49 4 (.slice (some ⟨g,0,none⟩) n oc) n (zU a)∧a.take i=kept gone (l.take j)∧a.drop j=l.drop j∧Below B w wr) (fun _ jv _=>n-(intOf jv).toNat)
 case atStart=>exact ⟨i0,i0+1,l,rfl,by go_num,by omega,by omega,HN.out,jQ.out,Ei.out.symm,rfl,eP.out⟩
 obtain ⟨i,j,a,rfl,rfl,hij,hj,ha,hown,WD,hdj,hb⟩:=hrel;have HA:=zh ha;have HO:=zh hown;have HT:=zh WD;have HD:=zh hdj;have Hb:=zh hb;have AP:B≤wr.heap.size:=ak hB hb.size;have hgr:=(hown.lt g rfl).2;clear ha hown WD hdj hb
 by_cases hlt:j<n
 ·
  obtain ⟨_,_,e,c0,c1,c2,c3⟩:=(yh (zk HO.out)).at hlt;injection e with e;injection e with e1 e2;subst e1 e2;simp only[aI] at c0 c1 c2 c3;have Ri:ea a j=ea l j:=by
   have h1:=wA a j 0;rw[HD.out,wA,bB] at h1;exact h1.symm
  rw[Ri] at c0 c1 c2 c3;have WE:=zh (WC.out j hlt);have HAX:=zh Ri;clear Ri;generalize ea l j=x at *;have BF:=zh (show Below B w (wr.alloc (.cells #[.int .u64 x.key,.int .u32 x.ck,.int .i64 x.off,.int .i64 x.size] 49)) from Hb.out.alloc AP _);have HM:=zh (Wy x.key x.ck x.off x.size gb gone (wr.alloc (.cells #[.int .u64 x.key,.int .u32 x.ck,.int .i64 x.off,.int .i64 x.size] 49)) (HG.out _ BF.out));go_wp2_with fail;refine HM.out.mono ?_;rintro e w2 ⟨rfl,hb2⟩;have gC:=zh (zG (HO.out.alloc _) hb2);have eM:=zh (show Below B w w2 from BF.out.trans (hb2.mono (by simp;omega)));have d0:=Below.keeps hb2 ⟨wr.heap.size,0,none⟩ (.int .u64 x.key) (by simp);have d1:=Below.keeps hb2 ⟨wr.heap.size,1,none⟩ (.int .u32 x.ck) (by simp);have d2:=Below.keeps hb2 ⟨wr.heap.size,2,none⟩ (.int .i64 x.off) (by simp)
  have d3:=Below.keeps hb2 ⟨wr.heap.size,3,none⟩ (.int .i64 x.size) (by simp);have hs2:B≤w2.heap.size:=ak hB eM.out.size;clear hb2 c0 c1 c2 c3
  cases hr:gone.contains x.key
  ·
   have HR:=zh hr;obtain ⟨_,_,e,c0,c1,c2,c3⟩:=(yh (zk gC.out)).at (show i<n by omega);injection e with e;injection e with e1 e2;subst e1 e2;simp only[aI] at c0 c1 c2 c3;have f0:=gC.out.frozenAt (i*4);have f1:=gC.out.frozenAt (i*4+1);have f2:=gC.out.frozenAt (i*4+2);have f3:=gC.out.frozenAt (i*4+3);have HS:=zh (Rg gC.out i (by rw[HA.out];omega) x);clear hr;go_wp2_with fail;have hdr:(a.set i x).drop (j+1)=l.drop (j+1):=by
    rw[List.drop_set_of_lt (by omega),← cn,HD.out,cn]
   have Pc:(a.set i x).take (i+1)=kept gone (l.take (j+1)):=by
    rw[WE.out,HR.out,← HT.out,uM a i x (by rw[HA.out];omega)]
    rfl
   refine ⟨⟨i+1,j+1,a.set i x,by go_num,by go_num,by omega,by omega,by rw[a_];exact HA.out,HS.out,Pc,hdr,?_⟩,by simp[intOf];omega⟩;exact ((((eM.out.setCell hgB _).setCell hgB _).setCell hgB _).setCell hgB _)
  have HR:=zh hr;clear hr;go_wp2_with fail;have hdr:a.drop (j+1)=l.drop (j+1):=by
   rw[← cn,HD.out,cn]
  refine ⟨⟨i,j+1,a,rfl,by go_num,by omega,by omega,HA.out,gC.out,?_,hdr,eM.out⟩,by simp[intOf];omega⟩;rw[WE.out,HR.out,HT.out];simp
 obtain rfl:j=n:=by omega
 obtain ⟨w3,hcl,ei,eL⟩:=zH5 HO.out i (by omega);have mg:=zh (vC ei i (by omega));have gy:=zh (Hb.out.grown eL AP (by intro r hr;injection hr with hr;omega));have Ga:=yl (P:=Tryz.prog) yI (n:=j) (cap:=oc) LC.out i (by omega);clear ei eL;go_wp2_with fail;go_ret;refine ⟨_,rfl,yO mg.out ?_,gy.out⟩;have hia:i≤a.length:=by rw[HA.out];omega
 rw[← wE,dU (by rw[ay];omega),dw,Nat.min_self,HT.out,HKE.out]
def Pd (old fresh:List It) (gone:List Int):List It:=fN (kept gone (fN old)++fN fresh)
theorem WG (gone:List Int) (l:List It):(kept gone l).length≤l.length:=List.length_filter_le _ _
theorem zHh (vo vf vg:Value) (old fresh:List It) (gone:List Int) (w:World) (ho:ja w vo old) (hf:ja w vf fresh) (hg:lT w vg gone)
  (so:wW old) (sf:wW fresh) (sm:wW (kept gone (fN old)++fN fresh)) (h1:old.length≤100000) (h2:fresh.length≤100000) :
  Calls Tryz.prog 132 #[vo,vf,vg] w fun e w'=>∃ v',e=.returned v'∧fC w' w.heap.size v' (Pd old fresh gone)∧Below w.heap.size w w':=by
 have SO:=zh (fun w h=>so vo w h);have SF:=zh (fun w h=>sf vf w h);have SM:=zh (fun v w h=>sm v w h);have HM:=zh (show Pd old fresh gone=fN (kept gone (fN old)++fN fresh) from rfl);obtain ⟨a1,c1,rfl,_,_⟩:=ho.shape;obtain ⟨a2,c2,rfl,_,_⟩:=hf.shape;obtain ⟨a3,c3,rfl,_,_⟩:=hg.fK;have l1:=yZ old;have l2:=yZ fresh;have l3:=WG gone (fN old);generalize fN old=s1 at *;generalize fN fresh=s2 at *;obtain ⟨W0,hW0⟩:∃ W0,W0=w.alloc (.cells #[.slice a3 gone.length c3] 87):=⟨_,rfl⟩
 have BF:=zh hW0;have eH:=zh (show Below w.heap.size w W0 by rw[hW0];exact (aj _ _).alloc (ag _) _);have Rj:=zh (show Gone W0 w.heap.size gone from ⟨a3,gone.length,c3,by rw[hW0];simp,hg.below eH.out⟩);have hs0:w.heap.size≤W0.heap.size:=eH.out.size;have Ho:=zh ho;have Hf:=zh hf;have HDF:=zh (fun v w' B (h:fC w' B v s1) hB hg=>zLt v s1 w.heap.size gone B w' h hB hg);generalize hk:kept gone s1=k1 at *;have HK:=zh hk;clear ho hf hg so sf sm hW0 hk
 go_enter Tryz.func132,Tryz.ntmps132
 go_wp2_with fail;rw[← BF.out];refine (SO.out _ (Ho.out.below eH.out)).mono ?_;rintro e w1 ⟨v1,rfl,hown1,hb1⟩;have jQ:=zh hown1;have eP:=zh hb1;clear hown1 hb1;go_wp2_with fail;refine (HDF.out v1 w1 W0.heap.size jQ.out eP.out.size (fun W h=>Rj.out.below (eP.out.trans h))).mono ?_;rintro e w2 ⟨v2,rfl,eG,hb2⟩;have gC:=zh eG;have eM:=zh (eP.out.trans hb2);have Ao:=zh (jo eH.out hs0 (eP.out.trans hb2));clear eG hb2;go_wp2_with fail;refine (SF.out _ (Hf.out.below Ao.out)).mono ?_;rintro e w3 ⟨v3,rfl,ei,hb3⟩;have mg:=zh (zG gC.out hb3);have nh:=zh (ui ei.rd);have gy:=zh (eM.out.trans (hb3.mono eM.out.size));clear ei hb3;go_wp2_with (at_builtin;go_must (refine zP rfl (.tmp 13) (.tmp 15) 33 rfl yI W0.heap.size rfl mg.out rfl nh.out (zq _) (by unfold maxLen;omega) (by omega) gy.out.size ?_);intro v4 w4 fl gZ hv4;clear hv4);have jM:=zh (yO fl (zu k1 s2).symm)
 have gD:=zh (zL gy.out mg.out gy.out.size gZ);clear fl gZ;go_wp2_with fail;refine (SM.out _ _ jM.out.rd).mono ?_;rintro e w5 ⟨v5,rfl,gG,hb5⟩;have jN:=zh gG;have gH:=zh (gD.out.trans (hb5.mono gD.out.size));clear gG hb5;go_wp2_with fail;go_ret;refine ⟨_,rfl,?_,eH.out.trans (gH.out.mono hs0)⟩;rw[HM.out];exact jN.out.mono (ak hs0 gD.out.size)
end Go.Proofs.YtcgfilmmokmdjaaGreat
namespace Go.Proofs.YtcgfilmmokmdjaaGreat
def gP (l:List It) (key:Int):List It:=l.filter fun y=>!(y.key==key)
theorem zp (y:It) (r:List It) (key:Int):fT (y::r) key=if y.key=key then some y else fT r key:=by
 unfold fT;rw[List.find?_cons]
 by_cases h:y.key=key
 ·
  rw[ah h,show (y.key==key)=true from beq_iff_eq.2 h]
 rw[ai h,show (y.key==key)=false from beq_eq_false_iff_ne.2 h]
theorem vU (x:It):∀ l:List It,fT (ins l x) x.key=some x
 |[]=>by rw[show ins [] x=[x] from rfl,zp,ah rfl]
 |y::r=>by
  unfold ins
  split
  ·
   rw[zp,ai (by omega)];exact vU x r
  split<;>rw[zp,ah rfl]
theorem wz (x:It) (key:Int) (h:key≠x.key):∀ l:List It,fT (ins l x) key=fT l key
 |[]=>by rw[show ins [] x=[x] from rfl,zp,ai (aQ h)]
 |y::r=>by
  have ih:=wz x key h r;unfold ins
  split
  ·
   rw[zp,zp,ih]
  split
  ·
   rw[zp,zp,ai (aQ h),ai (by omega)]
  rw[zp,ai (aQ h)]
theorem kV (l:List It) (key:Int):fT (gP l key) key=none:=by
 unfold fT gP;rw[List.find?_eq_none];intro x hx;have:=(List.mem_filter.1 hx).2;simp at this ⊢;exact this
theorem uT (k key:Int) (h:key≠k):∀ l:List It,fT (gP l k) key=fT l key
 |[]=>rfl
 |y::r=>by
  have ih:=uT k key h r;unfold gP at ih ⊢;rw[cC]
  by_cases e:y.key=k
  ·
   rw[ai (by simp[e]),zp,ai (by omega),ih]
  rw[ah (by simp[e]),zp,zp,ih]
theorem vS {l:List It} {r:Nat} (h:r<l.length):l[r]=ea l r:=by
 unfold ea;rw[ax,aB h];rfl
theorem uy:∀ {l:List It},mR l→l.Pairwise fun a b=>a.key<b.key
 |[],_=>.nil
 |x::r,h=>by
  have hp:=uy h.tail;refine .cons (fun y hy=>?_) hp
  cases r with
  |nil=>cases hy
  |cons z r =>
   have hz:x.key<z.key:=h.1
   cases hy with
   |head=>exact hz
   |tail _ hy=>have:=(List.pairwise_cons.1 hp).1 y hy;omega
theorem Rk:∀ {l:List It},(l.Pairwise fun a b=>a.key<b.key)→mR l
 |[],_=>trivial
 |[x],_=>trivial
 |x::y::r,h=>⟨(List.pairwise_cons.1 h).1 y (by simp),Rk (List.pairwise_cons.1 h).2⟩
theorem Rl {l:List It} (h:lR l) (key:Int):lR (gP l key):=
 (xe _).1 (Rk (List.Pairwise.filter _ (uy ((xe _).2 h))))
theorem WH {l:List It} (h:lR l) (x:It):lR (ins l x):=(xe _).1 (qS x l ((xe _).2 h))
theorem uh (l:List It) (key:Int):(gP l key).length≤l.length:=List.length_filter_le _ _
theorem zLr {l:List It} {x:It} {r:Nat} (h:Place l x.key r) (ha:lR l):ins l x=if r<l.length∧(ea l r).key=x.key then l.set r x else l.take r++x::l.drop r:=by
 have:=O_ l x r h.1 (fun j hj=>h.lt ha hj) (fun hr=>h.2.2 hr);rw[this]
 split
 ·
  rename_i hc;rw[List.set_eq_take_append_cons_drop,ah hc.1]
 rfl
theorem zGy {l:List It} {key:Int} {r:Nat} (h:Place l key r) (ha:lR l):gP l key=if r<l.length∧(ea l r).key=key then l.take r++l.drop (r+1) else l:=by
 have I9:∀ (q:List It),(∀ x∈q,x.key≠key)→gP q key=q:=fun q hq=>by
  unfold gP;rw[List.filter_eq_self];intro x hx;simp;exact hq x hx
 have pw:=uy ((xe _).2 ha)
 split
 ·
  rename_i hc;have e:l=l.take r++ea l r::l.drop (r+1):=by
   have e1:l.drop r=ea l r::l.drop (r+1):=by
    rw[dO hc.1,vS hc.1]
   rw[← e1,b9]
  have WI:=pw;rw[e,List.pairwise_append] at WI;obtain ⟨_,p2,p3⟩:=WI;have h1:gP (l.take r) key=l.take r:=I9 _ fun y hy=>by have:=p3 y hy (ea l r) (by simp);omega
  have h2:gP (l.drop (r+1)) key=l.drop (r+1):=I9 _ fun y hy=>by have:=(List.pairwise_cons.1 p2).1 y hy;omega
  conv=>lhs;rw[e]
  unfold gP at h1 h2 ⊢;rw[cU,h1,cC,ai (by simp[hc.2]),h2]
 rename_i hc;refine I9 _ fun y hy=>?_
 obtain ⟨j,hj,rfl⟩:=uI hy;rcases bE j r with WJ|WJ
 ·
  have:=h.lt ha WJ;omega
 by_cases Rm:j=r
 ·
  subst Rm;exact fun e=>hc ⟨hj,e⟩
 have h1:=h.2.2 (by omega);have h2:(ea l r).key<(ea l j).key:=by
  have:=List.pairwise_iff_getElem.1 pw r j (by omega) hj (by omega);rw[vS,vS] at this;exact this
 omega
def pF (d d':List It):Prop:=∀ k:Int,d.filter (fun y=>y.key==k)=d'.filter (fun y=>y.key==k)
theorem pF.refl (d:List It):pF d d:=fun _=>rfl
theorem pF.symm {d d':List It} (h:pF d d'):pF d' d:=fun k=>(h k).symm
theorem pF.trans {a b c:List It} (h:pF a b) (h':pF b c):pF a c:=fun k=>(h k).trans (h' k)
theorem pF.app {a a' b b':List It} (h:pF a a') (h':pF b b'):pF (a++b) (a'++b'):=fun k=>by rw[cU,cU,h k,h' k]
theorem zJa {u v:List It} (h:∀ x∈u,∀ y∈v,x.key≠y.key):pF (u++v) (v++u):=fun k=>by
 rw[cU,cU]
 by_cases hu:u.filter (fun y=>y.key==k)=[]
 ·
  rw[hu];simp
 obtain ⟨x,hx⟩:=List.exists_mem_of_ne_nil _ hu;obtain ⟨hx1,hx2⟩:=List.mem_filter.1 hx;have hv:v.filter (fun y=>y.key==k)=[]:=by
  rw[List.filter_eq_nil_iff];intro y hy e;simp at hx2 e;exact h x hx1 y hy (by omega)
 rw[hv];simp
theorem pF.mem {d d':List It} (h:pF d d') {x:It} (hx:x∈d):x∈d':=by
 have:x∈d.filter (fun y=>y.key==x.key):=List.mem_filter.2 ⟨hx,by simp⟩;rw[h x.key] at this;exact (List.mem_filter.1 this).1
def jZ (d:List It) (a b:Nat):List It:=(d.drop a).take (b-a)
theorem yt {d:List It} {a b:Nat} (h:b≤d.length):(jZ d a b).length=b-a:=by
 unfold jZ;rw[ay,aP];omega
theorem qE {d:List It} {a b c:Nat} (h1:a≤b) (h2:b≤c):jZ d a c=jZ d a b++jZ d b c:=by
 unfold jZ;rw[show c-a=(b-a)+(c-b) by omega,List.take_add,cn,show a+(b-a)=b by omega]
theorem parts {d:List It} {a b:Nat} (h1:a≤b):d=d.take a++jZ d a b++d.drop b:=by
 have:d.drop b=(d.drop a).drop (b-a):=by rw[cn];congr 1;omega
 unfold jZ;rw[this,bt,b9,b9]
theorem Ph {d:List It} {a b:Nat} (h:b≤d.length) {x:It}:x∈jZ d a b↔∃ j,a≤j∧j<b∧ea d j=x:=by
 unfold jZ
 constructor
 ·
  intro hx;obtain ⟨j,hj,rfl⟩:=uI hx;rw[ay,aP] at hj;exact ⟨a+j,by omega,by omega,by rw[wl (by omega),wA]⟩
 rintro ⟨j,h1,h2,rfl⟩;have:ea d j=ea ((d.drop a).take (b-a)) (j-a):=by
  rw[wl (by omega),wA];congr 1;omega
 rw[this];have hl:j-a<((d.drop a).take (b-a)).length:=by rw[ay,aP];omega
 rw[← vS hl];exact bI hl
structure Moved (d d':List It) (a b:Nat):Prop where
 lo:d'.take a=d.take a
 hi:d'.drop b=d.drop b
 mid:pF (jZ d a b) (jZ d' a b)
 len:d'.length=d.length
theorem Moved.refl (d:List It) (a b:Nat):Moved d d a b:=⟨rfl,rfl,.refl _,rfl⟩
theorem Moved.trans {d d' e:List It} {a b:Nat} (h:Moved d d' a b) (h':Moved d' e a b):Moved d e a b:=
 ⟨h'.lo.trans h.lo,h'.hi.trans h.hi,h.mid.trans h'.mid,h'.len.trans h.len⟩
theorem zCo {d d':List It} {a a':Nat} (h:a≤a') (e:d'.take a'=d.take a'):d'.take a=d.take a:=by
 have:=aO (List.take a) e
 rwa [dw,dw,bW h] at this
theorem zDG {d d':List It} {b b':Nat} (h:b'≤b) (e:d'.drop b'=d.drop b'):d'.drop b=d.drop b:=by
 have:=aO (List.drop (b-b')) e
 rwa [cn,cn,show b'+(b-b')=b by omega] at this
theorem zIt {d d':List It} {a a':Nat} (e:d'.take a'=d.take a'):jZ d' a a'=jZ d a a':=by
 unfold jZ;have h1:∀ l:List It,(l.drop a).take (a'-a)=(l.take a').drop a:=fun l=>by rw[List.drop_take]
 rw[h1,h1,e]
theorem zJH {d d':List It} {b' b:Nat} (e:d'.drop b'=d.drop b'):jZ d' b' b=jZ d b' b:=by
 unfold jZ;rw[e]
theorem Moved.wide {d d':List It} {a b a' b':Nat} (h:Moved d d' a' b') (h1:a≤a') (h2:a'≤b') (h3:b'≤b):Moved d d' a b:=
 ⟨zCo h1 h.lo,zDG h3 h.hi,by
  rw[qE (d:=d) h1 (ak h2 h3),qE (d:=d') h1 (ak h2 h3),qE (d:=d) h2 h3,qE (d:=d') h2 h3,zIt h.lo,zJH h.hi]
  exact (pF.refl _).app (h.mid.app (.refl _)),h.len⟩
theorem Moved.pF {d d':List It} {a b:Nat} (h:Moved d d' a b) (hab:a≤b):pF d d':=by
 rw[parts (d:=d) hab,parts (d:=d') hab,h.lo,h.hi];exact (Go.Proofs.YtcgfilmmokmdjaaGreat.pF.app (.app (.refl _) h.mid) (.refl _))
theorem Moved.out {d d':List It} {a b:Nat} (h:Moved d d' a b) {i:Nat} (hi:i<a∨b≤i):ea d' i=ea d i:=by
 rcases hi with hi|hi
 ·
  rw[← wl (l:=d') hi,h.lo,wl hi]
 have e:∀ l:List It,ea l i=ea (l.drop b) (i-b):=fun l=>by rw[wA];congr 1;omega
 rw[e d',h.hi,← e d]
theorem Moved.src {d d':List It} {a b:Nat} (h:Moved d d' a b) (hb:b≤d.length) {i:Nat} (h1:a≤i) (h2:i<b):∃ j,a≤j∧j<b∧ea d' i=ea d j:=by
 have hm:ea d' i∈jZ d' a b:=(Ph (by rw[h.len];exact hb)).2 ⟨i,h1,h2,rfl⟩;obtain ⟨j,h3,h4,h5⟩:=(Ph hb).1 (h.mid.symm.mem hm);exact ⟨j,h3,h4,h5.symm⟩
def jk (d:List It) (a b:Nat):Prop:=∀ i j,a≤i→i<j→j<b→(ea d i).key≤(ea d j).key
def ey (d:List It) (s m e:Nat):List It:=d.take s++(jZ d m e++jZ d s m)++d.drop e
theorem qP {d:List It} {s m e:Nat} (h1:s≤m) (h2:m≤e) (h3:e≤d.length) (hk:∀ i,s≤i→i<m→∀ j,m≤j→j<e→(ea d i).key≠(ea d j).key):Moved d (ey d s m e) s e:=by
 have l1:(d.take s).length=s:=by rw[ay];omega
 have l2:(jZ d m e++jZ d s m).length=e-s:=by rw[aw,yt h3,yt (by omega)];omega
 have Fz:s≤e:=by omega
 have e1:(ey d s m e).take s=d.take s:=by unfold ey;rw[bt];exact cL l1
 have e2:(ey d s m e).drop e=d.drop e:=by unfold ey;exact List.drop_left' (by rw[aw,l1,l2];omega)
 have e3:jZ (ey d s m e) s e=jZ d m e++jZ d s m:=by
  have hr:ey d s m e=d.take s++((jZ d m e++jZ d s m)++d.drop e):=by unfold ey;rw[bt]
  show ((ey d s m e).drop s).take (e-s)=_
  rw[hr,List.drop_left' l1];exact cL l2
 refine ⟨e1,e2,?_,?_⟩
 ·
  rw[e3,qE h1 h2];refine zJa fun x hx y hy=>?_
  obtain ⟨i,i1,i2,rfl⟩:=(Ph (by omega)).1 hx;obtain ⟨j,j1,j2,rfl⟩:=(Ph h3).1 hy;exact hk i i1 i2 j j1 j2
 unfold ey;rw[aw,aw,l1,l2,aP];omega
theorem xJ {u v:List It} {i:Nat} (h:i<u.length):ea (u++v) i=ea u i:=by
 unfold ea;rw[ax,ax,List.getElem?_append_left h]
theorem zw {u v:List It} {i:Nat} (h:u.length≤i):ea (u++v) i=ea v (i-u.length):=by
 unfold ea;rw[ax,ax,dS h]
theorem WL {d:List It} {a b i:Nat} (h:i<b-a):ea (jZ d a b) i=ea d (a+i):=by
 unfold jZ;rw[wl h,wA]
theorem vD {d:List It} {s m e:Nat} (h1:s≤m) (h2:m≤e) (h3:e≤d.length) {i:Nat} (i1:s≤i) (i2:i<s+(e-m)):ea (ey d s m e) i=ea d (m+(i-s)):=by
 have l1:(d.take s).length=s:=by rw[ay];omega
 have l3:(jZ d m e).length=e-m:=yt h3;have l4:(jZ d s m).length=m-s:=yt (by omega);unfold ey;rw[xJ (by rw[aw,aw,l1,l3,l4];omega),zw (by omega),l1,xJ (by omega),WL (by omega)]
theorem vB {d:List It} {s m e:Nat} (h1:s≤m) (h2:m≤e) (h3:e≤d.length) {i:Nat} (i1:s+(e-m)≤i) (i2:i<e):ea (ey d s m e) i=ea d (s+(i-(s+(e-m)))):=by
 have l1:(d.take s).length=s:=by rw[ay];omega
 have l3:(jZ d m e).length=e-m:=yt h3;have l4:(jZ d s m).length=m-s:=yt (by omega);unfold ey;rw[xJ (by rw[aw,aw,l1,l3,l4];omega),zw (by omega),l1,zw (by omega),l3,WL (by omega)]
 congr 2;omega
theorem zKm {d d2 d3:List It} {a c b:Nat} (h1:a≤c) (h2:c≤b) (hb:b≤d.length) (m2:Moved d d2 a c) (n2:jk d2 a c) (m3:Moved d2 d3 c b) (n3:jk d3 c b)
  (hx:∀ i,a≤i→i<c→∀ j,c≤j→j<b→(ea d i).key≤(ea d j).key):Moved d d3 a b∧jk d3 a b:=by
 refine ⟨(m2.wide (ag _) h1 h2).trans (m3.wide h1 h2 (ag _)),fun i j i1 ij j2=>?_⟩;rcases bE i c with hic|hic
 ·
  rw[m3.out (Or.inl hic)];rcases bE j c with Pj|Pj
  ·
   rw[m3.out (Or.inl Pj)];exact n2 i j i1 ij Pj
  obtain ⟨i',i3,i4,e1⟩:=m2.src (by omega) i1 hic;obtain ⟨j',j3,j4,e2⟩:=m3.src (by rw[m2.len];omega) Pj j2;rw[e1,e2,m2.out (Or.inr j3)];exact hx i' i3 i4 j' j3 j4
 exact n3 i j hic ij j2
theorem Rn {d:List It} {a s m e b c:Nat} (h0:a≤s) (h1:s≤m) (h2:m≤e) (h3:e≤b) (hb:b≤d.length) (hc:c=s+(e-m)) (na:jk d a m) (nb:jk d m b)
  (H1:∀ i,a≤i→i<s→∀ j,e≤j→j<b→(ea d i).key≤(ea d j).key) (H2:∀ i,s≤i→i<m→∀ j,m≤j→j<e→(ea d j).key<(ea d i).key) :
  Moved d (ey d s m e) a b∧jk (ey d s m e) a s∧jk (ey d s m e) s c∧jk (ey d s m e) c e∧jk (ey d s m e) e b ∧
  ∀ i,a≤i→i<c→∀ j,c≤j→j<b→(ea (ey d s m e) i).key≤(ea (ey d s m e) j).key:=by
 subst hc;have M:=qP h1 h2 (ak h3 hb) (fun i i1 i2 j j1 j2=>by have:=H2 i i1 i2 j j1 j2;omega);have o:∀ {i},i<s∨e≤i→ea (ey d s m e) i=ea d i:=fun h=>M.out h
 have r1:∀ {i},s≤i→i<s+(e-m)→ea (ey d s m e) i=ea d (m+(i-s)):=fun i1 i2=>vD h1 h2 (ak h3 hb) i1 i2
 have r2:∀ {i},s+(e-m)≤i→i<e→ea (ey d s m e) i=ea d (s+(i-(s+(e-m)))):=fun i1 i2=>vB h1 h2 (ak h3 hb) i1 i2
 refine ⟨M.wide h0 (by omega) h3,fun i j i1 ij j2=>?_,fun i j i1 ij j2=>?_,fun i j i1 ij j2=>?_,fun i j i1 ij j2=>?_,fun i i1 i2 j j1 j2=>?_⟩
 ·
  rw[o (Or.inl (by omega)),o (Or.inl j2)];exact na i j i1 ij (by omega)
 ·
  rw[r1 i1 (by omega),r1 (by omega) j2];exact nb _ _ (by omega) (by omega) (by omega)
 ·
  rw[r2 i1 (by omega),r2 (by omega) j2];exact na _ _ (by omega) (by omega) (by omega)
 ·
  rw[o (Or.inr i1),o (Or.inr (by omega))];exact nb i j (by omega) ij j2
 rcases bE i s with is|is
 ·
  rw[o (Or.inl is)];rcases bE j e with je|je
  ·
   rw[r2 j1 je];exact na _ _ i1 (by omega) (by omega)
  rw[o (Or.inr je)];exact H1 i i1 is j je j2
 rw[r1 is i2];rcases bE j e with je|je
 ·
  rw[r2 j1 je];exact Int.le_of_lt (H2 _ (by omega) (by omega) _ (by omega) (by omega))
 rw[o (Or.inr je)];exact nb _ _ (by omega) (by omega) j2
end Go.Proofs.YtcgfilmmokmdjaaGreat
namespace Go.Proofs.YtcgfilmmokmdjaaGreat
open Go.RowKit
def Ja (x y:Int):Int:=if x<y then -1 else if y<x then 1 else 0
theorem WN (x y:Int):(decide (Ja x y<0))=decide (x<y):=by
 unfold Ja
 by_cases h:x<y
 ·
  rw[ah h];simp[h]
 rw[ai h]
 by_cases h2:y<x
 ·
  rw[ah h2];simp[h]
 rw[ai h2];simp[h]
theorem vd (x:Int) (w:World):Calls Tryz.prog 198 #[.int .u64 x] w fun e w'=>e=.returned (.bool false)∧Below w.heap.size w w':=by
 go_enter Tryz.func198,Tryz.ntmps198
 have hx:(x != x)=false:=by simp
 go_wp2_with fail;go_ret;exact ⟨rfl,aj _ _⟩
theorem zEP (x y:Int) (w:World):Calls Tryz.prog 175 #[.int .u64 x,.int .u64 y] w fun e w'=>e=.returned (.int .i64 (Ja x y))∧Below w.heap.size w w':=by
 unfold Ja
 by_cases h:x<y
 ·
  rw[ah h]
  go_enter Tryz.func175,Tryz.ntmps175
  go_wp2_with fail;refine (vd _ _).mono ?_;rintro e w1 ⟨rfl,hb1⟩;have eP:=zh hb1;clear hb1;go_wp2_with fail;refine (vd _ _).mono ?_;rintro e w2 ⟨rfl,hb2⟩;have eM:=zh (zA eP.out hb2);clear hb2;go_wp2_with fail;go_ret;exact ⟨rfl,eM.out⟩
 rw[ai h]
 by_cases h2:y<x
 ·
  rw[ah h2]
  go_enter Tryz.func175,Tryz.ntmps175
  go_wp2_with fail;refine (vd _ _).mono ?_;rintro e w1 ⟨rfl,hb1⟩;have eP:=zh hb1;clear hb1;go_wp2_with fail;refine (vd _ _).mono ?_;rintro e w2 ⟨rfl,hb2⟩;have eM:=zh (zA eP.out hb2);clear hb2;go_wp2_with fail;go_ret;exact ⟨rfl,eM.out⟩
 rw[ai h2]
 go_enter Tryz.func175,Tryz.ntmps175
 go_wp2_with fail;refine (vd _ _).mono ?_;rintro e w1 ⟨rfl,hb1⟩;have eP:=zh hb1;clear hb1;go_wp2_with fail;refine (vd _ _).mono ?_;rintro e w2 ⟨rfl,hb2⟩;have eM:=zh (zA eP.out hb2);clear hb2;go_wp2_with fail;go_ret;exact ⟨rfl,eM.out⟩
theorem WO (x y:It) (w:World):Calls Tryz.prog 174 #[lN x,lN y] w fun e w'=>e=.returned (.int .i64 (Ja x.key y.key))∧Below w.heap.size w w':=by
 have HW:=zh (show Below w.heap.size w ((w.alloc (.cells #[.int .u64 x.key,.int .u32 x.ck,.int .i64 x.off,.int .i64 x.size] 49)).alloc (.cells #[.int .u64 y.key,.int .u32 y.ck,.int .i64 y.off,.int .i64 y.size] 49)) from ((aj _ _).alloc (ag _) _).alloc (by simp) _)
 go_enter Tryz.func174,Tryz.ntmps174
 go_wp2_with fail;refine (zEP _ _ _).mono ?_;rintro e w1 ⟨rfl,hb1⟩;have eP:=zh (zA HW.out hb1);clear hb1;go_wp2_with fail;go_ret;exact ⟨rfl,eP.out⟩
def tF (d:List It) (i j:Nat):List It:=(d.set i (ea d j)).set j (ea d i)
def qU (d:List It) (a b:Nat):Nat→List It
 |0=>d
 |i+1=>tF (qU d a b i) (a+i) (b+i)
theorem uF (d:List It) (i j:Nat):(tF d i j).length=d.length:=by unfold tF;rw[a_,a_]
theorem xV (d:List It) (a b:Nat):∀ i,(qU d a b i).length=d.length
 |0=>rfl
 |i+1=>by show (tF _ _ _).length=_;rw[uF,xV]
def FA (w:World) (g k:Nat) (y:It):World:=(((w.setCell ⟨g,k*4,none⟩ (.int .u64 y.key)).setCell ⟨g,k*4+1,none⟩ (.int .u32 y.ck)).setCell ⟨g,k*4+2,none⟩ (.int .i64 y.off)).setCell ⟨g,k*4+3,none⟩ (.int .i64 y.size)
theorem zr {a b c:World} {r:Option Nat} (a1:a.grownBy b r) (a2:b.grownBy c r):a.grownBy c r:=
 ⟨a2.os.trans a1.os,a2.tape.trans a1.tape,a2.output.trans a1.output,ak a1.size a2.size,fun k hk hne=>(a2.block k (cM hk a1.size) hne).trans (a1.block k hk hne)⟩
theorem zFI (a:World) (r:Option Nat):a.grownBy a.drew r:=⟨rfl,rfl,rfl,ag _,fun _ _ _=>rfl⟩
theorem WQ {w:World} {B g n cap:Nat} {q:List It} (h:w.ownsRow B 49 4 (.slice (some ⟨g,0,none⟩) n cap) n (zU q)) (k:Nat) (hk:k<q.length) (y:It) :
  (FA w g k y).ownsRow B 49 4 (.slice (some ⟨g,0,none⟩) n cap) n (zU (q.set k y))∧w.grownBy (FA w g k y) (some g):=by
 have s1:=h.stored (k*4) (.int .u64 y.key);have s2:=s1.1.stored (k*4+1) (.int .u32 y.ck);have s3:=s2.1.stored (k*4+2) (.int .i64 y.off);have s4:=s3.1.stored (k*4+3) (.int .i64 y.size);exact ⟨Rg h k hk y,zr (zr (zr s1.2 s2.2) s3.2) s4.2⟩
theorem Ro {w:World} {B g n cap:Nat} {q:List It} (h:w.ownsRow B 49 4 (.slice (some ⟨g,0,none⟩) n cap) n (zU q)) (hq:q.length=n) {i j:Nat} (hi:i<n) (hj:j<n) {x y:It} (hx:ea q i=x) (hy:ea q j=y) :
  (FA (FA w g i y) g j x).drew.ownsRow B 49 4 (.slice (some ⟨g,0,none⟩) n cap) n (zU (tF q i j))∧w.grownBy (FA (FA w g i y) g j x).drew (some g):=by
 obtain ⟨h1,g1⟩:=WQ h i (by omega) y;obtain ⟨h2,g2⟩:=WQ h1 j (by rw[a_];omega) x;unfold tF;rw[hx,hy];exact ⟨h2.drew,zr (zr g1 g2) (zFI _ _)⟩
theorem uu (g n cap a b k B:Nat) (d:List It) (fv:Value) (w:World) (hown:w.ownsRow B 49 4 (.slice (some ⟨g,0,none⟩) n cap) n (zU d)) (hn:d.length=n) (hs:n≤1000000) (hab:a+k≤b) (hb:b+k≤n) :
  Calls Tryz.prog 216 #[.slice (some ⟨g,0,none⟩) n cap,.int .i64 (a:Int),.int .i64 (b:Int),.int .i64 (k:Int),fv] w fun e w'=>e=.returned (.tuple #[])∧w'.ownsRow B 49 4 (.slice (some ⟨g,0,none⟩) n cap) n (zU (qU d a b k))∧w.grownBy w' (some g):=by
 have HO:=zh hown;have HL:=zh (fun i=>(xV d a b i).trans hn);have HS:=zh (fun i=>show qU d a b (i+1)=tF (qU d a b i) (a+i) (b+i) from rfl);have hgr:w.grownBy w (some g):=⟨rfl,rfl,rfl,ag _,fun _ _ _=>rfl⟩
 have HG:=zh hgr;have H0:=zh (show qU d a b 0=d from rfl);clear hown hn hgr
 go_enter Tryz.func216,Tryz.ntmps216
 go_wp2_with fail
 go_loopw [10] (fun iv wr=>∃ i:Nat,iv=.int .i64 (i:Int)∧i≤k∧wr.ownsRow B 49 4 (.slice (some ⟨g,0,none⟩) n cap) n (zU (qU d a b i))∧w.grownBy wr (some g)) (fun iv _=>k-(intOf iv).toNat)
 case atStart=>exact ⟨0,rfl,by omega,by rw[H0.out];exact HO.out,HG.out⟩
 obtain ⟨i,rfl,hi,hown,hgr⟩:=hrel;have Ho:=zh hown;have Hg:=zh hgr;clear hown hgr
 by_cases hlt:i<k
 ·
  have C5:=zh (HL.out i);have Jb:=zh (HS.out i);generalize qU d a b i=q at *;obtain ⟨_,_,e,c0,c1,c2,c3⟩:=(yh (zk Ho.out)).at (show a+i<n by omega);injection e with e;injection e with e1 e2;subst e1 e2;obtain ⟨_,_,e,d0,d1,d2,d3⟩:=(yh (zk Ho.out)).at (show b+i<n by omega);injection e with e;injection e with e1 e2;subst e1 e2;simp only[aI] at c0 c1 c2 c3 d0 d1 d2 d3;have j1:IntKind.i64.wrap ((a:Int)+(i:Int))=(a:Int)+(i:Int):=aF _ (by omega);have j2:IntKind.i64.wrap ((b:Int)+(i:Int))=(b:Int)+(i:Int):=aF _ (by omega);have j3:((a:Int)+(i:Int)).toNat=a+i:=by omega
  have j4:((b:Int)+(i:Int)).toNat=b+i:=by omega
  go_wp2_with fail;have j5:(0:Int)≤(a:Int)+(i:Int):=by omega
  have j6:(0:Int)≤(b:Int)+(i:Int):=by omega
  have j7:(a:Int)+(i:Int)<(n:Int):=by omega
  have j8:(b:Int)+(i:Int)<(n:Int):=by omega
  have fz:=fun k=>Ho.out.frozenAt k
  have f0:=fz ((a+i)*4);have f1:=fz ((a+i)*4+1);have f2:=fz ((a+i)*4+2);have f3:=fz ((a+i)*4+3);have f4:=fz ((b+i)*4);have f5:=fz ((b+i)*4+1);have f6:=fz ((b+i)*4+2);have f7:=fz ((b+i)*4+3);clear fz;generalize hx:ea q (a+i)=x at *;generalize hy:ea q (b+i)=y at *;have nK:=zh (And.intro hx hy);clear hx hy;have HF:=zh (Ro Ho.out C5.out (i:=a+i) (j:=b+i) (by omega) (by omega) nK.out.1 nK.out.2)
  go_region_with (fail)
  all_goals go_wp2_with fail
  all_goals exact ⟨⟨i+1,by go_num,by omega,by rw[Jb.out];exact HF.out.1,zr Hg.out HF.out.2⟩,by simp[intOf];omega⟩
 obtain rfl:i=k:=by omega
 go_wp2_with fail;go_end0;exact ⟨rfl,Ho.out,Hg.out⟩
end Go.Proofs.YtcgfilmmokmdjaaGreat
namespace Go.Proofs.YtcgfilmmokmdjaaGreat
theorem WR {d:List It} {i:Nat} {x:It} (hi:i<d.length) (j:Nat):ea (d.set i x) j=if j=i then x else ea d j:=by
 unfold ea;rw[ax,ax,dB]
 by_cases h:j=i
 ·
  subst h;rw[ah rfl,ah rfl,ah hi];rfl
 rw[ai (aQ h),ai h]
theorem kD {d:List It} {i j:Nat} (hi:i<d.length) (hj:j<d.length) (k:Nat):ea (tF d i j) k=if k=j then ea d i else if k=i then ea d j else ea d k:=by
 unfold tF;rw[WR (by rw[a_];exact hj),WR hi]
theorem WS {d:List It} {a b:Nat}:∀ (k:Nat),a+k≤b→b+k≤d.length→∀ i,ea (qU d a b k) i=if a≤i∧i<a+k then ea d (i-a+b) else if b≤i∧i<b+k then ea d (i-b+a) else ea d i
 |0,_,_,i=>by rw[ai (by omega),ai (by omega)];rfl
 |k+1,h1,h2,i=>by
  have ih:=WS (d:=d) (a:=a) (b:=b) k (by omega) (by omega)
  show ea (tF (qU d a b k) (a+k) (b+k)) i=_
  rw[kD (by rw[xV];omega) (by rw[xV];omega)]
  by_cases e1:i=b+k
  ·
   subst e1;rw[ah rfl,ih,ai (by omega),ai (by omega),ai (by omega),ah (by omega)]
   congr 1;omega
  rw[ai e1]
  by_cases e2:i=a+k
  ·
   subst e2;rw[ah rfl,ih,ai (by omega),ai (by omega),ah (by omega)]
   congr 1;omega
  rw[ai e2,ih]
  by_cases c1:a≤i∧i<a+k
  ·
   rw[ah c1,ah (by omega)]
  rw[ai c1,ai (show ¬ (a≤i∧i<a+(k+1)) by omega)]
  by_cases c2:b≤i∧i<b+k
  ·
   rw[ah c2,ah (by omega)]
  rw[ai c2,ai (show ¬ (b≤i∧i<b+(k+1)) by omega)]
theorem kY {u v:List It} (hl:u.length=v.length) (h:∀ i,i<u.length→ea u i=ea v i):u=v:=by
 apply List.ext_getElem hl;intro i h1 h2;rw[vS h1,vS h2];exact h i h1
theorem tS {P X Y Z Q:List It} (h:X.length=Z.length):qU (P++(X++(Y++(Z++Q)))) P.length (P.length+X.length+Y.length) X.length=P++(Z++(Y++(X++Q))):=by
 refine kY (by rw[xV];simp only[aw];omega) fun i hi=>?_
 rw[xV] at hi;simp only[aw] at hi;rw[WS _ (by omega) (by simp only[aw];omega)]
 by_cases p1:i<P.length
 ·
  rw[ai (by omega),ai (by omega),xJ p1,xJ p1]
 by_cases p2:i<P.length+X.length
 ·
  rw[ah (by omega),zw (u:=P) (by omega),zw (u:=X) (by omega),zw (u:=Y) (by omega),xJ (u:=Z) (by omega),zw (u:=P) (by omega),xJ (u:=Z) (by omega)]
  congr 1;omega
 by_cases p3:i<P.length+X.length+Y.length
 ·
  rw[ai (by omega),ai (by omega),zw (u:=P) (by omega),zw (u:=X) (by omega),xJ (u:=Y) (by omega),zw (u:=P) (by omega),zw (u:=Z) (by omega),xJ (u:=Y) (by omega)]
  congr 1;omega
 by_cases p4:i<P.length+X.length+Y.length+Z.length
 ·
  rw[ai (by omega),ah (by omega),zw (u:=P) (by omega),xJ (u:=X) (by omega),zw (u:=P) (by omega),zw (u:=Z) (by omega),zw (u:=Y) (by omega),xJ (u:=X) (by omega)]
  congr 1;omega
 rw[ai (by omega),ai (by omega),zw (u:=P) (by omega),zw (u:=X) (by omega),zw (u:=Y) (by omega),zw (u:=Z) (by omega),zw (u:=P) (by omega),zw (u:=Z) (by omega),zw (u:=Y) (by omega),zw (u:=X) (by omega)]
 congr 1;omega
end Go.Proofs.YtcgfilmmokmdjaaGreat
namespace Go.Proofs.YtcgfilmmokmdjaaGreat
open Go.RowKit
structure nS (T q:List It) (m i j:Nat):Prop where
 ex:∃ P U V Q:List It,q=P++(U++(V++Q))∧T=P++(V++(U++Q))∧U.length=i∧V.length=j∧P.length+i=m
 hi:0<i
 hj:0<j
theorem nS.gt {T q:List It} {m i j:Nat} (h:nS T q m i j) (hij:j<i):nS T (qU q (m-i) m j) m (i-j) j:=by
 obtain ⟨⟨P,U,V,Q,rfl,rfl,hu,hv,hm⟩,h1,h2⟩:=h;refine ⟨⟨P++V,U.drop j,U.take j,Q,?_,?_,by rw[aP];omega,by rw[ay];omega,by rw[aw];omega⟩,by omega,h2⟩
 ·
  have hx:(U.take j).length=V.length:=by rw[ay];omega
  have hb:=tS (P:=P) (X:=U.take j) (Y:=U.drop j) (Z:=V) (Q:=Q) hx;have hlen:P.length+(U.take j).length+(U.drop j).length=m:=by rw[ay,aP];omega
  rw[hlen,hx,hv,show P.length=m-i by omega,← bt (U.take j),b9] at hb;rw[hb];simp
 simp only[bt];rw[← bt (U.take j),b9]
theorem nS.lt {T q:List It} {m i j:Nat} (h:nS T q m i j) (hij:i<j):nS T (qU q (m-i) (m+j-i) i) m i (j-i):=by
 obtain ⟨⟨P,U,V,Q,rfl,rfl,hu,hv,hm⟩,h1,h2⟩:=h;refine ⟨⟨P,V.drop (j-i),V.take (j-i),U++Q,?_,?_,by rw[aP];omega,by rw[ay];omega,hm⟩,h1,by omega⟩
 ·
  have hx:U.length=(V.drop (j-i)).length:=by rw[aP];omega
  have hb:=tS (P:=P) (X:=U) (Y:=V.take (j-i)) (Z:=V.drop (j-i)) (Q:=Q) hx;have hlen:P.length+U.length+(V.take (j-i)).length=m+j-i:=by rw[ay];omega
  rw[hlen,hu,show P.length=m-i by omega,← bt (V.take (j-i)),b9] at hb;rw[hb]
 rw[← bt (V.take (j-i)),b9]
theorem nS.eq {T q:List It} {m i:Nat} (h:nS T q m i i):qU q (m-i) m i=T:=by
 obtain ⟨⟨P,U,V,Q,rfl,rfl,hu,hv,hm⟩,h1,h2⟩:=h;have hb:=tS (P:=P) (X:=U) (Y:=[]) (Z:=V) (Q:=Q) (by omega);rw[hu,show P.length=m-i by omega] at hb;simp only[dI,bQ,bB] at hb;rw[show m-i+i=m by omega] at hb;exact hb
theorem nS.len {T q:List It} {m i j:Nat} (h:nS T q m i j):i≤m∧m+j≤q.length:=by
 obtain ⟨⟨P,U,V,Q,rfl,rfl,hu,hv,hm⟩,h1,h2⟩:=h;simp only[aw];omega
theorem zFo {d:List It} {a m b:Nat} (h1:a<m) (h2:m<b) (h3:b≤d.length):nS (ey d a m b) d m (m-a) (b-m):=by
 refine ⟨⟨d.take a,jZ d a m,jZ d m b,d.drop b,?_,?_,yt (by omega),yt h3,by rw[ay];omega⟩,by omega,by omega⟩
 ·
  have:=parts (d:=d) (a:=a) (b:=b) (by omega);rw[qE (bU h1) (bU h2)] at this
  simpa using this
 unfold ey;simp
theorem zFE (g n cap a m b B:Nat) (d:List It) (fv:Value) (w:World) (hown:w.ownsRow B 49 4 (.slice (some ⟨g,0,none⟩) n cap) n (zU d)) (hn:d.length=n) (hs:n≤1000000) (h1:a<m) (h2:m<b) (h3:b≤n) :
  Calls Tryz.prog 214 #[.slice (some ⟨g,0,none⟩) n cap,.int .i64 (a:Int),.int .i64 (m:Int),.int .i64 (b:Int),fv] w fun e w'=>e=.returned (.tuple #[])∧w'.ownsRow B 49 4 (.slice (some ⟨g,0,none⟩) n cap) n (zU (ey d a m b))∧w.grownBy w' (some g):=by
 have HO:=zh hown;have HR:=zh (zFo h1 h2 (by omega):nS (ey d a m b) d m (m-a) (b-m));have hgr:w.grownBy w (some g):=⟨rfl,rfl,rfl,ag _,fun _ _ _=>rfl⟩
 have HG:=zh hgr;have HN:=zh hn;generalize ey d a m b=T at *;clear hown hgr hn
 go_enter Tryz.func214,Tryz.ntmps214
 go_wp2_with fail
 go_loopw [10,11] (fun iv jv wr=>∃ (i j:Nat) (q:List It),iv=.int .i64 (i:Int)∧jv=.int .i64 (j:Int)∧nS T q m i j∧q.length=n∧wr.ownsRow B 49 4 (.slice (some ⟨g,0,none⟩) n cap) n (zU q)∧w.grownBy wr (some g)) (fun iv jv _=>(intOf iv).toNat+(intOf jv).toNat)
 case atStart=>exact ⟨m-a,b-m,d,by go_num,by go_num,HR.out,HN.out,HO.out,HG.out⟩
 obtain ⟨i,j,q,rfl,rfl,hr,hq,ho,hg⟩:=hrel;have hl:=hr.len;have hip:=hr.hi;have hjp:=hr.hj;rw[hq] at hl;have Ho:=zh ho;have Hg:=zh hg;have Hr:=zh hr;have Hq:=zh hq;clear ho hg hr hq;rcases Nat.lt_trichotomy i j with hij|hij|hij
 ·
  have HC:=zh (uu g n cap (m-i) (m+j-i) i B q fv wr Ho.out Hq.out hs (by omega) (by omega));have e1:((m-i:Nat):Int)=(m:Int)-(i:Int):=by omega
  have e2:((m+j-i:Nat):Int)=(m:Int)+(j:Int)-(i:Int):=by omega
  rw[e1,e2] at HC;have gN:=zh (Hr.out.lt hij);have Ej:=zh ((xV q (m-i) (m+j-i) i).trans Hq.out);generalize qU q (m-i) (m+j-i) i=q2 at *;clear e1 e2;have hne:((i:Int) != (j:Int))=true:=by rw[bne_iff_ne];omega
  go_wp2_with fail;refine HC.out.mono ?_;rintro e w2 ⟨rfl,eG,fp⟩;have gC:=zh eG;have j_:=zh (zr Hg.out fp);clear eG fp;go_wp2_with fail;exact ⟨⟨i,j-i,q2,rfl,by go_num,gN.out,Ej.out,gC.out,j_.out⟩,by simp[intOf];omega⟩
 ·
  subst hij;have HC:=zh (uu g n cap (m-i) m i B q fv wr Ho.out Hq.out hs (by omega) (by omega));have e1:((m-i:Nat):Int)=(m:Int)-(i:Int):=by omega
  rw[e1,Hr.out.eq] at HC;clear e1;have hne:((i:Int) != (i:Int))=false:=by simp
  go_wp2_with fail;refine HC.out.mono ?_;rintro e w2 ⟨rfl,eG,fp⟩;have gC:=zh eG;have j_:=zh (zr Hg.out fp);clear eG fp;go_wp2_with fail;go_end0;exact ⟨rfl,gC.out,j_.out⟩
 have HC:=zh (uu g n cap (m-i) m j B q fv wr Ho.out Hq.out hs (by omega) (by omega));have e1:((m-i:Nat):Int)=(m:Int)-(i:Int):=by omega
 rw[e1] at HC;have gN:=zh (Hr.out.gt hij);have Ej:=zh ((xV q (m-i) m j).trans Hq.out);generalize qU q (m-i) m j=q2 at *;clear e1;have hne:((i:Int) != (j:Int))=true:=by rw[bne_iff_ne];omega
 go_wp2_with fail;refine HC.out.mono ?_;rintro e w2 ⟨rfl,eG,fp⟩;have gC:=zh eG;have j_:=zh (zr Hg.out fp);clear eG fp;go_wp2_with fail;exact ⟨⟨i-j,j,q2,by go_num,rfl,gN.out,Ej.out,gC.out,j_.out⟩,by simp[intOf];omega⟩
end Go.Proofs.YtcgfilmmokmdjaaGreat
