import Derived.Test.YtcgfilmmokmdjaaGreatQAC
import Derived.Test.YtcgfilmmokmdjaaGreatSz
import Derived.Lib.AppendZeros
import Derived.Test.YtcgfilmmokmdjaaGreatQAA
import Derived.Laws.StructEq
import Derived.Deep.DeepCutAuto
import Derived.Test.YtcgfilmmokmdjaaGreatMg
import Derived.StillTailTactics
import Derived.Deep.Quiet
import Derived.BigQuiet
import Derived.Test.YtcgfilmmokmdjaaGreatBase
set_option linter.all false
set_option maxRecDepth 100000
set_option maxHeartbeats 32000000
namespace Go.Proofs.YtcgfilmmokmdjaaGreat
open Go.RowKit
theorem zFm {w:World} {base:Nat} {e:TypeId} {sz n cap g:Nat} {xs:List Value} (h:w.ownsRow base e sz (.slice (some ⟨g,0,none⟩) n cap) n xs) (o:Nat) (vs:List Value) (ho:o+vs.length≤n*sz) :
  ∃ cur,w.heap[g]?=some (.cells cur e (0,0))∧n*sz≤cur.size∧(w.setRow g (cur.toList.take o++vs++cur.toList.drop (o+vs.length)).toArray).ownsRow base e sz (.slice (some ⟨g,0,none⟩) n cap) n (xs.take o++vs++xs.drop (o+vs.length)) ∧
   w.grownBy (w.setRow g (cur.toList.take o++vs++cur.toList.drop (o+vs.length)).toArray) (some g):=by
 have hx:=h.1;rcases h.2 with ⟨h',_⟩|⟨g',cap',cur,h',hb,hg,hnc,hcm,hcs,jP⟩
 ·
  cases h'
 injection h' with h' _ h'';injection h' with h';injection h' with h' _;subst h' h'';have hN:n*sz≤cur.size:=by rw[hcs];exact aW _ hnc
 refine ⟨cur,hg,hN,⟨?_,.inr ⟨g,cap,_,rfl,hb,setRow_heap w g cur _ e (0,0) hg,hnc,hcm,?_,?_⟩⟩,⟨rfl,rfl,rfl,by simp,fun k _ hk=>setRow_other w g k _ (fun e=>hk (by rw[e]))⟩⟩
 ·
  simp only[aw,ay,aP,hx];omega
 ·
  simp only[cu,aw,ay,aP,dM];omega
 have e1:xs.take o=cur.toList.take o:=by rw[← jP,dw,bW (by omega)]
 have e2:xs.drop (o+vs.length)=(cur.toList.drop (o+vs.length)).take (n*sz-(o+vs.length)):=by rw[← jP,List.drop_take]
 rw[e1,e2];have l1:(cur.toList.take o++vs).length=o+vs.length:=by rw[aw,ay,dM];omega
 rw[List.take_append,aS (l:=cur.toList.take o++vs) (by rw[l1];exact ho),l1]
theorem zFU (g n cap B:Nat) (d:List It) (w:World) (hown:w.ownsRow B 49 4 (.slice (some ⟨g,0,none⟩) n cap) n (zU d)) (hn:d.length=n) (hs:n≤1000000) :
  Calls Tryz.prog 197 #[.slice (some ⟨g,0,none⟩) n cap,.int .i64 (n:Int),.func (.func 174) #[] #[]] w fun e w'=>e=.returned (.tuple #[])∧Left w g n cap 0 n B d w':=by
 have HO:=zh hown;have hgr:w.grownBy w (some g):=⟨rfl,rfl,rfl,ag _,fun _ _ _=>rfl⟩
 have HG:=zh hgr;have HN:=zh hn;have HL:=zh (fun q (h:Moved d q 0 n)=>h.len.trans hn);clear hown hgr hn
 go_enter Tryz.func197,Tryz.ntmps197
 go_wp2_with fail
 go_loopw [7,8] (fun av bv wr=>∃ (k a:Nat) (q:List It),av=.int .i64 (a:Int)∧bv=.int .i64 ((a:Int)+20)∧Hid (a=k*20)∧a≤n∧rM q 20 0 a∧Moved d q 0 n∧wr.ownsRow B 49 4 (.slice (some ⟨g,0,none⟩) n cap) n (zU q)∧w.grownBy wr (some g)) (fun av _ _=>n-(intOf av).toNat)
 case atStart=>exact ⟨0,0,d,by go_num,by go_num,(rfl:(0:Nat)=0*20),by omega,rM.none _ _ _,Moved.refl _ _ _,HO.out,HG.out⟩
 obtain ⟨k,a,q,rfl,rfl,HK,Pr,hb,hm,ho,hg⟩:=hrel;have Hb:=zh hb;have Hm:=zh hm;have Ho:=zh ho;have Hg:=zh hg;clear hb hm ho hg
 by_cases hlt:a+20≤n
 ·
  have HC:=zh (qW g n cap a (a+20) B q wr Ho.out (HL.out q Hm.out) hs (by omega) hlt);have e1:((a+20:Nat):Int)=(a:Int)+20:=by omega
  rw[e1] at HC;clear e1;have hle:(a:Int)+20≤(n:Int):=by omega
  go_wp2_with fail;refine HC.out.mono ?_;rintro _ w2 ⟨rfl,q2,eG,lB,mK,fp⟩;have gC:=zh eG;have sQ:=zh (Hm.out.trans (lB.wide (aq _) (by omega) hlt));have eM:=zh ((Hb.out.keep lB (Or.inl (ag _))).more HK.out mK);have j_:=zh (zr Hg.out fp);have Ef:=zh (show a+20=(k+1)*20 by rw[HK.out];omega);clear eG lB mK fp;go_wp2_with fail;exact ⟨⟨k+1,a+20,q2,by go_num,by go_num,Ef,hlt,eM.out,sQ.out,gC.out,j_.out⟩,by simp[intOf];omega⟩
 have hle:¬ (a:Int)+20≤(n:Int):=by omega
 have HC:=zh (qW g n cap a n B q wr Ho.out (HL.out q Hm.out) hs Pr (ag _));go_wp2_with fail;refine HC.out.mono ?_;rintro _ w2 ⟨rfl,q2,eG,lB,mK,fp⟩;have gC:=zh eG;have sQ:=zh (Hm.out.trans (lB.wide (aq _) Pr (ag _)));have eM:=zh ((Hb.out.keep lB (Or.inl (ag _))).more HK.out mK);have j_:=zh (zr Hg.out fp);clear eG lB mK fp hle hlt;clear HK Hb Hm Ho Hg HC;go_wp2_with fail
 go_loopw [6] (fun sv wr=>∃ (bs:Nat) (q:List It),sv=.int .i64 (bs:Int)∧0<bs∧bs≤2000000∧rM q bs 0 n∧Moved d q 0 n∧wr.ownsRow B 49 4 (.slice (some ⟨g,0,none⟩) n cap) n (zU q)∧w.grownBy wr (some g)) (fun sv _=>n-(intOf sv).toNat)
 case atStart=>exact ⟨20,q2,by go_num,by omega,by omega,eM.out,sQ.out,gC.out,j_.out⟩
 obtain ⟨bs,q,rfl,hb0,hb1,hb,hm,ho,hg⟩:=hrel;have Hb:=zh hb;have Hm:=zh hm;have Ho:=zh ho;have Hg:=zh hg;clear hb hm ho hg
 by_cases hlt:bs<n
 ·
  go_wp2_with fail
  go_loopw [7,8] (fun av bv wr=>∃ (k a:Nat) (q:List It),av=.int .i64 (a:Int)∧bv=.int .i64 ((a:Int)+2*(bs:Int))∧Hid (a=k*(2*bs))∧a≤n∧rM q (2*bs) 0 a∧rM q bs a n∧Moved d q 0 n∧wr.ownsRow B 49 4 (.slice (some ⟨g,0,none⟩) n cap) n (zU q)∧w.grownBy wr (some g)) (fun av _ _=>n-(intOf av).toNat)
  case atStart=>exact ⟨0,0,q,by go_num,by go_num,(Nat.zero_mul _).symm,by omega,rM.none _ _ _,Hb.out,Hm.out,Ho.out,Hg.out⟩
  obtain ⟨k,a,r,rfl,rfl,HK,Pr,hb,hc,hm,ho,hg⟩:=hrel;have hK2:k*2*bs=a:=by rw[HK.out,Nat.mul_assoc]
  have hK3:(k*2+1)*bs=a+bs:=by rw[dh (k*2) bs,hK2]
  have HK4:=zh (show a+2*bs=(k+1)*(2*bs) by rw[dh k (2*bs),← HK.out]);have XR:=zh (show a+bs≤n→jk r a (a+bs) from fun h=>hc.nd (k:=k*2) (ag _) h (by omega) (by omega));have XS:=zh (show ∀ b,a+bs≤b→b≤n→b≤a+2*bs→jk r (a+bs) b from fun b h h' h''=>hc.nd (k:=k*2+1) (by omega) h' (by omega) (by omega));have Hn3:=zh (show n≤a+bs→jk r a n from fun h=>hc.nd (k:=k*2) (ag _) (ag _) (by omega) (by omega));have Hb:=zh hb;have Hc:=zh hc;have Hm:=zh hm;have Ho:=zh ho;have Hg:=zh hg;clear hb hc hm ho hg hK2 hK3
  by_cases hle:a+2*bs≤n
  ·
   have HC:=zh (RZ g n cap B hs (2*bs) a (a+bs) (a+2*bs) r wr (by omega) Ho.out (HL.out r Hm.out) (by omega) (by omega) hle (XR.out (by omega)) (XS.out _ (by omega) hle (ag _)));have e1:((a+bs:Nat):Int)=(a:Int)+(bs:Int):=by omega
   have e2:((a+2*bs:Nat):Int)=(a:Int)+2*(bs:Int):=by omega
   rw[e1,e2] at HC;clear e1 e2;have R1:(a:Int)+2*(bs:Int)≤(n:Int):=by omega
   go_wp2_with fail;refine HC.out.mono ?_;rintro _ w2 ⟨rfl,q2,eG,lB,mK,fp⟩;have gC:=zh eG;have sQ:=zh (Hm.out.trans (lB.wide (aq _) (by omega) hle));have eM:=zh ((Hb.out.keep lB (Or.inl (ag _))).more HK.out mK);have Ao:=zh ((Hc.out.sub (lo':=a+2*bs) (hi':=n) (by omega) (ag _)).keep lB (Or.inr (ag _)));have j_:=zh (zr Hg.out fp);clear eG lB mK fp;go_wp2_with fail;exact ⟨⟨k+1,a+2*bs,q2,by go_num,by go_num,HK4,hle,eM.out,Ao.out,sQ.out,gC.out,j_.out⟩,by simp[intOf];omega⟩
  have R1:¬ (a:Int)+2*(bs:Int)≤(n:Int):=by omega
  by_cases hmn:a+bs<n
  ·
   have HC:=zh (RZ g n cap B hs (2*bs) a (a+bs) n r wr (by omega) Ho.out (HL.out r Hm.out) (by omega) hmn (ag _) (XR.out (by omega)) (XS.out _ (by omega) (ag _) (by omega)));have e1:((a+bs:Nat):Int)=(a:Int)+(bs:Int):=by omega
   rw[e1] at HC;clear e1;have R2:(a:Int)+(bs:Int)<(n:Int):=by omega
   go_wp2_with fail;refine HC.out.mono ?_;rintro _ w2 ⟨rfl,q2,eG,lB,mK,fp⟩;have gC:=zh eG;have sQ:=zh (Hm.out.trans (lB.wide (aq _) Pr (ag _)));have eM:=zh ((Hb.out.keep lB (Or.inl (ag _))).more HK.out mK);have j_:=zh (zr Hg.out fp);clear eG lB mK fp;go_wp2_with fail;exact ⟨⟨2*bs,q2,by go_num,by omega,by omega,eM.out,sQ.out,gC.out,j_.out⟩,by simp[intOf];omega⟩
  have R2:¬ (a:Int)+(bs:Int)<(n:Int):=by omega
  have eM:=zh (Hb.out.more HK.out (Hn3.out (by omega)));go_wp2_with fail;exact ⟨⟨2*bs,r,by go_num,by omega,by omega,eM.out,Hm.out,Ho.out,Hg.out⟩,by simp[intOf];omega⟩
 have HW:=zh (Hb.out.whole (by omega));go_wp2_with fail;go_end0;exact ⟨rfl,q,Ho.out,Hm.out,HW.out,Hg.out⟩
theorem zBr (g n cap B:Nat) (d:List It) (w:World) (hown:w.ownsRow B 49 4 (.slice (some ⟨g,0,none⟩) n cap) n (zU d)) (hn:d.length=n) (hs:n≤1000000) :
  Calls Tryz.prog 173 #[.slice (some ⟨g,0,none⟩) n cap,.func (.func 174) #[] #[]] w fun e w'=>e=.returned (.tuple #[])∧Left w g n cap 0 n B d w':=by
 have HC:=zh (zFU g n cap B d w hown hn hs);clear hown hn
 go_enter Tryz.func173,Tryz.ntmps173
 go_wp2_with fail;refine HC.out.mono ?_;rintro _ w2 ⟨rfl,hl⟩;have HL:=zh hl;clear hl;go_wp2_with fail;go_end0;exact ⟨rfl,HL.out⟩
theorem zLR {w:World} {B g n cap:Nat} {q:List It} (h:w.ownsRow B 49 4 (.slice (some ⟨g,0,none⟩) n cap) n (zU q)) (hq:q.length=n) (k:Nat) (hk:k<n) {sa:Addr} {sc:Nat} {x:It} (hs:Rd w 4 (.slice (some sa) 1 sc) 1 (iC x)) :
  ∃ w',(∀ ty,(Builtin.append_ #[33,33] ty #[.slice (some ⟨g,0,none⟩) k cap,.slice (some sa) 1 sc]).run Tryz.prog w=.ok (.slice (some ⟨g,0,none⟩) (k+1) cap) w') ∧
   w'.ownsRow B 49 4 (.slice (some ⟨g,0,none⟩) n cap) n (zU (q.set k x))∧w.grownBy w' (some g):=by
 obtain ⟨cur,hg,hN,h1,h2⟩:=zFm h (k*4) (iC x) (by rw[wm];omega);obtain ⟨ht,hsz,i,z,hi,hz,hs4,hby,hzs⟩:=yI;obtain ⟨_,a',cap',e,_,_,_,hc⟩:=hs;injection e with e1 e2 e3;obtain ⟨b,off,e4,hcell⟩:=hc (by rw[wm];omega);rw[← e1] at e4;injection e4 with e4;subst e4;have hcap:k+1≤cap:=by
  obtain ⟨_,_,e,hnc,_,_⟩:=zH h;injection e with _ _ e5;omega
 refine ⟨_,fun ty=>run_append_room (P:=Tryz.prog) w 33 ty 49 i ht hi g k cap cur hg ⟨b,off,none⟩ 1 sc (iC x) (by rw[hs4];rfl) (fun j u hj=>by rw[yM];exact hcell j u hj) (fun u hu=>zq [x] u (by rw[xS];exact hu)) hcap (by rw[hs4,wm];omega),?_,?_⟩
 ·
  rw[hs4];have e:zU (q.set k x)=(zU q).take (k*4)++iC x++(zU q).drop (k*4+(iC x).length):=by
   rw[List.set_eq_take_append_cons_drop,ah (by omega),zu,wE,ua,uc,wm,bt]
   congr 3;omega
  rw[e];exact h1
 rw[hs4];exact h2
theorem kq {w:World} {ops:Array Oper} {rest:List Oper} {o:Oper} {a:Act} {Q:Exit→Act→World→Prop} (hgd:o.guard=none) (s x:Operand)
  (ho:o.op=.call {callee:=.builtin .append,args:=#[s,x],argTypes:=#[33,33]}) {B g n cap:Nat} {q:List It} (k:Nat) {sa:Addr} {sc:Nat} {y:It}
  (hs:a.eval s=.slice (some ⟨g,0,none⟩) k cap) (hx:a.eval x=.slice (some sa) 1 sc) (h:w.ownsRow B 49 4 (.slice (some ⟨g,0,none⟩) n cap) n (zU q)) (hq:q.length=n) (hk:k<n) (hr:Rd w 4 (.slice (some sa) 1 sc) 1 (iC y))
  (hK:∀ w',w'.ownsRow B 49 4 (.slice (some ⟨g,0,none⟩) n cap) n (zU (q.set k y))→w.grownBy w' (some g)→wpList Tryz.prog ops Q rest (a.put o.dst (.slice (some ⟨g,0,none⟩) (k+1) cap)) w'):wpList Tryz.prog ops Q (o::rest) a w:=by
 obtain ⟨w',h1,h2,h3⟩:=zLR h hq k hk hr;exact Lib.wpList_append_run w hgd s x _ _ ho _ _ hs hx _ _ (h1 _) (hK w' h2 h3)
theorem zD9 {q:List It} {k i:Nat} {x:It} (h:k≤i):(q.set k x).drop (i+1)=q.drop (i+1):=List.drop_set_of_lt (by omega)
structure Pass (d out q:List It) (k i:Nat):Prop where
 all:out++uQ (d.drop i)=uQ d
 pre:q.take k=out
 rest:q.drop i=d.drop i
 le:k≤i
 len:q.length=d.length
theorem Pass.keep {d out q:List It} {k i:Nat} (h:Pass d out q k i) (hi:i<d.length) (hk:i+1=d.length∨(ea d (i+1)).key≠(ea d i).key):Pass d (out++[ea d i]) (q.set k (ea d i)) (k+1) (i+1):=by
 have hle:=h.le;have FF:=h.len;refine ⟨?_,?_,?_,by omega,by rw[a_];exact h.len⟩
 ·
  rw[bt,← h.all]
  congr 1
  by_cases e:i+1=d.length
  ·
   exact (zIe e).symm
  exact (zH0 (by omega) (by rcases hk with hk|hk;exact absurd hk e;exact hk)).symm
 ·
  rw[uM q k _ (by omega),h.pre]
 rw[zD9 hle,← cn,h.rest,cn]
theorem Pass.skip {d out q:List It} {k i:Nat} (h:Pass d out q k i) (hi:i+1<d.length) (hk:(ea d (i+1)).key=(ea d i).key):Pass d out q k (i+1):=by
 have hle:=h.le;refine ⟨?_,h.pre,?_,by omega,h.len⟩
 ·
  rw[← h.all,zGz hi hk]
 rw[← cn,h.rest,cn]
theorem Pass.at {d out q:List It} {k i j:Nat} (h:Pass d out q k i) (hj:i≤j):ea q j=ea d j:=by
 have h1:=wA q i (j-i);have h2:=wA d i (j-i);rw[h.rest,h2,show i+(j-i)=j by omega] at h1;exact h1.symm
theorem zFn (l:List It) (ha:C0 l=false) (hs:l.length≤1000000):wW l:=by
 intro v w h;have HC:=zh (Rf v l w h hs);have HA:=zh (fun v w h=>Q6 v l w h);rw[ha] at HA;have hpos:0<l.length:=by
  cases l with
  |nil=>cases ha
  |cons x r=>simp
 have HS:=zh (fun d (hm:Moved l d 0 l.length) (hn:jk d 0 l.length)=>zJ8 (l:=l) (d:=d) (hm.pF (aq _)) (by rw[hm.len];exact hn));obtain ⟨a,cap,rfl,h1,h2⟩:=h.shape;have HML:=zh (fun d (hm:Moved l d 0 l.length)=>hm.len);have HSS:=zh (fun g cap B w h=>zBr g l.length cap B l w h rfl hs);have HOT:=zh (fun w B v (h:fC w B v l)=>show w.ownsRow B 49 4 v l.length (zU l) from h);generalize hn:l.length=n at *;clear h ha hn
 go_enter Tryz.func135,Tryz.ntmps135
 go_wp2_with fail;refine HC.out.mono ?_;rintro e w1 ⟨v1,rfl,hown1,hb1⟩;have HO:=zh hown1;have HB:=zh hb1;clear hown1 hb1;go_wp2_with fail;refine (HA.out _ _ HO.out.rd).mono ?_;rintro e w2 ⟨rfl,hb2⟩;have Ep:=zh (HOT.out _ _ _ (zG HO.out hb2));have eM:=zh (zA HB.out hb2);clear hb2;obtain ⟨oa,oc,rfl,ho1,ho2,_⟩:=zH Ep.out;obtain ⟨g,rfl⟩:∃ g,oa=some ⟨g,0,none⟩:=by
  rcases Ep.out.2 with ⟨e,h0⟩|⟨g,_,_,e,_⟩
  ·
   injection e with _ e _;omega
  injection e with e;exact ⟨g,e⟩
 have hgw:=(Ep.out.lt g rfl).1;clear HO;go_wp2_with fail;refine (HSS.out g oc w.heap.size w2 Ep.out).mono ?_;rintro e w3 ⟨rfl,d,ei,R3,Ij,eL⟩;have mg:=zh ei;have HD:=zh (HS.out d R3 Ij);have HL:=zh (HML.out d R3);have gy:=zh (eM.out.grown eL eM.out.size (by intro r hr;injection hr with hr;omega));clear ei R3 Ij eL Ep eM;have Ga:=yl (P:=Tryz.prog) yI (a:=some ⟨g,0,none⟩) (n:=n) (cap:=oc) (fun x hx=>⟨g,0,by injection hx with hx;exact hx.symm⟩) 0 (by omega);have hoc:oc≤9223372036854775807:=by unfold maxLen at ho2;omega
 go_wp2_with fail
 go_loopw [3,17] (fun ov iv wr=>∃ (k i:Nat) (out q:List It),ov=.slice (some ⟨g,0,none⟩) k oc∧iv=.int .i64 (i:Int)∧i≤n∧Pass d out q k i∧wr.ownsRow w.heap.size 49 4 (.slice (some ⟨g,0,none⟩) n oc) n (zU q)∧Below w.heap.size w wr) (fun _ iv _=>n-(intOf iv).toNat)
 case atStart=>exact ⟨0,0,[],d,by rfl,by go_num,by omega,⟨by simp,rfl,rfl,ag _,rfl⟩,mg.out,gy.out⟩
 obtain ⟨k,i,out,q,rfl,rfl,hi,hp,ho,hb⟩:=hrel;have hki:=hp.le;have Hp:=zh hp;have Ho:=zh ho;have Hb:=zh hb;have hB:=hb.size;have hgr:=(ho.lt g rfl).2;have Md:=zh (hp.len.trans HL.out);clear hp ho hb
 by_cases hlt:i<n
 ·
  obtain ⟨_,_,e,c0,c1,c2,c3⟩:=(yh (zk Ho.out)).at hlt;injection e with e;injection e with e1 e2;subst e1 e2;simp only[aI] at c0 c1 c2 c3;rw[Hp.out.at (ag _)] at c0 c1 c2 c3;have Ik:=zh (Hp.out.keep (by rw[HL.out];exact hlt));have Me:=zh (fun h:i+1<n=>Hp.out.skip (by rw[HL.out];exact h));have j1:IntKind.i64.wrap ((i:Int)+1)=(i:Int)+1:=aF _ (by omega)
  by_cases hend:i+1=n
  ·
   have hd:((i:Int)+1==(n:Int))=true:=beq_iff_eq.2 (by omega);have Ef:=zh (Ik.out (Or.inl (by rw[HL.out];exact hend)));generalize ea d i=x at *;go_wp2_with fail
   go_quiet (fail)
   obtain ⟨W,hW⟩:∃ W,(wr.alloc (.cells #[.int .u64 x.key,.int .u32 x.ck,.int .i64 x.off,.int .i64 x.size] 49)).drewN nq=W:=⟨_,rfl⟩
   have Il:=zh (show Below wr.heap.size wr W by rw[← hW];exact below_drewN ((aj _ _).alloc (ag _) _) _);have x0:W.cell? ⟨wr.heap.size,0,none⟩=some (.int .u64 x.key):=by rw[← hW];simp
   have x1:W.cell? ⟨wr.heap.size,1,none⟩=some (.int .u32 x.ck):=by rw[← hW];simp
   have x2:W.cell? ⟨wr.heap.size,2,none⟩=some (.int .i64 x.off):=by rw[← hW];simp
   have x3:W.cell? ⟨wr.heap.size,3,none⟩=some (.int .i64 x.size):=by rw[← hW];simp
   rw[hW];clear hW c0 c1 c2 c3 j1 hd;have R7:=zh (zG Ho.out Il.out);have lH:=zh (zA Hb.out Il.out);have hW1:=lH.out.size;go_wp2_with (at_builtin;go_must (refine kq rfl (.tmp 38) (.tmp 40) rfl k rfl rfl (R7.out.alloc _) Md.out (by omega) (Rd.new _ 4 (iC x) 49 1 rfl (by decide)) ?_);intro w4 fl gZ);have jM:=zh fl;have gD:=zh ((lH.out.alloc hW1 _).grown gZ (by simp;omega) (by intro r hr;injection hr with hr;omega));clear fl gZ;go_wp2_with fail;exact ⟨⟨k+1,i+1,_,_,rfl,by go_num,by omega,Ef.out,jM.out,gD.out⟩,by simp[intOf];omega⟩
  have hd:((i:Int)+1==(n:Int))=false:=beq_eq_false_iff_ne.2 (by omega);have XT:i+1<n:=by omega
  have i2:(i:Int)+1<(n:Int):=by omega
  have i3:(0:Int)≤(i:Int)+1:=by omega
  have i4:((i:Int)+1).toNat=i+1:=by omega
  obtain ⟨_,_,e,d0,_,_,_⟩:=(yh (zk Ho.out)).at XT;injection e with e;injection e with e1 e2;subst e1 e2;simp only[aI] at d0;rw[Hp.out.at (Nat.le_succ _)] at d0;have Jj:=zh (fun h=>Ik.out (Or.inr h));have pN:=zh (Me.out XT);generalize (ea d (i+1)).key=y at *;have hne:∀ o n,((wr.alloc o).drewN n).cell? ⟨g,(i+1)*4,none⟩=some (.int .u64 y):=fun o n=>Below.keeps (below_drewN ((aj _ _).alloc (ag _) o) n) _ _ d0
  by_cases Fy:y=(ea d i).key
  ·
   have Jk:=zh (pN.out Fy);generalize ea d i=x at *;have hd2:(y != x.key)=false:=by rw[Fy];simp
   clear Fy;go_wp2_with fail
   go_quiet (fail)
   have Il:=zh (show Below wr.heap.size wr ((wr.alloc (.cells #[.int .u64 x.key,.int .u32 x.ck,.int .i64 x.off,.int .i64 x.size] 49)).drewN nq) from below_drewN ((aj _ _).alloc (ag _) _) _);clear j1 hd i2 i3 i4;go_wp2_with fail;exact ⟨⟨k,i+1,_,_,rfl,by go_num,by omega,Jk.out,zG Ho.out Il.out,zA Hb.out Il.out⟩,by simp[intOf];omega⟩
  have Ef:=zh (Jj.out Fy);have hd2:(y != (ea d i).key)=true:=bne_iff_ne.2 Fy;clear Fy;generalize ea d i=x at *;go_wp2_with fail
  go_quiet (fail)
  obtain ⟨W,hW⟩:∃ W,(wr.alloc (.cells #[.int .u64 x.key,.int .u32 x.ck,.int .i64 x.off,.int .i64 x.size] 49)).drewN nq=W:=⟨_,rfl⟩
  have Il:=zh (show Below wr.heap.size wr W by rw[← hW];exact below_drewN ((aj _ _).alloc (ag _) _) _);have x0:W.cell? ⟨wr.heap.size,0,none⟩=some (.int .u64 x.key):=by rw[← hW];simp
  have x1:W.cell? ⟨wr.heap.size,1,none⟩=some (.int .u32 x.ck):=by rw[← hW];simp
  have x2:W.cell? ⟨wr.heap.size,2,none⟩=some (.int .i64 x.off):=by rw[← hW];simp
  have x3:W.cell? ⟨wr.heap.size,3,none⟩=some (.int .i64 x.size):=by rw[← hW];simp
  rw[hW];clear hW c0 c1 c2 c3 j1 hd i2 i3 i4 hd2 d0 hne;have R7:=zh (zG Ho.out Il.out);have lH:=zh (zA Hb.out Il.out);have hW1:=lH.out.size;go_wp2_with (at_builtin;go_must (refine kq rfl (.tmp 38) (.tmp 40) rfl k rfl rfl (R7.out.alloc _) Md.out (by omega) (Rd.new _ 4 (iC x) 49 1 rfl (by decide)) ?_);intro w4 fl gZ);have jM:=zh fl;have gD:=zh ((lH.out.alloc hW1 _).grown gZ (by simp;omega) (by intro r hr;injection hr with hr;omega));clear fl gZ;go_wp2_with fail;exact ⟨⟨k+1,i+1,_,_,rfl,by go_num,by omega,Ef.out,jM.out,gD.out⟩,by simp[intOf];omega⟩
 obtain rfl:i=n:=by omega
 have HE:=zh (show out=fN l by
  have h:=Hp.out.all
  rw[List.drop_eq_nil_of_le (by rw[HL.out];exact ag _),show uQ []=[] from rfl,bZ] at h
  exact h.trans HD.out)
 have HT:=zh (vC Ho.out k hki);have rO:=zh Hp.out.pre;go_wp2_with fail;go_ret;exact ⟨_,rfl,yO HT.out (by rw[← wE,rO.out,HE.out]),Hb.out⟩
theorem wP (l:List It) (hs:l.length≤1000000):wW l:=by
 cases ha:C0 l with
 |true=>exact zFw l ((ul l).1 ha) hs
 |false=>exact zFn l ha hs
theorem zHR (v:Value) (l:List It) (key:Int) (w:World) (h:ja w v l) (hs:l.length≤1000000) :
  Calls Tryz.prog 165 #[v,.int .u64 key] w fun e w'=>e=.returned (.tuple #[lN ((fT (fN l) key).getD fE),.bool (fT (fN l) key).isSome])∧Below w.heap.size w w':=by
 obtain ⟨a,cap,rfl,_,_⟩:=h.shape;have HA:=zh (fun r (h1:r<l.length) h2 h3=>zKl (l:=l) (key:=key) (r:=r) h1 h2 h3);have HN:=zh (fun h=>zHX (l:=l) (key:=key) h);generalize fT (fN l) key=ff at *;generalize hn:l.length=n at *;have Hr:=zh h;have HW:=zh (show Below w.heap.size w (w.alloc (.cells #[.int .u64 0,.int .u32 0,.int .i64 0,.int .i64 0] 49)) from yB w fE);have HX:=zh (lG.new w fE);clear h hn
 go_enter Tryz.func165,Tryz.ntmps165
 go_wp2_with fail
 go_loop [6] (fun iv=>∃ i:Nat,iv=.int .i64 ((i:Int)-1)∧i≤n∧Hid (∀ j,i≤j→j<n→(ea l j).key≠key)) (fun iv=>(intOf iv+1).toNat)
 case atStart=>exact ⟨n,by go_num,ag _,fun j h1 h2=>by omega⟩
 obtain ⟨i,rfl,hi,hno⟩:=hrel
 by_cases h0:0<i
 ·
  obtain ⟨r,rfl⟩:∃ r,i=r+1:=⟨i-1,by omega⟩
  obtain ⟨b,off,rfl,c0,c1,c2,c3⟩:=(Hr.out.below HW.out).at (show r<n by omega);have e0:((r+1:Nat):Int)-1=(r:Int):=by omega
  have i1:(r:Int)<(n:Int):=by omega
  by_cases hk:(ea l r).key=key
  ·
   have HF:=zh (HA.out r (by omega) hk (fun j h1 h2=>hno.out j (by omega) h2));have hd:((ea l r).key==key)=true:=beq_iff_eq.2 hk;rw[e0];generalize ea l r=x at *;clear hk e0 h0;go_wp2_with fail;exact au (v:=.tuple #[lN x,.bool true]) (by simp[results,Tryz.results165,go_sem]) rfl ⟨by rw[HF.out];rfl,yB w x⟩
  have hd:((ea l r).key==key)=false:=beq_eq_false_iff_ne.2 hk;have HK:=zh hk;rw[e0];generalize hx:(ea l r).key=x at *;have fW:=zh hx;clear hk e0 h0 hx;go_wp2_with fail;refine ⟨⟨r,by go_num,by omega,fun j h1 h2=>?_⟩,by simp[intOf]⟩
  by_cases e:j=r
  ·
   rw[e,fW.out];exact HK.out
  exact hno.out j (by omega) h2
 obtain rfl:i=0:=by omega
 have HF:=zh (HN.out (fun j hj=>hno.out j (aq _) hj));go_wp2_with fail;exact au (v:=.tuple #[lN fE,.bool false]) (by simp[results,Tryz.results165,go_sem,fE]) rfl ⟨by rw[HF.out];rfl,yB w fE⟩
theorem qx (W:World) (x:It):Rd (W.alloc (xN x)) 4 (.slice (some ⟨W.heap.size,0,none⟩) 1 1) 1 (iC x):=Rd.new W 4 (iC x) 49 1 rfl (by decide)
theorem zHE (v:Value) (l:List It) (key:Int) (w:World) (h:ja w v l) (hs:l.length≤1000000) :
  Calls Tryz.prog 126 #[v,.int .u64 key] w fun e w'=>∃ v',e=.returned v'∧fC w' w.heap.size v' (gP (fN l) key)∧Below w.heap.size w w':=by
 have HS:=zh (qB v l w h hs);have hsl:=yZ l;obtain ⟨a,cap,rfl,_,_⟩:=h.shape;generalize fN l=s at *;have HD:=zh (fun i (h:i<s.length)=>show gP (s.take (i+1)) key=gP (s.take i) key++if (ea s i).key=key then [] else [ea s i] by rw[xI h,zI8]);have HE:=zh (show gP (s.take s.length) key=gP s key by rw[cB]);have HL:=zh (fun i=>show (gP (s.take i) key).length≤s.length from ak (uh _ _) (by rw[ay];omega));clear h
 go_enter Tryz.func126,Tryz.ntmps126
 go_wp2_with fail;refine HS.out.mono ?_;rintro e w1 ⟨v1,rfl,hown1,hb1⟩;have HR:=zh hown1.rd;have eP:=zh hb1;have hB1:=hb1.size;clear hown1 hb1 HS;obtain ⟨sa,sc,rfl,hs1,hs2⟩:=HR.out.shape;have hs3:=C1 hs1 hs2;generalize hn:s.length=n at *;clear hn;go_wp2_with fail
 go_loopw [5,6] (fun ov iv wr=>∃ i:Nat,iv=.int .i64 (i:Int)∧i≤n∧fC wr w1.heap.size ov (gP (s.take i) key)∧Below w1.heap.size w1 wr) (fun _ iv _=>n-(intOf iv).toNat)
 case atStart=>exact ⟨0,by go_num,by omega,aT _ _ _ _,aj _ _⟩
 obtain ⟨i,rfl,hi,hown,hb⟩:=hrel;have HO:=zh (show wr.ownsRow w1.heap.size 49 4 _ (gP (s.take i) key).length (zU (gP (s.take i) key)) from hown);have Hb:=zh hb;have hB:=hb.size;clear hown hb
 by_cases hlt:i<n
 ·
  obtain ⟨b,off,rfl,c0,c1,c2,c3⟩:=(HR.out.below Hb.out).at hlt;have i1:(i:Int)<(n:Int):=by omega
  have Ps:=zh (HD.out i hlt);have hLi:=HL.out i
  by_cases hk:(ea s i).key=key
  ·
   have hd:((ea s i).key != key)=false:=by rw[hk];simp
   rw[ah hk,bZ] at Ps;generalize ea s i=x at *;clear hk;go_wp2_with fail;exact ⟨⟨i+1,by go_num,by omega,by rw[Ps.out];exact HO.out,Hb.out⟩,by simp[intOf];omega⟩
  have hd:((ea s i).key != key)=true:=bne_iff_ne.2 hk;rw[ai hk] at Ps;generalize ea s i=x at *;generalize gP (s.take i) key=o at *;clear hk;go_wp2_with (at_builtin;go_must (refine zP (m:=1) (n:=o.length) rfl (.tmp 22) (.tmp 27) 33 rfl yI w1.heap.size rfl (HO.out.alloc _) rfl (qx wr x) (zq [x]) (by unfold maxLen;omega) (by omega) (by simp;omega) ?_);intro v8 w8 f_ iP BK;clear BK);have jB:=zh (show fC w8 w1.heap.size v8 (o++[x]) from yO f_ (by simp only[zu,xS]));have ny:=zh (zL (Hb.out.alloc hB (xN x)) (HO.out.alloc (xN x)) (by simp;omega) iP);clear f_ iP;go_wp2_with fail;exact ⟨⟨i+1,by go_num,by omega,by rw[Ps.out];exact jB.out,ny.out⟩,by simp[intOf];omega⟩
 obtain rfl:i=n:=by omega
 go_wp2_with fail;go_ret;exact ⟨_,rfl,by rw[← HE.out];exact HO.out.mono hB1,eP.out.trans (Hb.out.mono hB1)⟩
theorem zJZ (v:Value) (l:List It) (x:It) (w:World) (h:ja w v l) (hs:l.length≤1000000) :
  Calls Tryz.prog 128 #[v,lN x] w fun e w'=>∃ v',e=.returned v'∧fC w' w.heap.size v' (ins (fN l) x)∧Below w.heap.size w w':=by
 have HS:=zh (fun w h=>qB v l w h hs);have XU:=zh (lG.new w x);have eH:=zh (yB w x);have Hr:=zh (h.below eH.out);have hsl:=yZ l;have hsa:=zh (ww l);obtain ⟨a,cap,rfl,_,_⟩:=h.shape;generalize fN l=s at *;have Cp:=zh (fun out (h:ik s x s.length true out)=>h.Rz);have HE0:=zh (fun out (h:ik s x s.length false out)=>h.RA);have R9:=zh (fun i out (h:ik s x i false out) (hi:i<s.length)=>h.low hi);have Mf:=zh (fun i out (h:ik s x i false out) (hi:i<s.length)=>h.here hi);have Jl:=zh (fun i out (h:ik s x i false out) (hi:i<s.length)=>h.ahead hi);have Mg:=zh (fun i out (h:ik s x i true out) (hi:i<s.length)=>h.more hi);have AU:=zh (fun i out (h:ik s x i true out) (hi:i<s.length)=>h.gt hsa.out hi);clear h
 go_enter Tryz.func128,Tryz.ntmps128
 go_wp2_with fail;refine (HS.out _ Hr.out).mono ?_;rintro e w1 ⟨v1,rfl,hown1,hb1⟩;have HR:=zh hown1.rd;have fh:=zh (XU.out.below hb1);have eP:=zh (zA eH.out hb1);have hB1:=eP.out.size;clear hown1 hb1 HS XU eH;obtain ⟨sa,sc,rfl,hs1,hs2⟩:=HR.out.shape;have hs3:=C1 hs1 hs2;generalize hn:s.length=n at *;clear hn;go_wp2_with fail
 go_loopw [5,6,7] (fun ov dv iv wr=>∃ (i:Nat) (d:Bool) (out:List It),dv=.bool d∧iv=.int .i64 (i:Int)∧i≤n∧Hid (ik s x i d out)∧fC wr w1.heap.size ov out∧Below w1.heap.size w1 wr) (fun _ _ iv _=>n-(intOf iv).toNat)
 case atStart=>exact ⟨0,false,[],rfl,by go_num,by omega,ik.start s x,aT _ _ _ _,aj _ _⟩
 obtain ⟨i,d,out,rfl,rfl,hi,HP,hown,hb⟩:=hrel;have HO:=zh (show wr.ownsRow w1.heap.size 49 4 _ out.length (zU out) from hown);have Hb:=zh hb;have hB:=hb.size;have hlo:=HP.out.len;obtain ⟨x0,x1,x2,x3⟩:=fh.out.below hb;clear hown hb
 by_cases hlt:i<n
 ·
  obtain ⟨b,off,rfl,c0,c1,c2,c3⟩:=(HR.out.below Hb.out).at hlt;have i1:(i:Int)<(n:Int):=by omega
  have nj:=zh (fh.out.below Hb.out);have Mh:=zh (show ∃ y,ea s i=y from ⟨_,rfl⟩);obtain ⟨y,hy⟩:=Mh.out;have HY:=zh hy;have Gi:=Hb;have Gj:=HO;rw[hy] at c0 c1 c2 c3
  cases d with
  |true =>
   have HG:=AU.out i out HP.out hlt;have HM:=zh (Mg.out i out HP.out hlt);rw[hy] at HG HM;have hd:(y.key != x.key)=true:=bne_iff_ne.2 (by omega);clear hy Mh HG Hb HO;go_wp2_with fail
   go_quiet (fail)
   obtain ⟨wa,hW,mV⟩:∃ wa,wr.drewN nq=wa∧Below wr.heap.size wr wa:=⟨_,rfl,below_drewN (aj _ _) _⟩
   rw[hW];clear hW;have jI:=zh (zA Gi.out mV);have sR:=zh (zG Gj.out mV);clear c0 c1 c2 c3 x0 x1 x2 x3 mV;obtain ⟨_,_,e,c0,c1,c2,c3⟩:=(HR.out.below jI.out).at hlt;injection e with e;injection e with e1 e2;subst e1 e2;rw[HY.out] at c0 c1 c2 c3;obtain ⟨x0,x1,x2,x3⟩:=fh.out.below jI.out;go_wp2_with fail
   go_quiet (fail)
   obtain ⟨wb,hW,BL⟩:∃ wb,wa.drewN nq=wb∧Below wa.heap.size wa wb:=⟨_,rfl,below_drewN (aj _ _) _⟩
   rw[hW];clear hW;have jJ:=zh (zA jI.out BL);have sS:=zh (zG sR.out BL);clear c0 c1 c2 c3 x0 x1 x2 x3 BL;obtain ⟨_,_,e,c0,c1,c2,c3⟩:=(HR.out.below jJ.out).at hlt;injection e with e;injection e with e1 e2;subst e1 e2;rw[HY.out] at c0 c1 c2 c3;obtain ⟨x0,x1,x2,x3⟩:=fh.out.below jJ.out;go_wp2_with (at_builtin;go_must (refine zP (m:=1) rfl (.tmp 40) (.tmp 45) 33 rfl yI w1.heap.size rfl (sS.out.alloc _) rfl (qx wb y) (zq [y]) (by unfold maxLen;omega) (by omega) (by have:=jJ.out.size;simp;omega) ?_);intro R_ wc f_ iP BK;clear BK);have AV:=zh (show wc.ownsRow w1.heap.size 49 4 R_ (out++[y]).length (zU (out++[y])) from yO f_ (by simp only[zu,xS]));have nz:=zh (zL (jJ.out.alloc jJ.out.size (xN y)) (sS.out.alloc (xN y)) (by have:=jJ.out.size;simp;omega) iP);clear f_ iP;go_wp2_with fail
   exact ⟨⟨i+1,true,_,rfl,by go_num,by omega,HM,AV.out,nz.out⟩,by simp[intOf];omega⟩
  |false =>
   rcases Int.lt_trichotomy y.key x.key with hk|hk|hk
   ·
    have HM:=zh (R9.out i out HP.out hlt (by rw[hy];exact hk));rw[hy] at HM;have hd:(y.key != x.key)=true:=bne_iff_ne.2 (by omega);have hd2:decide (x.key≤y.key)=false:=aD (by omega);clear hy Mh hk Hb HO;go_wp2_with fail
    go_quiet (fail)
    obtain ⟨wa,hW,mV⟩:∃ wa,wr.drewN nq=wa∧Below wr.heap.size wr wa:=⟨_,rfl,below_drewN (aj _ _) _⟩
    rw[hW];clear hW;have jI:=zh (zA Gi.out mV);have sR:=zh (zG Gj.out mV);clear c0 c1 c2 c3 x0 x1 x2 x3 mV;obtain ⟨_,_,e,c0,c1,c2,c3⟩:=(HR.out.below jI.out).at hlt;injection e with e;injection e with e1 e2;subst e1 e2;rw[HY.out] at c0 c1 c2 c3;obtain ⟨x0,x1,x2,x3⟩:=fh.out.below jI.out;go_wp2_with fail
    go_quiet (fail)
    obtain ⟨wb,hW,BL⟩:∃ wb,wa.drewN nq=wb∧Below wa.heap.size wa wb:=⟨_,rfl,below_drewN (aj _ _) _⟩
    rw[hW];clear hW;have jJ:=zh (zA jI.out BL);have sS:=zh (zG sR.out BL);clear c0 c1 c2 c3 x0 x1 x2 x3 BL;obtain ⟨_,_,e,c0,c1,c2,c3⟩:=(HR.out.below jJ.out).at hlt;injection e with e;injection e with e1 e2;subst e1 e2;rw[HY.out] at c0 c1 c2 c3;obtain ⟨x0,x1,x2,x3⟩:=fh.out.below jJ.out;go_wp2_with (at_builtin;go_must (refine zP (m:=1) rfl (.tmp 40) (.tmp 45) 33 rfl yI w1.heap.size rfl (sS.out.alloc _) rfl (qx wb y) (zq [y]) (by unfold maxLen;omega) (by omega) (by have:=jJ.out.size;simp;omega) ?_);intro R_ wc f_ iP BK;clear BK);have AV:=zh (show wc.ownsRow w1.heap.size 49 4 R_ (out++[y]).length (zU (out++[y])) from yO f_ (by simp only[zu,xS]));have nz:=zh (zL (jJ.out.alloc jJ.out.size (xN y)) (sS.out.alloc (xN y)) (by have:=jJ.out.size;simp;omega) iP);clear f_ iP;go_wp2_with fail
    exact ⟨⟨i+1,false,_,rfl,by go_num,by omega,HM,AV.out,nz.out⟩,by simp[intOf];omega⟩
   ·
    have HM:=zh (Mf.out i out HP.out hlt (by rw[hy];exact hk));have hd:(y.key != x.key)=false:=by rw[hk];simp
    have hd2:decide (x.key≤y.key)=true:=aC (by omega);have DT:x.key≤y.key:=by omega
    clear hy Mh hk Hb HO;go_wp2_with fail
    go_quiet (fail)
    obtain ⟨wa,hW,mV⟩:∃ wa,wr.drewN nq=wa∧Below wr.heap.size wr wa:=⟨_,rfl,below_drewN (aj _ _) _⟩
    rw[hW];clear hW;have jI:=zh (zA Gi.out mV);have sR:=zh (zG Gj.out mV);clear c0 c1 c2 c3 x0 x1 x2 x3 mV;obtain ⟨_,_,e,c0,c1,c2,c3⟩:=(HR.out.below jI.out).at hlt;injection e with e;injection e with e1 e2;subst e1 e2;rw[HY.out] at c0 c1 c2 c3;obtain ⟨x0,x1,x2,x3⟩:=fh.out.below jI.out;go_upto_region 9 with (at_builtin;go_must (refine zP (m:=1) rfl (.tmp 28) (.tmp 30) 33 rfl yI w1.heap.size rfl (sR.out.alloc _) rfl (qx wa x) (zq [x]) (by unfold maxLen;omega) (by omega) (by have:=jI.out.size;simp;omega) ?_);intro Sb wb f_ iP BK;clear BK);have sS:=zh (show wb.ownsRow w1.heap.size 49 4 Sb (out++[x]).length (zU (out++[x])) from yO f_ (by simp only[zu,xS]));have jJ:=zh (zL (jI.out.alloc jI.out.size (xN x)) (sR.out.alloc (xN x)) (by have:=jI.out.size;simp;omega) iP);clear f_ iP;clear c0 c1 c2 c3 x0 x1 x2 x3
    obtain ⟨_,_,e,c0,c1,c2,c3⟩:=(HR.out.below jJ.out).at hlt;injection e with e;injection e with e1 e2;subst e1 e2;rw[HY.out] at c0 c1 c2 c3;obtain ⟨x0,x1,x2,x3⟩:=fh.out.below jJ.out;go_wp2_with fail
    go_quiet (fail)
    obtain ⟨wc,hW,BM⟩:∃ wc,wb.drewN nq=wc∧Below wb.heap.size wb wc:=⟨_,rfl,below_drewN (aj _ _) _⟩
    rw[hW];clear hW;have nz:=zh (zA jJ.out BM);have AV:=zh (zG sS.out BM);clear c0 c1 c2 c3 x0 x1 x2 x3 BM;obtain ⟨_,_,e,c0,c1,c2,c3⟩:=(HR.out.below nz.out).at hlt;injection e with e;injection e with e1 e2;subst e1 e2;rw[HY.out] at c0 c1 c2 c3;obtain ⟨x0,x1,x2,x3⟩:=fh.out.below nz.out;go_wp2_with fail;exact ⟨⟨i+1,true,_,rfl,by go_num,by omega,HM,AV.out,nz.out⟩,by simp[intOf];omega⟩
   have HM:=zh (Jl.out i out HP.out hlt (by rw[hy];exact hk));rw[hy] at HM;have hd:(y.key != x.key)=true:=bne_iff_ne.2 (by omega);have hd2:decide (x.key≤y.key)=true:=aC (by omega);have DT:x.key≤y.key:=by omega
   clear hy Mh hk Hb HO;go_wp2_with fail
   go_quiet (fail)
   obtain ⟨wa,hW,mV⟩:∃ wa,wr.drewN nq=wa∧Below wr.heap.size wr wa:=⟨_,rfl,below_drewN (aj _ _) _⟩
   rw[hW];clear hW;have jI:=zh (zA Gi.out mV);have sR:=zh (zG Gj.out mV);clear c0 c1 c2 c3 x0 x1 x2 x3 mV;obtain ⟨_,_,e,c0,c1,c2,c3⟩:=(HR.out.below jI.out).at hlt;injection e with e;injection e with e1 e2;subst e1 e2;rw[HY.out] at c0 c1 c2 c3;obtain ⟨x0,x1,x2,x3⟩:=fh.out.below jI.out;go_upto_region 9 with (at_builtin;go_must (refine zP (m:=1) rfl (.tmp 28) (.tmp 30) 33 rfl yI w1.heap.size rfl (sR.out.alloc _) rfl (qx wa x) (zq [x]) (by unfold maxLen;omega) (by omega) (by have:=jI.out.size;simp;omega) ?_);intro Sb wb f_ iP BK;clear BK);have sS:=zh (show wb.ownsRow w1.heap.size 49 4 Sb (out++[x]).length (zU (out++[x])) from yO f_ (by simp only[zu,xS]));have jJ:=zh (zL (jI.out.alloc jI.out.size (xN x)) (sR.out.alloc (xN x)) (by have:=jI.out.size;simp;omega) iP);clear f_ iP;clear c0 c1 c2 c3 x0 x1 x2 x3
   obtain ⟨_,_,e,c0,c1,c2,c3⟩:=(HR.out.below jJ.out).at hlt;injection e with e;injection e with e1 e2;subst e1 e2;rw[HY.out] at c0 c1 c2 c3;obtain ⟨x0,x1,x2,x3⟩:=fh.out.below jJ.out;go_wp2_with fail
   go_quiet (fail)
   obtain ⟨wc,hW,BM⟩:∃ wc,wb.drewN nq=wc∧Below wb.heap.size wb wc:=⟨_,rfl,below_drewN (aj _ _) _⟩
   rw[hW];clear hW;have nz:=zh (zA jJ.out BM);have AV:=zh (zG sS.out BM);clear c0 c1 c2 c3 x0 x1 x2 x3 BM;obtain ⟨_,_,e,c0,c1,c2,c3⟩:=(HR.out.below nz.out).at hlt;injection e with e;injection e with e1 e2;subst e1 e2;rw[HY.out] at c0 c1 c2 c3;obtain ⟨x0,x1,x2,x3⟩:=fh.out.below nz.out;go_wp2_with (at_builtin;go_must (refine zP (m:=1) rfl (.tmp 40) (.tmp 45) 33 rfl yI w1.heap.size rfl (AV.out.alloc _) rfl (qx wc y) (zq [y]) (by unfold maxLen;simp only[aw,List.length_singleton];omega) (by simp only[aw,List.length_singleton];omega) (by have:=nz.out.size;simp;omega) ?_);intro vwd wd f_ iP BK;clear BK);have Sc:=zh (show wd.ownsRow w1.heap.size 49 4 vwd ((out++[x])++[y]).length (zU ((out++[x])++[y])) from yO f_ (by simp only[zu,xS]))
   have Sd:=zh (zL (nz.out.alloc nz.out.size (xN y)) (AV.out.alloc (xN y)) (by have:=nz.out.size;simp;omega) iP);clear f_ iP;go_wp2_with fail;exact ⟨⟨i+1,true,_,rfl,by go_num,by omega,HM,Sc.out,Sd.out⟩,by simp[intOf];omega⟩
 obtain rfl:i=n:=by omega
 cases d with
 |true =>
  have HE:=zh (Cp.out out HP.out);go_wp2_with fail;go_ret;exact ⟨_,rfl,by rw[← HE.out];exact HO.out.mono hB1,eP.out.trans (Hb.out.mono hB1)⟩
 |false =>
  have HE:=zh (HE0.out out HP.out);go_wp2_with (at_builtin;go_must (refine zP (m:=1) (n:=out.length) rfl (.tmp 49) (.tmp 51) 33 rfl yI w1.heap.size rfl (HO.out.alloc _) rfl (qx wr x) (zq [x]) (by unfold maxLen;omega) (by omega) (by simp;omega) ?_);intro v8 w8 f_ iP BK;clear BK);have jB:=zh (show fC w8 w1.heap.size v8 (out++[x]) from yO f_ (by simp only[zu,xS]));have ny:=zh (zL (Hb.out.alloc hB (xN x)) (HO.out.alloc (xN x)) (by simp;omega) iP);clear f_ iP;go_wp2_with fail;go_ret;exact ⟨_,rfl,by rw[← HE.out];exact jB.out.mono hB1,eP.out.trans (ny.out.mono hB1)⟩
def zJ (M:Mp):List It:=if xC M=true then fN (vN M) else []
def zg (M:Mp) (key:Int):Option It:=if xC M=true then fT (M.st (zl key)) key else none
theorem yb (M:Mp):lR (zJ M):=by
 unfold zJ
 split
 ·
  exact ww _
 exact fun j h=>by simp at h
theorem vk (M:Mp) (key:Int):fT (fN (zJ M)) key=zg M key:=by
 rw[yQ (yb M)];unfold zJ zg
 split
 ·
  rename_i h;exact ((zV M).1 h).fT key
 rfl
theorem tP {M:Mp} (h:∀ i,i<8→(M.st i).length≤10000):(vN M).length≤80000:=qZ (M:=M) (B:=10000) h 8 (ag _)
theorem wS {M:Mp} (h:∀ i,i<8→(M.st i).length≤10000):(zJ M).length≤80000:=by
 unfold zJ
 split
 ·
  exact ak (yZ _) (tP h)
 simp
theorem zGs (v:Value) (l:List It) (w:World) (h:ja w v l) (hs:l.length≤80000) :
  Calls Tryz.prog 132 #[.slice none 0 0,v,.slice none 0 0] w fun e w'=>∃ v',e=.returned v'∧fC w' w.heap.size v' (fN l)∧Below w.heap.size w w':=by
 have:=zHh (.slice none 0 0) v (.slice none 0 0) [] l [] w (yh (zk (aT w 0 49 4))) h (tu (aT w 0 24 1)) (wP _ (by simp)) (wP _ (by omega)) (wP _ (by have:=yZ l;rw[aw];have h0:=WG [] (fN []);rw[Wp] at h0 ⊢;simp at h0;simp[h0];omega)) (by simp) (by omega)
 rwa [zKt] at this
theorem XV (s:Sl) (M:Mp) (w:World) (h:fG w s M.st) (hs:∀ i,i<8→(M.st i).length≤10000) :
  Calls Tryz.prog 89 #[yF s M.live M.d_] w fun e w'=>∃ v',e=.returned v'∧fC w' w.heap.size v' (zJ M)∧Below w.heap.size w w':=by
 have HV:=zh (fun W h=>vn s M W h (fun i hi=>ak (hs i hi) (by decide)));have eB:=zh (eQ.new w s M.live M.d_ 36);have eH:=zh (zb w s M.live M.d_ 36);have Hr:=zh h;have HC:=zh (fun b W hx h=>zFi b s M.live M.d_ M.st W hx h (ak (tP hs) (by decide)));have HM:=zh (fun v W h=>zGs v (vN M) W h (tP hs));have HI:=zh (show zJ M=if xC M=true then fN (vN M) else [] from rfl);rw[show cat M.st 8=vN M from rfl] at HC;clear h hs;generalize xC M=vb at *;generalize vN M=A at *;generalize zJ M=I at *;obtain ⟨f,L,G⟩:=M;dsimp only at *
 go_enter Tryz.func89,Tryz.ntmps89
 go_wp2_with fail;refine (HV.out _ (Hr.out.below eH.out)).mono ?_;rintro e w1 ⟨rfl,hb1⟩;have eP:=zh (zA eH.out hb1);have fh:=zh (eB.out.below hb1);have fq:=zh (Hr.out.below eP.out);clear hb1 HV eB eH
 cases vb
 ·
  go_wp2_with fail;go_ret;exact ⟨_,rfl,by rw[HI.out,ai (by decide)];exact aT _ _ _ _,eP.out⟩
 rw[ah rfl] at HI;go_wp2_with fail;refine (HC.out _ _ fh.out fq.out).mono ?_;rintro e w2 ⟨v2,rfl,eG,hb2⟩;have eM:=zh (zA eP.out hb2);have gN:=zh eG.rd;have HMg:=zh (HM.out v2 w2 eG.rd);clear eG hb2;go_wp2_with fail;refine HMg.out.mono ?_;rintro e w3 ⟨v3,rfl,ei,hb3⟩;have mg:=zh (ei.mono eM.out.size);have gy:=zh (zA eM.out hb3);clear ei hb3;go_wp2_with fail;go_ret;exact ⟨_,rfl,by rw[HI.out];exact mg.out,gy.out⟩
structure h_ (W:World) (b:Nat) (x:It):Prop where
 t:lG W b x
 f:∀ i,W.frozen? ⟨b,i,none⟩=false
theorem h_.new (w:World) (x:It):h_ (w.alloc (xN x)) w.heap.size x:=⟨lG.new w x,fun i=>by simp⟩
theorem h_.lt {W:World} {b:Nat} {x:It} (h:h_ W b x):b<W.heap.size:=cA _ ⟨b,0,none⟩ h.t.c0
theorem h_.below {W W':World} {b:Nat} {x:It} (h:h_ W b x) (hb:Below W.heap.size W W'):h_ W' b x:=⟨h.t.below hb,fun i=>(hb.frozen (p:=⟨b,i,none⟩) h.lt).trans (h.f i)⟩
theorem h_.eA {W:World} {b:Nat} {x:It} (h:h_ W b x) {p:Addr} (hp:p.block≠b) (u:Value):h_ (W.setCell p u) b x:=by
 have ne:∀ i,p≠⟨b,i,none⟩:=fun i e=>hp (by rw[e])
 exact ⟨⟨(cz (h:=ne 0) ..).trans h.t.c0,(cz (h:=ne 1) ..).trans h.t.c1,(cz (h:=ne 2) ..).trans h.t.c2,(cz (h:=ne 3) ..).trans h.t.c3⟩,fun i=>by simp[h.f]⟩
theorem h_.nt {W:World} {b c:Nat} {x:It} (h:h_ W b x) (hp:c≠b) (s':Sl) (l' g':Int):h_ (yH W c s' l' g') b x:=
 (((((((((h.eA (p:=⟨c,0,none⟩) hp _).eA (p:=⟨c,1,none⟩) hp _).eA (p:=⟨c,2,none⟩) hp _).eA (p:=⟨c,3,none⟩) hp _).eA (p:=⟨c,4,none⟩) hp _).eA (p:=⟨c,5,none⟩) hp _).eA (p:=⟨c,6,none⟩) hp _).eA (p:=⟨c,7,none⟩) hp _).eA (p:=⟨c,8,none⟩) hp _).eA (p:=⟨c,9,none⟩) hp _
def Gk (W:World) (b:Nat) (y:It):World:=(((W.setCell ⟨b,0,none⟩ (.int .u64 y.key)).setCell ⟨b,1,none⟩ (.int .u32 y.ck)).setCell ⟨b,2,none⟩ (.int .i64 y.off)).setCell ⟨b,3,none⟩ (.int .i64 y.size)
theorem h_.put {W:World} {b:Nat} {x:It} (h:h_ W b x) (y:It):h_ (Gk W b y) b y:=⟨h.t.set y,fun i=>by simp[Gk,h.f]⟩
theorem uj {B b:Nat} {w0 W:World} (h:Below B w0 W) (hb:B≤b) (y:It):Below B w0 (Gk W b y):=(((h.setCell hb _).setCell hb _).setCell hb _).setCell hb _
theorem zJx (s:Sl) (M:Mp) (w:World) (h:fG w s M.st) (hs:∀ i,i<8→(M.st i).length≤10000) :
  Calls Tryz.prog 86 #[yF s M.live M.d_] w fun e w'=>e=.returned (.int .i64 ((zJ M).length:Int))∧Below w.heap.size w w':=by
 have eH:=zh (zb w s M.live M.d_ 36);have HI:=zh (XV s M _ (h.below eH.out) hs);generalize zJ M=I at *;clear h hs;obtain ⟨f,L,G⟩:=M;dsimp only at *
 go_enter Tryz.func86,Tryz.ntmps86
 go_wp2_with fail;refine HI.out.mono ?_;rintro e w1 ⟨v1,rfl,hown1,hb1⟩;have eP:=zh (zA eH.out hb1);obtain ⟨a,c,hv,_⟩:=zH hown1;subst hv;clear hown1 hb1;go_wp2_with fail;go_ret;exact ⟨rfl,eP.out⟩
theorem XW (s:Sl) (M:Mp) (key:Int) (w:World) (h:fG w s M.st) (hs:∀ i,i<8→(M.st i).length≤10000) :
  Calls Tryz.prog 95 #[yF s M.live M.d_,.int .u64 key] w fun e w'=>e=.returned (.tuple #[lN ((zg M key).getD fE),.bool (zg M key).isSome])∧Below w.heap.size w w':=by
 have HV:=zh (fun W h=>vn s M W h (fun i hi=>ak (hs i hi) (by decide)));have eB:=zh ((eQ.new w s M.live M.d_ 36).below (yB (w.alloc (.cells (yj s M.live M.d_) 36)) fE));have Er:=zh (h_.new (w.alloc (.cells (yj s M.live M.d_) 36)) fE);rw[show (w.alloc (.cells (yj s M.live M.d_) 36)).heap.size=w.heap.size+1 by simp] at Er;have eH:=zh (zA (zb w s M.live M.d_ 36) (yB (w.alloc (.cells (yj s M.live M.d_) 36)) fE));have Hr:=zh h;have jR:=wX key;have HF:=zh (fun W h=>Ww (s.v (zl key)) (M.st (zl key)) key W h (wP _ (ak (hs _ jR) (by decide))) (ak (hs _ jR) (by decide)));have HS:=zh (fun W=>uv key W);have HI:=zh (show zg M key=if xC M=true then fT (M.st (zl key)) key else none from rfl);have HA:=zh (fun h:xC M=true=>yQ (uE (((zV M).1 h).ok _ jR)));have rD:=zh (fun W (hb:Below w.heap.size w W)=>(h (zl key) jR).below hb);clear h hs
 generalize zg M key=o at *;generalize xC M=vb at *;generalize zl key=k at *;obtain ⟨f,L,G⟩:=M;dsimp only at *
 go_enter Tryz.func95,Tryz.ntmps95
 go_wp2_with fail;refine (HV.out _ (Hr.out.below eH.out)).mono ?_;rintro e w1 ⟨rfl,hb1⟩;have eP:=zh (zA eH.out hb1);have fh:=zh (eB.out.below hb1);have Gl:=zh (Er.out.below hb1);clear hb1 HV eB eH Er;obtain ⟨d0,d1,d2,d3⟩:=Gl.out.t.q;have F1:=Gl.out.f
 cases vb
 ·
  have mA:=zh (HI.out.trans (ai (by decide)));go_wp2_with fail;change bodyPost _ _ _ _ _ (Gk w1 (w.heap.size+1) fE);have hby:=Gl.out.put fE;have eD:=zh (uj eP.out (Nat.le_succ _) fE);generalize Gk w1 (w.heap.size+1) fE=V at *;obtain ⟨y0,y1,y2,y3⟩:=hby.t.q;exact au (v:=.tuple #[lN fE,.bool false]) (by simp[results,Tryz.results95,go_sem,y0,y1,y2,y3]) rfl ⟨by rw[mA.out];rfl,eD.out⟩
 have mA:=zh (HI.out.trans (ah rfl));have Cq:s.v k=.slice (s.a k) (s.n k) (s.c k):=rfl;have ck:=fh.out.c k jR;have rE:=zh (HF.out w1 (rD.out w1 eP.out));rw[HA.out rfl,← mA.out] at rE;rw[Cq] at ck rE;generalize s.a k=sa at *;generalize s.n k=sn at *;generalize s.c k=sc at *;clear Cq HF rD HA;go_wp2_with fail;refine (HS.out _).mono ?_;rintro e w2 ⟨rfl,rfl⟩;go_wp2_with fail;refine rE.out.mono ?_;rintro e w3 ⟨rfl,hb3⟩;have Jm:=zh (Gl.out.below hb3);have gy:=zh (zA eP.out hb3);clear hb3 d0 d1 d2 d3 F1;obtain ⟨d0,d1,d2,d3⟩:=Jm.out.t.q;have F1:=Jm.out.f;obtain ⟨y,hy⟩:∃ y,o.getD fE=y:=⟨_,rfl⟩
 have Hy:=zh hy;rw[hy];clear hy;go_wp2_with fail;change bodyPost _ _ _ _ _ (Gk w3 (w.heap.size+1) y);have hby:=Jm.out.put y;have eD:=zh (uj gy.out (Nat.le_succ _) y);generalize Gk w3 (w.heap.size+1) y=V at *;obtain ⟨y0,y1,y2,y3⟩:=hby.t.q;exact au (v:=.tuple #[lN y,.bool o.isSome]) (by simp[results,Tryz.results95,go_sem,y0,y1,y2,y3]) rfl ⟨by rw[Hy.out],eD.out⟩
end Go.Proofs.YtcgfilmmokmdjaaGreat
namespace Go.Proofs.YtcgfilmmokmdjaaGreat
open Go
section
variable {P:Program} {ops:Array Oper} {md:Region.Mode} {C:World→Prop}
def hd (P:Program) (md:Region.Mode) (ops:Array Oper) (C:World→Prop) (n:Nat) (L:Array Bool→Act→Prop):Nat→Array Bool→Act→Prop
 |0,s,a=>L s a
 |f+1,s,a=>Region.ready md ops s≠[]∧∀ i∈Region.ready md ops s,i<n∧qOp P ops C i (hd P md ops C n L f (s.setIfInBounds i true)) a
theorem XX {n g:Nat} {L:Array Bool→Act→Prop} {Q:Exit→Act→World→Prop} (hL:∀ s a w,C w→L s a→wpAny P md ops Q g s a w) :
  ∀ (f:Nat) (s:Array Bool) (a:Act) (w:World),C w→hd P md ops C n L f s a→wpAny P md ops Q (f+g) s a w
 |0,s,a,w,hw,h=>by rw[aI];exact hL _ _ _ hw h
 |f+1,s,a,w,hw,h=>by
  rw[show f+1+g=(f+g)+1 by omega];exact ⟨fun e=>absurd e h.1,fun i hi=>wpOp_of_qOp hw (fun a' w' hw' h'=>XX hL f _ a' w' hw' h') (h.2 i hi).2⟩
theorem zJq {n i:Nat} {o:Oper} {v:Value} {L:Array Bool→Act→Prop} (hi:ops[i]?=some o) (hsel:∀ (j:Nat) (o:Oper) cs b,ops[j]?=some o→o.op≠.select cs b)
  (hs:Region.sinkB md ops n=true) (hc:Region.chainB md ops n=true) (hn:n<ops.size) (hin:i<n) (hL:∀ s a,L s a→∀ j∈Region.ready md ops s,n≤j)
  (f:Nat):∀ (s:Array Bool) (a:Act),HeadInv md ops n s →
   (∀ j oj,ops[j]?=some oj→j≠i→s.getD j true=false→(∀ e∈oj.after,Region.binds md e=true→e.on≠i)→o.apart ops oj=true) →
   i∈Region.ready md ops s→YieldsIn P ops C o v a→hd P md ops C n L f (s.setIfInBounds i true) (a.put o.dst v)→hd P md ops C n L (f+1) s a:=by
 induction f with
 |zero =>
  intro s a inv _ hr hy H;refine ⟨(fun e=>by rw[e] at hr;cases hr),fun j hj=>?_⟩;have hjn:j<n:=Nat.lt_of_not_le fun h=>tail_waits hs hc hn inv _ i rfl hin (mem_ready.1 hr).1 j h hj
  refine ⟨hjn,?_⟩
  by_cases e:j=i
  ·
   subst e;exact hy.qOp hi H
  have:=hL _ _ H j (ready_mono hj e);omega
 |succ f ih =>
  intro s a inv hfree hr hy H;refine ⟨(fun e=>by rw[e] at hr;cases hr),fun j hj=>?_⟩;have hun:=(mem_ready.1 hr).1;have hjn:j<n:=Nat.lt_of_not_le fun h=>tail_waits hs hc hn inv _ i rfl hin hun j h hj
  refine ⟨hjn,?_⟩
  by_cases e:j=i
  ·
   subst e;exact hy.qOp hi H
  obtain ⟨Mj,oj,KR,hall⟩:=mem_ready.1 hj;have hno:∀ e∈oj.after,Region.binds md e=true→e.on≠i:=fun x hx hb heq=>by
   have h1:=hall x hx hb;rw[heq,getD_both hun] at h1
   cases h1
  have h2:=qOp_put KR (hfree j oj KR e Mj hno) (fun cs b=>hsel i o cs b hi) (fun cs b=>hsel j oj cs b KR) hy (H.2 j (ready_mono hj e)).2;refine qOp_mono (fun a' h3=>ih (s.setIfInBounds j true) a' (inv.set hj hjn) (fun k ok hk hki hk' Sh=>hfree k ok hk hki ?_ Sh) (ready_mono hr (aQ e)) h3.1 ?_) h2
  ·
   by_cases hjk:j=k
   ·
    subst hjk;exact Mj
   rw[bJ true hjk] at hk';exact hk'
  rw[Array.setIfInBounds_comm _ _ e];exact h3.2
theorem XY {n g:Nat} {R:Act→Prop} (hsel:Region.noSelect ops=true) (hs:Region.sinkB md ops n=true) (hc:Region.chainB md ops n=true) (hn:n<ops.size) :
  ∀ (l:List Oper) (k:Nat) (s:Array Bool) (a:Act),(∀ j,j<l.length→l[j]?=ops[k+j]?)→k+l.length=n→HeadInv md ops n s →
  Region.lexHead md ops g l.length k s=true→wpQuiet P ops C R l a→hd P md ops C n (fun s' a'=>Region.seqB md ops g n s'=true∧R a') l.length s a
 |[],k,s,a,_,hk,_,hB,h=>by
  obtain rfl:k=n:=by simpa using hk
  exact ⟨by simpa [Region.lexHead] using hB,h⟩
 |o::l,k,s,a,hl,hk,inv,hB,h=>by
  have h0:ops[k]?=some o:=by simpa using (hl 0 (by simp)).symm
  simp only[aV,Region.lexHead,aN] at hB;obtain ⟨⟨hr,hf⟩,hB'⟩:=hB;have hkn:k<n:=by simp only[aV] at hk;omega
  have hr':k∈Region.ready md ops s:=by simpa using hr
  have hq:qOp P ops C k (wpQuiet P ops C R l) a:=by unfold qOp;simp only[h0];exact h
  obtain ⟨v,hy,hK⟩:=yieldsIn_of_qOp h0 hq;exact zJq h0 (Region.noSelect_spec hsel) hs hc hn hkn (fun s' a' h'=>seqB_ready h'.1) l.length s a inv (Region.free_spec h0 hf) hr' hy
   (XY hsel hs hc hn l (k+1) _ _ (fun j hj=>by have:=hl (j+1) (by simp;omega);simpa [cR,Nat.add_comm 1 j] using this) (by simp only[aV] at hk;omega) (inv.set hr' hkn) hB' hK)
theorem tO {id:Nat} {Q:Exit→Act→World→Prop} {a:Act} {w:World} {l:List Oper} (n:Nat) (hm:P.follows .mixedOrders=true) (hB:Region.lexTailB .any l.toArray n=true) (hw:C w.drew)
  (h:wpQuiet P l.toArray C (fun a'=>∀ w',C w'→wpList P l.toArray Q (l.drop n) a' w') (l.take n) a):(Code.region id l.toArray true).wp P Q a w:=by
 simp only[Region.lexTailB,aN,aR] at hB;obtain ⟨⟨⟨⟨hsel,hn⟩,hs⟩,hc⟩,Si⟩:=hB;have hn':n<l.length:=by simpa using hn
 have htl:(l.take n).length=n:=by simp;omega
 have il:(l.drop n).length=l.toArray.size-n:=by simp
 have Sj:HeadInv .any l.toArray n (Array.replicate l.toArray.size false):=
  ⟨by simp,fun j oj _ hl=>(by rw[getD_replicate_false] at hl;cases hl),fun t _ ht=>getD_in (by simpa using ht) (getD_replicate_false _ _)⟩
 have H:=XY (md:=.any) (g:=l.toArray.size-n) hsel hs hc hn (l.take n) 0 _ a (fun j hj=>by
  have hj':j<n:=by rw[htl] at hj;exact hj
  simp[hj']) (by simpa using htl) Sj (by rw[htl];exact Si) h
 refine wp_region_any hm ?_
 have:=XX (Q:=Q) (g:=l.toArray.size-n) (fun s a' w' hw' hL=>by
  have:=wpAny_of_seq (md:=.any) (Q':=Q) (l.drop n) n s a' w' (fun j=>by simp[cQ]) (by rw[il];exact hL.1) (hL.2 w' hw')
  rwa [il] at this) _ _ _ w.drew hw H
 rw[htl,show n+(l.toArray.size-n)=l.toArray.size by omega] at this;exact this
end
theorem tU {P:Program} {id:Nat} {Q:Exit→Act→World→Prop} {a:Act} {w:World} {l:List Oper} (n:Nat) (hm:P.follows .mixedOrders=true) (hB:Region.lexTailB .any l.toArray n=true)
  (h:wpQuiet P l.toArray (fun w'=>∃ p:eo w,w'=p.w') (fun a'=>∀ w',(∃ p:eo w,w'=p.w')→wpList P l.toArray Q (l.drop n) a' w') (l.take n) a):(Code.region id l.toArray true).wp P Q a w:=
 tO (C:=fun w'=>∃ p:eo w,w'=p.w') n hm hB ⟨⟨w.drew,⟨rfl,rfl,rfl,ag _,fun _ _=>rfl⟩⟩,rfl⟩ h
end Go.Proofs.YtcgfilmmokmdjaaGreat
