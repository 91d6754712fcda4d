import Derived.Test.YtcgfilmmokmdjaaGreatSz
import Derived.Laws.StructEq
import Derived.Test.YtcgfilmmokmdjaaGreatQAE
set_option linter.all false
set_option maxRecDepth 100000
set_option maxHeartbeats 32000000
namespace Go.Proofs.YtcgfilmmokmdjaaGreat
open Go.Proofs.Tryz
open Go.RowKit
variable {w:World}
def zG8 {base:Nat} {e:TypeId} {sz n cap g:Nat} {xs:List Value} (h:w.ownsRow base e sz (.slice (some ⟨g,0,none⟩) n cap) n xs) (o:Nat) (vs:List Value) (ho:o+vs.length<=n*sz) :
  ∃ cur,w.heap[g]?=some (.cells cur e (0,0))/\n*sz<=cur.size/\(w.setRow g (cur.toList.take o++vs++cur.toList.drop (o+vs.length)).toArray).ownsRow base e sz (.slice (some ⟨g,0,none⟩) n cap) n (xs.take o++vs++xs.drop (o+vs.length)) /\
   w.grownBy (w.setRow g (cur.toList.take o++vs++cur.toList.drop (o+vs.length)).toArray) (some g):=by
 have hx:=h.1;rcases h.2 with ⟨h',_⟩|⟨g',cap',cur,h',hb,hg,hnc,hcm,hcs,lQ⟩
 ·cases h'
 injection h' with h' _ h'';injection h' with h';injection h' with h' _;subst h' h'';have hN:n*sz<=cur.size:=by rw[hcs];exact aX _ hnc
 refine ⟨cur,hg,hN,⟨?_,.inr ⟨g,cap,_,rfl,hb,setRow_heap w g cur _ e (0,0) hg,hnc,hcm,?_,?_⟩⟩,⟨rfl,rfl,rfl,by simp,fun k _ hk=>setRow_other w g k _ (fun e=>hk (by rw[e]))⟩⟩
 ·simp only[ax,aB,aT,hx];omega
 ·simp only[cD,ax,aB,aT,Array.length_toList];omega
 have e1:xs.take o=cur.toList.take o:=by rw[<- lQ,List.take_take,bY (by omega)]
 have e2:xs.drop (o+vs.length)=(cur.toList.drop (o+vs.length)).take (n*sz-(o+vs.length)):=by rw[<- lQ,List.drop_take]
 rw[e1,e2];have l1:(cur.toList.take o++vs).length=o+vs.length:=by rw[ax,aB,Array.length_toList];omega
 rw[List.take_append,aS (l:=cur.toList.take o++vs) (by rw[l1];exact ho),l1]
def zGo (g n cap B:Nat) (d:List It) (w:World) (hown:w.ownsRow B 49 4 (.slice (some ⟨g,0,none⟩) n cap) n (zg d)) (hn:d.length=n) (hs:n<=1000000) :
  Calls prog 197 #[.slice (some ⟨g,0,none⟩) n cap,.int .i64 (n:Int),.func (.func 174) #[] #[]] w fun e w'=>e=.returned (.tuple #[])/\Left w g n cap 0 n B d w':=by
 have HO:=zh hown;have hgr:w.grownBy w (some g):=⟨rfl,rfl,rfl,ag _,fun _ _ _=>rfl⟩
 have HG:=zh hgr;have HN:=zh hn;have HL:=zh (fun q (h:Moved d q 0 n)=>h.len.trans hn);clear hown hgr hn
 go_enter func197,ntmps197
 go_wp2_with fail
 go_loopw [7,8] (fun av bv wr=>∃ (k a:Nat) (q:List It),av=.int .i64 (a:Int)/\bv=.int .i64 ((a:Int)+20)/\Hid (a=k*20)/\a<=n/\Ag q 20 0 a/\Moved d q 0 n/\wr.ownsRow B 49 4 (.slice (some ⟨g,0,none⟩) n cap) n (zg q)/\w.grownBy wr (some g)) (fun av _ _=>n-(intOf av).toNat)
 case atStart=>exact ⟨0,0,d,by go_num,by go_num,(rfl:(0:Nat)=0*20),by omega,Ag.none _ _ _,Moved.refl _ _ _,HO.o,HG.o⟩
 obtain ⟨k,a,q,rfl,rfl,HK,Sg,hb,hm,ho,hg⟩:=hrel;have Hb:=zh hb;have Hm:=zh hm;have Ho:=zh ho;have Hg:=zh hg;clear hb hm ho hg
 by_cases hlt:a+20<=n
 ·have HC:=zh (kL g n cap a (a+20) B q wr Ho.o (HL.o q Hm.o) hs (by omega) hlt);have e1:((a+20:Nat):Int)=(a:Int)+20:=by omega
  rw[e1] at HC;clear e1;have hle:(a:Int)+20<=(n:Int):=by omega
  go_wp2_with fail;refine HC.o.mono ?_;rintro _ w2 ⟨rfl,q2,eM,lU,nJ,fu⟩;have gp:=zh eM;have A6:=zh (Hm.o.trans (lU.wide (aq _) (by omega) hlt));have eX:=zh ((Hb.o.keep lU (Or.inl (ag _))).more HK.o nJ);have lW:=zh (zw Hg.o fu);have FT:=zh (show a+20=(k+1)*20 by rw[HK.o];omega);clear eM lU nJ fu;go_wp2_with fail;exact ⟨⟨k+1,a+20,q2,by go_num,by go_num,FT,hlt,eX.o,A6.o,gp.o,lW.o⟩,by simp[intOf];omega⟩
 have hle:¬ (a:Int)+20<=(n:Int):=by omega
 have HC:=zh (kL g n cap a n B q wr Ho.o (HL.o q Hm.o) hs Sg (ag _));go_wp2_with fail;refine HC.o.mono ?_;rintro _ w2 ⟨rfl,q2,eM,lU,nJ,fu⟩;have gp:=zh eM;have A6:=zh (Hm.o.trans (lU.wide (aq _) Sg (ag _)));have eX:=zh ((Hb.o.keep lU (Or.inl (ag _))).more HK.o nJ);have lW:=zh (zw Hg.o fu);clear eM lU nJ fu hle hlt;clear HK Hb Hm Ho Hg HC;go_wp2_with fail
 go_loopw [6] (fun sv wr=>∃ (bs:Nat) (q:List It),sv=.int .i64 (bs:Int)/\0<bs/\bs<=2000000/\Ag q bs 0 n/\Moved d q 0 n/\wr.ownsRow B 49 4 (.slice (some ⟨g,0,none⟩) n cap) n (zg q)/\w.grownBy wr (some g)) (fun sv _=>n-(intOf sv).toNat)
 case atStart=>exact ⟨20,q2,by go_num,by omega,by omega,eX.o,A6.o,gp.o,lW.o⟩
 obtain ⟨bs,q,rfl,hb0,hb1,hb,hm,ho,hg⟩:=hrel;have Hb:=zh hb;have Hm:=zh hm;have Ho:=zh ho;have Hg:=zh hg;clear hb hm ho hg
 by_cases hlt:bs<n
 ·go_wp2_with fail
  go_loopw [7,8] (fun av bv wr=>∃ (k a:Nat) (q:List It),av=.int .i64 (a:Int)/\bv=.int .i64 ((a:Int)+2*(bs:Int))/\Hid (a=k*(2*bs))/\a<=n/\Ag q (2*bs) 0 a/\Ag q bs a n/\Moved d q 0 n/\wr.ownsRow B 49 4 (.slice (some ⟨g,0,none⟩) n cap) n (zg q)/\w.grownBy wr (some g)) (fun av _ _=>n-(intOf av).toNat)
  case atStart=>exact ⟨0,0,q,by go_num,by go_num,(Nat.zero_mul _).symm,by omega,Ag.none _ _ _,Hb.o,Hm.o,Ho.o,Hg.o⟩
  obtain ⟨k,a,r,rfl,rfl,HK,Sg,hb,hc,hm,ho,hg⟩:=hrel;have hK2:k*2*bs=a:=by rw[HK.o,Nat.mul_assoc]
  have hK3:(k*2+1)*bs=a+bs:=by rw[cV (k*2) bs,hK2]
  have HK4:=zh (show a+2*bs=(k+1)*(2*bs) by rw[cV k (2*bs),<- HK.o]);have Ek:Hid (a+bs<=n->jX r a (a+bs)):=zh (fun h=>hc.nd (k:=k*2) (ag _) h (by omega) (by omega));have Qr:Hid (∀ b,a+bs<=b->b<=n->b<=a+2*bs->jX r (a+bs) b):=zh (fun b h h' h''=>hc.nd (k:=k*2+1) (by omega) h' (by omega) (by omega));have Hn3:Hid (n<=a+bs->jX r a n):=zh (fun h=>hc.nd (k:=k*2) (ag _) (ag _) (by omega) (by omega));have Hb:=zh hb;have Hc:=zh hc;have Hm:=zh hm;have Ho:=zh ho;have Hg:=zh hg;clear hb hc hm ho hg hK2 hK3
  by_cases hle:a+2*bs<=n
  ·have HC:=zh (Ve g n cap B hs (2*bs) a (a+bs) (a+2*bs) r wr (by omega) Ho.o (HL.o r Hm.o) (by omega) (by omega) hle (Ek.o (by omega)) (Qr.o _ (by omega) hle (ag _)));have e1:((a+bs:Nat):Int)=(a:Int)+(bs:Int):=by omega
   have e2:((a+2*bs:Nat):Int)=(a:Int)+2*(bs:Int):=by omega
   rw[e1,e2] at HC;clear e1 e2;have Vf:(a:Int)+2*(bs:Int)<=(n:Int):=by omega
   go_wp2_with fail;refine HC.o.mono ?_;rintro _ w2 ⟨rfl,q2,eM,lU,nJ,fu⟩;have gp:=zh eM;have A6:=zh (Hm.o.trans (lU.wide (aq _) (by omega) hle));have eX:=zh ((Hb.o.keep lU (Or.inl (ag _))).more HK.o nJ);have C8:=zh ((Hc.o.sub (lo':=a+2*bs) (hi':=n) (by omega) (ag _)).keep lU (Or.inr (ag _)));have lW:=zh (zw Hg.o fu);clear eM lU nJ fu;go_wp2_with fail;exact ⟨⟨k+1,a+2*bs,q2,by go_num,by go_num,HK4,hle,eX.o,C8.o,A6.o,gp.o,lW.o⟩,by simp[intOf];omega⟩
  have Vf:¬ (a:Int)+2*(bs:Int)<=(n:Int):=by omega
  by_cases hmn:a+bs<n
  ·have HC:=zh (Ve g n cap B hs (2*bs) a (a+bs) n r wr (by omega) Ho.o (HL.o r Hm.o) (by omega) hmn (ag _) (Ek.o (by omega)) (Qr.o _ (by omega) (ag _) (by omega)));have e1:((a+bs:Nat):Int)=(a:Int)+(bs:Int):=by omega
   rw[e1] at HC;clear e1;have Vg:(a:Int)+(bs:Int)<(n:Int):=by omega
   go_wp2_with fail;refine HC.o.mono ?_;rintro _ w2 ⟨rfl,q2,eM,lU,nJ,fu⟩;have gp:=zh eM;have A6:=zh (Hm.o.trans (lU.wide (aq _) Sg (ag _)));have eX:=zh ((Hb.o.keep lU (Or.inl (ag _))).more HK.o nJ);have lW:=zh (zw Hg.o fu);clear eM lU nJ fu;go_wp2_with fail;exact ⟨⟨2*bs,q2,by go_num,by omega,by omega,eX.o,A6.o,gp.o,lW.o⟩,by simp[intOf];omega⟩
  have Vg:¬ (a:Int)+(bs:Int)<(n:Int):=by omega
  have eX:=zh (Hb.o.more HK.o (Hn3.o (by omega)));go_wp2_with fail;exact ⟨⟨2*bs,r,by go_num,by omega,by omega,eX.o,Hm.o,Ho.o,Hg.o⟩,by simp[intOf];omega⟩
 have HW:=zh (Hb.o.whole (by omega));go_wp2_with fail;go_end0;exact ⟨rfl,q,Ho.o,Hm.o,HW.o,Hg.o⟩
def zCu (g n cap B:Nat) (d:List It) (w:World) (hown:w.ownsRow B 49 4 (.slice (some ⟨g,0,none⟩) n cap) n (zg d)) (hn:d.length=n) (hs:n<=1000000) :
  Calls prog 173 #[.slice (some ⟨g,0,none⟩) n cap,.func (.func 174) #[] #[]] w fun e w'=>e=.returned (.tuple #[])/\Left w g n cap 0 n B d w':=by
 have HC:=zh (zGo g n cap B d w hown hn hs);clear hown hn
 go_enter func173,ntmps173
 go_wp2_with fail;refine HC.o.mono ?_;rintro _ w2 ⟨rfl,hl⟩;have HL:=zh hl;clear hl;go_wp2_with fail;go_end0;exact ⟨rfl,HL.o⟩
variable {q:List It}
def zMz {B g n cap:Nat} (h:w.ownsRow B 49 4 (.slice (some ⟨g,0,none⟩) n cap) n (zg q)) (hq:q.length=n) (k:Nat) (hk:k<n) {sa:Addr} {sc:Nat} {x:It} (hs:Rd w 4 (.slice (some sa) 1 sc) 1 (jk x)) :
  ∃ w',(∀ ty,(Builtin.append_ #[33,33] ty #[.slice (some ⟨g,0,none⟩) k cap,.slice (some sa) 1 sc]).run prog w=.ok (.slice (some ⟨g,0,none⟩) (k+1) cap) w') /\
   w'.ownsRow B 49 4 (.slice (some ⟨g,0,none⟩) n cap) n (zg (q.set k x))/\w.grownBy w' (some g):=by
 obtain ⟨cur,hg,hN,h1,h2⟩:=zG8 h (k*4) (jk x) (by rw[vH];omega);obtain ⟨ht,hsz,i,z,hi,hz,hs4,hby,hzs⟩:=yO;obtain ⟨_,a',cap',e,_,_,_,hc⟩:=hs;injection e with e1 e2 e3;obtain ⟨b,off,e4,hcell⟩:=hc (by rw[vH];omega);rw[<- e1] at e4;injection e4 with e4;subst e4;have hcap:k+1<=cap:=by
  obtain ⟨_,_,e,hnc,_,_⟩:=zG h;injection e with _ _ e5;omega
 refine ⟨_,fun ty=>run_append_room (P:=prog) w 33 ty 49 i ht hi g k cap cur hg ⟨b,off,none⟩ 1 sc (jk x) (by rw[hs4];rfl) (fun j u hj=>by rw[yd];exact hcell j u hj) (fun u hu=>zv [x] u (by rw[xj];exact hu)) hcap (by rw[hs4,vH];omega),?_,?_⟩
 ·rw[hs4];have e:zg (q.set k x)=(zg q).take (k*4)++jk x++(zg q).drop (k*4+(jk x).length):=by
   rw[List.set_eq_take_append_cons_drop,ah (by omega),zy,wS,tA,tD,vH,aY]
   congr 3;omega
  rw[e];exact h1
 rw[hs4];exact h2
def Qs {ops:Array Oper} {rest:List Oper} {o:Oper} {a:Act} {Q:Exit->Act->World->Prop} (hgd:o.guard=none) (s x:Operand)
  (ho:o.op=.call {callee:=.builtin .append,args:=#[s,x],argTypes:=#[33,33]}) {B g n cap:Nat} {q:List It} (k:Nat) {sa:Addr} {sc:Nat} {y:It}
  (hs:a.eval s=.slice (some ⟨g,0,none⟩) k cap) (hx:a.eval x=.slice (some sa) 1 sc) (h:w.ownsRow B 49 4 (.slice (some ⟨g,0,none⟩) n cap) n (zg q)) (hq:q.length=n) (hk:k<n) (hr:Rd w 4 (.slice (some sa) 1 sc) 1 (jk y))
  (hK:∀ w',w'.ownsRow B 49 4 (.slice (some ⟨g,0,none⟩) n cap) n (zg (q.set k y))->w.grownBy w' (some g)->wpList prog ops Q rest (a.put o.dst (.slice (some ⟨g,0,none⟩) (k+1) cap)) w'):wpList prog ops Q (o::rest) a w:=by
 obtain ⟨w',h1,h2,h3⟩:=zMz h hq k hk hr;exact Lib.wpList_append_run w hgd s x _ _ ho _ _ hs hx _ _ (h1 _) (hK w' h2 h3)
variable {k i:Nat} {x:It}
def zFM (h:k<=i):(q.set k x).drop (i+1)=q.drop (i+1):=List.drop_set_of_lt (by omega)
structure Pass (d out q:List It) (k i:Nat):Prop where
 all:out++uo (d.drop i)=uo d
 pre:q.take k=out
 rest:q.drop i=d.drop i
 le:k<=i
 len:q.length=d.length
def Pass.keep {d out:List It} (h:Pass d out q k i) (hi:i<d.length) (hk:i+1=d.length∨(eA d (i+1)).key≠(eA d i).key):Pass d (out++[eA d i]) (q.set k (eA d i)) (k+1) (i+1):=by
 have hle:=h.le;have Lm:=h.len;refine ⟨?_,?_,?_,by omega,by rw[a_];exact h.len⟩
 ·rw[aY,<- h.all]
  congr 1
  by_cases e:i+1=d.length
  ·exact (zJ7 e).symm
  exact (zJS (by omega) (by rcases hk with hk|hk;exact absurd hk e;exact hk)).symm
 ·rw[um q k _ (by omega),h.pre]
 rw[zFM hle,<- ct,h.rest,ct]
def Pass.skip {d out:List It} (h:Pass d out q k i) (hi:i+1<d.length) (hk:(eA d (i+1)).key=(eA d i).key):Pass d out q k (i+1):=by
 have hle:=h.le;refine ⟨?_,h.pre,?_,by omega,h.len⟩
 ·rw[<- h.all,zIP hi hk]
 rw[<- ct,h.rest,ct]
def Pass.at {d out q:List It} {k i j:Nat} (h:Pass d out q k i) (hj:i<=j):eA q j=eA d j:=by
 have h1:=wL q i (j-i);have h2:=wL d i (j-i);rw[h.rest,h2,show i+(j-i)=j by omega] at h1;exact h1.symm
def zG9 (l:List It) (ha:Er l=false) (hs:l.length<=1000000):ww l:=by
 intro v w h;have HC:=zh (Ux v l w h hs);have HA:=zh (fun v w h=>Uo v l w h);rw[ha] at HA;have hpos:0<l.length:=by
  cases l with
  |nil=>cases ha
  |cons x r=>simp
 have HS:=zh (fun d (hm:Moved l d 0 l.length) (hn:jX d 0 l.length)=>zLh (l:=l) (d:=d) (hm.sj (aq _)) (by rw[hm.len];exact hn));obtain ⟨a,cap,rfl,h1,h2⟩:=h.shape;have HML:=zh (fun d (hm:Moved l d 0 l.length)=>hm.len);have HSS:=zh (fun g cap B w h=>zCu g l.length cap B l w h rfl hs);have HOT:=zh (fun w B v (h:fR w B v l)=>show w.ownsRow B 49 4 v l.length (zg l) from h);generalize hn:l.length=n at *;clear h ha hn
 go_enter func135,ntmps135
 go_wp2_with fail;refine HC.o.mono ?_;rintro e w1 ⟨v1,rfl,hown1,hb1⟩;have HO:=zh hown1;have HB:=zh hb1;clear hown1 hb1;go_wp2_with fail;refine (HA.o _ _ HO.o.rd).mono ?_;rintro e w2 ⟨rfl,hb2⟩;have F8:=zh (HOT.o _ _ _ (zE HO.o hb2));have eX:=zh (zA HB.o hb2);clear hb2;obtain ⟨oa,oc,rfl,ho1,ho2,_⟩:=zG F8.o;obtain ⟨g,rfl⟩:∃ g,oa=some ⟨g,0,none⟩:=by
  rcases F8.o.2 with ⟨e,h0⟩|⟨g,_,_,e,_⟩
  ·injection e with _ e _;omega
  injection e with e;exact ⟨g,e⟩
 have hgw:=(F8.o.lt g rfl).1;clear HO;go_wp2_with fail;refine (HSS.o g oc w.heap.size w2 F8.o).mono ?_;rintro e w3 ⟨rfl,d,eB,Vh,Ko,eW⟩;have lD:=zh eB;have HD:=zh (HS.o d Vh Ko);have HL:=zh (HML.o d Vh);have f_:=zh (eX.o.grown eW eX.o.size (by intro r hr;injection hr with hr;omega));clear eB Vh Ko eW F8 eX;have Et:=xH (P:=prog) yO (a:=some ⟨g,0,none⟩) (n:=n) (cap:=oc) (fun x hx=>⟨g,0,by injection hx with hx;exact hx.symm⟩) 0 (by omega);have hoc:oc<=9223372036854775807:=by unfold maxLen at ho2;omega
 go_wp2_with fail
 go_loopw [3,17] (fun ov iv wr=>∃ (k i:Nat) (out q:List It),ov=.slice (some ⟨g,0,none⟩) k oc/\iv=.int .i64 (i:Int)/\i<=n/\Pass d out q k i/\wr.ownsRow w.heap.size 49 4 (.slice (some ⟨g,0,none⟩) n oc) n (zg q)/\Below w.heap.size w wr) (fun _ iv _=>n-(intOf iv).toNat)
 case atStart=>exact ⟨0,0,[],d,by rfl,by go_num,by omega,⟨by simp,rfl,rfl,ag _,rfl⟩,lD.o,f_.o⟩
 obtain ⟨k,i,out,q,rfl,rfl,hi,hp,ho,hb⟩:=hrel;have hki:=hp.le;have Hp:=zh hp;have Ho:=zh ho;have Hb:=zh hb;have hB:=hb.size;have hgr:=(ho.lt g rfl).2;have T8:=zh (hp.len.trans HL.o);clear hp ho hb
 by_cases hlt:i<n
 ·obtain ⟨_,_,e,c0,c1,c2,c3⟩:=(xF (zr Ho.o)).at hlt;injection e with e;injection e with e1 e2;subst e1 e2;simp only[aN] at c0 c1 c2 c3;rw[Hp.o.at (ag _)] at c0 c1 c2 c3;have Kq:=zh (Hp.o.keep (by rw[HL.o];exact hlt));have OI:=zh (fun h:i+1<n=>Hp.o.skip (by rw[HL.o];exact h));have j1:IntKind.i64.wrap ((i:Int)+1)=(i:Int)+1:=aF _ (by omega)
  by_cases hend:i+1=n
  ·have hd:((i:Int)+1==(n:Int))=true:=beq_iff_eq.2 (by omega);have FT:=zh (Kq.o (Or.inl (by rw[HL.o];exact hend)));generalize eA d i=x at *;go_wp2_with fail
   go_quiet (fail)
   obtain ⟨W,hW⟩:∃ W,(wr.alloc (.cells #[.int .u64 x.key,.int .u32 x.ck,.int .i64 x.off,.int .i64 x.size] 49)).drewN nq=W:=⟨_,rfl⟩
   have Kr:=zh (show Below wr.heap.size wr W by rw[<- hW];exact below_drewN ((aj _ _).alloc (ag _) _) _);have x0:W.cell? ⟨wr.heap.size,0,none⟩=some (.int .u64 x.key):=by rw[<- hW];simp
   have x1:W.cell? ⟨wr.heap.size,1,none⟩=some (.int .u32 x.ck):=by rw[<- hW];simp
   have x2:W.cell? ⟨wr.heap.size,2,none⟩=some (.int .i64 x.off):=by rw[<- hW];simp
   have x3:W.cell? ⟨wr.heap.size,3,none⟩=some (.int .i64 x.size):=by rw[<- hW];simp
   rw[hW];clear hW c0 c1 c2 c3 j1 hd;have Vi:=zh (zE Ho.o Kr.o);have mA:=zh (zA Hb.o Kr.o);have hW1:=mA.o.size;go_wp2_with (at_builtin;go_must (refine Qs rfl (.tmp 38) (.tmp 40) rfl k rfl rfl (Vi.o.alloc _) T8.o (by omega) (Rd.new _ 4 (jk x) 49 1 rfl (by decide)) ?_);intro w4 fw gI);have iP:=zh fw;have gq:=zh ((mA.o.alloc hW1 _).grown gI (by simp;omega) (by intro r hr;injection hr with hr;omega));clear fw gI;go_wp2_with fail;exact ⟨⟨k+1,i+1,_,_,rfl,by go_num,by omega,FT.o,iP.o,gq.o⟩,by simp[intOf];omega⟩
  have hd:((i:Int)+1==(n:Int))=false:=beq_eq_false_iff_ne.2 (by omega);have T9:i+1<n:=by omega
  have i2:(i:Int)+1<(n:Int):=by omega
  have i3:(0:Int)<=(i:Int)+1:=by omega
  have i4:((i:Int)+1).toNat=i+1:=by omega
  obtain ⟨_,_,e,d0,_,_,_⟩:=(xF (zr Ho.o)).at T9;injection e with e;injection e with e1 e2;subst e1 e2;simp only[aN] at d0;rw[Hp.o.at (Nat.le_succ _)] at d0;have OJ:=zh (fun h=>Kq.o (Or.inr h));have oD:=zh (OI.o T9);generalize (eA d (i+1)).key=y at *;have hne:∀ o n,((wr.alloc o).drewN n).cell? ⟨g,(i+1)*4,none⟩=some (.int .u64 y):=fun o n=>Below.keeps (below_drewN ((aj _ _).alloc (ag _) o) n) _ _ d0
  by_cases Iu:y=(eA d i).key
  ·have sx:=zh (oD.o Iu);generalize eA d i=x at *;have hd2:(y != x.key)=false:=by rw[Iu];simp
   clear Iu;go_wp2_with fail
   go_quiet (fail)
   have Kr:Hid (Below wr.heap.size wr ((wr.alloc (.cells #[.int .u64 x.key,.int .u32 x.ck,.int .i64 x.off,.int .i64 x.size] 49)).drewN nq)):=zh (below_drewN ((aj _ _).alloc (ag _) _) _);clear j1 hd i2 i3 i4;go_wp2_with fail;exact ⟨⟨k,i+1,_,_,rfl,by go_num,by omega,sx.o,zE Ho.o Kr.o,zA Hb.o Kr.o⟩,by simp[intOf];omega⟩
  have FT:=zh (OJ.o Iu);have hd2:(y != (eA d i).key)=true:=bne_iff_ne.2 Iu;clear Iu;generalize eA d i=x at *;go_wp2_with fail
  go_quiet (fail)
  obtain ⟨W,hW⟩:∃ W,(wr.alloc (.cells #[.int .u64 x.key,.int .u32 x.ck,.int .i64 x.off,.int .i64 x.size] 49)).drewN nq=W:=⟨_,rfl⟩
  have Kr:=zh (show Below wr.heap.size wr W by rw[<- hW];exact below_drewN ((aj _ _).alloc (ag _) _) _);have x0:W.cell? ⟨wr.heap.size,0,none⟩=some (.int .u64 x.key):=by rw[<- hW];simp
  have x1:W.cell? ⟨wr.heap.size,1,none⟩=some (.int .u32 x.ck):=by rw[<- hW];simp
  have x2:W.cell? ⟨wr.heap.size,2,none⟩=some (.int .i64 x.off):=by rw[<- hW];simp
  have x3:W.cell? ⟨wr.heap.size,3,none⟩=some (.int .i64 x.size):=by rw[<- hW];simp
  rw[hW];clear hW c0 c1 c2 c3 j1 hd i2 i3 i4 hd2 d0 hne;have Vi:=zh (zE Ho.o Kr.o);have mA:=zh (zA Hb.o Kr.o);have hW1:=mA.o.size;go_wp2_with (at_builtin;go_must (refine Qs rfl (.tmp 38) (.tmp 40) rfl k rfl rfl (Vi.o.alloc _) T8.o (by omega) (Rd.new _ 4 (jk x) 49 1 rfl (by decide)) ?_);intro w4 fw gI);have iP:=zh fw;have gq:=zh ((mA.o.alloc hW1 _).grown gI (by simp;omega) (by intro r hr;injection hr with hr;omega));clear fw gI;go_wp2_with fail;exact ⟨⟨k+1,i+1,_,_,rfl,by go_num,by omega,FT.o,iP.o,gq.o⟩,by simp[intOf];omega⟩
 obtain rfl:i=n:=by omega
 have HE:=zh (show out=gu l by
  have h:=Hp.o.all
  rw[List.drop_eq_nil_of_le (by rw[HL.o];exact ag _),show uo []=[] from rfl,cz] at h
  exact h.trans HD.o)
 have HT:=zh (vY Ho.o k hki);have Ah:=zh Hp.o.pre;go_wp2_with fail;go_ret;exact ⟨_,rfl,yW HT.o (by rw[<- wS,Ah.o,HE.o]),Hb.o⟩
def wl (l:List It) (hs:l.length<=1000000):ww l:=by
 cases ha:Er l with
 |true=>exact zHH l ((tS l).1 ha) hs
 |false=>exact zG9 l ha hs
def itE {α:Sort _} (x y:It) (a b:α):(if x.key=y.key then if x.ck=y.ck then if x.off=y.off then if x.size=y.size then a else b else b else b else b)=if x=y then a else b:=by
 obtain ⟨x1,x2,x3,x4⟩:=x;obtain ⟨y1,y2,y3,y4⟩:=y;simp only[It.mk.injEq]
 by_cases h1:x1=y1<;>by_cases h2:x2=y2<;>by_cases h3:x3=y3<;>by_cases h4:x4=y4<;>simp[h1,h2,h3,h4]
def zN6 (x y:It) (w:World):(binOp .neq 49 (mg x) (mg y)).run prog w=.ok (.bool (!decide (x=y))) w:=by
 have u1:=underlying24;have u2:=underlying47;have u3:=underlying2;have u4:=underlying3;have hS:prog.underlying 49=some (.struct (prog.fieldsOf 49)):=by kernel_rfl
 have hp:prog.stoodInHeld 49=false:=by kernel_rfl
 rw[run_neq_struct,show (10000:Nat)=9999+1 from rfl,run_equalIn_agg w 9999 49 _ _ hS hp];simp only[Program.fieldsOf,underlying49]
 go_simp
 exact itE x y _ _|>.trans (by by_cases e:x=y<;>simp[e])
def zL2 {l m:List It} (h:l.length=m.length) (h':∀ j,j<l.length->eA l j=eA m j):l=m:=by
 refine List.ext_getElem h fun j h1 h2=>?_
 have:=h' j h1;unfold eA at this
 rwa [aw,aw,aA h1,aA h2] at this
def zLR (va vb:Value) (l m:List It) (w:World) (ha:lg w va l) (hb:lg w vb m) :
  Calls prog 158 #[va,vb] w fun e w'=>e=.returned (.bool (decide (l=m)))/\Below w.heap.size w w':=by
 obtain ⟨a1,c1,rfl,p1,p2⟩:=ha.shape;obtain ⟨a2,c2,rfl,_,_⟩:=hb.shape;have hm:=C7 p1 p2
 by_cases hl:l.length=m.length
 ·have HT:Hid ((∀ j,j<l.length->eA l j=eA m j)->l=m):=zh (zL2 hl);rw[<- hl] at hb |-;generalize hn:l.length=n at *;have Ha:=zh ha;have Hb:=zh hb;have hnn:((n:Int) != (n:Int))=false:=by simp
  clear ha hb hl hn p1 p2
  go_enter func158,ntmps158
  go_wp2_with fail;clear hnn
  go_loopw [5] (fun kv wr=>∃ k:Nat,kv=.int .i64 (k:Int)/\k<=n/\(∀ j,j<k->eA l j=eA m j)/\Below w.heap.size w wr) (fun kv _=>n-(intOf kv).toNat)
  case atStart=>exact ⟨0,rfl,by omega,fun j hj=>absurd hj (by omega),aj _ _⟩
  obtain ⟨k,rfl,hk,heq,rE⟩:=hrel;have Heq:=zh heq;have F9:=zh rE;clear heq rE
  by_cases hlt:k<n
  ·obtain ⟨b1,o1,rfl,x0,x1,x2,x3⟩:=(Ha.o.bb F9.o).at hlt;obtain ⟨b2,o2,rfl,y0,y1,y2,y3⟩:=(Hb.o.bb F9.o).at hlt;have hq:=zN6 (eA l k) (eA m k);have HN:Hid (eA l k≠eA m k->decide (l=m)=false):=zh (fun h=>aC fun e=>h (by rw[e]));generalize hx:eA l k=x at *;generalize hy:eA m k=y at *;have HX:=zh hx;have HY:=zh hy;have i1:(k:Int)<(n:Int):=by omega
   obtain ⟨r,hr⟩:∃ r,decide (x=y)=r:=⟨_,rfl⟩
   rw[hr] at hq;have HR:=zh hr;clear hx hy hr
   cases r
   ·go_wp2_with fail
    go_quiet (fail)
    clear i1 hq;go_wp2_with fail;go_ret;exact ⟨zJ (HN.o (cN HR.o)).symm,below_drewN F9.o _⟩
   go_wp2_with fail
   go_quiet (fail)
   clear i1 hq;go_wp2_with fail;refine ⟨⟨k+1,by go_num,by omega,fun j hj=>?_,below_drewN F9.o _⟩,by simp[intOf];omega⟩
   by_cases e:j=k
   ·rw[e,HX.o,HY.o];exact aZ HR.o
   exact Heq.o j (by omega)
  obtain rfl:k=n:=by omega
  have HN:Hid (decide (l=m)=true):=zh (aD (HT.o Heq.o));go_wp2_with fail;go_ret;exact ⟨zJ HN.o.symm,F9.o⟩
 have hne:((l.length:Int) != (m.length:Int))=true:=by rw[bne_iff_ne];omega
 have HN:Hid (decide (l=m)=false):=zh (aC fun e=>hl (by rw[e]));clear hl ha hb
 go_enter func158,ntmps158
 go_wp2_with fail;go_ret;exact ⟨zJ HN.o.symm,aj _ _⟩
def zIu (v:Value) (l:List It) (key:Int) (w:World) (h:lg w v l) (hs:l.length<=1000000) :
  Calls prog 165 #[v,.int .u64 key] w fun e w'=>e=.returned (.tuple #[mg ((gF (gu l) key).getD fZ),.bool (gF (gu l) key).isSome])/\Below w.heap.size w w':=by
 obtain ⟨a,cap,rfl,_,_⟩:=h.shape;have HA:=zh (fun r (h1:r<l.length) h2 h3=>zMJ (l:=l) (key:=key) (r:=r) h1 h2 h3);have HN:=zh (fun h=>zIz (l:=l) (key:=key) h);generalize gF (gu l) key=ff at *;generalize hn:l.length=n at *;have Hr:=zh h;have HW:Hid (Below w.heap.size w (w.alloc (.cells #[.int .u64 0,.int .u32 0,.int .i64 0,.int .i64 0] 49))):=zh (yH w fZ);have HX:=zh (mr.new w fZ);clear h hn
 go_enter func165,ntmps165
 go_wp2_with fail
 go_loop [6] (fun iv=>∃ i:Nat,iv=.int .i64 ((i:Int)-1)/\i<=n/\Hid (∀ j,i<=j->j<n->(eA l j).key≠key)) (fun iv=>(intOf iv+1).toNat)
 case atStart=>exact ⟨n,by go_num,ag _,fun j h1 h2=>by omega⟩
 obtain ⟨i,rfl,hi,hno⟩:=hrel
 by_cases h0:0<i
 ·obtain ⟨r,rfl⟩:∃ r,i=r+1:=⟨i-1,by omega⟩
  obtain ⟨b,off,rfl,c0,c1,c2,c3⟩:=(Hr.o.bb HW.o).at (show r<n by omega);have e0:((r+1:Nat):Int)-1=(r:Int):=by omega
  have i1:(r:Int)<(n:Int):=by omega
  by_cases hk:(eA l r).key=key
  ·have HF:=zh (HA.o r (by omega) hk (fun j h1 h2=>hno.o j (by omega) h2));have hd:((eA l r).key==key)=true:=beq_iff_eq.2 hk;rw[e0];generalize eA l r=x at *;clear hk e0 h0;go_wp2_with fail;exact au (v:=.tuple #[mg x,.bool true]) (by simp[results,results165,go_sem]) rfl ⟨by rw[HF.o];rfl,yH w x⟩
  have hd:((eA l r).key==key)=false:=beq_eq_false_iff_ne.2 hk;have HK:=zh hk;rw[e0];generalize hx:(eA l r).key=x at *;have fK:=zh hx;clear hk e0 h0 hx;go_wp2_with fail;refine ⟨⟨r,by go_num,by omega,fun j h1 h2=>?_⟩,by simp[intOf]⟩
  by_cases e:j=r
  ·rw[e,fK.o];exact HK.o
  exact hno.o j (by omega) h2
 obtain rfl:i=0:=by omega
 have HF:=zh (HN.o (fun j hj=>hno.o j (aq _) hj));go_wp2_with fail;exact au (v:=.tuple #[mg fZ,.bool false]) (by simp[results,results165,go_sem,fZ]) rfl ⟨by rw[HF.o];rfl,yH w fZ⟩
def kx (W:World) (x:It):Rd (W.alloc (xX x)) 4 (.slice (some ⟨W.heap.size,0,none⟩) 1 1) 1 (jk x):=Rd.new W 4 (jk x) 49 1 rfl (by decide)
def zIg (v:Value) (l:List It) (key:Int) (w:World) (h:lg w v l) (hs:l.length<=1000000) :
  Calls prog 126 #[v,.int .u64 key] w fun e w'=>∃ v',e=.returned v'/\fR w' w.heap.size v' (iB (gu l) key)/\Below w.heap.size w w':=by
 have HS:=zh (qp v l w h hs);have hsl:=xB l;obtain ⟨a,cap,rfl,_,_⟩:=h.shape;generalize gu l=s at *;have HD:=zh (fun i (h:i<s.length)=>show iB (s.take (i+1)) key=iB (s.take i) key++if (eA s i).key=key then [] else [eA s i] by rw[xT h,zKh]);have HE:=zh (show iB (s.take s.length) key=iB s key by rw[bQ]);have HL:=zh (fun i=>show (iB (s.take i) key).length<=s.length from ak (tM _ _) (by rw[aB];omega));clear h
 go_enter func126,ntmps126
 go_wp2_with fail;refine HS.o.mono ?_;rintro e w1 ⟨v1,rfl,hown1,hb1⟩;have HR:=zh hown1.rd;have eV:=zh hb1;have hB1:=hb1.size;clear hown1 hb1 HS;obtain ⟨sa,sc,rfl,hs1,hs2⟩:=HR.o.shape;have hs3:=C7 hs1 hs2;generalize hn:s.length=n at *;clear hn;go_wp2_with fail
 go_loopw [5,6] (fun ov iv wr=>∃ i:Nat,iv=.int .i64 (i:Int)/\i<=n/\fR wr w1.heap.size ov (iB (s.take i) key)/\Below w1.heap.size w1 wr) (fun _ iv _=>n-(intOf iv).toNat)
 case atStart=>exact ⟨0,by go_num,by omega,aP _ _ _ _,aj _ _⟩
 obtain ⟨i,rfl,hi,hown,hb⟩:=hrel;have HO:Hid (wr.ownsRow w1.heap.size 49 4 _ (iB (s.take i) key).length (zg (iB (s.take i) key))):=zh (hown);have Hb:=zh hb;have hB:=hb.size;clear hown hb
 by_cases hlt:i<n
 ·obtain ⟨b,off,rfl,c0,c1,c2,c3⟩:=(HR.o.bb Hb.o).at hlt;have i1:(i:Int)<(n:Int):=by omega
  have Sh:=zh (HD.o i hlt);have hLi:=HL.o i
  by_cases hk:(eA s i).key=key
  ·have hd:((eA s i).key != key)=false:=by rw[hk];simp
   rw[ah hk,cz] at Sh;generalize eA s i=x at *;clear hk;go_wp2_with fail;exact ⟨⟨i+1,by go_num,by omega,by rw[Sh.o];exact HO.o,Hb.o⟩,by simp[intOf];omega⟩
  have hd:((eA s i).key != key)=true:=bne_iff_ne.2 hk;rw[ai hk] at Sh;generalize eA s i=x at *;generalize iB (s.take i) key=o at *;clear hk;go_wp2_with (at_builtin;go_must (refine zP (m:=1) (n:=o.length) rfl (.tmp 22) (.tmp 27) 33 rfl yO w1.heap.size rfl (HO.o.alloc _) rfl (kx wr x) (zv [x]) (by unfold maxLen;omega) (by omega) (by simp;omega) ?_);intro v8 w8 gw iW Dd;clear Dd);have jP:Hid (fR w8 w1.heap.size v8 (o++[x])):=zh (yW gw (by simp only[zy,xj]));have nV:=zh (zK (Hb.o.alloc hB (xX x)) (HO.o.alloc (xX x)) (by simp;omega) iW);clear gw iW;go_wp2_with fail;exact ⟨⟨i+1,by go_num,by omega,by rw[Sh.o];exact jP.o,nV.o⟩,by simp[intOf];omega⟩
 obtain rfl:i=n:=by omega
 go_wp2_with fail;go_ret;exact ⟨_,rfl,by rw[<- HE.o];exact HO.o.mono hB1,eV.o.trans (Hb.o.mono hB1)⟩
def zK9 (v:Value) (l:List It) (x:It) (w:World) (h:lg w v l) (hs:l.length<=1000000) :
  Calls prog 128 #[v,mg x] w fun e w'=>∃ v',e=.returned v'/\fR w' w.heap.size v' (ins (gu l) x)/\Below w.heap.size w w':=by
 have HS:=zh (fun w h=>qp v l w h hs);have HBX:=zh (mr.new w x);have eP:=zh (yH w x);have Hr:=zh (h.bb eP.o);have hsl:=xB l;have hsa:=zh (vT l);obtain ⟨a,cap,rfl,_,_⟩:=h.shape;generalize gu l=s at *;have pX:=zh (fun out (h:iT s x s.length true out)=>h.UT);have HE0:=zh (fun out (h:iT s x s.length false out)=>h.UU);have Vj:=zh (fun i out (h:iT s x i false out) (hi:i<s.length)=>h.low hi);have OM:=zh (fun i out (h:iT s x i false out) (hi:i<s.length)=>h.here hi);have Ln:=zh (fun i out (h:iT s x i false out) (hi:i<s.length)=>h.ahead hi);have OO:=zh (fun i out (h:iT s x i true out) (hi:i<s.length)=>h.more hi);have Cj:=zh (fun i out (h:iT s x i true out) (hi:i<s.length)=>h.gt hsa.o hi);clear h
 go_enter func128,ntmps128
 go_wp2_with fail;refine (HS.o _ Hr.o).mono ?_;rintro e w1 ⟨v1,rfl,hown1,hb1⟩;have HR:=zh hown1.rd;have fG:=zh (HBX.o.bb hb1);have eV:=zh (zA eP.o hb1);have hB1:=eV.o.size;clear hown1 hb1 HS HBX eP;obtain ⟨sa,sc,rfl,hs1,hs2⟩:=HR.o.shape;have hs3:=C7 hs1 hs2;generalize hn:s.length=n at *;clear hn;go_wp2_with fail
 go_loopw [5,6,7] (fun ov dv iv wr=>∃ (i:Nat) (d:Bool) (out:List It),dv=.bool d/\iv=.int .i64 (i:Int)/\i<=n/\Hid (iT s x i d out)/\fR wr w1.heap.size ov out/\Below w1.heap.size w1 wr) (fun _ _ iv _=>n-(intOf iv).toNat)
 case atStart=>exact ⟨0,false,[],rfl,by go_num,by omega,iT.start s x,aP _ _ _ _,aj _ _⟩
 obtain ⟨i,d,out,rfl,rfl,hi,HP,hown,hb⟩:=hrel;have HO:Hid (wr.ownsRow w1.heap.size 49 4 _ out.length (zg out)):=zh (hown);have Hb:=zh hb;have hB:=hb.size;have hlo:=HP.o.len;obtain ⟨x0,x1,x2,x3⟩:=fG.o.bb hb;clear hown hb
 by_cases hlt:i<n
 ·obtain ⟨b,off,rfl,c0,c1,c2,c3⟩:=(HR.o.bb Hb.o).at hlt;have i1:(i:Int)<(n:Int):=by omega
  have mj:=zh (fG.o.bb Hb.o);have OP:Hid (∃ y,eA s i=y):=zh (⟨_,rfl⟩);obtain ⟨y,hy⟩:=OP.o;have HY:=zh hy;have Jh:=Hb;have Ji:=HO;rw[hy] at c0 c1 c2 c3
  cases d with
  |true =>
   have HG:=Cj.o i out HP.o hlt;have HM:=zh (OO.o i out HP.o hlt);rw[hy] at HG HM;have hd:(y.key != x.key)=true:=bne_iff_ne.2 (by omega);clear hy OP HG Hb HO;go_wp2_with fail
   go_quiet (fail)
   obtain ⟨wa,hW,nW⟩:∃ wa,wr.drewN nq=wa/\Below wr.heap.size wr wa:=⟨_,rfl,below_drewN (aj _ _) _⟩
   rw[hW];clear hW;have lG:=zh (zA Jh.o nW);have A7:=zh (zE Ji.o nW);clear c0 c1 c2 c3 x0 x1 x2 x3 nW;obtain ⟨_,_,e,c0,c1,c2,c3⟩:=(HR.o.bb lG.o).at hlt;injection e with e;injection e with e1 e2;subst e1 e2;rw[HY.o] at c0 c1 c2 c3;obtain ⟨x0,x1,x2,x3⟩:=fG.o.bb lG.o;go_wp2_with fail
   go_quiet (fail)
   obtain ⟨wb,hW,De⟩:∃ wb,wa.drewN nq=wb/\Below wa.heap.size wa wb:=⟨_,rfl,below_drewN (aj _ _) _⟩
   rw[hW];clear hW;have lH:=zh (zA lG.o De);have A8:=zh (zE A7.o De);clear c0 c1 c2 c3 x0 x1 x2 x3 De;obtain ⟨_,_,e,c0,c1,c2,c3⟩:=(HR.o.bb lH.o).at hlt;injection e with e;injection e with e1 e2;subst e1 e2;rw[HY.o] at c0 c1 c2 c3;obtain ⟨x0,x1,x2,x3⟩:=fG.o.bb lH.o;go_wp2_with (at_builtin;go_must (refine zP (m:=1) rfl (.tmp 40) (.tmp 45) 33 rfl yO w1.heap.size rfl (A8.o.alloc _) rfl (kx wb y) (zv [y]) (by unfold maxLen;omega) (by omega) (by have:=lH.o.size;simp;omega) ?_);intro Vk wc gw iW Dd;clear Dd);have Ck:Hid (wc.ownsRow w1.heap.size 49 4 Vk (out++[y]).length (zg (out++[y]))):=zh (yW gw (by simp only[zy,xj]));have oI:=zh (zK (lH.o.alloc lH.o.size (xX y)) (A8.o.alloc (xX y)) (by have:=lH.o.size;simp;omega) iW);clear gw iW;go_wp2_with fail
   exact ⟨⟨i+1,true,_,rfl,by go_num,by omega,HM,Ck.o,oI.o⟩,by simp[intOf];omega⟩
  |false =>
   rcases Int.lt_trichotomy y.key x.key with hk|hk|hk
   ·have HM:=zh (Vj.o i out HP.o hlt (by rw[hy];exact hk));rw[hy] at HM;have hd:(y.key != x.key)=true:=bne_iff_ne.2 (by omega);have hd2:decide (x.key<=y.key)=false:=aC (by omega);clear hy OP hk Hb HO;go_wp2_with fail
    go_quiet (fail)
    obtain ⟨wa,hW,nW⟩:∃ wa,wr.drewN nq=wa/\Below wr.heap.size wr wa:=⟨_,rfl,below_drewN (aj _ _) _⟩
    rw[hW];clear hW;have lG:=zh (zA Jh.o nW);have A7:=zh (zE Ji.o nW);clear c0 c1 c2 c3 x0 x1 x2 x3 nW;obtain ⟨_,_,e,c0,c1,c2,c3⟩:=(HR.o.bb lG.o).at hlt;injection e with e;injection e with e1 e2;subst e1 e2;rw[HY.o] at c0 c1 c2 c3;obtain ⟨x0,x1,x2,x3⟩:=fG.o.bb lG.o;go_wp2_with fail
    go_quiet (fail)
    obtain ⟨wb,hW,De⟩:∃ wb,wa.drewN nq=wb/\Below wa.heap.size wa wb:=⟨_,rfl,below_drewN (aj _ _) _⟩
    rw[hW];clear hW;have lH:=zh (zA lG.o De);have A8:=zh (zE A7.o De);clear c0 c1 c2 c3 x0 x1 x2 x3 De;obtain ⟨_,_,e,c0,c1,c2,c3⟩:=(HR.o.bb lH.o).at hlt;injection e with e;injection e with e1 e2;subst e1 e2;rw[HY.o] at c0 c1 c2 c3;obtain ⟨x0,x1,x2,x3⟩:=fG.o.bb lH.o;go_wp2_with (at_builtin;go_must (refine zP (m:=1) rfl (.tmp 40) (.tmp 45) 33 rfl yO w1.heap.size rfl (A8.o.alloc _) rfl (kx wb y) (zv [y]) (by unfold maxLen;omega) (by omega) (by have:=lH.o.size;simp;omega) ?_);intro Vk wc gw iW Dd;clear Dd);have Ck:Hid (wc.ownsRow w1.heap.size 49 4 Vk (out++[y]).length (zg (out++[y]))):=zh (yW gw (by simp only[zy,xj]));have oI:=zh (zK (lH.o.alloc lH.o.size (xX y)) (A8.o.alloc (xX y)) (by have:=lH.o.size;simp;omega) iW);clear gw iW;go_wp2_with fail
    exact ⟨⟨i+1,false,_,rfl,by go_num,by omega,HM,Ck.o,oI.o⟩,by simp[intOf];omega⟩
   ·have HM:=zh (OM.o i out HP.o hlt (by rw[hy];exact hk));have hd:(y.key != x.key)=false:=by rw[hk];simp
    have hd2:decide (x.key<=y.key)=true:=aD (by omega);have Fg:x.key<=y.key:=by omega
    clear hy OP hk Hb HO;go_wp2_with fail
    go_quiet (fail)
    obtain ⟨wa,hW,nW⟩:∃ wa,wr.drewN nq=wa/\Below wr.heap.size wr wa:=⟨_,rfl,below_drewN (aj _ _) _⟩
    rw[hW];clear hW;have lG:=zh (zA Jh.o nW);have A7:=zh (zE Ji.o nW);clear c0 c1 c2 c3 x0 x1 x2 x3 nW;obtain ⟨_,_,e,c0,c1,c2,c3⟩:=(HR.o.bb lG.o).at hlt;injection e with e;injection e with e1 e2;subst e1 e2;rw[HY.o] at c0 c1 c2 c3;obtain ⟨x0,x1,x2,x3⟩:=fG.o.bb lG.o;go_upto_region 9 with (at_builtin;go_must (refine zP (m:=1) rfl (.tmp 28) (.tmp 30) 33 rfl yO w1.heap.size rfl (A7.o.alloc _) rfl (kx wa x) (zv [x]) (by unfold maxLen;omega) (by omega) (by have:=lG.o.size;simp;omega) ?_);intro Vl wb gw iW Dd;clear Dd);have A8:Hid (wb.ownsRow w1.heap.size 49 4 Vl (out++[x]).length (zg (out++[x]))):=zh (yW gw (by simp only[zy,xj]));have lH:=zh (zK (lG.o.alloc lG.o.size (xX x)) (A7.o.alloc (xX x)) (by have:=lG.o.size;simp;omega) iW);clear gw iW;clear c0 c1 c2 c3 x0 x1 x2 x3
    obtain ⟨_,_,e,c0,c1,c2,c3⟩:=(HR.o.bb lH.o).at hlt;injection e with e;injection e with e1 e2;subst e1 e2;rw[HY.o] at c0 c1 c2 c3;obtain ⟨x0,x1,x2,x3⟩:=fG.o.bb lH.o;go_wp2_with fail
    go_quiet (fail)
    obtain ⟨wc,hW,Df⟩:∃ wc,wb.drewN nq=wc/\Below wb.heap.size wb wc:=⟨_,rfl,below_drewN (aj _ _) _⟩
    rw[hW];clear hW;have oI:=zh (zA lH.o Df);have Ck:=zh (zE A8.o Df);clear c0 c1 c2 c3 x0 x1 x2 x3 Df;obtain ⟨_,_,e,c0,c1,c2,c3⟩:=(HR.o.bb oI.o).at hlt;injection e with e;injection e with e1 e2;subst e1 e2;rw[HY.o] at c0 c1 c2 c3;obtain ⟨x0,x1,x2,x3⟩:=fG.o.bb oI.o;go_wp2_with fail;exact ⟨⟨i+1,true,_,rfl,by go_num,by omega,HM,Ck.o,oI.o⟩,by simp[intOf];omega⟩
   have HM:=zh (Ln.o i out HP.o hlt (by rw[hy];exact hk));rw[hy] at HM;have hd:(y.key != x.key)=true:=bne_iff_ne.2 (by omega);have hd2:decide (x.key<=y.key)=true:=aD (by omega);have Fg:x.key<=y.key:=by omega
   clear hy OP hk Hb HO;go_wp2_with fail
   go_quiet (fail)
   obtain ⟨wa,hW,nW⟩:∃ wa,wr.drewN nq=wa/\Below wr.heap.size wr wa:=⟨_,rfl,below_drewN (aj _ _) _⟩
   rw[hW];clear hW;have lG:=zh (zA Jh.o nW);have A7:=zh (zE Ji.o nW);clear c0 c1 c2 c3 x0 x1 x2 x3 nW;obtain ⟨_,_,e,c0,c1,c2,c3⟩:=(HR.o.bb lG.o).at hlt;injection e with e;injection e with e1 e2;subst e1 e2;rw[HY.o] at c0 c1 c2 c3;obtain ⟨x0,x1,x2,x3⟩:=fG.o.bb lG.o;go_upto_region 9 with (at_builtin;go_must (refine zP (m:=1) rfl (.tmp 28) (.tmp 30) 33 rfl yO w1.heap.size rfl (A7.o.alloc _) rfl (kx wa x) (zv [x]) (by unfold maxLen;omega) (by omega) (by have:=lG.o.size;simp;omega) ?_);intro Vl wb gw iW Dd;clear Dd);have A8:Hid (wb.ownsRow w1.heap.size 49 4 Vl (out++[x]).length (zg (out++[x]))):=zh (yW gw (by simp only[zy,xj]));have lH:=zh (zK (lG.o.alloc lG.o.size (xX x)) (A7.o.alloc (xX x)) (by have:=lG.o.size;simp;omega) iW);clear gw iW;clear c0 c1 c2 c3 x0 x1 x2 x3
   obtain ⟨_,_,e,c0,c1,c2,c3⟩:=(HR.o.bb lH.o).at hlt;injection e with e;injection e with e1 e2;subst e1 e2;rw[HY.o] at c0 c1 c2 c3;obtain ⟨x0,x1,x2,x3⟩:=fG.o.bb lH.o;go_wp2_with fail
   go_quiet (fail)
   obtain ⟨wc,hW,Df⟩:∃ wc,wb.drewN nq=wc/\Below wb.heap.size wb wc:=⟨_,rfl,below_drewN (aj _ _) _⟩
   rw[hW];clear hW;have oI:=zh (zA lH.o Df);have Ck:=zh (zE A8.o Df);clear c0 c1 c2 c3 x0 x1 x2 x3 Df;obtain ⟨_,_,e,c0,c1,c2,c3⟩:=(HR.o.bb oI.o).at hlt;injection e with e;injection e with e1 e2;subst e1 e2;rw[HY.o] at c0 c1 c2 c3;obtain ⟨x0,x1,x2,x3⟩:=fG.o.bb oI.o;go_wp2_with (at_builtin;go_must (refine zP (m:=1) rfl (.tmp 40) (.tmp 45) 33 rfl yO w1.heap.size rfl (Ck.o.alloc _) rfl (kx wc y) (zv [y]) (by unfold maxLen;simp only[ax,List.length_singleton];omega) (by simp only[ax,List.length_singleton];omega) (by have:=oI.o.size;simp;omega) ?_);intro vwd wd gw iW Dd;clear Dd);have Vm:Hid (wd.ownsRow w1.heap.size 49 4 vwd ((out++[x])++[y]).length (zg ((out++[x])++[y]))):=zh (yW gw (by simp only[zy,xj]))
   have Vn:=zh (zK (oI.o.alloc oI.o.size (xX y)) (Ck.o.alloc (xX y)) (by have:=oI.o.size;simp;omega) iW);clear gw iW;go_wp2_with fail;exact ⟨⟨i+1,true,_,rfl,by go_num,by omega,HM,Vm.o,Vn.o⟩,by simp[intOf];omega⟩
 obtain rfl:i=n:=by omega
 cases d with
 |true =>
  have HE:=zh (pX.o out HP.o);go_wp2_with fail;go_ret;exact ⟨_,rfl,by rw[<- HE.o];exact HO.o.mono hB1,eV.o.trans (Hb.o.mono hB1)⟩
 |false =>
  have HE:=zh (HE0.o out HP.o);go_wp2_with (at_builtin;go_must (refine zP (m:=1) (n:=out.length) rfl (.tmp 49) (.tmp 51) 33 rfl yO w1.heap.size rfl (HO.o.alloc _) rfl (kx wr x) (zv [x]) (by unfold maxLen;omega) (by omega) (by simp;omega) ?_);intro v8 w8 gw iW Dd;clear Dd);have jP:Hid (fR w8 w1.heap.size v8 (out++[x])):=zh (yW gw (by simp only[zy,xj]));have nV:=zh (zK (Hb.o.alloc hB (xX x)) (HO.o.alloc (xX x)) (by simp;omega) iW);clear gw iW;go_wp2_with fail;go_ret;exact ⟨_,rfl,by rw[<- HE.o];exact jP.o.mono hB1,eV.o.trans (nV.o.mono hB1)⟩
def zN (M:Mp):List It:=if xQ M=true then gu (vp M) else []
def zl (M:Mp) (key:Int):Option It:=if xQ M=true then gF (M.st (zp key)) key else none
def xC (M:Mp):mK (zN M):=by
 unfold zN
 split
 ·exact vT _
 exact fun j h=>by simp at h
def uI (M:Mp) (key:Int):gF (gu (zN M)) key=zl M key:=by
 rw[yb (xC M)];unfold zN zl
 split
 ·rename_i h;exact ((zi M).1 h).gF key
 rfl
def qF {M:Mp} (h:∀ i,i<8->(M.st i).length<=10000):(vp M).length<=80000:=kR (M:=M) (B:=10000) h 8 (ag _)
def wn {M:Mp} (h:∀ i,i<8->(M.st i).length<=10000):(zN M).length<=80000:=by
 unfold zN
 split
 ·exact ak (xB _) (qF h)
 simp
def zIG (v:Value) (l:List It) (w:World) (h:lg w v l) (hs:l.length<=80000) :
  Calls prog 132 #[.slice none 0 0,v,.slice none 0 0] w fun e w'=>∃ v',e=.returned v'/\fR w' w.heap.size v' (gu l)/\Below w.heap.size w w':=by
 have:=zJA (.slice none 0 0) v (.slice none 0 0) [] l [] w (xF (zr (aP w 0 49 4))) h (vR (aP w 0 24 1)) (wl _ (by simp)) (wl _ (by omega)) (wl _ (by have:=xB l;rw[ax];have h0:=eo [] (gu []);rw[ZQ] at h0 |-;simp at h0;simp[h0];omega)) (by simp) (by omega)
 rwa [zMR] at this
def zCN (s:Sl) (M:Mp) (w:World) (h:fN w s M.st) (hs:∀ i,i<8->(M.st i).length<=10000) :
  Calls prog 89 #[yD s M.live M.ew] w fun e w'=>∃ v',e=.returned v'/\fR w' w.heap.size v' (zN M)/\Below w.heap.size w w':=by
 have HV:=zh (fun W h=>uM s M W h (fun i hi=>ak (hs i hi) (by decide)));have eO:=zh (eZ.new w s M.live M.ew 36);have eP:=zh (zY w s M.live M.ew 36);have Hr:=zh h;have HC:=zh (fun b W hx h=>zG3 b s M.live M.ew M.st W hx h (ak (qF hs) (by decide)));have HM:=zh (fun v W h=>zIG v (vp M) W h (qF hs));have HI:Hid (zN M=if xQ M=true then gu (vp M) else []):=zh (rfl);rw[show cat M.st 8=vp M from rfl] at HC;clear h hs;generalize xQ M=vb at *;generalize vp M=A at *;generalize zN M=I at *;obtain ⟨f,L,G⟩:=M;dsimp only at *
 go_enter func89,ntmps89
 go_wp2_with fail;refine (HV.o _ (Hr.o.bb eP.o)).mono ?_;rintro e w1 ⟨rfl,hb1⟩;have eV:=zh (zA eP.o hb1);have fG:=zh (eO.o.bb hb1);have fL:=zh (Hr.o.bb eV.o);clear hb1 HV eO eP
 cases vb
 ·go_wp2_with fail;go_ret;exact ⟨_,rfl,by rw[HI.o,ai (by decide)];exact aP _ _ _ _,eV.o⟩
 rw[ah rfl] at HI;go_wp2_with fail;refine (HC.o _ _ fG.o fL.o).mono ?_;rintro e w2 ⟨v2,rfl,eM,hb2⟩;have eX:=zh (zA eV.o hb2);have iq:=zh eM.rd;have HMg:=zh (HM.o v2 w2 eM.rd);clear eM hb2;go_wp2_with fail;refine HMg.o.mono ?_;rintro e w3 ⟨v3,rfl,eB,hb3⟩;have lD:=zh (eB.mono eX.o.size);have f_:=zh (zA eX.o hb3);clear eB hb3;go_wp2_with fail;go_ret;exact ⟨_,rfl,by rw[HI.o];exact lD.o,f_.o⟩
structure iL (W:World) (b:Nat) (x:It):Prop where
 t:mr W b x
 f:∀ i,W.frozen? ⟨b,i,none⟩=false
def iL.new (w:World) (x:It):iL (w.alloc (xX x)) w.heap.size x:=⟨mr.new w x,fun i=>by simp⟩
variable {W:World} {b:Nat}
def iL.lt (h:iL W b x):b<W.heap.size:=bW _ ⟨b,0,none⟩ h.t.c0
def iL.bb {W W':World} {b:Nat} {x:It} (h:iL W b x) (hb:Below W.heap.size W W'):iL W' b x:=⟨h.t.bb hb,fun i=>(hb.frozen (p:=⟨b,i,none⟩) h.lt).trans (h.f i)⟩
def iL.eR (h:iL W b x) {p:Addr} (hp:p.block≠b) (u:Value):iL (W.setCell p u) b x:=by
 have ne:∀ i,p≠⟨b,i,none⟩:=fun i e=>hp (by rw[e])
 exact ⟨⟨(cA (h:=ne 0) ..).trans h.t.c0,(cA (h:=ne 1) ..).trans h.t.c1,(cA (h:=ne 2) ..).trans h.t.c2,(cA (h:=ne 3) ..).trans h.t.c3⟩,fun i=>by simp[h.f]⟩
def iL.oF {c:Nat} (h:iL W b x) (hp:c≠b) (s':Sl) (l' g':Int):iL (yN W c s' l' g') b x:=
 (((((((((h.eR (p:=⟨c,0,none⟩) hp _).eR (p:=⟨c,1,none⟩) hp _).eR (p:=⟨c,2,none⟩) hp _).eR (p:=⟨c,3,none⟩) hp _).eR (p:=⟨c,4,none⟩) hp _).eR (p:=⟨c,5,none⟩) hp _).eR (p:=⟨c,6,none⟩) hp _).eR (p:=⟨c,7,none⟩) hp _).eR (p:=⟨c,8,none⟩) hp _).eR (p:=⟨c,9,none⟩) hp _
def Jj (W:World) (b:Nat) (y:It):World:=(((W.setCell ⟨b,0,none⟩ (.int .u64 y.key)).setCell ⟨b,1,none⟩ (.int .u32 y.ck)).setCell ⟨b,2,none⟩ (.int .i64 y.off)).setCell ⟨b,3,none⟩ (.int .i64 y.size)
def iL.put (h:iL W b x) (y:It):iL (Jj W b y) b y:=⟨h.t.set y,fun i=>by simp[Jj,h.f]⟩
def tP {B:Nat} {w0:World} (h:Below B w0 W) (hb:B<=b) (y:It):Below B w0 (Jj W b y):=(((h.setCell hb _).setCell hb _).setCell hb _).setCell hb _
def zLY (s:Sl) (M:Mp) (w:World) (h:fN w s M.st) (hs:∀ i,i<8->(M.st i).length<=10000) :
  Calls prog 86 #[yD s M.live M.ew] w fun e w'=>e=.returned (.int .i64 ((zN M).length:Int))/\Below w.heap.size w w':=by
 have eP:=zh (zY w s M.live M.ew 36);have HI:=zh (zCN s M _ (h.bb eP.o) hs);generalize zN M=I at *;clear h hs;obtain ⟨f,L,G⟩:=M;dsimp only at *
 go_enter func86,ntmps86
 go_wp2_with fail;refine HI.o.mono ?_;rintro e w1 ⟨v1,rfl,hown1,hb1⟩;have eV:=zh (zA eP.o hb1);obtain ⟨a,c,hv,_⟩:=zG hown1;subst hv;clear hown1 hb1;go_wp2_with fail;go_ret;exact ⟨rfl,eV.o⟩
def zF4 (s:Sl) (M:Mp) (key:Int) (w:World) (h:fN w s M.st) (hs:∀ i,i<8->(M.st i).length<=10000) :
  Calls prog 95 #[yD s M.live M.ew,.int .u64 key] w fun e w'=>e=.returned (.tuple #[mg ((zl M key).getD fZ),.bool (zl M key).isSome])/\Below w.heap.size w w':=by
 have HV:=zh (fun W h=>uM s M W h (fun i hi=>ak (hs i hi) (by decide)));have eO:=zh ((eZ.new w s M.live M.ew 36).bb (yH (w.alloc (.cells (yl s M.live M.ew) 36)) fZ));have Ga:=zh (iL.new (w.alloc (.cells (yl s M.live M.ew) 36)) fZ);rw[show (w.alloc (.cells (yl s M.live M.ew) 36)).heap.size=w.heap.size+1 by simp] at Ga;have eP:=zh (zA (zY w s M.live M.ew 36) (yH (w.alloc (.cells (yl s M.live M.ew) 36)) fZ));have Hr:=zh h;have mh:=wy key;have HF:=zh (fun W h=>ZY (s.v (zp key)) (M.st (zp key)) key W h (wl _ (ak (hs _ mh) (by decide))) (ak (hs _ mh) (by decide)));have HS:=zh (fun W=>td key W);have HI:Hid (zl M key=if xQ M=true then gF (M.st (zp key)) key else none):=zh (rfl);have HA:=zh (fun h:xQ M=true=>yb (uY (((zi M).1 h).ok _ mh)));have sX:=zh (fun W (hb:Below w.heap.size w W)=>(h (zp key) mh).bb hb);clear h hs
 generalize zl M key=o at *;generalize xQ M=vb at *;generalize zp key=k at *;obtain ⟨f,L,G⟩:=M;dsimp only at *
 go_enter func95,ntmps95
 go_wp2_with fail;refine (HV.o _ (Hr.o.bb eP.o)).mono ?_;rintro e w1 ⟨rfl,hb1⟩;have eV:=zh (zA eP.o hb1);have fG:=zh (eO.o.bb hb1);have Nv:=zh (Ga.o.bb hb1);clear hb1 HV eO eP Ga;obtain ⟨d0,d1,d2,d3⟩:=Nv.o.t.q;have F1:=Nv.o.f
 cases vb
 ·have ny:=zh (HI.o.trans (ai (by decide)));go_wp2_with fail;change bodyPost _ _ _ _ _ (Jj w1 (w.heap.size+1) fZ);have hby:=Nv.o.put fZ;have eN:=zh (tP eV.o (Nat.le_succ _) fZ);generalize Jj w1 (w.heap.size+1) fZ=V at *;obtain ⟨y0,y1,y2,y3⟩:=hby.t.q;exact au (v:=.tuple #[mg fZ,.bool false]) (by simp[results,results95,go_sem,y0,y1,y2,y3]) rfl ⟨by rw[ny.o];rfl,eN.o⟩
 have ny:=zh (HI.o.trans (ah rfl));have DU:s.v k=.slice (s.a k) (s.n k) (s.c k):=rfl;have ck:=fG.o.c k mh;have sY:=zh (HF.o w1 (sX.o w1 eV.o));rw[HA.o rfl,<- ny.o] at sY;rw[DU] at ck sY;generalize s.a k=sa at *;generalize s.n k=sn at *;generalize s.c k=sc at *;clear DU HF sX HA;go_wp2_with fail;refine (HS.o _).mono ?_;rintro e w2 ⟨rfl,rfl⟩;go_wp2_with fail;refine sY.o.mono ?_;rintro e w3 ⟨rfl,hb3⟩;have Lp:=zh (Nv.o.bb hb3);have f_:=zh (zA eV.o hb3);clear hb3 d0 d1 d2 d3 F1;obtain ⟨d0,d1,d2,d3⟩:=Lp.o.t.q;have F1:=Lp.o.f;obtain ⟨y,hy⟩:∃ y,o.getD fZ=y:=⟨_,rfl⟩
 have Hy:=zh hy;rw[hy];clear hy;go_wp2_with fail;change bodyPost _ _ _ _ _ (Jj w3 (w.heap.size+1) y);have hby:=Lp.o.put y;have eN:=zh (tP f_.o (Nat.le_succ _) y);generalize Jj w3 (w.heap.size+1) y=V at *;obtain ⟨y0,y1,y2,y3⟩:=hby.t.q;exact au (v:=.tuple #[mg y,.bool o.isSome]) (by simp[results,results95,go_sem,y0,y1,y2,y3]) rfl ⟨by rw[Hy.o],eN.o⟩
end Go.Proofs.YtcgfilmmokmdjaaGreat
