import Derived.Test.YtcgfilmmokmdjaaGreatQAJ
set_option linter.all false
set_option maxRecDepth 100000
set_option maxHeartbeats 32000000
namespace Go.Proofs.YtcgfilmmokmdjaaGreat
open Go.Proofs.Tryz
open Go.RowKit
def eZ.Wr {W:World} {b:Nat} {s:Sl} {l g:Int} (h:eZ W b s l g) (g':Int):eZ (W.setCell ⟨b,9,none⟩ (.int .i64 g')) b s l g':=by
 have hg:=h.cg;refine ⟨fun j hj=>?_,?_,by simp[go_sem,hg],fun i=>by simp[h.f]⟩
 ·have:=h.c j hj;exact (cA (h:=fun e=>by injection e with _ e _;omega) ..).trans this
 exact (cA (h:=fun e=>by injection e with _ e _;omega) ..).trans h.cl
def zEv (s:Sl) (M:Mp) (n:Int) (w:World) (h:fN w s M.st) (hs:∀ i,i<8->(M.st i).length<=10000) :
  Calls prog 81 #[yD s M.live M.ew,.int .i64 n] w fun e w'=>e=.returned (yD s (xS M n).live (xS M n).ew)/\Below w.heap.size w w':=by
 have HV:=zh (fun W h=>uW s M W h (fun i hi=>ak (hs i hi) (by decide)));obtain ⟨W0,hW0⟩:∃ W0,(w.alloc (.cells (yl s M.live M.ew) 111)).alloc (.cells (yl Sl.nil 0 0) 111)=W0:=⟨_,rfl⟩
 have eO:Hid (eZ W0 w.heap.size s M.live M.ew):=zh (hW0▸((eZ.new w s M.live M.ew 111).bb (zY _ Sl.nil 0 0 111)));have sw:Hid (eZ W0 (w.heap.size+1) Sl.nil 0 0):=zh (hW0▸(by have:=eZ.new (w.alloc (.cells (yl s M.live M.ew) 111)) Sl.nil 0 0 111;simpa using this));have eP:Hid (Below w.heap.size w W0):=zh (hW0▸zA (zY w s M.live M.ew 111) (zY _ Sl.nil 0 0 111));have sB:=zh hW0;clear hW0;have Hr:=zh h;have Ls:=zh (fun hv:xQ M=true=>(⟨((zi M).1 hv).g0,((zi M).1 hv).g1⟩:_/\_));have HW:Hid (xS M n=if xQ M=true/\0<=n/\n<=1099511627776-M.ew then ⟨M.st,M.live,M.ew+n⟩ else M):=zh (rfl);clear h hs;generalize xQ M=vb at *;generalize xS M n=WM at *;obtain ⟨f,L,G⟩:=M;dsimp only at *
 go_enter func81,ntmps81
 go_upto_region 1 with fail;have hW0:=sB.o;rw[show (w.alloc (.cells (yl s L G) 111)).alloc (.cells #[.slice none 0 0,.slice none 0 0,.slice none 0 0,.slice none 0 0,.slice none 0 0,.slice none 0 0,.slice none 0 0,.slice none 0 0,.int .i64 0,.int .i64 0] 111)=W0 from hW0];clear hW0 sB;obtain ⟨c0,c1,c2,c3,c4,c5,c6,c7,c8,c9⟩:=eO.o.q;have cF:=eO.o.f;have pE:=zh (HV.o W0 (Hr.o.bb eP.o));clear HV
 by_cases hok:vb=true/\0<=n/\n<=1099511627776-G
 ·rw[ah hok] at HW;obtain ⟨rfl,h1,h2⟩:=hok;obtain ⟨Ku,Jk⟩:=Ls.o rfl;have g1:decide (0<=n)=true:=by simpa using h1
  have j1:IntKind.i64.wrap (1099511627776-G)=1099511627776-G:=aF _ (by omega);have j2:IntKind.i64.wrap (G+n)=G+n:=aF _ (by omega);have g2:decide (n<=1099511627776-G)=true:=by simpa using h2
  go_wp2_with fail;refine pE.o.mono ?_;rintro e w1 ⟨rfl,hb1⟩;have fG:=zh (eO.o.bb hb1);have pY:=zh (sw.o.bb hb1);have eV:=zh (zA eP.o hb1);clear c0 c1 c2 c3 c4 c5 c6 c7 c8 c9 cF hb1;obtain ⟨c0,c1,c2,c3,c4,c5,c6,c7,c8,c9⟩:=fG.o.q;have cF:=fG.o.f;go_upto_region 3 with fail;obtain ⟨V5,Fi⟩:∃ V5,w1.setCell ⟨w.heap.size,9,none⟩ (.int .i64 (G+n))=V5:=⟨_,rfl⟩
  have gj:Hid (eZ V5 w.heap.size s L (G+n)):=zh (Fi▸fG.o.Wr (G+n));have AK:Hid (eZ V5 (w.heap.size+1) Sl.nil 0 0):=zh (Fi▸pY.o.eR (p:=⟨w.heap.size,9,none⟩) (show w.heap.size≠w.heap.size+1 by omega) _);have gW:Hid (Below w.heap.size w V5):=zh (Fi▸eV.o.setCell (p:=⟨w.heap.size,9,none⟩) (ag _) _);rw[Fi];clear c0 c1 c2 c3 c4 c5 c6 c7 c8 c9 cF Fi fG pY eV;obtain ⟨c0,c1,c2,c3,c4,c5,c6,c7,c8,c9⟩:=gj.o.q;have cF:=gj.o.f;obtain ⟨d0,d1,d2,d3,d4,d5,d6,d7,d8,d9⟩:=AK.o.q;have dF:=AK.o.f;go_wp2_with fail;change bodyPost _ _ _ _ _ (yN V5 (w.heap.size+1) s L (G+n));have hby:=AK.o.all s L (G+n);have eN:=zh (zj gW.o (show w.heap.size<=w.heap.size+1 by omega) s L (G+n));generalize yN V5 (w.heap.size+1) s L (G+n)=V9 at *
  exact au (v:=yD s L (G+n)) (by simp[results,results81,go_sem,hby.q]) rfl ⟨by rw[HW.o],eN.o⟩
 rw[ai hok] at HW;have nz:=zh (fun (V:World) (hb:Below W0.heap.size W0 V)=>show _/\_/\_ from ⟨eO.o.bb hb,sw.o.bb hb,zA eP.o hb⟩);have hcs:(vb=false)∨(vb=true/\n<0)∨(vb=true/\0<=n/\1099511627776-G<n):=by
  cases vb
  ·exact .inl rfl
  by_cases h1:0<=n
  ·exact .inr (.inr ⟨rfl,h1,by have:¬ n<=1099511627776-G:=fun e=>hok ⟨rfl,h1,e⟩;omega⟩)
  exact .inr (.inl ⟨rfl,by omega⟩)
 clear hok;rcases hcs with rfl|⟨rfl,h1⟩|⟨rfl,h1,h2⟩
 ·go_wp2_with fail;refine pE.o.mono ?_;rintro e w1 ⟨rfl,hb1⟩;obtain ⟨hx,hy,hb⟩:=nz.o _ hb1;have gj:=zh hx;have AK:=zh hy;have gW:=zh hb;clear c0 c1 c2 c3 c4 c5 c6 c7 c8 c9 cF hb1 hx hy hb;obtain ⟨c0,c1,c2,c3,c4,c5,c6,c7,c8,c9⟩:=gj.o.q;have cF:=gj.o.f;obtain ⟨d0,d1,d2,d3,d4,d5,d6,d7,d8,d9⟩:=AK.o.q;have dF:=AK.o.f;go_wp2_with fail;change bodyPost _ _ _ _ _ (yN w1 (w.heap.size+1) s L G);have hby:=AK.o.all s L G;have eN:=zh (zj gW.o (show w.heap.size<=w.heap.size+1 by omega) s L G);generalize yN w1 (w.heap.size+1) s L G=V9 at *;exact au (v:=yD s L G) (by simp[results,results81,go_sem,hby.q]) rfl ⟨by rw[HW.o],eN.o⟩
 ·have g1:decide (0<=n)=false:=by simp;omega
  go_wp2_with fail;refine pE.o.mono ?_;rintro e w1 ⟨rfl,hb1⟩;obtain ⟨hx,hy,hb⟩:=nz.o _ hb1;have gj:=zh hx;have AK:=zh hy;have gW:=zh hb;clear c0 c1 c2 c3 c4 c5 c6 c7 c8 c9 cF hb1 hx hy hb;obtain ⟨c0,c1,c2,c3,c4,c5,c6,c7,c8,c9⟩:=gj.o.q;have cF:=gj.o.f;obtain ⟨d0,d1,d2,d3,d4,d5,d6,d7,d8,d9⟩:=AK.o.q;have dF:=AK.o.f;go_wp2_with fail;change bodyPost _ _ _ _ _ (yN w1 (w.heap.size+1) s L G);have hby:=AK.o.all s L G;have eN:=zh (zj gW.o (show w.heap.size<=w.heap.size+1 by omega) s L G);generalize yN w1 (w.heap.size+1) s L G=V9 at *;exact au (v:=yD s L G) (by simp[results,results81,go_sem,hby.q]) rfl ⟨by rw[HW.o],eN.o⟩
 obtain ⟨Ku,Jk⟩:=Ls.o rfl;have g1:decide (0<=n)=true:=by simpa using h1
 have j1:IntKind.i64.wrap (1099511627776-G)=1099511627776-G:=aF _ (by omega);have g2:decide (n<=1099511627776-G)=false:=by simp;omega
 go_wp2_with fail;refine pE.o.mono ?_;rintro e w1 ⟨rfl,hb1⟩;obtain ⟨hx,hy,hb⟩:=nz.o _ hb1;have gj:=zh hx;have AK:=zh hy;have gW:=zh hb;clear c0 c1 c2 c3 c4 c5 c6 c7 c8 c9 cF hb1 hx hy hb;obtain ⟨c0,c1,c2,c3,c4,c5,c6,c7,c8,c9⟩:=gj.o.q;have cF:=gj.o.f;obtain ⟨d0,d1,d2,d3,d4,d5,d6,d7,d8,d9⟩:=AK.o.q;have dF:=AK.o.f;go_wp2_with fail;change bodyPost _ _ _ _ _ (yN w1 (w.heap.size+1) s L G);have hby:=AK.o.all s L G;have eN:=zh (zj gW.o (show w.heap.size<=w.heap.size+1 by omega) s L G);generalize yN w1 (w.heap.size+1) s L G=V9 at *;exact au (v:=yD s L G) (by simp[results,results81,go_sem,hby.q]) rfl ⟨by rw[HW.o],eN.o⟩
variable {w:World}
def fA.Pq {B:Nat} {s:Sl} {f g:Nat->List It} (h:fA w B s f) (e:∀ i,i<8->g i=f i):fA w B s g:=fun i hi=>by rw[e i hi];exact h i hi
def fl.Pq {w':World} {B:Nat} {s s':Sl} {f0 f g:Nat->List It} (h:fl w' B s f0 s' f) (e:∀ i,i<8->g i=f i):fl w' B s f0 s' g:=by
 rcases h with ⟨h1,h2⟩|h
 ·exact .inl ⟨h1,fun i hi=>(e i hi).trans (h2 i hi)⟩
 exact .inr (h.Pq e)
def fl.pts {w:World} {B b:Nat} {s s':Sl} {f f':Nat->List It} (h:fl w B s f s' f') (hb:b<B) (vs:List (Nat×Value)):fl (Go.Proofs.YtcgfilmmokmdjaaGreat.pts w b vs) B s f s' f':=h.imp id fun h=>h.pts hb vs
def zK1 (s:Sl) (M:Mp) (x:It) (w:World) (h:fN w s M.st) (hs:∀ i,i<8->(M.st i).length<=9000) :
  Calls prog 83 #[yD s M.live M.ew,mg x] w fun e w'=>(∃ s',e=.returned (yD s' (wv M x).live (wv M x).ew)/\fl w' w.heap.size s M.st s' (wv M x).st)/\Below w.heap.size w w':=by
 have e:=zKD M x;refine (zIp s M x w h hs).mono ?_;rintro e' w' ⟨⟨s',rfl,ho⟩,hb⟩;exact ⟨⟨s',by rw[e.l,e.g],ho.Pq e.st⟩,hb⟩
def zEz (s:Sl) (M:Mp) (key:Int) (w:World) (h:fN w s M.st) (hs:∀ i,i<8->(M.st i).length<=9000) :
  Calls prog 82 #[yD s M.live M.ew,.int .u64 key] w fun e w'=>(∃ s',e=.returned (yD s' (yX M key).live (yX M key).ew)/\fl w' w.heap.size s M.st s' (yX M key).st)/\Below w.heap.size w w':=by
 have e:=zJo M key;refine (zIS s M key w h hs).mono ?_;rintro e' w' ⟨⟨s',rfl,ho⟩,hb⟩;exact ⟨⟨s',by rw[e.l,e.g],ho.Pq e.st⟩,hb⟩
def Pr (w0:World) (s:Sl) (f:Nat->List It) (p:Int×Gn) (e:Ending) (w':World):Prop:=(∃ s',e=.returned (.tuple #[ze p.2.num p.2.rev p.2.mode p.2.size s' p.2.m.live p.2.m.ew,.int .i64 p.1])/\fl w' w0.heap.size s f s' p.2.m.st)/\Below w0.heap.size w0 w'
/-! ### The eC ends, plain -/
def NF (l:List It) (size:Int):Bool:=(List.range l.length).all fun i=>decide (uR (eA l i)<=size)&&(List.range l.length).all fun k=>decide (k=i)||!(decide ((eA l i).off<=(eA l k).off)&&decide ((eA l k).off<uR (eA l i)))
def zDb (l:List It) (size:Int):NF l size=true↔∀ i,i<l.length->uR (eA l i)<=size/\∀ k,k<l.length->k≠i->¬ ((eA l i).off<=(eA l k).off/\(eA l k).off<uR (eA l i)):=by
 unfold NF;rw[dE];refine ⟨fun h i hi=>?_,fun h i hi=>?_⟩
 ·have h1:=h i (List.mem_range.2 hi);rw[aO,aR,dE] at h1;refine ⟨h1.1,fun k hk hne hc=>?_⟩;have h2:=h1.2 k (List.mem_range.2 hk);rw[aC hne,aD hc.1,aD hc.2] at h2
  cases h2
 obtain ⟨h1,h2⟩:=h i (List.mem_range.1 hi);rw[aO,aR,dE];refine ⟨h1,fun k hk=>?_⟩
 by_cases e:k=i
 ·rw[aD e];rfl
 rw[aC e,Bool.false_or,Bool.not_eq_true',Bool.and_eq_false_iff,decide_eq_false_iff_not,decide_eq_false_iff_not];have:=h2 k (List.mem_range.1 hk) e;omega
def zLL {l:List It} (hok:∀ x∈l,pV x) (size:Int):NF l size=uO l size:=by
 refine Bool.eq_iff_iff.2 ((zDb l size).trans (Iff.trans ?_ (decide_eq_true_iff (p:=Jo l size)).symm));have hm:∀ i,(h:i<l.length)->eA l i=l[i]:=fun i h=>by unfold eA;rw[aw,aA h];rfl
 constructor
 ·intro h;refine ⟨List.pairwise_iff_getElem.2 fun i j hi hj hij=>?_,fun x hx=>?_⟩
  ·have h1:=(h i hi).2 j hj (by omega);have h2:=(h j hj).2 i hi (by omega);rw[hm i hi,hm j hj] at h1 h2;unfold IF;omega
  obtain ⟨i,hi,rfl⟩:=cO hx;have:=(h i hi).1
  rwa [hm i hi] at this
 rintro ⟨hp,hs⟩ i hi;rw[hm i hi];refine ⟨hs _ (bM hi),fun k hk e=>?_⟩;rw[hm k hk];have gi:=qh (hok _ (bM hi));have gk:=qh (hok _ (bM hk));rcases Nat.lt_or_gt_of_ne e with hlt|hlt
 ·have:=List.pairwise_iff_getElem.1 hp k i hk hi hlt;unfold IF at this;omega
 have:=List.pairwise_iff_getElem.1 hp i k hi hk hlt;unfold IF at this;omega
def lg.Ps {b off n cap:Nat} {l:List It} (h:lg w (.slice (some ⟨b,off,none⟩) n cap) l) {j:Nat} (hj:j<n):w.cell? ⟨b,off+j*4+2,none⟩=some (.int .i64 (eA l j).off):=by
 obtain ⟨b',o',e,c0,c1,c2,c3⟩:=h.at hj;injection e with e;injection e with e1 e2;subst e1 e2;exact c2
def zIJ (v:Value) (l:List It) (size:Int) (w:World) (h:lg w v l) (hok:∀ x∈l,pV x) (hsm:l.length<=1000000) :
  Calls prog 122 #[v,.int .i64 size] w fun e w'=>e=.returned (.bool (NF l size))/\Below w.heap.size w w':=by
 have HE:=zh (zDb l size);have pI:=zh (fun i (hi:i<l.length)=>hok (eA l i) (qk hi));generalize NF l size=res at *;clear hok;obtain ⟨a,cap,rfl,h1,h2⟩:=h.shape;have hm:=C7 h1 h2;have Hr:=zh h;clear h;generalize hn:l.length=n at *;clear hn h1 h2
 go_enter func122,ntmps122
 go_wp2_with fail
 go_loopw [5] (fun iv W=>∃ i:Nat,iv=.int .i64 (i:Int)/\i<=n/\Hid (∀ j,j<i->uR (eA l j)<=size/\∀ k,k<n->k≠j->¬ ((eA l j).off<=(eA l k).off/\(eA l k).off<uR (eA l j)))/\Hid (Below w.heap.size w W)) (fun iv _=>n-(intOf iv).toNat)
 case atStart=>exact ⟨0,rfl,aq _,zh (fun j hj=>by omega),zh (aj _ _)⟩
 obtain ⟨i,rfl,hi,HI,HB⟩:=hrel
 by_cases hlt:i<n
 ·obtain ⟨b,off,rfl,c0,c1,c2,c3⟩:=(Hr.o.bb HB.o).at hlt;have hx:=pI.o i hlt;have hsl:eY (eA l i).size.toNat<=4127:=wI _;have hx1:=hx.2.2.1;have hz0:((eA l i).size.toNat:Int)=(eA l i).size:=Int.toNat_of_nonneg hx.2.2.2.1;have HZ:=zh (fun W=>Nt (eA l i).size.toNat W);rw[hz0] at HZ;have Ws:Hid (uR (eA l i)=(eA l i).off+(eY (eA l i).size.toNat:Int)):=zh (rfl);have i1:(i:Int)<(n:Int):=by omega
  have LR:16<=(eA l i).off/\(eA l i).off<=1048576:=⟨hx.1,hx.2.1⟩
  have EH:=zh (fun W=>show Calls prog 28 #[.int .i64 (eA l i).size] W fun e w'=>e=.returned (.int .i64 (eY (eA l i).size.toNat:Int))/\Below W.heap.size W w' from (HZ.o W).mono fun e w' hh=>⟨hh.1,hh.2▸aj _ _⟩);have y2:=zB c2;have y3:=zB c3;clear HZ hx;generalize eY (eA l i).size.toNat=z at *;go_wp2_with fail;refine zD (by kernel_rfl) (by kernel_rfl) ?_
  repeat (go_big_quiet_step (exact zH (EH.o _)))
  refine ay ?_;intro w2 hw2;obtain ⟨q,hw2⟩:=hw2;subst hw2;have eX:=zh (zA HB.o q.h);generalize q.w'=w2 at *;clear q y2 y3 EH c0 c1 c2 c3;obtain ⟨en,hen⟩:∃ en:Int,(eA l i).off+(z:Int)=en:=⟨_,rfl⟩
  have akh:16<=en/\en<=2097152:=by omega
  have nA:=zh (Ws.o.trans hen)
  by_cases hsz:size<en
  ·have e0:decide (size<(eA l i).off+(z:Int))=true:=by rw[hen];exact aD hsz
   go_wp2_with fail;go_ret;refine ⟨zJ ?_,eX.o⟩
   symm
   rw[<- Bool.not_eq_true,HE.o];intro hh;have:=(hh i hlt).1;rw[nA.o] at this;omega
  have e0:decide (size<(eA l i).off+(z:Int))=false:=by rw[hen];exact aC hsz
  rw[hen] at e0;go_wp2_with fail;clear e0;have IC:=nA
  go_loopw [7] (fun kv W=>∃ k:Nat,kv=.int .i64 (k:Int)/\k<=n/\Hid (∀ j,j<k->j≠i->¬ ((eA l i).off<=(eA l j).off/\(eA l j).off<uR (eA l i)))/\Hid (Below w.heap.size w W)) (fun kv _=>n-(intOf kv).toNat)
  case atStart=>exact ⟨0,rfl,aq _,zh (fun j hj=>by omega),eX⟩
  obtain ⟨k,rfl,hk,HK,f_⟩:=hrel;clear eX
  by_cases hkn:k<n
  ·have ci:=(Hr.o.bb f_.o).Ps hlt;have ck:=(Hr.o.bb f_.o).Ps hkn;have yi:=zB ci;have yk:=zB ck;have i2:(k:Int)<(n:Int):=by omega
   clear ci ck
   by_cases hki:k=i
   ·have e1:((k:Int) != (i:Int))=false:=by rw[hki];simp
    have aki:¬ k≠i:=by omega
    have hle:k=i:=hki;clear hki;go_wp2_with fail;refine zD (by kernel_rfl) (by kernel_rfl) ?_
    repeat (go_big_quiet_step (fail))
    refine ay ?_;intro w4 hw4;obtain ⟨q,hw4⟩:=hw4;subst hw4;have gq:=zh (zA f_.o q.h);generalize q.w'=w4 at *;clear q yi yk;go_wp2_with fail
    go_roundw
    case rel=>exact ⟨k+1,by go_num,by omega,zh (fun j hj hne hc=>by
     by_cases e:j=k
     ·subst e
      have h1:=hc.1
      have h2:=hc.2
      rw[nA.o] at h2
      omega
     exact HK.o j (by omega) hne hc),gq⟩
    case measure=>simp[intOf];omega
   have e1:((k:Int) != (i:Int))=true:=bne_iff_ne.2 (by omega)
   by_cases hge:(eA l i).off<=(eA l k).off
   ·have e2:decide ((eA l i).off<=(eA l k).off)=true:=aD hge
    by_cases hlk:(eA l k).off<en
    ·have e3:decide ((eA l k).off<en)=true:=aD hlk;go_wp2_with fail;refine zD (by kernel_rfl) (by kernel_rfl) ?_
     repeat (go_big_quiet_step (fail))
     refine ay ?_;intro w4 hw4;obtain ⟨q,hw4⟩:=hw4;subst hw4;have gq:=zh (zA f_.o q.h);generalize q.w'=w4 at *;clear q yi yk;go_wp2_with fail;go_ret;refine ⟨zJ ?_,gq.o⟩
     symm
     rw[<- Bool.not_eq_true,HE.o];intro hh;exact (hh i hlt).2 k hkn hki ⟨hge,by rw[nA.o];exact hlk⟩
    have e3:decide ((eA l k).off<en)=false:=aC hlk;go_wp2_with fail;refine zD (by kernel_rfl) (by kernel_rfl) ?_
    repeat (go_big_quiet_step (fail))
    refine ay ?_;intro w4 hw4;obtain ⟨q,hw4⟩:=hw4;subst hw4;have gq:=zh (zA f_.o q.h);generalize q.w'=w4 at *;clear q yi yk;go_wp2_with fail
    go_roundw
    case rel=>exact ⟨k+1,by go_num,by omega,zh (fun j hj hne hc=>by
     by_cases e:j=k
     ·subst e
      have h1:=hc.1
      have h2:=hc.2
      rw[nA.o] at h2
      omega
     exact HK.o j (by omega) hne hc),gq⟩
    case measure=>simp[intOf];omega
   have e2:decide ((eA l i).off<=(eA l k).off)=false:=aC hge;go_wp2_with fail;refine zD (by kernel_rfl) (by kernel_rfl) ?_
   repeat (go_big_quiet_step (fail))
   refine ay ?_;intro w4 hw4;obtain ⟨q,hw4⟩:=hw4;subst hw4;have gq:=zh (zA f_.o q.h);generalize q.w'=w4 at *;clear q yi yk;go_wp2_with fail
   go_roundw
   case rel=>exact ⟨k+1,by go_num,by omega,zh (fun j hj hne hc=>by
    by_cases e:j=k
    ·subst e
     have h1:=hc.1
     have h2:=hc.2
     rw[nA.o] at h2
     omega
    exact HK.o j (by omega) hne hc),gq⟩
   case measure=>simp[intOf];omega
  obtain rfl:k=n:=by omega
  go_wp2_with fail
  go_roundw
  case rel=>exact ⟨i+1,by go_num,by omega,zh (fun j hj=>by
   by_cases e:j=i
   ·subst e
    exact ⟨by rw[nA.o];omega,fun k hk hne=>HK.o k hk hne⟩
   exact HI.o j (by omega)),f_⟩
  case measure=>simp[intOf];omega
 obtain rfl:i=n:=by omega
 go_wp2_with fail;go_ret;refine ⟨zJ ?_,HB.o⟩
 symm
 rw[HE.o];exact HI.o
open Go
section
variable {P:Program} {ops:Array Oper} {md:Region.Mode}
def zW (ops:Array Oper) (j:Nat):Option Tmp:=(ops[j]?).bind (·.dst)
def fU (ops:Array Oper) (a0:Act) (f:Nat->Value):Nat->Act
 |0=>a0
 |n+1=>(fU ops a0 f n).put (zW ops n) (f n)
def xM (f:Nat->Value) (i:Nat) (v:Value):Nat->Value:=fun j=>if j=i then v else f j
def zL7 (a:Act) (d:Option Tmp) (u v:Value):(a.put d u).put d v=a.put d v:=by
 cases d with
 |none=>rfl
 |some d=>simp[Act.put]
def put_comm (a:Act) (d e:Option Tmp) (u v:Value) (h:d=none∨d≠e):(a.put d u).put e v=(a.put e v).put d u:=by
 cases d with
 |none=>rfl
 |some d =>
  cases e with
  |none=>rfl
  |some e =>
   have hne:d≠e:=by
    rcases h with h|h
    ·cases h
    exact fun e1=>h (by rw[e1])
   simp only[Act.put];rw[Array.setIfInBounds_comm _ _ hne]
def zFl (ops:Array Oper) (a0:Act) (f:Nat->Value) (i:Nat) (v:Value):∀ n,n<=i->fU ops a0 (xM f i v) n=fU ops a0 f n
 |0,_=>rfl
 |n+1,h=>by
  show (fU ops a0 (xM f i v) n).put _ (xM f i v n)=_
  rw[zFl ops a0 f i v n (by omega)];have:xM f i v n=f n:=ai (by omega);rw[this];rfl
def qZ (ops:Array Oper) (a0:Act) (f:Nat->Value) (i:Nat) (v:Value):∀ n,i<n->(∀ j,j<n->j≠i->zW ops i=none∨zW ops i≠zW ops j)->(fU ops a0 f n).put (zW ops i) v=fU ops a0 (xM f i v) n
 |0,h,_=>by omega
 |n+1,h,hd=>by
  show ((fU ops a0 f n).put (zW ops n) (f n)).put (zW ops i) v=(fU ops a0 (xM f i v) n).put (zW ops n) (xM f i v n)
  by_cases e:i=n
  ·subst e;rw[zL7,zFl ops a0 f i v i (ag _)];have:xM f i v i=v:=ah rfl;rw[this]
  have h1:zW ops n=none∨zW ops n≠zW ops i:=by
   rcases hd n (by omega) (fun e1=>e e1.symm) with h|h
   ·cases hn:zW ops n with
    |none=>exact .inl rfl
    |some d=>exact .inr (by rw[h];simp)
   exact .inr (aQ h)
  rw[put_comm _ _ _ _ _ h1,qZ ops a0 f i v n (by omega) fun j hj hji=>hd j (by omega) hji];have:xM f i v n=f n:=ai (by omega);rw[this]
def NG (ops:Array Oper) (a0:Act):∀ n,fU ops a0 (fun j=>match zW ops j with|some d=>a0.tmps.getD d undef|none=>undef) n=a0
 |0=>rfl
 |n+1=>by
  show (fU ops a0 _ n).put (zW ops n) _=a0
  rw[NG ops a0 n]
  cases hd:zW ops n with
  |none=>rfl
  |some d =>
   simp only[hd];obtain ⟨t,ds⟩:=a0;simp only[Act.put]
   congr 1
   apply Array.ext_getElem?;intro i
   by_cases e:d=i
   ·subst e;rw[Array.getElem?_setIfInBounds_self]
    split
    ·rename_i h;simp[h]
    rename_i h;rw[dW (by omega)]
   rw[Array.getElem?_setIfInBounds_ne e]
def SQ (md:Region.Mode) (ops:Array Oper) (n:Nat):Bool:=
 decide (n<ops.size)&&Region.sinkB md ops n&&Region.chainB md ops n &&
 ((List.range n).all fun i=>((ops[i]?).map fun o=>o.dst.isSome&&o.after.all fun e=>!Region.binds md e||decide (e.on<i)).getD false) &&
 ((List.range n).all fun i=>(List.range n).all fun j=>decide (i=j)||decide (zW ops i≠zW ops j)) &&
 Region.seqB md ops (ops.size-n) n ((List.range ops.size).map fun j=>decide (j<n)).toArray
variable {Q:Exit->Act->World->Prop}
def blk:Value->Nat
 |.pointer (some a)=>a.block
 |_=>0
def tq (B0:Value->World->Prop) (F:Prop) (ds:List Deferred) (d:Option Tmp) (w:World) (a':Act) (w':World):Prop:=
 a'.defers=ds/\Below w.heap.size w w'/\∀ t,d=some t->B0 (a'.tmps.getD t undef) w'/\(F->w.heap.size<=blk (a'.tmps.getD t undef)/\blk (a'.tmps.getD t undef)<w'.heap.size)
def Pt {o:Oper} {a:Act} {w:World} {R:Act->World->Prop} (h:wpList P ops (Exit.then R Q) [o] a w) {K:Act->World->Prop}
  (hK:∀ v w',R (a.put o.dst v) w'->K (a.put o.dst v) w') (hD:∀ d v w',R ({a with defers:=d::a.defers}.put o.dst v) w'->False) :
  if Region.wanted o (yielded ops a.tmps) then o.wp P a w K Q∨(o.asks P a w/\LetsOut Q) else K (a.put o.dst undef) w:=by
 unfold wpList at h
 split at h
 ·rename_i hw;rw[ah hw];rcases h with h|⟨h1,h2⟩
  ·left
   unfold Oper.wp at h |-;generalize (execOp a.eval o).run P w=r at *
   cases r with
   |ok nx w' =>
    cases nx with
    |value v=>exact hK _ _ h
    |skip=>exact hK _ _ h
    |defer d=>exact absurd h (hD _ _ _)
    |enter f args =>
     refine Calls.mono h fun e w'' he=>?_
     cases e with
     |returned v=>exact hK _ _ he
     |panicked c=>exact he
     |outgrown=>exact he
    |row r args=>exact Rows.mono h fun v w'' he=>hK _ _ he
    |_=>exact h
   |halt x w'=>cases x<;>first|exact h|exact False.elim h
  exact .inr ⟨h1,h2⟩
 rename_i hw;rw[ai hw];exact hK _ _ h
def qM {T:List Nat} (h:T≠[]):∃ m,m∈T/\∀ k∈T,m<=k:=by
 induction T with
 |nil=>exact absurd rfl h
 |cons x r ih =>
  by_cases hr:r=[]
  ·subst hr;exact ⟨x,by simp,fun k hk=>by simp at hk;omega⟩
  obtain ⟨m,hm,hle⟩:=ih hr
  by_cases hx:x<=m
  ·exact ⟨x,by simp,fun k hk=>by
    rcases List.mem_cons.1 hk with rfl|hk
    ·exact ag _
    exact ak hx (hle k hk)⟩
  exact ⟨m,by simp[hm],fun k hk=>by
   rcases List.mem_cons.1 hk with rfl|hk
   ·omega
   exact hle k hk⟩
def tH (ops:Array Oper) (a0:Act) (f:Nat->Value):∀ n,(fU ops a0 f n).tmps.size=a0.tmps.size
 |0=>rfl
 |n+1=>by
  show ((fU ops a0 f n).put (zW ops n) (f n)).tmps.size=_
  rw[<- tH ops a0 f n]
  cases zW ops n<;>simp[Act.put]
def zMN {n:Nat} {a0:Act} {w0:World} {Φ:Nat->Value->World->Prop} {F:Nat->Prop} {l:List Oper} (hl:ops=l.toArray) (hB:SQ md ops n=true) (hN:∀ i,i<n->∀ t,zW ops i=some t->t<a0.tmps.size)
  (mono:∀ j,j<n->∀ v w1 w2,Below w1.heap.size w1 w2->Φ j v w1->Φ j v w2)
  (head:∀ i o,i<n->ops[i]?=some o->∀ f w1,Below w0.heap.size w0 w1->(∀ e∈o.after,Region.binds md e=true->Φ e.on (f e.on) w1) ->
   wpList P ops (Exit.then (tq (Φ i) (F i) (fU ops a0 f n).defers o.dst w1) Q) [o] (fU ops a0 f n) w1)
  (tail:∀ f w1,Below w0.heap.size w0 w1->(∀ j,j<n->Φ j (f j) w1)->(∀ j k,j<n->k<n->j≠k->F j->F k->blk (f j)≠blk (f k))->wpList P ops Q (l.drop n) (fU ops a0 f n) w1) :
  ∀ (fuel:Nat) (T:List Nat) (s:Array Bool) (f:Nat->Value) (w:World),T.Nodup->T.length=fuel->(∀ j,j<n->(s.getD j false=false↔j∈T))->(∀ j∈T,j<n)->HeadInv md ops n s->Below w0.heap.size w0 w ->
   (∀ j,j<n->s.getD j false=true->Φ j (f j) w)->(∀ j,j<n->s.getD j false=true->F j->blk (f j)<w.heap.size) ->
   (∀ j k,j<n->k<n->j≠k->s.getD j false=true->s.getD k false=true->F j->F k->blk (f j)≠blk (f k))->wpAny P md ops Q (fuel+(ops.size-n)) s (fU ops a0 f n) w:=by
 simp only[SQ,aO,aR] at hB;obtain ⟨⟨⟨⟨⟨hn,hs⟩,hc⟩,hfw⟩,hdd⟩,Jr⟩:=hB;have sH:∀ i o,i<n->ops[i]?=some o->o.dst.isSome=true/\∀ e∈o.after,Region.binds md e=true->e.on<i:=fun i o hi ho=>by
  have:=List.all_eq_true.1 hfw i (List.mem_range.2 hi);rw[ho] at this;simp only[dN,bC,aO] at this;refine ⟨this.1,fun e he hb=>?_⟩;have h2:=Array.all_eq_true_iff_forall_mem.1 this.2 e he;rw[hb] at h2
  simpa using h2
 have Bd:∀ i j,i<n->j<n->i≠j->zW ops i≠zW ops j:=fun i j hi hj hij=>by
  have:=List.all_eq_true.1 (List.all_eq_true.1 hdd i (List.mem_range.2 hi)) j (List.mem_range.2 hj)
  simpa [hij] using this
 intro fuel
 induction fuel with
 |zero =>
  intro T s f w hT hlen mS Al inv hb hΦ hF D5;have Js:T=[]:=List.length_eq_zero_iff.1 hlen;subst Js;have hall:∀ j,j<n->s.getD j false=true:=fun j hj=>by
   cases h:s.getD j false with
   |true=>rfl
   |false=>exact absurd ((mS j hj).1 h) (by simp)
  have Iw:s=((List.range ops.size).map fun j=>decide (j<n)).toArray:=by
   apply Array.ext
   ·simp[inv.size]
   intro j h1 h2;have jw:j<ops.size:=by rw[<- inv.size];exact h1
   simp only[aV,dB,dS]
   by_cases e:j<n
   ·have:=hall j e;rw[bB,bI h1] at this;simp only[bC] at this;rw[this];simp[e]
   have:=inv.tail j (by omega) jw;rw[bB,bI h1] at this;simp only[bC] at this;rw[this];simp[e]
  rw[aN];have iz:(l.drop n).length=ops.size-n:=by rw[hl];simp
  have h3:=wpAny_of_seq (P:=P) (md:=md) (ops:=ops) (Q':=Q) (l.drop n) n s (fU ops a0 f n) w (fun j=>by rw[hl];simp[cR]) (by rw[iz,Iw];exact Jr) (tail f w hb (fun j hj=>hΦ j hj (hall j hj)) fun j k hj hk hjk=>D5 j k hj hk hjk (hall j hj) (hall k hk))
  rwa [iz] at h3
 |succ fuel ih =>
  intro T s f w hT hlen mS Al inv hb hΦ hF D5;have Be:T≠[]:=fun e=>by rw[e] at hlen;cases hlen
  obtain ⟨m,hm,hle⟩:=qM Be;have hmn:=Al m hm;have hun:s.getD m false=false:=(mS m hmn).2 hm;have Gl:m<s.size:=by rw[inv.size];omega
  obtain ⟨om,D6⟩:∃ o,ops[m]?=some o:=⟨_,bI (by omega)⟩
  have l6:m∈Region.ready md ops s:=mem_ready.2 ⟨getD_in Gl hun,om,D6,fun e he lK=>by
   have h1:=(sH m om hmn D6).2 e he lK
   cases h2:s.getD e.on false with
   |true=>rfl
   |false =>
    have:=hle _ ((mS e.on (by omega)).1 h2)
    omega⟩
  rw[show fuel+1+(ops.size-n)=(fuel+(ops.size-n))+1 by omega];refine ⟨fun e=>absurd l6 (by rw[e];simp),fun i hi=>?_⟩;obtain ⟨Fw,oi,hoi,nM⟩:=mem_ready.1 hi;have hin:i<n:=Nat.lt_of_not_le fun h=>tail_waits hs hc hn inv _ m rfl hmn (getD_in Gl hun) i h hi
  have Jt:i∈T:=(mS i hin).1 (getD_both Fw);have D7:=sH i oi hin hoi;have o9:zW ops i=oi.dst:=by unfold zW;rw[hoi];rfl
  unfold wpOp;rw[hoi];simp only[];have hh:=head i oi hin hoi f w hb fun e he lK=>hΦ e.on (by have:=D7.2 e he lK;omega) (nM e he lK)
  refine Pt hh (fun v w' hR=>?_) (fun d v w' hR=>?_)
  ·obtain ⟨_,fS,hv⟩:=hR;have hval:∀ i,i<n->oi.dst.isSome=true->zW ops i=oi.dst->(∀ t,oi.dst=some t->Φ i (((fU ops a0 f n).put oi.dst v).tmps.getD t undef) w'/\(F i->w.heap.size<=blk (((fU ops a0 f n).put oi.dst v).tmps.getD t undef)/\blk (((fU ops a0 f n).put oi.dst v).tmps.getD t undef)<w'.heap.size))->Φ i v w'/\(F i->w.heap.size<=blk v/\blk v<w'.heap.size):=fun i hi h1 o9 h=>by
    obtain ⟨t,ht⟩:=Option.isSome_iff_exists.1 h1;have h4:=h t ht;have h5:t<(fU ops a0 f n).tmps.size:=by rw[tH];exact hN i hi t (by rw[o9,ht])
    rw[ht] at h4
    simpa [Act.put,h5] using h4
   rw[<- o9,qZ ops a0 f i v n hin fun j hj hji=>.inr (Bd i j hin hj (aQ hji))];refine ih (T.erase i) _ _ w' (hT.erase i) (by rw[List.length_erase_of_mem Jt];omega) (fun j hj=>?_) (fun j hj=>Al j (List.mem_of_mem_erase hj)) (inv.set hi hin) (zA hb fS) (fun j hj jw=>?_) (fun j hj jw CY=>?_) (fun j k hj hk hjk jw hks CY II=>?_)
   ·rw[hT.mem_erase_iff]
    by_cases e:j=i
    ·subst e;have jw:j<s.size:=by rw[inv.size];omega
     simp[bB,jw]
    rw[bH false (aQ e),mS j hj];simp[e]
   ·by_cases e:j=i
    ·subst e;have:xM f j v j=v:=ah rfl;rw[this];exact (hval j hj D7.1 o9 hv).1
    have:xM f i v j=f j:=ai e;rw[this];rw[bH false (aQ e)] at jw;exact mono j hj _ _ _ fS (hΦ j hj jw)
   ·by_cases e:j=i
    ·subst e;have:xM f j v j=v:=ah rfl;rw[this];exact ((hval j hj D7.1 o9 hv).2 CY).2
    have:xM f i v j=f j:=ai e;rw[this];rw[bH false (aQ e)] at jw;exact cH (hF j hj jw CY) fS.size
   by_cases e:j=i
   ·subst e;have e1:xM f j v j=v:=ah rfl;have e2:xM f j v k=f k:=ai (aQ hjk);rw[e1,e2];rw[bH false hjk] at hks;have h1:=((hval j hj D7.1 o9 hv).2 CY).1;have h2:=hF k hk hks II;omega
   have e1:xM f i v j=f j:=ai e;rw[e1];rw[bH false (aQ e)] at jw
   by_cases e3:k=i
   ·subst e3;have e2:xM f k v k=v:=ah rfl;rw[e2];have h1:=((hval k hk D7.1 o9 hv).2 II).1;have h2:=hF j hj jw CY;omega
   have e2:xM f i v k=f k:=ai e3;rw[e2];rw[bH false (aQ e3)] at hks;exact D5 j k hj hk hjk jw hks CY II
  have h1:=hR.1;have h2:=aM List.length h1
  cases Ju:oi.dst<;>simp[Act.put,Ju] at h2
structure lZ where
 p:Value->World->Prop
 m:∀ v w w',Below w.heap.size w w'->p v w->p v w'
instance:Inhabited lZ:=⟨⟨fun _ _=>True,fun _ _ _ _ _=>trivial⟩⟩
def eT (x:Value):lZ:=⟨fun v _=>v=x,fun _ _ _ _ h=>h⟩
def Jv (o:Oper) (j:Nat):Bool:=o.after.any fun e=>Region.binds .any e&&e.on==j
def stA (L:List lZ) (j:Nat):lZ:=L.getD j default
def Pu (ops:Array Oper) (n N:Nat):Bool:=(List.range n).all fun i=>((zW ops i).map fun t=>decide (t<N)).getD true
def Pv (P:Program) (Q:Exit->Act->World->Prop) (ops:Array Oper) (L:List lZ) (F:List Nat) (fr:(Nat->Value)->Act) (w:World):List Oper->List lZ->Nat->Prop
 |o::r,S::R,i=>(∀ f w1,Below w.heap.size w w1->(∀ j,Jv o j=true->(stA L j).p (f j) w1)->wpList P ops (Exit.then (tq S.p (i∈F) (fr f).defers o.dst w1) Q) [o] (fr f) w1)/\Pv P Q ops L F fr w r R (i+1)
 |_,_,_=>True
def SR {ops:Array Oper} {L:List lZ} {F:List Nat} {fr:(Nat->Value)->Act} {w:World}:∀ (l:List Oper) (R:List lZ) (k:Nat),Pv P Q ops L F fr w l R k ->
  ∀ i o S,l[i]?=some o->R[i]?=some S->∀ f w1,Below w.heap.size w w1->(∀ j,Jv o j=true->(stA L j).p (f j) w1)->wpList P ops (Exit.then (tq S.p (k+i∈F) (fr f).defers o.dst w1) Q) [o] (fr f) w1
 |[],_,_,_,i,o,S,ho,_=>by simp at ho
 |o::r,[],_,_,i,_,S,_,hS=>by simp at hS
 |o::r,S::R,k,h,0,o',S',ho,hS=>by
  simp at ho hS;subst ho hS;exact h.1
 |o::r,S::R,k,h,i+1,o',S',ho,hS=>by
  have:=SR r R (k+1) h.2 i o' S' (by simpa using ho) (by simpa using hS)
  rwa [show k+1+i=k+(i+1) by omega] at this
def xD {id:Nat} {a0:Act} {w:World} {l:List Oper} (L:List lZ) (F:List Nat) (N:Nat) (hm:P.follows .mixedOrders=true) (hB:SQ .any l.toArray L.length=true)
  (hsz:a0.tmps.size=N) (hN:Pu l.toArray L.length N=true) {fr:(Nat->Value)->Act} (hfr:∀ f,fU l.toArray a0 f L.length=fr f)
  (head:Pv P Q l.toArray L F fr w l L 0)
  (tail:∀ f w1,Below w.heap.size w w1->(∀ j,j<L.length->(stA L j).p (f j) w1)->(∀ j k,j<L.length->k<L.length->j≠k->j∈F->k∈F->blk (f j)≠blk (f k))->wpList P l.toArray Q (l.drop L.length) (fr f) w1):(Code.region id l.toArray true).wp P Q a0 w:=by
 have hn:L.length<l.toArray.size:=by
  simp only[SQ,aO,aR] at hB;exact hB.1.1.1.1.1
 refine wp_region_any hm ?_;have h:=zMN (md:=.any) (Q:=Q) (P:=P) (n:=L.length) (a0:=a0) (w0:=w) (Φ:=fun j=>(stA L j).p) (F:=fun j=>j∈F) rfl hB
  (fun i hi t ht=>by
   have h1:=List.all_eq_true.1 hN i (List.mem_range.2 hi)
   rw[ht] at h1
   rw[hsz]
   simpa using h1)
  (fun j _ v w1 w2 hb h=>(stA L j).m v w1 w2 hb h)
  (fun i o hi ho f w1 hb hd=>by
   rw[hfr]
   have hS:L[i]?=some (stA L i):=by
    unfold stA
    rw[aw,aA hi];rfl
   have h2:=SR l L 0 head i o (stA L i) (by simpa using ho) hS f w1 hb (fun j hj=>by
    unfold Jv at hj
    obtain ⟨e,he,h3⟩:=Array.any_eq_true'.1 hj
    simp only[aO,cM] at h3
    rw[<- h3.2]
    exact hd e he h3.1)
   rwa [aN] at h2)
  (fun f w1 hb hΦ D5=>by rw[hfr];exact tail f w1 hb hΦ D5)
  L.length (List.range L.length) (Array.replicate l.toArray.size false) (fun j=>match zW l.toArray j with|some d=>a0.tmps.getD d undef|none=>undef) w.drew
  List.nodup_range (by simp) (fun j hj=>by rw[getD_replicate_false];simp[hj]) (fun j hj=>by simpa using hj)
  ⟨by simp,fun j oj _ hl=>(by rw[getD_replicate_false] at hl;cases hl),fun t _ ht=>getD_in (by simpa using ht) (getD_replicate_false _ _)⟩
  (zV (aj _ _)) (fun j _ hl=>by rw[getD_replicate_false] at hl;cases hl) (fun j _ hl=>by rw[getD_replicate_false] at hl;cases hl) (fun j k _ _ _ hl=>by rw[getD_replicate_false] at hl;cases hl)
 rw[NG,show L.length+(l.toArray.size-L.length)=l.toArray.size by omega] at h;exact h
end
variable {q:Prop} {d:Tmp} {ts:Array Value}
def pS {x:Value} (h:ts.getD d undef=x) (hf:¬ q):tq (eT x).p q [] (some d) w ⟨ts,[]⟩ w:=
 ⟨rfl,aj _ _,fun t ht=>by injection ht with ht;subst ht;exact ⟨h,fun h=>absurd h hf⟩⟩
def pT {x:Value} {w':World} (h:ts.getD d undef=x) (hf:¬ q) (hb:Below w.heap.size w w'):tq (eT x).p q [] (some d) w ⟨ts,[]⟩ w':=
 ⟨rfl,hb,fun t ht=>by injection ht with ht;subst ht;exact ⟨h,fun h=>absurd h hf⟩⟩
def pRg {B0:Value->World->Prop} {w':World} (hb:Below w.heap.size w w') (h:B0 (ts.getD d undef) w') (hf:¬ q):tq B0 q [] (some d) w ⟨ts,[]⟩ w':=
 ⟨rfl,hb,fun t ht=>by injection ht with ht;subst ht;exact ⟨h,fun h=>absurd h hf⟩⟩
def rdS (l:List It):lZ:=⟨fun v w=>∃ u,v=u/\lg w u l,fun _ _ _ hb ⟨u,h1,h2⟩=>⟨u,h1,h2.bb hb⟩⟩
def uX (g:Gn) (s:Sl) (w:World) (h:fN w s g.m.st) (hs:∀ i,i<8->(g.m.st i).length<=10000) :
  Calls prog 79 #[ze g.num g.rev g.mode g.size s g.m.live g.m.ew] w fun e w'=>e=.returned (.bool (we g))/\Below w.heap.size w w':=by
 have HV:=zh (fun W (hb:Below w.heap.size w W)=>uW s g.m W (h.bb hb) (fun i hi=>ak (hs i hi) (by decide)));have HI:=zh (fun W (hb:Below w.heap.size w W)=>vn s g.m W (h.bb hb) hs);have lh:=zh (fun h=>zFZ (g:=g) h);have rQ:(zN g.m).length<=1000000:=ak (wn hs) (by decide)
 have HM:=zh (show xQ g.m=true->(∀ x∈zN g.m,pV x)/\0<=g.m.live/\g.m.live<=400000000 from fun hv =>
  ⟨qy ((zi g.m).1 hv),(tt ((zi g.m).1 hv) hs).2⟩)
 have l5:=zh (yM g);have nA:=zh (fun W v (hr:lg W v (zN g.m)) (hok:∀ x∈zN g.m,pV x)=>zIJ v (zN g.m) g.size W hr hok rQ);have Wu:=zh (fun (hok:∀ x∈zN g.m,pV x)=>zLL hok g.size);have eO:=zh (eU.new w g.num g.rev g.mode g.size s g.m.live g.m.ew 113);have eP:=zh (zT w g.num g.rev g.mode g.size s g.m.live g.m.ew 113);clear h hs rQ;generalize hres:we g=res at *
 by_cases hA:1<=g.num/\g.num<=8/\0<=g.rev/\g.rev<=4294967295/\1<=g.mode/\g.mode<=3
 ·obtain ⟨VM,VN,VO,VP,VQ,VR⟩:=hA;have NH:=zh (fun (hn:¬ (16<=g.size/\g.size<=1048576/\g.size%8=0))=>lh.o fun h=>hn h.size);have HNm:=zh (fun (hn:xQ g.m=false)=>lh.o fun h=>by rw[h.m] at hn;cases hn)
  have nz:=zh (show 16<=g.size/\g.size<=1048576/\g.size%8=0->xQ g.m=true->res=(uO (zN g.m) g.size&&(g.size-16-g.m.live==g.m.ew)) from fun hB hv=>by
   rw[dt,<- hres,yM,aO,cM]
   exact ⟨fun h=>⟨h.ends,by have:=h.sum;omega⟩,fun h=>⟨⟨VM,VN⟩,⟨VO,VP⟩,⟨VQ,VR⟩,hB,hv,h.1,by have:=h.2;omega⟩⟩)
  clear lh l5 hres;generalize xQ g.m=vb at *;generalize zN g.m=I at *;obtain ⟨a,b,c,d,f,L,G⟩:=g;dsimp only at *;generalize NF I d=er at *;generalize uO I d=eb at *
  go_enter func79,ntmps79
  go_upto_region 1 with fail;obtain ⟨W,hW⟩:∃ W,w.alloc (.cells (zU a b c d s L G) 113)=W:=⟨_,rfl⟩
  change Code.wp _ _ _ _ (w.alloc (.cells (zU a b c d s L G) 113));rw[hW] at eO eP |-;clear hW;have pH:=eO.o.lt;obtain ⟨x0,x1,x2,x3,x4,x5,x6,x7,x8,x9,gP,gQ,gK,gM⟩:=eO.o.q
  by_cases hB:16<=d/\d<=1048576/\d%8=0
  ·obtain ⟨sV,hd2,Fg⟩:=hB;have VT:d.tmod 8=0:=by rw[dV (by omega)];exact Fg
   have e1:decide (d<16)=false:=by simp;omega
   have e2:decide (1048576<d)=false:=by simp;omega
   cases vb
   ·have HF:=zh (HNm.o rfl);have y3:=zB eO.o.n3;have y4:=zB eO.o.c0;have y5:=zB eO.o.c1;have y6:=zB eO.o.c2;have y7:=zB eO.o.c3;have y8:=zB eO.o.c4;have y9:=zB eO.o.c5;have Fo:=zB eO.o.c6;have Fp:=zB eO.o.c7;have Fq:=zB eO.o.cl;have Fs:=zB eO.o.cg;have VA:=zh (fun W (hb:Below W.heap.size W W)=>HV.o);clear VA;go_wp2_with fail;refine zD (by kernel_rfl) (by kernel_rfl) ?_
    repeat (go_big_quiet_step (exact zH (HV.o _ (zA eP.o (eD.h _)))))
    refine ay ?_;intro w4 hw4;obtain ⟨q,hw4⟩:=hw4;subst hw4;have gq:=zh (zA eP.o q.h);go_wp2_with fail;go_ret;exact ⟨zJ HF.o.symm,gq.o⟩
   obtain ⟨hok,OG,hL2⟩:=HM.o rfl;have HR:=zh (Wu.o hok);have HF:=zh (nz.o ⟨sV,hd2,Fg⟩ rfl);clear NH HNm nz HM Wu;go_wp2_with fail;clear x0 x1 x2 x3 x4 x5 x6 x7 x8 x9 gP gQ gK gM
   refine xD [eT (.pointer (some ⟨w.heap.size,3,none⟩)),eT (.int .i64 d),eT (.bool false),eT (.bool false),eT (.pointer (some ⟨w.heap.size,3,none⟩)),eT (.int .i64 d),eT (.bool false),eT (.bool false),eT (.bool false),eT (.pointer (some ⟨w.heap.size,3,none⟩)),eT (.int .i64 d),eT (.int .i64 0),eT (.bool false),eT (.bool false),eT (.bool false),eT (.pointer (some ⟨w.heap.size,4,none⟩)),eT (yD s L G),eT (.bool true),eT (.bool false),eT (.bool false),eT (.bool false),eT (.pointer (some ⟨w.heap.size,4,none⟩)),eT (yD s L G),rdS I,eT (.pointer (some ⟨w.heap.size,3,none⟩)),eT (.int .i64 d),eT (.bool er),eT (.bool (!er))] [] 71 (by kernel_rfl) (by kernel_rfl) (by rfl) (by kernel_rfl) (fun f=>by simp[fU,zW,Act.put];exact rfl) ?_ ?_
   ·refine ⟨?_,?_,?_,?_,?_,?_,?_,?_,?_,?_,?_,?_,?_,?_,?_,?_,?_,?_,?_,?_,?_,?_,?_,?_,?_,?_,?_,?_,trivial⟩
    ·intro f w1 hb hd;clear hd;dsimp only;go_wp2_with fail;exact pS rfl (by simp)
    ·intro f w1 hb hd;have d0:f 0=_:=hd 0 (by kernel_rfl);clear hd;dsimp only;rw[d0];have hx:=eO.o.bb hb;have x3:=hx.n3;clear hx;go_wp2_with fail;exact pS rfl (by simp)
    ·intro f w1 hb hd;have d1:f 1=_:=hd 1 (by kernel_rfl);clear hd;dsimp only;rw[d1];go_wp2_with fail;exact pS rfl (by simp)
    ·intro f w1 hb hd;have d2:f 2=_:=hd 2 (by kernel_rfl);clear hd;dsimp only;rw[d2];go_wp2_with fail;exact pS rfl (by simp)
    ·intro f w1 hb hd;have d3:f 3=_:=hd 3 (by kernel_rfl);clear hd;dsimp only;rw[d3];go_wp2_with fail;exact pS rfl (by simp)
    ·intro f w1 hb hd;have d3:f 3=_:=hd 3 (by kernel_rfl);have d4:f 4=_:=hd 4 (by kernel_rfl);clear hd;dsimp only;rw[d3];rw[d4];have hx:=eO.o.bb hb;have x3:=hx.n3;clear hx;go_wp2_with fail;exact pS rfl (by simp)
    ·intro f w1 hb hd;have d3:f 3=_:=hd 3 (by kernel_rfl);have d5:f 5=_:=hd 5 (by kernel_rfl);clear hd;dsimp only;rw[d3];rw[d5];go_wp2_with fail;exact pS rfl (by simp)
    ·intro f w1 hb hd;have d3:f 3=_:=hd 3 (by kernel_rfl);have d6:f 6=_:=hd 6 (by kernel_rfl);clear hd;dsimp only;rw[d3];rw[d6];go_wp2_with fail;exact pS rfl (by simp)
    ·intro f w1 hb hd;have d7:f 7=_:=hd 7 (by kernel_rfl);clear hd;dsimp only;rw[d7];go_wp2_with fail;exact pS rfl (by simp)
    ·intro f w1 hb hd;have d8:f 8=_:=hd 8 (by kernel_rfl);clear hd;dsimp only;rw[d8];go_wp2_with fail;exact pS rfl (by simp)
    ·intro f w1 hb hd;have d8:f 8=_:=hd 8 (by kernel_rfl);have d9:f 9=_:=hd 9 (by kernel_rfl);clear hd;dsimp only;rw[d8];rw[d9];have hx:=eO.o.bb hb;have x3:=hx.n3;clear hx;go_wp2_with fail;exact pS rfl (by simp)
    ·intro f w1 hb hd;have d8:f 8=_:=hd 8 (by kernel_rfl);have d10:f 10=_:=hd 10 (by kernel_rfl);clear hd;dsimp only;rw[d8];rw[d10];go_wp2_with fail;exact pS rfl (by simp)
    ·intro f w1 hb hd;have d8:f 8=_:=hd 8 (by kernel_rfl);have d11:f 11=_:=hd 11 (by kernel_rfl);clear hd;dsimp only;rw[d8];rw[d11];go_wp2_with fail;exact pS rfl (by simp)
    ·intro f w1 hb hd;have d8:f 8=_:=hd 8 (by kernel_rfl);have d12:f 12=_:=hd 12 (by kernel_rfl);clear hd;dsimp only;rw[d8];rw[d12];go_wp2_with fail;exact pS rfl (by simp)
    ·intro f w1 hb hd;have d13:f 13=_:=hd 13 (by kernel_rfl);clear hd;dsimp only;rw[d13];go_wp2_with fail;exact pS rfl (by simp)
    ·intro f w1 hb hd;have d14:f 14=_:=hd 14 (by kernel_rfl);clear hd;dsimp only;rw[d14];go_wp2_with fail;exact pS rfl (by simp)
    ·intro f w1 hb hd;have d14:f 14=_:=hd 14 (by kernel_rfl);have d15:f 15=_:=hd 15 (by kernel_rfl);clear hd;dsimp only;rw[d14];rw[d15];have hx:=eO.o.bb hb;obtain ⟨m4,m5,m6,m7,m8,m9,m10,m11,m12,m13⟩:=hx.q;clear hx;go_wp2_with fail;exact pS rfl (by simp)
    ·intro f w1 hb hd;have d14:f 14=_:=hd 14 (by kernel_rfl);have d16:f 16=_:=hd 16 (by kernel_rfl);clear hd;dsimp only;rw[d14];rw[d16];go_wp2_with fail;refine (HV.o w1 (zA eP.o hb)).mono ?_;rintro e w9 ⟨rfl,gy⟩;go_wp2_with fail;exact pT rfl (by simp) gy
    ·intro f w1 hb hd;have d14:f 14=_:=hd 14 (by kernel_rfl);have d17:f 17=_:=hd 17 (by kernel_rfl);clear hd;dsimp only;rw[d14];rw[d17];go_wp2_with fail;exact pS rfl (by simp)
    ·intro f w1 hb hd;have d14:f 14=_:=hd 14 (by kernel_rfl);have d18:f 18=_:=hd 18 (by kernel_rfl);clear hd;dsimp only;rw[d14];rw[d18];go_wp2_with fail;exact pS rfl (by simp)
    ·intro f w1 hb hd;have d19:f 19=_:=hd 19 (by kernel_rfl);clear hd;dsimp only;rw[d19];go_wp2_with fail;exact pS rfl (by simp)
    ·intro f w1 hb hd;have d20:f 20=_:=hd 20 (by kernel_rfl);clear hd;dsimp only;rw[d20];go_wp2_with fail;exact pS rfl (by simp)
    ·intro f w1 hb hd;have d20:f 20=_:=hd 20 (by kernel_rfl);have d21:f 21=_:=hd 21 (by kernel_rfl);clear hd;dsimp only;rw[d20];rw[d21];have hx:=eO.o.bb hb;obtain ⟨m4,m5,m6,m7,m8,m9,m10,m11,m12,m13⟩:=hx.q;clear hx;go_wp2_with fail;exact pS rfl (by simp)
    ·intro f w1 hb hd;have d20:f 20=_:=hd 20 (by kernel_rfl);have d22:f 22=_:=hd 22 (by kernel_rfl);clear hd;dsimp only;rw[d20];rw[d22];go_wp2_with fail;refine (HI.o w1 (zA eP.o hb)).mono ?_;rintro e w9 ⟨v9,rfl,sZ,gy⟩;go_wp2_with fail;exact pRg gy ⟨_,rfl,fR.rd sZ⟩ (by simp)
    ·intro f w1 hb hd;have d20:f 20=_:=hd 20 (by kernel_rfl);clear hd;dsimp only;rw[d20];go_wp2_with fail;exact pS rfl (by simp)
    ·intro f w1 hb hd;have d20:f 20=_:=hd 20 (by kernel_rfl);have d24:f 24=_:=hd 24 (by kernel_rfl);clear hd;dsimp only;rw[d20];rw[d24];have hx:=eO.o.bb hb;have x3:=hx.n3;clear hx;go_wp2_with fail;exact pS rfl (by simp)
    ·intro f w1 hb hd;have d20:f 20=_:=hd 20 (by kernel_rfl);obtain ⟨v23,d23,r23⟩:=hd 23 (by kernel_rfl);have d25:f 25=_:=hd 25 (by kernel_rfl);clear hd;dsimp only;rw[d20];rw[d23];rw[d25];go_wp2_with fail;refine (nA.o w1 _ r23 hok).mono ?_;rintro e w9 ⟨rfl,gy⟩;go_wp2_with fail;exact pT rfl (by simp) gy
    intro f w1 hb hd;have d20:f 20=_:=hd 20 (by kernel_rfl);have d26:f 26=_:=hd 26 (by kernel_rfl);clear hd;dsimp only;rw[d20];rw[d26];go_wp2_with fail;exact pS rfl (by simp)
   intro f w5 hb hd iX;clear iX;have d19:f 19=_:=hd 19 (show 19<28 by decide);have d20:f 20=_:=hd 20 (show 20<28 by decide);have d27:f 27=_:=hd 27 (show 27<28 by decide)
   try dsimp only
   rw[d19,d20,d27];clear hd d19 d20 d27;have gj:=zh (eO.o.bb hb);have gW:=zh (zA eP.o hb);have x3:=gj.o.n3;have gK:=gj.o.cl;have gM:=gj.o.cg
   cases er
   ·go_wp2_with fail;go_ret;exact ⟨zJ (by rw[HF.o,<- HR.o];rfl),gW.o⟩
   go_wp2_with fail;go_ret;exact ⟨zJ (by rw[HF.o,<- HR.o];rfl),gW.o⟩
  have HF:=zh (NH.o hB);have y3:=zB eO.o.n3
  by_cases h1:d<16
  ·have e1:decide (d<16)=true:=aD h1;go_wp2_with fail;refine zD (by kernel_rfl) (by kernel_rfl) ?_
   repeat (go_big_quiet_step (fail))
   refine ay ?_;intro w4 hw4;obtain ⟨q,hw4⟩:=hw4;subst hw4;have gq:=zh (zA eP.o q.h);go_wp2_with fail;go_ret;exact ⟨zJ HF.o.symm,gq.o⟩
  have e1:decide (d<16)=false:=aC h1
  by_cases h2:1048576<d
  ·have e2:decide (1048576<d)=true:=aD h2;go_wp2_with fail;refine zD (by kernel_rfl) (by kernel_rfl) ?_
   repeat (go_big_quiet_step (fail))
   refine ay ?_;intro w4 hw4;obtain ⟨q,hw4⟩:=hw4;subst hw4;have gq:=zh (zA eP.o q.h);go_wp2_with fail;go_ret;exact ⟨zJ HF.o.symm,gq.o⟩
  have e2:decide (1048576<d)=false:=aC h2;have VT:d.tmod 8=d%8:=dV (by omega);have e3:(d%8 != 0)=true:=bne_iff_ne.2 (fun e=>hB ⟨by omega,by omega,e⟩);go_wp2_with fail;refine zD (by kernel_rfl) (by kernel_rfl) ?_
  repeat (go_big_quiet_step (fail))
  refine ay ?_;intro w4 hw4;obtain ⟨q,hw4⟩:=hw4;subst hw4;have gq:=zh (zA eP.o q.h);go_wp2_with fail;go_ret;exact ⟨zJ HF.o.symm,gq.o⟩
 have HF:=zh (lh.o fun h=>hA ⟨h.num.1,h.num.2,h.rev.1,h.rev.2,h.mode.1,h.mode.2⟩);have HnA:=zh hA;clear lh l5 hres HV HI HM nA Wu hA;obtain ⟨a,b,c,d,f,L,G⟩:=g;dsimp only at *
 go_enter func79,ntmps79
 go_upto_region 1 with fail;obtain ⟨W,hW⟩:∃ W,w.alloc (.cells (zU a b c d s L G) 113)=W:=⟨_,rfl⟩
 change Code.wp _ _ _ _ (w.alloc (.cells (zU a b c d s L G) 113));rw[hW] at eO eP |-;clear hW;have x0:=eO.o.n0;have x1:=eO.o.n1;have x2:=eO.o.n2;go_upto_region 3 with fail
 all_goals first|(go_ret;exact ⟨zJ HF.o.symm,eP.o⟩)|(exfalso;exact HnA.o ⟨by omega,by omega,by omega,by omega,by omega,by omega⟩)
end Go.Proofs.YtcgfilmmokmdjaaGreat
