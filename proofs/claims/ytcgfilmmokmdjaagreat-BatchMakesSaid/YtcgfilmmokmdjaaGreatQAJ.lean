import Derived.Test.YtcgfilmmokmdjaaGreatQAF
import Derived.Test.YtcgfilmmokmdjaaGreatQAI
import Derived.Test.YtcgfilmmokmdjaaGreatQAH
import Derived.Test.YtcgfilmmokmdjaaGreatQAC
import Derived.Test.YtcgfilmmokmdjaaGreatGv
import Derived.Test.YtcgfilmmokmdjaaGreatQAE
import Derived.StillTailTactics
import Derived.Deep.Quiet
import Derived.BigQuiet
import Derived.Test.YtcgfilmmokmdjaaGreatBase
set_option linter.all false
set_option maxRecDepth 100000
set_option maxHeartbeats 32000000
namespace Go.Proofs.YtcgfilmmokmdjaaGreat
open Go.RowKit
theorem eQ.Tk {W:World} {b:Nat} {s:Sl} {l g:Int} (h:eQ W b s l g) (g':Int):eQ (W.setCell ⟨b,9,none⟩ (.int .i64 g')) b s l g':=by
 have hg:=h.cg;refine ⟨fun j hj=>?_,?_,by simp[go_sem,hg],fun i=>by simp[h.f]⟩
 ·
  have:=h.c j hj;exact (cz (h:=fun e=>by injection e with _ e _;omega) ..).trans this
 exact (cz (h:=fun e=>by injection e with _ e _;omega) ..).trans h.cl
theorem zDi (s:Sl) (M:Mp) (n:Int) (w:World) (h:fG w s M.st) (hs:∀ i,i<8→(M.st i).length≤10000) :
  Calls Tryz.prog 81 #[yF s M.live M.d_,.int .i64 n] w fun e w'=>e=.returned (yF s (xF M n).live (xF M n).d_)∧Below w.heap.size w w':=by
 have HV:=zh (fun W h=>uC s M W h (fun i hi=>ak (hs i hi) (by decide)));obtain ⟨W0,hW0⟩:∃ W0,(w.alloc (.cells (yj s M.live M.d_) 111)).alloc (.cells (yj Sl.nil 0 0) 111)=W0:=⟨_,rfl⟩
 have eB:=zh (show eQ W0 w.heap.size s M.live M.d_ from hW0▸((eQ.new w s M.live M.d_ 111).below (zb _ Sl.nil 0 0 111)));have pM:=zh (show eQ W0 (w.heap.size+1) Sl.nil 0 0 from hW0▸(by have:=eQ.new (w.alloc (.cells (yj s M.live M.d_) 111)) Sl.nil 0 0 111;simpa using this));have eH:=zh (show Below w.heap.size w W0 from hW0▸zA (zb w s M.live M.d_ 111) (zb _ Sl.nil 0 0 111));have pO:=zh hW0;clear hW0;have Hr:=zh h;have Jo:=zh (fun hv:xC M=true=>(⟨((zV M).1 hv).g0,((zV M).1 hv).g1⟩:_∧_));have HW:=zh (show xF M n=if xC M=true∧0≤n∧n≤1099511627776-M.d_ then ⟨M.st,M.live,M.d_+n⟩ else M from rfl);clear h hs;generalize xC M=vb at *;generalize xF M n=WM at *;obtain ⟨f,L,G⟩:=M;dsimp only at *
 go_enter Tryz.func81,Tryz.ntmps81
 go_upto_region 1 with fail;have hW0:=pO.out;rw[show (w.alloc (.cells (yj s L G) 111)).alloc (.cells #[.slice none 0 0,.slice none 0 0,.slice none 0 0,.slice none 0 0,.slice none 0 0,.slice none 0 0,.slice none 0 0,.slice none 0 0,.int .i64 0,.int .i64 0] 111)=W0 from hW0];clear hW0 pO;obtain ⟨c0,c1,c2,c3,c4,c5,c6,c7,c8,c9⟩:=eB.out.q;have cF:=eB.out.f;have nT:=zh (HV.out W0 (Hr.out.below eH.out));clear HV
 by_cases hok:vb=true∧0≤n∧n≤1099511627776-G
 ·
  rw[ah hok] at HW;obtain ⟨rfl,h1,h2⟩:=hok;obtain ⟨Iq,Gm⟩:=Jo.out rfl;have g1:decide (0≤n)=true:=by simpa using h1
  have j1:IntKind.i64.wrap (1099511627776-G)=1099511627776-G:=aF _ (by omega);have j2:IntKind.i64.wrap (G+n)=G+n:=aF _ (by omega);have g2:decide (n≤1099511627776-G)=true:=by simpa using h2
  go_wp2_with fail;refine nT.out.mono ?_;rintro e w1 ⟨rfl,hb1⟩;have fh:=zh (eB.out.below hb1);have oF:=zh (pM.out.below hb1);have eP:=zh (zA eH.out hb1);clear c0 c1 c2 c3 c4 c5 c6 c7 c8 c9 cF hb1;obtain ⟨c0,c1,c2,c3,c4,c5,c6,c7,c8,c9⟩:=fh.out.q;have cF:=fh.out.f;go_upto_region 3 with fail;obtain ⟨V5,DV⟩:∃ V5,w1.setCell ⟨w.heap.size,9,none⟩ (.int .i64 (G+n))=V5:=⟨_,rfl⟩
  have fJ:=zh (show eQ V5 w.heap.size s L (G+n) from DV▸fh.out.Tk (G+n));have su:=zh (show eQ V5 (w.heap.size+1) Sl.nil 0 0 from DV▸oF.out.eA (p:=⟨w.heap.size,9,none⟩) (show w.heap.size≠w.heap.size+1 by omega) _);have gH:=zh (show Below w.heap.size w V5 from DV▸eP.out.setCell (p:=⟨w.heap.size,9,none⟩) (ag _) _);rw[DV];clear c0 c1 c2 c3 c4 c5 c6 c7 c8 c9 cF DV fh oF eP;obtain ⟨c0,c1,c2,c3,c4,c5,c6,c7,c8,c9⟩:=fJ.out.q;have cF:=fJ.out.f;obtain ⟨d0,d1,d2,d3,d4,d5,d6,d7,d8,d9⟩:=su.out.q;have dF:=su.out.f;go_wp2_with fail;change bodyPost _ _ _ _ _ (yH V5 (w.heap.size+1) s L (G+n));have hby:=su.out.all s L (G+n);have eD:=zh (za gH.out (show w.heap.size≤w.heap.size+1 by omega) s L (G+n));generalize yH V5 (w.heap.size+1) s L (G+n)=V9 at *
  exact au (v:=yF s L (G+n)) (by simp[results,Tryz.results81,go_sem,hby.q]) rfl ⟨by rw[HW.out],eD.out⟩
 rw[ai hok] at HW;have mD:=zh (fun (V:World) (hb:Below W0.heap.size W0 V)=>show _∧_∧_ from ⟨eB.out.below hb,pM.out.below hb,zA eH.out hb⟩);have hcs:(vb=false)∨(vb=true∧n<0)∨(vb=true∧0≤n∧1099511627776-G<n):=by
  cases vb
  ·
   exact .inl rfl
  by_cases h1:0≤n
  ·
   exact .inr (.inr ⟨rfl,h1,by have:¬ n≤1099511627776-G:=fun e=>hok ⟨rfl,h1,e⟩;omega⟩)
  exact .inr (.inl ⟨rfl,by omega⟩)
 clear hok;rcases hcs with rfl|⟨rfl,h1⟩|⟨rfl,h1,h2⟩
 ·
  go_wp2_with fail;refine nT.out.mono ?_;rintro e w1 ⟨rfl,hb1⟩;obtain ⟨hx,hy,hb⟩:=mD.out _ hb1;have fJ:=zh hx;have su:=zh hy;have gH:=zh hb;clear c0 c1 c2 c3 c4 c5 c6 c7 c8 c9 cF hb1 hx hy hb;obtain ⟨c0,c1,c2,c3,c4,c5,c6,c7,c8,c9⟩:=fJ.out.q;have cF:=fJ.out.f;obtain ⟨d0,d1,d2,d3,d4,d5,d6,d7,d8,d9⟩:=su.out.q;have dF:=su.out.f;go_wp2_with fail;change bodyPost _ _ _ _ _ (yH w1 (w.heap.size+1) s L G);have hby:=su.out.all s L G;have eD:=zh (za gH.out (show w.heap.size≤w.heap.size+1 by omega) s L G);generalize yH w1 (w.heap.size+1) s L G=V9 at *;exact au (v:=yF s L G) (by simp[results,Tryz.results81,go_sem,hby.q]) rfl ⟨by rw[HW.out],eD.out⟩
 ·
  have g1:decide (0≤n)=false:=by simp;omega
  go_wp2_with fail;refine nT.out.mono ?_;rintro e w1 ⟨rfl,hb1⟩;obtain ⟨hx,hy,hb⟩:=mD.out _ hb1;have fJ:=zh hx;have su:=zh hy;have gH:=zh hb;clear c0 c1 c2 c3 c4 c5 c6 c7 c8 c9 cF hb1 hx hy hb;obtain ⟨c0,c1,c2,c3,c4,c5,c6,c7,c8,c9⟩:=fJ.out.q;have cF:=fJ.out.f;obtain ⟨d0,d1,d2,d3,d4,d5,d6,d7,d8,d9⟩:=su.out.q;have dF:=su.out.f;go_wp2_with fail;change bodyPost _ _ _ _ _ (yH w1 (w.heap.size+1) s L G);have hby:=su.out.all s L G;have eD:=zh (za gH.out (show w.heap.size≤w.heap.size+1 by omega) s L G);generalize yH w1 (w.heap.size+1) s L G=V9 at *;exact au (v:=yF s L G) (by simp[results,Tryz.results81,go_sem,hby.q]) rfl ⟨by rw[HW.out],eD.out⟩
 obtain ⟨Iq,Gm⟩:=Jo.out rfl;have g1:decide (0≤n)=true:=by simpa using h1
 have j1:IntKind.i64.wrap (1099511627776-G)=1099511627776-G:=aF _ (by omega);have g2:decide (n≤1099511627776-G)=false:=by simp;omega
 go_wp2_with fail;refine nT.out.mono ?_;rintro e w1 ⟨rfl,hb1⟩;obtain ⟨hx,hy,hb⟩:=mD.out _ hb1;have fJ:=zh hx;have su:=zh hy;have gH:=zh hb;clear c0 c1 c2 c3 c4 c5 c6 c7 c8 c9 cF hb1 hx hy hb;obtain ⟨c0,c1,c2,c3,c4,c5,c6,c7,c8,c9⟩:=fJ.out.q;have cF:=fJ.out.f;obtain ⟨d0,d1,d2,d3,d4,d5,d6,d7,d8,d9⟩:=su.out.q;have dF:=su.out.f;go_wp2_with fail;change bodyPost _ _ _ _ _ (yH w1 (w.heap.size+1) s L G);have hby:=su.out.all s L G;have eD:=zh (za gH.out (show w.heap.size≤w.heap.size+1 by omega) s L G);generalize yH w1 (w.heap.size+1) s L G=V9 at *;exact au (v:=yF s L G) (by simp[results,Tryz.results81,go_sem,hby.q]) rfl ⟨by rw[HW.out],eD.out⟩
theorem eZ.MU {w:World} {B:Nat} {s:Sl} {f g:Nat→List It} (h:eZ w B s f) (e:∀ i,i<8→g i=f i):eZ w B s g:=fun i hi=>by rw[e i hi];exact h i hi
theorem eU.MU {w':World} {B:Nat} {s s':Sl} {f0 f g:Nat→List It} (h:eU w' B s f0 s' f) (e:∀ i,i<8→g i=f i):eU w' B s f0 s' g:=by
 rcases h with ⟨h1,h2⟩|h
 ·
  exact .inl ⟨h1,fun i hi=>(e i hi).trans (h2 i hi)⟩
 exact .inr (h.MU e)
theorem eU.pts {w:World} {B b:Nat} {s s':Sl} {f f':Nat→List It} (h:eU w B s f s' f') (hb:b<B) (vs:List (Nat×Value)):eU (Go.Proofs.YtcgfilmmokmdjaaGreat.pts w b vs) B s f s' f':=h.imp id fun h=>h.pts hb vs
theorem zJR (s:Sl) (M:Mp) (x:It) (w:World) (h:fG w s M.st) (hs:∀ i,i<8→(M.st i).length≤9000) :
  Calls Tryz.prog 83 #[yF s M.live M.d_,lN x] w fun e w'=>(∃ s',e=.returned (yF s' (wV M x).live (wV M x).d_)∧eU w' w.heap.size s M.st s' (wV M x).st)∧Below w.heap.size w w':=by
 have e:=zIk M x;refine (zHL s M x w h hs).mono ?_;rintro e' w' ⟨⟨s',rfl,ho⟩,hb⟩;exact ⟨⟨s',by rw[e.l,e.g],ho.MU e.st⟩,hb⟩
theorem YH (s:Sl) (M:Mp) (key:Int) (w:World) (h:fG w s M.st) (hs:∀ i,i<8→(M.st i).length≤9000) :
  Calls Tryz.prog 82 #[yF s M.live M.d_,.int .u64 key] w fun e w'=>(∃ s',e=.returned (yF s' (yP M key).live (yP M key).d_)∧eU w' w.heap.size s M.st s' (yP M key).st)∧Below w.heap.size w w':=by
 have e:=zIJ M key;refine (zG1 s M key w h hs).mono ?_;rintro e' w' ⟨⟨s',rfl,ho⟩,hb⟩;exact ⟨⟨s',by rw[e.l,e.g],ho.MU e.st⟩,hb⟩
def MV (w0:World) (s:Sl) (f:Nat→List It) (p:Int×Gn) (e:Ending) (w':World):Prop:=(∃ s',e=.returned (.tuple #[zd p.2.num p.2.rev p.2.mode p.2.size s' p.2.m.live p.2.m.d_,.int .i64 p.1])∧eU w' w0.heap.size s f s' p.2.m.st)∧Below w0.heap.size w0 w'
/-! ### The ek ends, plain -/
def K0 (l:List It) (size:Int):Bool:=(List.range l.length).all fun i=>decide (vv (ea l i)≤size)&&(List.range l.length).all fun k=>decide (k=i)||!(decide ((ea l i).off≤(ea l k).off)&&decide ((ea l k).off<vv (ea l i)))
theorem YI (l:List It) (size:Int):K0 l size=true↔∀ i,i<l.length→vv (ea l i)≤size∧∀ k,k<l.length→k≠i→¬ ((ea l i).off≤(ea l k).off∧(ea l k).off<vv (ea l i)):=by
 unfold K0;rw[dy];refine ⟨fun h i hi=>?_,fun h i hi=>?_⟩
 ·
  have h1:=h i (List.mem_range.2 hi);rw[aN,aR,dy] at h1;refine ⟨h1.1,fun k hk hne hc=>?_⟩;have h2:=h1.2 k (List.mem_range.2 hk);rw[aD hne,aC hc.1,aC hc.2] at h2
  cases h2
 obtain ⟨h1,h2⟩:=h i (List.mem_range.1 hi);rw[aN,aR,dy];refine ⟨h1,fun k hk=>?_⟩
 by_cases e:k=i
 ·
  rw[aC e];rfl
 rw[aD e,Bool.false_or,Bool.not_eq_true',Bool.and_eq_false_iff,decide_eq_false_iff_not,decide_eq_false_iff_not];have:=h2 k (List.mem_range.1 hk) e;omega
theorem zJl {l:List It} (hok:∀ x∈l,oB x) (size:Int):K0 l size=vr l size:=by
 refine Bool.eq_iff_iff.2 ((YI l size).trans (Iff.trans ?_ (decide_eq_true_iff (p:=kH l size)).symm));have hm:∀ i,(h:i<l.length)→ea l i=l[i]:=fun i h=>by unfold ea;rw[ax,aB h];rfl
 constructor
 ·
  intro h;refine ⟨List.pairwise_iff_getElem.2 fun i j hi hj hij=>?_,fun x hx=>?_⟩
  ·
   have h1:=(h i hi).2 j hj (by omega);have h2:=(h j hj).2 i hi (by omega);rw[hm i hi,hm j hj] at h1 h2;unfold FI;omega
  obtain ⟨i,hi,rfl⟩:=cG hx;have:=(h i hi).1
  rwa [hm i hi] at this
 rintro ⟨hp,hs⟩ i hi;rw[hm i hi];refine ⟨hs _ (bI hi),fun k hk e=>?_⟩;rw[hm k hk];have gi:=tx (hok _ (bI hi));have gk:=tx (hok _ (bI hk));rcases Nat.lt_or_gt_of_ne e with hlt|hlt
 ·
  have:=List.pairwise_iff_getElem.1 hp k i hk hi hlt;unfold FI at this;omega
 have:=List.pairwise_iff_getElem.1 hp i k hi hk hlt;unfold FI at this;omega
theorem ja.MW {w:World} {b off n cap:Nat} {l:List It} (h:ja w (.slice (some ⟨b,off,none⟩) n cap) l) {j:Nat} (hj:j<n):w.cell? ⟨b,off+j*4+2,none⟩=some (.int .i64 (ea l j).off):=by
 obtain ⟨b',o',e,c0,c1,c2,c3⟩:=h.at hj;injection e with e;injection e with e1 e2;subst e1 e2;exact c2
theorem zGu (v:Value) (l:List It) (size:Int) (w:World) (h:ja w v l) (hok:∀ x∈l,oB x) (hsm:l.length≤1000000) :
  Calls Tryz.prog 122 #[v,.int .i64 size] w fun e w'=>e=.returned (.bool (K0 l size))∧Below w.heap.size w w':=by
 have HE:=zh (YI l size);have pP:=zh (fun i (hi:i<l.length)=>hok (ea l i) (t8 hi));generalize K0 l size=res at *;clear hok;obtain ⟨a,cap,rfl,h1,h2⟩:=h.shape;have hm:=C1 h1 h2;have Hr:=zh h;clear h;generalize hn:l.length=n at *;clear hn h1 h2
 go_enter Tryz.func122,Tryz.ntmps122
 go_wp2_with fail
 go_loopw [5] (fun iv W=>∃ i:Nat,iv=.int .i64 (i:Int)∧i≤n∧Hid (∀ j,j<i→vv (ea l j)≤size∧∀ k,k<n→k≠j→¬ ((ea l j).off≤(ea l k).off∧(ea l k).off<vv (ea l j)))∧Hid (Below w.heap.size w W)) (fun iv _=>n-(intOf iv).toNat)
 case atStart=>exact ⟨0,rfl,aq _,zh (fun j hj=>by omega),zh (aj _ _)⟩
 obtain ⟨i,rfl,hi,HI,HB⟩:=hrel
 by_cases hlt:i<n
 ·
  obtain ⟨b,off,rfl,c0,c1,c2,c3⟩:=(Hr.out.below HB.out).at hlt;have hx:=pP.out i hlt;have hsl:eN (ea l i).size.toNat≤4127:=xj _;have hx1:=hx.2.2.1;have hz0:((ea l i).size.toNat:Int)=(ea l i).size:=Int.toNat_of_nonneg hx.2.2.2.1;have HZ:=zh (fun W=>KQ (ea l i).size.toNat W);rw[hz0] at HZ;have Tl:=zh (show vv (ea l i)=(ea l i).off+(eN (ea l i).size.toNat:Int) from rfl);have i1:(i:Int)<(n:Int):=by omega
  have hxo:16≤(ea l i).off∧(ea l i).off≤1048576:=⟨hx.1,hx.2.1⟩
  have Dg:=zh (fun W=>show Calls Tryz.prog 28 #[.int .i64 (ea l i).size] W fun e w'=>e=.returned (.int .i64 (eN (ea l i).size.toNat:Int))∧Below W.heap.size W w' from (HZ.out W).mono fun e w' hh=>⟨hh.1,hh.2▸aj _ _⟩);have y2:=zB c2;have y3:=zB c3;clear HZ hx;generalize eN (ea l i).size.toNat=z at *;go_wp2_with fail;refine zC (by kernel_rfl) (by kernel_rfl) ?_
  repeat (go_big_quiet_step (exact zE (Dg.out _)))
  refine aA ?_;intro w2 hw2;obtain ⟨q,hw2⟩:=hw2;subst hw2;have eM:=zh (zA HB.out q.h);generalize q.w'=w2 at *;clear q y2 y3 Dg c0 c1 c2 c3;obtain ⟨en,hen⟩:∃ en:Int,(ea l i).off+(z:Int)=en:=⟨_,rfl⟩
  have af1:16≤en∧en≤2097152:=by omega
  have Dh:=zh (Tl.out.trans hen)
  by_cases hsz:size<en
  ·
   have e0:decide (size<(ea l i).off+(z:Int))=true:=by rw[hen];exact aC hsz
   go_wp2_with fail;go_ret;refine ⟨zI ?_,eM.out⟩
   symm
   rw[← Bool.not_eq_true,HE.out];intro hh;have:=(hh i hlt).1;rw[Dh.out] at this;omega
  have e0:decide (size<(ea l i).off+(z:Int))=false:=by rw[hen];exact aD hsz
  rw[hen] at e0;go_wp2_with fail;clear e0;have FD:=Dh
  go_loopw [7] (fun kv W=>∃ k:Nat,kv=.int .i64 (k:Int)∧k≤n∧Hid (∀ j,j<k→j≠i→¬ ((ea l i).off≤(ea l j).off∧(ea l j).off<vv (ea l i)))∧Hid (Below w.heap.size w W)) (fun kv _=>n-(intOf kv).toNat)
  case atStart=>exact ⟨0,rfl,aq _,zh (fun j hj=>by omega),eM⟩
  obtain ⟨k,rfl,hk,HK,gy⟩:=hrel;clear eM
  by_cases hkn:k<n
  ·
   have ci:=(Hr.out.below gy.out).MW hlt;have ck:=(Hr.out.below gy.out).MW hkn;have yi:=zB ci;have yk:=zB ck;have i2:(k:Int)<(n:Int):=by omega
   clear ci ck
   by_cases hki:k=i
   ·
    have e1:((k:Int) != (i:Int))=false:=by rw[hki];simp
    have af2:¬ k≠i:=by omega
    have hle:k=i:=hki;clear hki;go_wp2_with fail;refine zC (by kernel_rfl) (by kernel_rfl) ?_
    repeat (go_big_quiet_step (fail))
    refine aA ?_;intro w4 hw4;obtain ⟨q,hw4⟩:=hw4;subst hw4;have gD:=zh (zA gy.out q.h);generalize q.w'=w4 at *;clear q yi yk;go_wp2_with fail
    go_roundw
    case rel=>exact ⟨k+1,by go_num,by omega,zh (fun j hj hne hc=>by
     by_cases e:j=k
     ·
      subst e
      have h1:=hc.1
      have h2:=hc.2
      rw[Dh.out] at h2
      omega
     exact HK.out j (by omega) hne hc),gD⟩
    case measure=>simp[intOf];omega
   have e1:((k:Int) != (i:Int))=true:=bne_iff_ne.2 (by omega)
   by_cases hge:(ea l i).off≤(ea l k).off
   ·
    have e2:decide ((ea l i).off≤(ea l k).off)=true:=aC hge
    by_cases hlk:(ea l k).off<en
    ·
     have e3:decide ((ea l k).off<en)=true:=aC hlk;go_wp2_with fail;refine zC (by kernel_rfl) (by kernel_rfl) ?_
     repeat (go_big_quiet_step (fail))
     refine aA ?_;intro w4 hw4;obtain ⟨q,hw4⟩:=hw4;subst hw4;have gD:=zh (zA gy.out q.h);generalize q.w'=w4 at *;clear q yi yk;go_wp2_with fail;go_ret;refine ⟨zI ?_,gD.out⟩
     symm
     rw[← Bool.not_eq_true,HE.out];intro hh;exact (hh i hlt).2 k hkn hki ⟨hge,by rw[Dh.out];exact hlk⟩
    have e3:decide ((ea l k).off<en)=false:=aD hlk;go_wp2_with fail;refine zC (by kernel_rfl) (by kernel_rfl) ?_
    repeat (go_big_quiet_step (fail))
    refine aA ?_;intro w4 hw4;obtain ⟨q,hw4⟩:=hw4;subst hw4;have gD:=zh (zA gy.out q.h);generalize q.w'=w4 at *;clear q yi yk;go_wp2_with fail
    go_roundw
    case rel=>exact ⟨k+1,by go_num,by omega,zh (fun j hj hne hc=>by
     by_cases e:j=k
     ·
      subst e
      have h1:=hc.1
      have h2:=hc.2
      rw[Dh.out] at h2
      omega
     exact HK.out j (by omega) hne hc),gD⟩
    case measure=>simp[intOf];omega
   have e2:decide ((ea l i).off≤(ea l k).off)=false:=aD hge;go_wp2_with fail;refine zC (by kernel_rfl) (by kernel_rfl) ?_
   repeat (go_big_quiet_step (fail))
   refine aA ?_;intro w4 hw4;obtain ⟨q,hw4⟩:=hw4;subst hw4;have gD:=zh (zA gy.out q.h);generalize q.w'=w4 at *;clear q yi yk;go_wp2_with fail
   go_roundw
   case rel=>exact ⟨k+1,by go_num,by omega,zh (fun j hj hne hc=>by
    by_cases e:j=k
    ·
     subst e
     have h1:=hc.1
     have h2:=hc.2
     rw[Dh.out] at h2
     omega
    exact HK.out j (by omega) hne hc),gD⟩
   case measure=>simp[intOf];omega
  obtain rfl:k=n:=by omega
  go_wp2_with fail
  go_roundw
  case rel=>exact ⟨i+1,by go_num,by omega,zh (fun j hj=>by
   by_cases e:j=i
   ·
    subst e
    exact ⟨by rw[Dh.out];omega,fun k hk hne=>HK.out k hk hne⟩
   exact HI.out j (by omega)),gy⟩
  case measure=>simp[intOf];omega
 obtain rfl:i=n:=by omega
 go_wp2_with fail;go_ret;refine ⟨zI ?_,HB.out⟩
 symm
 rw[HE.out];exact HI.out
end Go.Proofs.YtcgfilmmokmdjaaGreat
namespace Go.Proofs.YtcgfilmmokmdjaaGreat
open Go Go.RowKit
section
variable {P:Program} {ops:Array Oper} {md:Region.Mode}
def zT (ops:Array Oper) (j:Nat):Option Tmp:=(ops[j]?).bind (·.dst)
def fF (ops:Array Oper) (a0:Act) (f:Nat→Value):Nat→Act
 |0=>a0
 |n+1=>(fF ops a0 f n).put (zT ops n) (f n)
def xB (f:Nat→Value) (i:Nat) (v:Value):Nat→Value:=fun j=>if j=i then v else f j
theorem zKY (a:Act) (d:Option Tmp) (u v:Value):(a.put d u).put d v=a.put d v:=by
 cases d with
 |none=>rfl
 |some d=>simp[Act.put]
theorem put_comm (a:Act) (d e:Option Tmp) (u v:Value) (h:d=none∨d≠e):(a.put d u).put e v=(a.put e v).put d u:=by
 cases d with
 |none=>rfl
 |some d =>
  cases e with
  |none=>rfl
  |some e =>
   have hne:d≠e:=by
    rcases h with h|h
    ·
     cases h
    exact fun e1=>h (by rw[e1])
   simp only[Act.put];rw[Array.setIfInBounds_comm _ _ hne]
theorem YK (ops:Array Oper) (a0:Act) (f:Nat→Value) (i:Nat) (v:Value):∀ n,n≤i→fF ops a0 (xB f i v) n=fF ops a0 f n
 |0,_=>rfl
 |n+1,h=>by
  show (fF ops a0 (xB f i v) n).put _ (xB f i v n)=_
  rw[YK ops a0 f i v n (by omega)];have:xB f i v n=f n:=ai (by omega);rw[this];rfl
theorem tq (ops:Array Oper) (a0:Act) (f:Nat→Value) (i:Nat) (v:Value):∀ n,i<n→(∀ j,j<n→j≠i→zT ops i=none∨zT ops i≠zT ops j)→(fF ops a0 f n).put (zT ops i) v=fF ops a0 (xB f i v) n
 |0,h,_=>by omega
 |n+1,h,hd=>by
  show ((fF ops a0 f n).put (zT ops n) (f n)).put (zT ops i) v=(fF ops a0 (xB f i v) n).put (zT ops n) (xB f i v n)
  by_cases e:i=n
  ·
   subst e;rw[zKY,YK ops a0 f i v i (ag _)];have:xB f i v i=v:=ah rfl;rw[this]
  have h1:zT ops n=none∨zT ops n≠zT ops i:=by
   rcases hd n (by omega) (fun e1=>e e1.symm) with h|h
   ·
    cases hn:zT ops n with
    |none=>exact .inl rfl
    |some d=>exact .inr (by rw[h];simp)
   exact .inr (aQ h)
  rw[put_comm _ _ _ _ _ h1,tq ops a0 f i v n (by omega) fun j hj hji=>hd j (by omega) hji];have:xB f i v n=f n:=ai (by omega);rw[this]
theorem K1 (ops:Array Oper) (a0:Act):∀ n,fF ops a0 (fun j=>match zT ops j with|some d=>a0.tmps.getD d undef|none=>undef) n=a0
 |0=>rfl
 |n+1=>by
  show (fF ops a0 _ n).put (zT ops n) _=a0
  rw[K1 ops a0 n]
  cases hd:zT ops n with
  |none=>rfl
  |some d =>
   simp only[hd];obtain ⟨t,ds⟩:=a0;simp only[Act.put]
   congr 1
   apply Array.ext_getElem?;intro i
   by_cases e:d=i
   ·
    subst e;rw[Array.getElem?_setIfInBounds_self]
    split
    ·
     rename_i h;simp[h]
    rename_i h;rw[Array.getElem?_eq_none (by omega)]
   rw[Array.getElem?_setIfInBounds_ne e]
def PR (md:Region.Mode) (ops:Array Oper) (n:Nat):Bool:=
 decide (n<ops.size)&&Region.sinkB md ops n&&Region.chainB md ops n &&
 ((List.range n).all fun i=>((ops[i]?).map fun o=>o.dst.isSome&&o.after.all fun e=>!Region.binds md e||decide (e.on<i)).getD false) &&
 ((List.range n).all fun i=>(List.range n).all fun j=>decide (i=j)||decide (zT ops i≠zT ops j)) &&
 Region.seqB md ops (ops.size-n) n ((List.range ops.size).map fun j=>decide (j<n)).toArray
variable {Q:Exit→Act→World→Prop}
def blk:Value→Nat
 |.pointer (some a)=>a.block
 |_=>0
def uz (B0:Value→World→Prop) (F:Prop) (ds:List Deferred) (d:Option Tmp) (w:World) (a':Act) (w':World):Prop:=
 a'.defers=ds∧Below w.heap.size w w'∧∀ t,d=some t→B0 (a'.tmps.getD t undef) w'∧(F→w.heap.size≤blk (a'.tmps.getD t undef)∧blk (a'.tmps.getD t undef)<w'.heap.size)
theorem kS {o:Oper} {a:Act} {w:World} {R:Act→World→Prop} (h:wpList P ops (Exit.then R Q) [o] a w) {K:Act→World→Prop}
  (hK:∀ v w',R (a.put o.dst v) w'→K (a.put o.dst v) w') (hD:∀ d v w',R ({a with defers:=d::a.defers}.put o.dst v) w'→False) :
  if Region.wanted o (yielded ops a.tmps) then o.wp P a w K Q∨(o.asks P a w∧LetsOut Q) else K (a.put o.dst undef) w:=by
 unfold wpList at h
 split at h
 ·
  rename_i hw;rw[ah hw];rcases h with h|⟨h1,h2⟩
  ·
   left
   unfold Oper.wp at h ⊢;generalize (execOp a.eval o).run P w=r at *
   cases r with
   |ok nx w' =>
    cases nx with
    |value v=>exact hK _ _ h
    |skip=>exact hK _ _ h
    |defer d=>exact absurd h (hD _ _ _)
    |enter f args =>
     refine Calls.mono h fun e w'' he=>?_
     cases e with
     |returned v=>exact hK _ _ he
     |panicked c=>exact he
     |outgrown=>exact he
    |row r args=>exact Rows.mono h fun v w'' he=>hK _ _ he
    |_=>exact h
   |halt x w'=>cases x<;>first|exact h|exact False.elim h
  exact .inr ⟨h1,h2⟩
 rename_i hw;rw[ai hw];exact hK _ _ h
theorem tT {T:List Nat} (h:T≠[]):∃ m,m∈T∧∀ k∈T,m≤k:=by
 induction T with
 |nil=>exact absurd rfl h
 |cons x r ih =>
  by_cases hr:r=[]
  ·
   subst hr;exact ⟨x,by simp,fun k hk=>by simp at hk;omega⟩
  obtain ⟨m,hm,hle⟩:=ih hr
  by_cases hx:x≤m
  ·
   exact ⟨x,by simp,fun k hk=>by
    rcases List.mem_cons.1 hk with rfl|hk
    ·
     exact ag _
    exact ak hx (hle k hk)⟩
  exact ⟨m,by simp[hm],fun k hk=>by
   rcases List.mem_cons.1 hk with rfl|hk
   ·
    omega
   exact hle k hk⟩
theorem ue (ops:Array Oper) (a0:Act) (f:Nat→Value):∀ n,(fF ops a0 f n).tmps.size=a0.tmps.size
 |0=>rfl
 |n+1=>by
  show ((fF ops a0 f n).put (zT ops n) (f n)).tmps.size=_
  rw[← ue ops a0 f n]
  cases zT ops n<;>simp[Act.put]
theorem zKp {n:Nat} {a0:Act} {w0:World} {Φ:Nat→Value→World→Prop} {F:Nat→Prop} {l:List Oper} (hl:ops=l.toArray) (hB:PR md ops n=true) (hN:∀ i,i<n→∀ t,zT ops i=some t→t<a0.tmps.size)
  (mono:∀ j,j<n→∀ v w1 w2,Below w1.heap.size w1 w2→Φ j v w1→Φ j v w2)
  (head:∀ i o,i<n→ops[i]?=some o→∀ f w1,Below w0.heap.size w0 w1→(∀ e∈o.after,Region.binds md e=true→Φ e.on (f e.on) w1) →
   wpList P ops (Exit.then (uz (Φ i) (F i) (fF ops a0 f n).defers o.dst w1) Q) [o] (fF ops a0 f n) w1)
  (tail:∀ f w1,Below w0.heap.size w0 w1→(∀ j,j<n→Φ j (f j) w1)→(∀ j k,j<n→k<n→j≠k→F j→F k→blk (f j)≠blk (f k))→wpList P ops Q (l.drop n) (fF ops a0 f n) w1) :
  ∀ (fuel:Nat) (T:List Nat) (s:Array Bool) (f:Nat→Value) (w:World),T.Nodup→T.length=fuel→(∀ j,j<n→(s.getD j false=false↔j∈T))→(∀ j∈T,j<n)→HeadInv md ops n s→Below w0.heap.size w0 w →
   (∀ j,j<n→s.getD j false=true→Φ j (f j) w)→(∀ j,j<n→s.getD j false=true→F j→blk (f j)<w.heap.size) →
   (∀ j k,j<n→k<n→j≠k→s.getD j false=true→s.getD k false=true→F j→F k→blk (f j)≠blk (f k))→wpAny P md ops Q (fuel+(ops.size-n)) s (fF ops a0 f n) w:=by
 simp only[PR,aN,aR] at hB;obtain ⟨⟨⟨⟨⟨hn,hs⟩,hc⟩,hfw⟩,hdd⟩,Gx⟩:=hB;have pR:∀ i o,i<n→ops[i]?=some o→o.dst.isSome=true∧∀ e∈o.after,Region.binds md e=true→e.on<i:=fun i o hi ho=>by
  have:=List.all_eq_true.1 hfw i (List.mem_range.2 hi);rw[ho] at this;simp only[dE,bC,aN] at this;refine ⟨this.1,fun e he hb=>?_⟩;have h2:=Array.all_eq_true_iff_forall_mem.1 this.2 e he;rw[hb] at h2
  simpa using h2
 have s6:∀ i j,i<n→j<n→i≠j→zT ops i≠zT ops j:=fun i j hi hj hij=>by
  have:=List.all_eq_true.1 (List.all_eq_true.1 hdd i (List.mem_range.2 hi)) j (List.mem_range.2 hj)
  simpa [hij] using this
 intro fuel
 induction fuel with
 |zero =>
  intro T s f w hT hlen l5 rT inv hb hΦ hF CA;have Gy:T=[]:=List.length_eq_zero_iff.1 hlen;subst Gy;have hall:∀ j,j<n→s.getD j false=true:=fun j hj=>by
   cases h:s.getD j false with
   |true=>rfl
   |false=>exact absurd ((l5 j hj).1 h) (by simp)
  have Fz:s=((List.range ops.size).map fun j=>decide (j<n)).toArray:=by
   apply Array.ext
   ·
    simp[inv.size]
   intro j h1 h2;have iT:j<ops.size:=by rw[← inv.size];exact h1
   simp only[aU,dH,dQ]
   by_cases e:j<n
   ·
    have:=hall j e;rw[bw,bM h1] at this;simp only[bC] at this;rw[this];simp[e]
   have:=inv.tail j (by omega) iT;rw[bw,bM h1] at this;simp only[bC] at this;rw[this];simp[e]
  rw[aI];have il:(l.drop n).length=ops.size-n:=by rw[hl];simp
  have h3:=wpAny_of_seq (P:=P) (md:=md) (ops:=ops) (Q':=Q) (l.drop n) n s (fF ops a0 f n) w (fun j=>by rw[hl];simp[cQ]) (by rw[il,Fz];exact Gx) (tail f w hb (fun j hj=>hΦ j hj (hall j hj)) fun j k hj hk hjk=>CA j k hj hk hjk (hall j hj) (hall k hk))
  rwa [il] at h3
 |succ fuel ih =>
  intro T s f w hT hlen l5 rT inv hb hΦ hF CA;have t_:T≠[]:=fun e=>by rw[e] at hlen;cases hlen
  obtain ⟨m,hm,hle⟩:=tT t_;have hmn:=rT m hm;have hun:s.getD m false=false:=(l5 m hmn).2 hm;have EC:m<s.size:=by rw[inv.size];omega
  obtain ⟨om,CB⟩:∃ o,ops[m]?=some o:=⟨_,bM (by omega)⟩
  have ll:m∈Region.ready md ops s:=mem_ready.2 ⟨getD_in EC hun,om,CB,fun e he jL=>by
   have h1:=(pR m om hmn CB).2 e he jL
   cases h2:s.getD e.on false with
   |true=>rfl
   |false =>
    have:=hle _ ((l5 e.on (by omega)).1 h2)
    omega⟩
  rw[show fuel+1+(ops.size-n)=(fuel+(ops.size-n))+1 by omega];refine ⟨fun e=>absurd ll (by rw[e];simp),fun i hi=>?_⟩;obtain ⟨D3,oi,hoi,mO⟩:=mem_ready.1 hi;have hin:i<n:=Nat.lt_of_not_le fun h=>tail_waits hs hc hn inv _ m rfl hmn (getD_in EC hun) i h hi
  have Gz:i∈T:=(l5 i hin).1 (getD_both D3);have CD:=pR i oi hin hoi;have nM:zT ops i=oi.dst:=by unfold zT;rw[hoi];rfl
  unfold wpOp;rw[hoi];simp only[];have hh:=head i oi hin hoi f w hb fun e he jL=>hΦ e.on (by have:=CD.2 e he jL;omega) (mO e he jL)
  refine kS hh (fun v w' hR=>?_) (fun d v w' hR=>?_)
  ·
   obtain ⟨_,fU,hv⟩:=hR;have hval:∀ i,i<n→oi.dst.isSome=true→zT ops i=oi.dst→(∀ t,oi.dst=some t→Φ i (((fF ops a0 f n).put oi.dst v).tmps.getD t undef) w'∧(F i→w.heap.size≤blk (((fF ops a0 f n).put oi.dst v).tmps.getD t undef)∧blk (((fF ops a0 f n).put oi.dst v).tmps.getD t undef)<w'.heap.size))→Φ i v w'∧(F i→w.heap.size≤blk v∧blk v<w'.heap.size):=fun i hi h1 nM h=>by
    obtain ⟨t,ht⟩:=Option.isSome_iff_exists.1 h1;have h4:=h t ht;have h5:t<(fF ops a0 f n).tmps.size:=by rw[ue];exact hN i hi t (by rw[nM,ht])
    rw[ht] at h4
    simpa [Act.put,h5] using h4
   rw[← nM,tq ops a0 f i v n hin fun j hj hji=>.inr (s6 i j hin hj (aQ hji))];refine ih (T.erase i) _ _ w' (hT.erase i) (by rw[List.length_erase_of_mem Gz];omega) (fun j hj=>?_) (fun j hj=>rT j (List.mem_of_mem_erase hj)) (inv.set hi hin) (zA hb fU) (fun j hj iT=>?_) (fun j hj iT Bh=>?_) (fun j k hj hk hjk iT hks Bh FN=>?_)
   ·
    rw[hT.mem_erase_iff]
    by_cases e:j=i
    ·
     subst e;have iT:j<s.size:=by rw[inv.size];omega
     simp[bw,iT]
    rw[bJ false (aQ e),l5 j hj];simp[e]
   ·
    by_cases e:j=i
    ·
     subst e;have:xB f j v j=v:=ah rfl;rw[this];exact (hval j hj CD.1 nM hv).1
    have:xB f i v j=f j:=ai e;rw[this];rw[bJ false (aQ e)] at iT;exact mono j hj _ _ _ fU (hΦ j hj iT)
   ·
    by_cases e:j=i
    ·
     subst e;have:xB f j v j=v:=ah rfl;rw[this];exact ((hval j hj CD.1 nM hv).2 Bh).2
    have:xB f i v j=f j:=ai e;rw[this];rw[bJ false (aQ e)] at iT;exact cM (hF j hj iT Bh) fU.size
   by_cases e:j=i
   ·
    subst e;have e1:xB f j v j=v:=ah rfl;have e2:xB f j v k=f k:=ai (aQ hjk);rw[e1,e2];rw[bJ false hjk] at hks;have h1:=((hval j hj CD.1 nM hv).2 Bh).1;have h2:=hF k hk hks FN;omega
   have e1:xB f i v j=f j:=ai e;rw[e1];rw[bJ false (aQ e)] at iT
   by_cases e3:k=i
   ·
    subst e3;have e2:xB f k v k=v:=ah rfl;rw[e2];have h1:=((hval k hk CD.1 nM hv).2 FN).1;have h2:=hF j hj iT Bh;omega
   have e2:xB f i v k=f k:=ai e3;rw[e2];rw[bJ false (aQ e3)] at hks;exact CA j k hj hk hjk iT hks Bh FN
  have h1:=hR.1;have h2:=aO List.length h1
  cases GD:oi.dst<;>simp[Act.put,GD] at h2
structure mE where
 p:Value→World→Prop
 m:∀ v w w',Below w.heap.size w w'→p v w→p v w'
instance:Inhabited mE:=⟨⟨fun _ _=>True,fun _ _ _ _ _=>trivial⟩⟩
def eR (x:Value):mE:=⟨fun v _=>v=x,fun _ _ _ _ h=>h⟩
def GF (o:Oper) (j:Nat):Bool:=o.after.any fun e=>Region.binds .any e&&e.on==j
def stA (L:List mE) (j:Nat):mE:=L.getD j default
def MX (ops:Array Oper) (n N:Nat):Bool:=(List.range n).all fun i=>((zT ops i).map fun t=>decide (t<N)).getD true
def MY (P:Program) (Q:Exit→Act→World→Prop) (ops:Array Oper) (L:List mE) (F:List Nat) (fr:(Nat→Value)→Act) (w:World):List Oper→List mE→Nat→Prop
 |o::r,S::R,i=>(∀ f w1,Below w.heap.size w w1→(∀ j,GF o j=true→(stA L j).p (f j) w1)→wpList P ops (Exit.then (uz S.p (i∈F) (fr f).defers o.dst w1) Q) [o] (fr f) w1)∧MY P Q ops L F fr w r R (i+1)
 |_,_,_=>True
theorem kr {ops:Array Oper} {L:List mE} {F:List Nat} {fr:(Nat→Value)→Act} {w:World}:∀ (l:List Oper) (R:List mE) (k:Nat),MY P Q ops L F fr w l R k →
  ∀ i o S,l[i]?=some o→R[i]?=some S→∀ f w1,Below w.heap.size w w1→(∀ j,GF o j=true→(stA L j).p (f j) w1)→wpList P ops (Exit.then (uz S.p (k+i∈F) (fr f).defers o.dst w1) Q) [o] (fr f) w1
 |[],_,_,_,i,o,S,ho,_=>by simp at ho
 |o::r,[],_,_,i,_,S,_,hS=>by simp at hS
 |o::r,S::R,k,h,0,o',S',ho,hS=>by
  simp at ho hS;subst ho hS;exact h.1
 |o::r,S::R,k,h,i+1,o',S',ho,hS=>by
  have:=kr r R (k+1) h.2 i o' S' (by simpa using ho) (by simpa using hS)
  rwa [show k+1+i=k+(i+1) by omega] at this
theorem xO {id:Nat} {a0:Act} {w:World} {l:List Oper} (L:List mE) (F:List Nat) (N:Nat) (hm:P.follows .mixedOrders=true) (hB:PR .any l.toArray L.length=true)
  (hsz:a0.tmps.size=N) (hN:MX l.toArray L.length N=true) {fr:(Nat→Value)→Act} (hfr:∀ f,fF l.toArray a0 f L.length=fr f)
  (head:MY P Q l.toArray L F fr w l L 0)
  (tail:∀ f w1,Below w.heap.size w w1→(∀ j,j<L.length→(stA L j).p (f j) w1)→(∀ j k,j<L.length→k<L.length→j≠k→j∈F→k∈F→blk (f j)≠blk (f k))→wpList P l.toArray Q (l.drop L.length) (fr f) w1):(Code.region id l.toArray true).wp P Q a0 w:=by
 have hn:L.length<l.toArray.size:=by
  simp only[PR,aN,aR] at hB;exact hB.1.1.1.1.1
 refine wp_region_any hm ?_;have h:=zKp (md:=.any) (Q:=Q) (P:=P) (n:=L.length) (a0:=a0) (w0:=w) (Φ:=fun j=>(stA L j).p) (F:=fun j=>j∈F) rfl hB
  (fun i hi t ht=>by
   have h1:=List.all_eq_true.1 hN i (List.mem_range.2 hi)
   rw[ht] at h1
   rw[hsz]
   simpa using h1)
  (fun j _ v w1 w2 hb h=>(stA L j).m v w1 w2 hb h)
  (fun i o hi ho f w1 hb hd=>by
   rw[hfr]
   have hS:L[i]?=some (stA L i):=by
    unfold stA
    rw[ax,aB hi];rfl
   have h2:=kr l L 0 head i o (stA L i) (by simpa using ho) hS f w1 hb (fun j hj=>by
    unfold GF at hj
    obtain ⟨e,he,h3⟩:=Array.any_eq_true'.1 hj
    simp only[aN,cE] at h3
    rw[← h3.2]
    exact hd e he h3.1)
   rwa [aI] at h2)
  (fun f w1 hb hΦ CA=>by rw[hfr];exact tail f w1 hb hΦ CA)
  L.length (List.range L.length) (Array.replicate l.toArray.size false) (fun j=>match zT l.toArray j with|some d=>a0.tmps.getD d undef|none=>undef) w.drew
  List.nodup_range (by simp) (fun j hj=>by rw[getD_replicate_false];simp[hj]) (fun j hj=>by simpa using hj)
  ⟨by simp,fun j oj _ hl=>(by rw[getD_replicate_false] at hl;cases hl),fun t _ ht=>getD_in (by simpa using ht) (getD_replicate_false _ _)⟩
  (zi (aj _ _)) (fun j _ hl=>by rw[getD_replicate_false] at hl;cases hl) (fun j _ hl=>by rw[getD_replicate_false] at hl;cases hl) (fun j k _ _ _ hl=>by rw[getD_replicate_false] at hl;cases hl)
 rw[K1,show L.length+(l.toArray.size-L.length)=l.toArray.size by omega] at h;exact h
end
theorem pS {x:Value} {i:Nat} {F:List Nat} {d:Tmp} {w:World} {ts:Array Value} (h:ts.getD d undef=x) (hf:¬ i∈F):uz (eR x).p (i∈F) [] (some d) w ⟨ts,[]⟩ w:=
 ⟨rfl,aj _ _,fun t ht=>by injection ht with ht;subst ht;exact ⟨h,fun h=>absurd h hf⟩⟩
theorem pT {x:Value} {i:Nat} {F:List Nat} {d:Tmp} {w w':World} {ts:Array Value} (h:ts.getD d undef=x) (hf:¬ i∈F) (hb:Below w.heap.size w w'):uz (eR x).p (i∈F) [] (some d) w ⟨ts,[]⟩ w':=
 ⟨rfl,hb,fun t ht=>by injection ht with ht;subst ht;exact ⟨h,fun h=>absurd h hf⟩⟩
end Go.Proofs.YtcgfilmmokmdjaaGreat
namespace Go.Proofs.YtcgfilmmokmdjaaGreat
open Go.RowKit
def rdS (l:List It):mE:=⟨fun v w=>∃ u,v=u∧ja w u l,fun _ _ _ hb ⟨u,h1,h2⟩=>⟨u,h1,h2.below hb⟩⟩
theorem uD (g:Gn) (s:Sl) (w:World) (h:fG w s g.m.st) (hs:∀ i,i<8→(g.m.st i).length≤10000) :
  Calls Tryz.prog 79 #[zd g.num g.rev g.mode g.size s g.m.live g.m.d_] w fun e w'=>e=.returned (.bool (wN g))∧Below w.heap.size w w':=by
 have HV:=zh (fun W (hb:Below w.heap.size w W)=>uC s g.m W (h.below hb) (fun i hi=>ak (hs i hi) (by decide)));have HI:=zh (fun W (hb:Below w.heap.size w W)=>vM s g.m W (h.below hb) hs);have jq:=zh (fun h=>Yi (g:=g) h);have pd:(zJ g.m).length≤1000000:=ak (wS hs) (by decide)
 have HM:=zh (show xC g.m=true→(∀ x∈zJ g.m,oB x)∧0≤g.m.live∧g.m.live≤400000000 from fun hv =>
  ⟨qH ((zV g.m).1 hv),(tA ((zV g.m).1 hv) hs).2⟩)
 have lj:=zh (yJ g);have Dh:=zh (fun W v (hr:ja W v (zJ g.m)) (hok:∀ x∈zJ g.m,oB x)=>zGu v (zJ g.m) g.size W hr hok pd);have Tm:=zh (fun (hok:∀ x∈zJ g.m,oB x)=>zJl hok g.size);have eB:=zh (eO.new w g.num g.rev g.mode g.size s g.m.live g.m.d_ 113);have eH:=zh (zZ w g.num g.rev g.mode g.size s g.m.live g.m.d_ 113);clear h hs pd;generalize hres:wN g=res at *
 by_cases hA:1≤g.num∧g.num≤8∧0≤g.rev∧g.rev≤4294967295∧1≤g.mode∧g.mode≤3
 ·
  obtain ⟨SS,SU,SV,SX,SY,SZ⟩:=hA;have YM:=zh (fun (hn:¬ (16≤g.size∧g.size≤1048576∧g.size%8=0))=>jq.out fun h=>hn h.size);have IB:=zh (fun (hn:xC g.m=false)=>jq.out fun h=>by rw[h.m] at hn;cases hn)
  have mD:=zh (show 16≤g.size∧g.size≤1048576∧g.size%8=0→xC g.m=true→res=(vr (zJ g.m) g.size&&(g.size-16-g.m.live==g.m.d_)) from fun hB hv=>by
   rw[cT,← hres,yJ,aN,cE]
   exact ⟨fun h=>⟨h.ends,by have:=h.sum;omega⟩,fun h=>⟨⟨SS,SU⟩,⟨SV,SX⟩,⟨SY,SZ⟩,hB,hv,h.1,by have:=h.2;omega⟩⟩)
  clear jq lj hres;generalize xC g.m=vb at *;generalize zJ g.m=I at *;obtain ⟨a,b,c,d,f,L,G⟩:=g;dsimp only at *;generalize K0 I d=er at *;generalize vr I d=eb at *
  go_enter Tryz.func79,Tryz.ntmps79
  go_upto_region 1 with fail;obtain ⟨W,hW⟩:∃ W,w.alloc (.cells (zX a b c d s L G) 113)=W:=⟨_,rfl⟩
  change Code.wp _ _ _ _ (w.alloc (.cells (zX a b c d s L G) 113));rw[hW] at eB eH ⊢;clear hW;have nW:=eB.out.lt;obtain ⟨x0,x1,x2,x3,x4,x5,x6,x7,x8,x9,gq,gu,gj,gl⟩:=eB.out.q
  by_cases hB:16≤d∧d≤1048576∧d%8=0
  ·
   obtain ⟨rC,hd2,DT⟩:=hB;have S0:d.tmod 8=0:=by rw[Int.tmod_eq_emod_of_nonneg (by omega)];exact DT
   have e1:decide (d<16)=false:=by simp;omega
   have e2:decide (1048576<d)=false:=by simp;omega
   cases vb
   ·
    have HF:=zh (IB.out rfl);have y3:=zB eB.out.n3;have y4:=zB eB.out.c0;have y5:=zB eB.out.c1;have y6:=zB eB.out.c2;have y7:=zB eB.out.c3;have y8:=zB eB.out.c4;have y9:=zB eB.out.c5;have Gs:=zB eB.out.c6;have Gt:=zB eB.out.c7;have Gu:=zB eB.out.cl;have Gv:=zB eB.out.cg;have Sy:=zh (fun W (hb:Below W.heap.size W W)=>HV.out);clear Sy;go_wp2_with fail;refine zC (by kernel_rfl) (by kernel_rfl) ?_
    repeat (go_big_quiet_step (exact zE (HV.out _ (zA eH.out (eo.h _)))))
    refine aA ?_;intro w4 hw4;obtain ⟨q,hw4⟩:=hw4;subst hw4;have gD:=zh (zA eH.out q.h);go_wp2_with fail;go_ret;exact ⟨zI HF.out.symm,gD.out⟩
   obtain ⟨hok,Mb,hL2⟩:=HM.out rfl;have HR:=zh (Tm.out hok);have HF:=zh (mD.out ⟨rC,hd2,DT⟩ rfl);clear YM IB mD HM Tm;go_wp2_with fail;clear x0 x1 x2 x3 x4 x5 x6 x7 x8 x9 gq gu gj gl
   refine xO [eR (.pointer (some ⟨w.heap.size,3,none⟩)),eR (.int .i64 d),eR (.bool false),eR (.bool false),eR (.pointer (some ⟨w.heap.size,3,none⟩)),eR (.int .i64 d),eR (.bool false),eR (.bool false),eR (.bool false),eR (.pointer (some ⟨w.heap.size,3,none⟩)),eR (.int .i64 d),eR (.int .i64 0),eR (.bool false),eR (.bool false),eR (.bool false),eR (.pointer (some ⟨w.heap.size,4,none⟩)),eR (yF s L G),eR (.bool true),eR (.bool false),eR (.bool false),eR (.bool false),eR (.pointer (some ⟨w.heap.size,4,none⟩)),eR (yF s L G),rdS I,eR (.pointer (some ⟨w.heap.size,3,none⟩)),eR (.int .i64 d),eR (.bool er),eR (.bool (!er))] [] 71 (by kernel_rfl) (by kernel_rfl) (by rfl) (by kernel_rfl) (fun f=>by simp[fF,zT,Act.put];exact rfl) ?_ ?_
   ·
    refine ⟨?_,?_,?_,?_,?_,?_,?_,?_,?_,?_,?_,?_,?_,?_,?_,?_,?_,?_,?_,?_,?_,?_,?_,?_,?_,?_,?_,?_,trivial⟩
    ·
     intro f w1 hb hd;clear hd;dsimp only;go_wp2_with fail;exact pS rfl (by simp)
    ·
     intro f w1 hb hd;have d0:f 0=(.pointer (some ⟨w.heap.size,3,none⟩)):=hd 0 (by kernel_rfl);clear hd;dsimp only;rw[d0];have hx:=eB.out.below hb;have x3:=hx.n3;clear hx;go_wp2_with fail;exact pS rfl (by simp)
    ·
     intro f w1 hb hd;have d1:f 1=(.int .i64 d):=hd 1 (by kernel_rfl);clear hd;dsimp only;rw[d1];go_wp2_with fail;exact pS rfl (by simp)
    ·
     intro f w1 hb hd;have d2:f 2=(.bool false):=hd 2 (by kernel_rfl);clear hd;dsimp only;rw[d2];go_wp2_with fail;exact pS rfl (by simp)
    ·
     intro f w1 hb hd;have d3:f 3=(.bool false):=hd 3 (by kernel_rfl);clear hd;dsimp only;rw[d3];go_wp2_with fail;exact pS rfl (by simp)
    ·
     intro f w1 hb hd;have d3:f 3=(.bool false):=hd 3 (by kernel_rfl);have d4:f 4=(.pointer (some ⟨w.heap.size,3,none⟩)):=hd 4 (by kernel_rfl);clear hd;dsimp only;rw[d3];rw[d4];have hx:=eB.out.below hb;have x3:=hx.n3;clear hx;go_wp2_with fail;exact pS rfl (by simp)
    ·
     intro f w1 hb hd;have d3:f 3=(.bool false):=hd 3 (by kernel_rfl);have d5:f 5=(.int .i64 d):=hd 5 (by kernel_rfl);clear hd;dsimp only;rw[d3];rw[d5];go_wp2_with fail;exact pS rfl (by simp)
    ·
     intro f w1 hb hd;have d3:f 3=(.bool false):=hd 3 (by kernel_rfl);have d6:f 6=(.bool false):=hd 6 (by kernel_rfl);clear hd;dsimp only;rw[d3];rw[d6];go_wp2_with fail;exact pS rfl (by simp)
    ·
     intro f w1 hb hd;have d7:f 7=(.bool false):=hd 7 (by kernel_rfl);clear hd;dsimp only;rw[d7];go_wp2_with fail;exact pS rfl (by simp)
    ·
     intro f w1 hb hd;have d8:f 8=(.bool false):=hd 8 (by kernel_rfl);clear hd;dsimp only;rw[d8];go_wp2_with fail;exact pS rfl (by simp)
    ·
     intro f w1 hb hd;have d8:f 8=(.bool false):=hd 8 (by kernel_rfl);have d9:f 9=(.pointer (some ⟨w.heap.size,3,none⟩)):=hd 9 (by kernel_rfl);clear hd;dsimp only;rw[d8];rw[d9];have hx:=eB.out.below hb;have x3:=hx.n3;clear hx;go_wp2_with fail;exact pS rfl (by simp)
    ·
     intro f w1 hb hd;have d8:f 8=(.bool false):=hd 8 (by kernel_rfl);have d10:f 10=(.int .i64 d):=hd 10 (by kernel_rfl);clear hd;dsimp only;rw[d8];rw[d10];go_wp2_with fail;exact pS rfl (by simp)
    ·
     intro f w1 hb hd;have d8:f 8=(.bool false):=hd 8 (by kernel_rfl);have d11:f 11=(.int .i64 0):=hd 11 (by kernel_rfl);clear hd;dsimp only;rw[d8];rw[d11];go_wp2_with fail;exact pS rfl (by simp)
    ·
     intro f w1 hb hd;have d8:f 8=(.bool false):=hd 8 (by kernel_rfl);have d12:f 12=(.bool false):=hd 12 (by kernel_rfl);clear hd;dsimp only;rw[d8];rw[d12];go_wp2_with fail;exact pS rfl (by simp)
    ·
     intro f w1 hb hd;have d13:f 13=(.bool false):=hd 13 (by kernel_rfl);clear hd;dsimp only;rw[d13];go_wp2_with fail;exact pS rfl (by simp)
    ·
     intro f w1 hb hd;have d14:f 14=(.bool false):=hd 14 (by kernel_rfl);clear hd;dsimp only;rw[d14];go_wp2_with fail;exact pS rfl (by simp)
    ·
     intro f w1 hb hd;have d14:f 14=(.bool false):=hd 14 (by kernel_rfl);have d15:f 15=(.pointer (some ⟨w.heap.size,4,none⟩)):=hd 15 (by kernel_rfl);clear hd;dsimp only;rw[d14];rw[d15];have hx:=eB.out.below hb;obtain ⟨m4,m5,m6,m7,m8,m9,m10,m11,m12,m13⟩:=hx.q;clear hx;go_wp2_with fail;exact pS rfl (by simp)
    ·
     intro f w1 hb hd;have d14:f 14=(.bool false):=hd 14 (by kernel_rfl);have d16:f 16=(yF s L G):=hd 16 (by kernel_rfl);clear hd;dsimp only;rw[d14];rw[d16];go_wp2_with fail;refine (HV.out w1 (zA eH.out hb)).mono ?_;rintro e w9 ⟨rfl,gI⟩;go_wp2_with fail;exact pT rfl (by simp) gI
    ·
     intro f w1 hb hd;have d14:f 14=(.bool false):=hd 14 (by kernel_rfl);have d17:f 17=(.bool true):=hd 17 (by kernel_rfl);clear hd;dsimp only;rw[d14];rw[d17];go_wp2_with fail;exact pS rfl (by simp)
    ·
     intro f w1 hb hd;have d14:f 14=(.bool false):=hd 14 (by kernel_rfl);have d18:f 18=(.bool false):=hd 18 (by kernel_rfl);clear hd;dsimp only;rw[d14];rw[d18];go_wp2_with fail;exact pS rfl (by simp)
    ·
     intro f w1 hb hd;have d19:f 19=(.bool false):=hd 19 (by kernel_rfl);clear hd;dsimp only;rw[d19];go_wp2_with fail;exact pS rfl (by simp)
    ·
     intro f w1 hb hd;have d20:f 20=(.bool false):=hd 20 (by kernel_rfl);clear hd;dsimp only;rw[d20];go_wp2_with fail;exact pS rfl (by simp)
    ·
     intro f w1 hb hd;have d20:f 20=(.bool false):=hd 20 (by kernel_rfl);have d21:f 21=(.pointer (some ⟨w.heap.size,4,none⟩)):=hd 21 (by kernel_rfl);clear hd;dsimp only;rw[d20];rw[d21];have hx:=eB.out.below hb;obtain ⟨m4,m5,m6,m7,m8,m9,m10,m11,m12,m13⟩:=hx.q;clear hx;go_wp2_with fail;exact pS rfl (by simp)
    ·
     intro f w1 hb hd;have d20:f 20=(.bool false):=hd 20 (by kernel_rfl);have d22:f 22=(yF s L G):=hd 22 (by kernel_rfl);clear hd;dsimp only;rw[d20];rw[d22];go_wp2_with fail;refine (HI.out w1 (zA eH.out hb)).mono ?_;rintro e w9 ⟨v9,rfl,BU,gI⟩;go_wp2_with fail;exact ⟨rfl,gI,fun t ht=>by injection ht with ht;subst ht;exact ⟨⟨_,rfl,fC.rd BU⟩,fun h=>by simp at h⟩⟩
    ·
     intro f w1 hb hd;have d20:f 20=(.bool false):=hd 20 (by kernel_rfl);clear hd;dsimp only;rw[d20];go_wp2_with fail;exact pS rfl (by simp)
    ·
     intro f w1 hb hd;have d20:f 20=(.bool false):=hd 20 (by kernel_rfl);have d24:f 24=(.pointer (some ⟨w.heap.size,3,none⟩)):=hd 24 (by kernel_rfl);clear hd;dsimp only;rw[d20];rw[d24];have hx:=eB.out.below hb;have x3:=hx.n3;clear hx;go_wp2_with fail;exact pS rfl (by simp)
    ·
     intro f w1 hb hd;have d20:f 20=(.bool false):=hd 20 (by kernel_rfl);obtain ⟨v23,d23,r23⟩:=show ∃ u,f 23=u∧ja w1 u I from hd 23 (by kernel_rfl);have d25:f 25=(.int .i64 d):=hd 25 (by kernel_rfl);clear hd;dsimp only;rw[d20];rw[d23];rw[d25];go_wp2_with fail;refine (Dh.out w1 _ r23 hok).mono ?_;rintro e w9 ⟨rfl,gI⟩;go_wp2_with fail;exact pT rfl (by simp) gI
    intro f w1 hb hd;have d20:f 20=(.bool false):=hd 20 (by kernel_rfl);have d26:f 26=(.bool er):=hd 26 (by kernel_rfl);clear hd;dsimp only;rw[d20];rw[d26];go_wp2_with fail;exact pS rfl (by simp)
   intro f w5 hb hd jw;clear jw;have d19:f 19=(.bool false):=hd 19 (show 19<28 by decide);have d20:f 20=(.bool false):=hd 20 (show 20<28 by decide);have d27:f 27=(.bool (!er)):=hd 27 (show 27<28 by decide)
   try dsimp only
   rw[d19,d20,d27];clear hd d19 d20 d27;have fJ:=zh (eB.out.below hb);have gH:=zh (zA eH.out hb);generalize f 0=g0,f 1=g1,f 2=g2,f 3=g3,f 4=g4,f 5=g5,f 6=g6,f 7=g7,f 8=g8,f 9=g9,f 10=g10,f 11=g11,f 12=g12,f 13=g13,f 14=g14,f 15=g15,f 16=g16,f 17=g17,f 18=g18,f 21=g21,f 22=g22,f 23=g23,f 24=g24,f 25=g25,f 26=g26;clear f;have x3:=fJ.out.n3;have gj:=fJ.out.cl;have gl:=fJ.out.cg
   cases er
   ·
    go_wp2_with fail;go_ret;exact ⟨zI (by rw[HF.out,← HR.out];rfl),gH.out⟩
   go_wp2_with fail;go_ret;exact ⟨zI (by rw[HF.out,← HR.out];rfl),gH.out⟩
  have HF:=zh (YM.out hB);have y3:=zB eB.out.n3
  by_cases h1:d<16
  ·
   have e1:decide (d<16)=true:=aC h1;go_wp2_with fail;refine zC (by kernel_rfl) (by kernel_rfl) ?_
   repeat (go_big_quiet_step (fail))
   refine aA ?_;intro w4 hw4;obtain ⟨q,hw4⟩:=hw4;subst hw4;have gD:=zh (zA eH.out q.h);go_wp2_with fail;go_ret;exact ⟨zI HF.out.symm,gD.out⟩
  have e1:decide (d<16)=false:=aD h1
  by_cases h2:1048576<d
  ·
   have e2:decide (1048576<d)=true:=aC h2;go_wp2_with fail;refine zC (by kernel_rfl) (by kernel_rfl) ?_
   repeat (go_big_quiet_step (fail))
   refine aA ?_;intro w4 hw4;obtain ⟨q,hw4⟩:=hw4;subst hw4;have gD:=zh (zA eH.out q.h);go_wp2_with fail;go_ret;exact ⟨zI HF.out.symm,gD.out⟩
  have e2:decide (1048576<d)=false:=aD h2;have S0:d.tmod 8=d%8:=Int.tmod_eq_emod_of_nonneg (by omega);have e3:(d%8 != 0)=true:=bne_iff_ne.2 (fun e=>hB ⟨by omega,by omega,e⟩);go_wp2_with fail;refine zC (by kernel_rfl) (by kernel_rfl) ?_
  repeat (go_big_quiet_step (fail))
  refine aA ?_;intro w4 hw4;obtain ⟨q,hw4⟩:=hw4;subst hw4;have gD:=zh (zA eH.out q.h);go_wp2_with fail;go_ret;exact ⟨zI HF.out.symm,gD.out⟩
 have HF:=zh (jq.out fun h=>hA ⟨h.num.1,h.num.2,h.rev.1,h.rev.2,h.mode.1,h.mode.2⟩);have HnA:=zh hA;clear jq lj hres HV HI HM Dh Tm hA;obtain ⟨a,b,c,d,f,L,G⟩:=g;dsimp only at *
 go_enter Tryz.func79,Tryz.ntmps79
 go_upto_region 1 with fail;obtain ⟨W,hW⟩:∃ W,w.alloc (.cells (zX a b c d s L G) 113)=W:=⟨_,rfl⟩
 change Code.wp _ _ _ _ (w.alloc (.cells (zX a b c d s L G) 113));rw[hW] at eB eH ⊢;clear hW;have x0:=eB.out.n0;have x1:=eB.out.n1;have x2:=eB.out.n2;go_upto_region 3 with fail
 all_goals first|(go_ret;exact ⟨zI HF.out.symm,eH.out⟩)|(exfalso;exact HnA.out ⟨by omega,by omega,by omega,by omega,by omega,by omega⟩)
end Go.Proofs.YtcgfilmmokmdjaaGreat
