import Derived.Test.YtcgfilmmokmdjaaGreatQAC
import Derived.Laws.ComplexArith
set_option linter.all false
set_option maxRecDepth 100000
set_option maxHeartbeats 32000000
namespace Go.Proofs.YtcgfilmmokmdjaaGreat
open Go.Proofs.Tryz
def zp (key:Int):Nat:=(key*11400714819323198485%18446744073709551616/2305843009213693952).toNat
def wy (key:Int):zp key<8:=by unfold zp;omega
structure Mp where
 st:Nat->List It
 live:Int
 ew:Int
def cat (f:Nat->List It):Nat->List It
 |0=>[]
 |n+1=>cat f n++f n
def vp (M:Mp):List It:=cat M.st 8
def BH (M:Mp) (i:Nat):Bool:=wT (M.st i)&&(M.st i).all fun x=>zp x.key==i
def xQ (M:Mp):Bool:=(List.range 8).all (BH M)&&(M.live==(zz (vp M):Int))&&decide (0<=M.ew)&&decide (M.ew<=1099511627776)
structure gJ (M:Mp):Prop where
 ok:∀ i,i<8->wT (M.st i)=true
 sp:∀ i,i<8->∀ x∈M.st i,zp x.key=i
 lv:M.live=(zz (vp M):Int)
 g0:0<=M.ew
 g1:M.ew<=1099511627776
def zi (M:Mp):xQ M=true↔gJ M:=by
 unfold xQ BH;rw[aO,aO,aO,dE,aR,aR,cM]
 constructor
 ·rintro ⟨⟨⟨h1,h2⟩,h3⟩,h4⟩;have h:=fun i (hi:i<8)=>Bool.and_eq_true_iff.1 (h1 i (List.mem_range.2 hi))
  exact ⟨fun i hi=>(h i hi).1,fun i hi x hx=>beq_iff_eq.1 (List.all_eq_true.1 (h i hi).2 x hx),h2,h3,h4⟩
 rintro ⟨h1,h2,h3,h4,h5⟩;exact ⟨⟨⟨fun i hi=>Bool.and_eq_true_iff.2 ⟨h1 i (List.mem_range.1 hi),List.all_eq_true.2 fun x hx=>beq_iff_eq.2 (h2 i (List.mem_range.1 hi) x hx)⟩,h3⟩,h4⟩,h5⟩
variable {l:List It}
def kM (h:mK l):l.Pairwise fun a b=>a.key<b.key:=tp ((wF _).2 h)
def uY (h:wT l=true):mK l:=(tC.1 h).1
def zJg (h:mK l) {y:It} (hy:y∈l):gF l y.key=some y:=by
 have hp:=kM h;clear h
 induction l with
 |nil=>cases hy
 |cons x l ih =>
  rw[dM] at hp;rw[zu];rcases List.mem_cons.1 hy with rfl|hy
  ·rw[ah rfl]
  rw[ai (by have:=hp.1 y hy;omega)];exact ih hy hp.2
def zEK {k:Int} (h:gF l k=none):∀ x∈l,x.key≠k:=fun x hx=>by
 unfold gF at h;rw[List.find?_eq_none] at h
 simpa using h x hx
def Tn (s:List It) (k:Int):∀ n (v:List It),v.length=n->gF (v.foldl ins s) k=match gF (gu v) k with|some x=>some x|none=>gF s k
 |0,v,h=>by rw[List.length_eq_zero_iff.1 h];rfl
 |n+1,v,h=>by
  obtain ⟨u,y,rfl⟩:∃ u y,v=u++[y]:=by
   have hv:v≠[]:=fun e=>by rw[e] at h;cases h
   exact ⟨v.dropLast,v.getLast hv,(List.dropLast_concat_getLast hv).symm⟩
  have ih:=Tn s k n u (by rw[ax] at h;simpa using h);rw[dQ,zLW]
  show gF (ins (u.foldl ins s) y) k=_
  rw[qI,qI,ih]
  by_cases e:y.key=k
  ·rw[ah e,ah e]
  rw[ai e,ai e]
def zLk (u v:List It) (k:Int):gF (gu (u++v)) k=match gF (gu v) k with|some x=>some x|none=>gF (gu u) k:=by
 rw[ki];exact Tn (gu u) k _ v rfl
def UW (f:Nat->List It) (k:Int):∀ n,(∀ i,i<n->mK (f i)/\∀ x∈f i,zp x.key=i)->gF (gu (cat f n)) k=if zp k<n then gF (f (zp k)) k else none
 |0,_=>by rw[ai (by omega)];rfl
 |n+1,h=>by
  have ih:=UW f k n (fun i hi=>h i (by omega));obtain ⟨ha,hs⟩:=h n (by omega)
  show gF (gu (cat f n++f n)) k=_
  rw[zLk,yb ha,ih]
  by_cases e:zp k=n
  ·rw[ai (show ¬ zp k<n by omega),ah (show zp k<n+1 by omega),e]
   cases gF (f n) k<;>rfl
  have hn:gF (f n) k=none:=vd fun x hx e2=>e (by rw[<- e2];exact hs x hx)
  rw[hn]
  by_cases hl:zp k<n
  ·rw[ah hl,ah (by omega)]
  rw[ai hl,ai (by omega)]
def gJ.gF {M:Mp} (h:gJ M) (k:Int):gF (gu (vp M)) k=gF (M.st (zp k)) k:=by
 have:=UW M.st k 8 (fun i hi=>⟨uY (h.ok i hi),h.sp i hi⟩);rw[ah (wy k)] at this;exact this
def Tx (p:It->Bool) (b:Bool) (k:Int) (hp:∀ x:It,x.key=k->p x=b):∀ l:List It,gF (l.filter p) k=if b then gF l k else none
 |[]=>by cases b<;>rfl
 |x::l=>by
  have ih:=Tx p b k hp l
  by_cases e:x.key=k
  ·rw[cG,hp x e]
   cases b
   ·simpa using ih
   simp only[if_true];rw[zu,zu,ah e,ah e]
  rw[cG]
  split
  ·rw[zu,ai e,ih,zu,ai e]
  rw[ih,zu,ai e]
def sr (i:Nat) (l:List It):List It:=l.filter fun x=>zp x.key==i
def tU (i:Nat) (l:List It) (k:Int):gF (sr i l) k=if zp k=i then gF l k else none:=by
 have:=Tx (fun x=>zp x.key==i) (decide (zp k=i)) k (fun x e=>by rw[e];by_cases h:zp k=i<;>simp[h]) l;unfold sr;rw[this]
 by_cases h:zp k=i<;>simp[h]
def UX (i:Nat) {l:List It} (h:mK l):(sr i l).Pairwise fun a b=>a.key<b.key:=(kM h).filter _
def gJ.sr {M:Mp} (h:gJ M) {i:Nat} (hi:i<8):sr i (gu (vp M))=M.st i:=by
 refine qr _ _ (UX i (vT _)) (kM (uY (h.ok i hi))) fun k=>?_
 rw[tU,h.gF]
 by_cases e:zp k=i
 ·rw[ah e,e]
 rw[ai e];exact (vd fun x hx e2=>e (by rw[<- e2];exact h.sp i hi x hx)).symm
def zMH (h:mK l) (x:It) (i:Nat):sr i (ins l x)=if zp x.key=i then ins (sr i l) x else sr i l:=by
 have hp:=UX i h;refine qr _ _ ((tp (kG _ _ ((wF _).2 h))).filter _) ?_ fun k=>?_
 ·split
  ·exact tp (kG _ _ (UD hp))
  exact hp
 rw[tU,qI]
 by_cases e:zp x.key=i
 ·rw[ah e,qI,tU]
  by_cases e2:x.key=k
  ·rw[ah e2,ah (show zp k=i by rw[<- e2];exact e),ah e2]
  rw[ai e2,ai e2]
 rw[ai e,tU]
 by_cases e2:x.key=k
 ·rw[ai (by rw[<- e2];exact e),ai (by rw[<- e2];exact e)]
 rw[ai e2]
def zMC (h:mK l) (key:Int) (i:Nat):sr i (iB l key)=if zp key=i then iB (sr i l) key else sr i l:=by
 have hp:=UX i h;refine qr _ _ ((kM (UE h key)).filter _) ?_ fun k=>?_
 ·split
  ·exact hp.filter _
  exact hp
 rw[tU,UR]
 by_cases e:zp key=i
 ·rw[ah e,UR,tU]
  by_cases e2:k=key
  ·rw[ah e2,ah (show zp k=i by rw[e2];exact e),ah e2]
  rw[ai e2,ai e2]
 rw[ai e,tU]
 by_cases e2:k=key
 ·rw[ai (by rw[e2];exact e),ai (by rw[e2];exact e)]
 rw[ai e2]
/-! ### Bytes -/
def jh:Option It->Nat
 |some y=>eY y.size.toNat
 |none=>0
def UY (x:It):∀ s:List It,mK s->zz (ins s x)+jh (gF s x.key)=zz s+eY x.size.toNat:=fun s h=>by
 have hp:=kM h;clear h
 induction s with
 |nil=>simp[ins,zz,jh,gF]
 |cons y s ih =>
  rw[dM] at hp;have ih:=ih hp.2;rw[zu];simp only[ins]
  split
  ·rename_i hlt;rw[ai (by omega)]
   show eY y.size.toNat+zz (ins s x)+_=eY y.size.toNat+zz s+_
   omega
  split
  ·rename_i hle he
   show eY x.size.toNat+zz s+eY y.size.toNat=eY y.size.toNat+zz s+_
   omega
  rename_i hle he;have:gF s x.key=none:=vd fun z hz e=>by have:=hp.1 z hz;omega
  rw[this]
  show eY x.size.toNat+(eY y.size.toNat+zz s)+0=eY y.size.toNat+zz s+_
  omega
def Ty (key:Int):∀ s:List It,mK s->zz (iB s key)+jh (gF s key)=zz s:=fun s h=>by
 have hp:=kM h;clear h
 induction s with
 |nil=>rfl
 |cons y s ih =>
  rw[dM] at hp;have ih:=ih hp.2;rw[zu]
  by_cases e:y.key=key
  ·have hn:iB s key=s:=by
    unfold iB;rw[List.filter_eq_self];intro z hz;have:=hp.1 z hz;have:z.key≠key:=by omega
    simpa using this
   have:iB (y::s) key=s:=by rw[<- hn];unfold iB;rw[cG,ai (by simpa using e),List.filter_filter];simp
   rw[ah e,this]
   show zz s+eY y.size.toNat=eY y.size.toNat+zz s
   omega
  have:iB (y::s) key=y::iB s key:=by unfold iB;rw[cG,ah (by simpa using e)]
  rw[ai e,this]
  show eY y.size.toNat+zz (iB s key)+_=eY y.size.toNat+zz s
  omega
def Tz:∀ (v s:List It),mK s->(v.Pairwise fun a b=>a.key<b.key)->(∀ x∈v,gF s x.key=none)->zz (v.foldl ins s)=zz s+zz v
 |[],s,_,_,_=>by simp[zz]
 |x::v,s,hs,hv,hn=>by
  rw[dM] at hv;have h1:=UY x s hs;rw[hn x (by simp)] at h1
  show zz (v.foldl ins (ins s x))=_
  rw[Tz v (ins s x) ((wF _).1 (kG _ _ ((wF _).2 hs))) hv.2 (fun y hy=>by
   rw[qI,ai (by have:=hv.1 y hy;omega)];exact hn y (by simp[hy]))]
  show _=zz s+(eY x.size.toNat+zz v)
  simp only[jh] at h1;omega
def WQ (f:Nat->List It):∀ n,(∀ i,i<n->mK (f i)/\∀ x∈f i,zp x.key=i)->zz (gu (cat f n))=zz (cat f n)
 |0,_=>rfl
 |n+1,h=>by
  have ih:=WQ f n (fun i hi=>h i (by omega));obtain ⟨ha,hs⟩:=h n (by omega)
  show zz (gu (cat f n++f n))=zz (cat f n++f n)
  rw[ki,Tz _ _ (vT _) (kM ha) (fun x hx=>by
   rw[UW f x.key n (fun i hi=>h i (by omega)),ai (by rw[hs x hx];omega)]),xW,ih]
def gJ.sum {M:Mp} (h:gJ M):zz (gu (vp M))=zz (vp M):=WQ M.st 8 fun i hi=>⟨uY (h.ok i hi),h.sp i hi⟩
open Go.RowKit
structure mr (w:World) (b:Nat) (x:It):Prop where
 c0:w.cell? ⟨b,0,none⟩=some (.int .u64 x.key)
 c1:w.cell? ⟨b,1,none⟩=some (.int .u32 x.ck)
 c2:w.cell? ⟨b,2,none⟩=some (.int .i64 x.off)
 c3:w.cell? ⟨b,3,none⟩=some (.int .i64 x.size)
variable {w:World} {b:Nat}
def mr.q {x:It} (h:mr w b x):w.cell? ⟨b,0,none⟩=some (.int .u64 x.key)/\w.cell? ⟨b,1,none⟩=some (.int .u32 x.ck)/\w.cell? ⟨b,2,none⟩=some (.int .i64 x.off)/\w.cell? ⟨b,3,none⟩=some (.int .i64 x.size):=⟨h.c0,h.c1,h.c2,h.c3⟩
def mr.bb {w':World} {x:It} (h:mr w b x) (hb:Below w.heap.size w w'):mr w' b x:=
 ⟨Below.keeps hb _ _ h.c0,Below.keeps hb _ _ h.c1,Below.keeps hb _ _ h.c2,Below.keeps hb _ _ h.c3⟩
abbrev xX (x:It):Obj:=.cells #[.int .u64 x.key,.int .u32 x.ck,.int .i64 x.off,.int .i64 x.size] 49
def mr.new (w:World) (x:It):mr (w.alloc (xX x)) w.heap.size x:=⟨by simp,by simp,by simp,by simp⟩
def yH (w:World) (x:It):Below w.heap.size w (w.alloc (xX x)):=(aj _ _).alloc (ag _) _
def mr.set {x:It} (h:mr w b x) (y:It):mr ((((w.setCell ⟨b,0,none⟩ (.int .u64 y.key)).setCell ⟨b,1,none⟩ (.int .u32 y.ck)).setCell ⟨b,2,none⟩ (.int .i64 y.off)).setCell ⟨b,3,none⟩ (.int .i64 y.size)) b y:=by
 obtain ⟨h0,h1,h2,h3⟩:=h;exact ⟨by simp[go_sem,h0],by simp[go_sem,h1],by simp[go_sem,h2],by simp[go_sem,h3]⟩
structure Sl where
 a:Nat->Option Addr
 n:Nat->Nat
 c:Nat->Nat
def Sl.v (s:Sl) (i:Nat):Value:=.slice (s.a i) (s.n i) (s.c i)
def Sl.set (s:Sl) (k:Nat) (a:Option Addr) (n c:Nat):Sl:=⟨fun i=>if i=k then a else s.a i,fun i=>if i=k then n else s.n i,fun i=>if i=k then c else s.c i⟩
def Sl.nil:Sl:=⟨fun _=>none,fun _=>0,fun _=>0⟩
def Sl.su (s:Sl) (k:Nat) (a:Option Addr) (n c i:Nat):(s.set k a n c).v i=if i=k then .slice a n c else s.v i:=by
 unfold Sl.set Sl.v
 by_cases h:i=k
 ·simp[h]
 simp[h]
abbrev yl (s:Sl) (l g:Int):Array Value:=#[.slice (s.a 0) (s.n 0) (s.c 0),.slice (s.a 1) (s.n 1) (s.c 1),.slice (s.a 2) (s.n 2) (s.c 2),.slice (s.a 3) (s.n 3) (s.c 3),.slice (s.a 4) (s.n 4) (s.c 4),.slice (s.a 5) (s.n 5) (s.c 5),.slice (s.a 6) (s.n 6) (s.c 6),.slice (s.a 7) (s.n 7) (s.c 7),.int .i64 l,.int .i64 g]
abbrev yD (s:Sl) (l g:Int):Value:=.agg (yl s l g)
abbrev zOC (s:Sl):Array Value:=#[.slice (s.a 0) (s.n 0) (s.c 0),.slice (s.a 1) (s.n 1) (s.c 1),.slice (s.a 2) (s.n 2) (s.c 2),.slice (s.a 3) (s.n 3) (s.c 3),.slice (s.a 4) (s.n 4) (s.c 4),.slice (s.a 5) (s.n 5) (s.c 5),.slice (s.a 6) (s.n 6) (s.c 6),.slice (s.a 7) (s.n 7) (s.c 7)]
def fN (w:World) (s:Sl) (f:Nat->List It):Prop:=∀ i,i<8->lg w (s.v i) (f i)
def fN.bb {w w':World} {s:Sl} {f:Nat->List It} (h:fN w s f) (hb:Below w.heap.size w w'):fN w' s f:=fun i hi=>(h i hi).bb hb
def fN.n {w:World} {s:Sl} {f:Nat->List It} (h:fN w s f) {i:Nat} (hi:i<8):s.n i=(f i).length:=by
 obtain ⟨a,c,e,_,_⟩:=(h i hi).shape;injection e
structure eZ (W:World) (b:Nat) (s:Sl) (l g:Int):Prop where
 c:∀ j,j<8->W.cell? ⟨b,j,none⟩=some (s.v j)
 cl:W.cell? ⟨b,8,none⟩=some (.int .i64 l)
 cg:W.cell? ⟨b,9,none⟩=some (.int .i64 g)
 f:∀ i,W.frozen? ⟨b,i,none⟩=false
variable {W:World} {s:Sl} {g:Int}
def eZ.q {l:Int} (h:eZ W b s l g):W.cell? ⟨b,0,none⟩=some (.slice (s.a 0) (s.n 0) (s.c 0))/\W.cell? ⟨b,1,none⟩=some (.slice (s.a 1) (s.n 1) (s.c 1))/\W.cell? ⟨b,2,none⟩=some (.slice (s.a 2) (s.n 2) (s.c 2))/\W.cell? ⟨b,3,none⟩=some (.slice (s.a 3) (s.n 3) (s.c 3))/\W.cell? ⟨b,4,none⟩=some (.slice (s.a 4) (s.n 4) (s.c 4))/\W.cell? ⟨b,5,none⟩=some (.slice (s.a 5) (s.n 5) (s.c 5))/\W.cell? ⟨b,6,none⟩=some (.slice (s.a 6) (s.n 6) (s.c 6))/\W.cell? ⟨b,7,none⟩=some (.slice (s.a 7) (s.n 7) (s.c 7))/\W.cell? ⟨b,8,none⟩=some (.int .i64 l)/\W.cell? ⟨b,9,none⟩=some (.int .i64 g):=⟨h.c 0 (by decide),h.c 1 (by decide),h.c 2 (by decide),h.c 3 (by decide),h.c 4 (by decide),h.c 5 (by decide),h.c 6 (by decide),h.c 7 (by decide),h.cl,h.cg⟩
def Li {j:Nat} (h:j<8):j=0∨j=1∨j=2∨j=3∨j=4∨j=5∨j=6∨j=7:=by omega
def eZ.new (W:World) (s:Sl) (l g:Int) (t:TypeId):eZ (W.alloc (.cells (yl s l g) t)) W.heap.size s l g:=
 ⟨fun j hj=>by rcases Li hj with h|h|h|h|h|h|h|h<;>subst h<;>simp[Sl.v],by simp,by simp,fun i=>by simp⟩
def eZ.keep {W':World} {B:Nat} {l:Int} (h:eZ W b s l g) (hb:b<B) (hB:Below B W W'):eZ W' b s l g:=
 ⟨fun j hj=>(hB.cell (p:=⟨b,j,none⟩) hb).trans (h.c j hj),(hB.cell (p:=⟨b,8,none⟩) hb).trans h.cl,(hB.cell (p:=⟨b,9,none⟩) hb).trans h.cg,fun i=>(hB.frozen (p:=⟨b,i,none⟩) hb).trans (h.f i)⟩
def eZ.lt {l:Int} (h:eZ W b s l g):b<W.heap.size:=bW W _ h.cl
def eZ.bb {W':World} {l:Int} (h:eZ W b s l g) (hB:Below W.heap.size W W'):eZ W' b s l g:=h.keep h.lt hB
def eZ.Jc {l:Int} (h:eZ W b s l g) {k:Nat} (hk:k<8) (a:Option Addr) (n c:Nat):eZ (W.setCell ⟨b,k,none⟩ (.slice a n c)) b (s.set k a n c) l g:=by
 have hkc:=h.c k hk;refine ⟨fun j hj=>?_,?_,?_,fun i=>by simp[h.f]⟩
 ·rw[Sl.su]
  by_cases e:j=k
  ·subst e;rw[ah rfl];simp[go_sem,hkc]
  rw[ai e];have:=h.c j hj;simp[go_sem,this]
 ·have:=h.cl;simp[go_sem,this]
 have:=h.cg;simp[go_sem,this]
def Ox (n:Nat) (w:World):Calls prog 53 #[.int .i64 (n:Int)] w fun e w'=>e=.returned (.int .i64 ((eY n:Nat):Int))/\w=w':=by
 by_cases hn:n<=4096
 ·have HS:=zh (show ((eY n:Nat):Int)=(20+(n:Int)+4+8-1)/8*8 by unfold eY nh;rw[ah hn];omega);have hd:decide ((4096:Int)<(n:Int))=false:=by simp;omega
  have hd2:decide ((n:Int)<0)=false:=by simp
  go_enter func53,ntmps53
  go_wp2_with fail;go_ret;exact ⟨xe (by rw[HS.o]),rfl⟩
 have HS:=zh (show eY n=0 by unfold eY;rw[ai hn]);have hd:decide ((4096:Int)<(n:Int))=true:=by simp;omega
 have hd2:decide ((n:Int)<0)=false:=by simp
 go_enter func53,ntmps53
 go_wp2_with fail;go_ret;exact ⟨xe (by rw[HS.o];rfl),rfl⟩
def Nt (n:Nat) (w:World):Calls prog 28 #[.int .i64 (n:Int)] w fun e w'=>e=.returned (.int .i64 ((eY n:Nat):Int))/\w=w':=by
 by_cases hn:n<=4096
 ·have HS:=zh (show ((eY n:Nat):Int)=(20+(n:Int)+4+8-1)/8*8 by unfold eY nh;rw[ah hn];omega);have hd:decide ((4096:Int)<(n:Int))=false:=by simp;omega
  have hd2:decide ((n:Int)<0)=false:=by simp
  go_enter func28,ntmps28
  go_wp2_with fail;go_ret;exact ⟨xe (by rw[HS.o];omega),rfl⟩
 have HS:=zh (show eY n=0 by unfold eY;rw[ai hn]);have hd:decide ((4096:Int)<(n:Int))=true:=by simp;omega
 have hd2:decide ((n:Int)<0)=false:=by simp
 go_enter func28,ntmps28
 go_wp2_with fail;go_ret;exact ⟨xe (by rw[HS.o];rfl),rfl⟩
end Go.Proofs.YtcgfilmmokmdjaaGreat
namespace Go.Proofs.YtcgfilmmokmdjaaGreat.Fx
open Ieee
def fb (n:Int):Nat:=FloatKind.f64.nearest n
def Small (n:Int):Prop:=n.natAbs<2^53
def WR:(2:Nat)^52=4503599627370496:=rfl
def Oy:(2:Nat)^53=9007199254740992:=rfl
def Oz:double.infRung=9218868437227405312:=rfl
def U1:double.binade=4503599627370496:=rfl
def Lj:double.signWeight=9223372036854775808:=rfl
def Cg (a k:Nat) (h:0<a):(a*2^k).log2=a.log2+k:=by
 have ha:a≠0:=by omega
 have hp:0<2^k:=Nat.two_pow_pos k;have hm:a*2^k≠0:=Nat.mul_ne_zero ha (by omega);refine Nat.le_antisymm ?_ ?_
 ·refine Nat.lt_succ_iff.1 ((Nat.log2_lt hm).2 ?_);rw[show (a.log2+k).succ=(a.log2+1)+k by omega,Nat.pow_add];exact Nat.mul_lt_mul_of_pos_right ((Nat.log2_lt ha).1 (dy _)) hp
 refine (Nat.le_log2 hm).2 ?_;rw[Nat.pow_add];exact aX _ ((Nat.le_log2 ha).1 (ag _))
def A5 {a:Nat} (h:0<a) (hs:a<2^53):a.log2<=52:=Nat.lt_succ_iff.1 ((Nat.log2_lt (by omega)).2 hs)
def full {a:Nat} (h:0<a) (hs:a<2^53):2^52<=a*2^(52-a.log2)/\a*2^(52-a.log2)<2^53:=by
 have hl:=A5 h hs;have h1:=(Nat.le_log2 (n:=a) (by omega)).1 (ag _);have h2:=(Nat.log2_lt (n:=a) (by omega)).1 (dy _);have hp:0<2^(52-a.log2):=Nat.two_pow_pos _;refine ⟨?_,?_⟩
 ·have:=aX (2^(52-a.log2)) h1
  rwa [<- Nat.pow_add,show a.log2+(52-a.log2)=52 by omega] at this
 have:=Nat.mul_lt_mul_of_pos_right h2 hp
 rwa [<- Nat.pow_add,show a.log2.succ+(52-a.log2)=53 by omega] at this
def ni (way:Toward) (neg:Bool) (b k:Nat) (h:k<=(b*2^k).log2+2∨b=0):way.cut neg (b*2^k) k=b:=by
 unfold Toward.cut;rcases h with h|h
 ·rw[bY h,Nat.shiftLeft_eq,Nat.one_mul];have hp:0<2^k:=Nat.two_pow_pos k;simp only[Nat.mul_div_cancel _ hp,Nat.mul_mod_left]
  cases way<;>cases neg<;>simp<;>omega
 subst h;rw[Nat.zero_mul];have hp:0<1 <<< min k (Nat.log2 0+2):=by rw[Nat.shiftLeft_eq,Nat.one_mul];exact Nat.two_pow_pos _
 simp only[Nat.zero_div,Nat.zero_mod]
 cases way<;>cases neg<;>simp<;>omega
def Da (a:Nat):Nat:=(a.log2+1022)*2^52+a*2^(52-a.log2)
def mN (neg:Bool) (a k:Nat) (h:0<a) (hs:a<2^53):double.nearest neg (a*2^k) (-(k:Int))=double.word neg (Da a):=by
 have hl:=A5 h hs;have hf:=full h hs;have hm:a*2^k≠0:=Nat.mul_ne_zero (by omega) (by have:=Nat.two_pow_pos k;omega);unfold Format.nearest;rw[ai hm];have hlp:double.leastPlace=-1074:=by decide
 have hb:double.binade=2^52:=rfl;have OA:=Cg a k h;have hfr:double.fractionBits=52:=rfl;have OB:max (-(k:Int)+((a*2^k).log2:Int)-(double.fractionBits:Int)) double.leastPlace=(a.log2:Int)-52:=by
  rw[OA,hlp,hfr];omega
 have OC:Toward.even.cut neg ((a*2^k) <<< (-(k:Int)-((a.log2:Int)-52)).toNat) ((a.log2:Int)-52- -(k:Int)).toNat=a*2^(52-a.log2):=by
  rw[Nat.shiftLeft_eq]
  by_cases hc:k+a.log2<=52
  ·have e1:(-(k:Int)-((a.log2:Int)-52)).toNat=52-a.log2-k:=by omega
   have e2:((a.log2:Int)-52- -(k:Int)).toNat=0:=by omega
   rw[e1,e2,Nat.mul_assoc,<- Nat.pow_add,show k+(52-a.log2-k)=52-a.log2 by omega];have:=ni .even neg (a*2^(52-a.log2)) 0 (.inl (by omega))
   rwa [Nat.pow_zero,Nat.mul_one] at this
  have e1:(-(k:Int)-((a.log2:Int)-52)).toNat=0:=by omega
  have e2:((a.log2:Int)-52- -(k:Int)).toNat=k-(52-a.log2):=by omega
  rw[e1,e2,Nat.pow_zero,Nat.mul_one];have e3:a*2^k=a*2^(52-a.log2)*2^(k-(52-a.log2)):=by
   rw[Nat.mul_assoc,<- Nat.pow_add,show 52-a.log2+(k-(52-a.log2))=k by omega]
  rw[e3];refine ni .even neg _ _ (.inl ?_);rw[<- e3,OA];omega
 simp only[OB,OC];have hr:((a.log2:Int)-52-double.leastPlace).toNat*double.binade+a*2^(52-a.log2)=Da a:=by
  rw[hlp,hb,show ((a.log2:Int)-52- -1074).toNat=a.log2+1022 by omega];rfl
 rw[hr,bY];rw[Oz];unfold Da;rw[WR,Oy] at *;omega
def OD (n:Int):fb n=double.nearest (decide (n<0)) n.natAbs 0:=rfl
def wr (n:Int) (hs:Small n) (k:Nat):double.nearest (decide (n<0)) (n.natAbs*2^k) (-(k:Int))=fb n:=by
 rw[OD]
 by_cases h0:n=0
 ·subst h0;unfold Format.nearest;simp
 have h:=mN (decide (n<0)) n.natAbs k (by omega) hs;have h':=mN (decide (n<0)) n.natAbs 0 (by omega) hs;rw[Nat.pow_zero,Nat.mul_one] at h';rw[h];exact h'.symm
def Ew (neg:Bool) (r:Nat) (h1:4503599627370496<=r) (h2:r<9218868437227405312):double.read (double.word neg r)=.number neg (4503599627370496+r%4503599627370496) (-1074+((r/4503599627370496-1:Nat):Int)):=by
 have hlp:double.leastPlace=-1074:=by decide
 have e1:double.word neg r%9223372036854775808=r:=by
  unfold Format.word;rw[Lj]
  cases neg
  ·simp only[Bool.false_eq_true,if_false];omega
  simp only[if_true];omega
 have e2:(double.word neg r/9223372036854775808%2==1)=neg:=by
  unfold Format.word;rw[Lj]
  cases neg
  ·simp only[Bool.false_eq_true,if_false];rw[beq_eq_false_iff_ne];omega
  simp only[if_true];rw[cM];omega
 unfold Format.read;simp only[Lj,U1,Oz,e1,e2,hlp];rw[ai (by omega),ah h2]
def rd (n:Int) (hs:Small n):∃ k:Nat,double.read (fb n)=.number (decide (n<0)) (n.natAbs*2^k) (-(k:Int)):=by
 by_cases h0:n=0
 ·subst h0;have e:double.read (fb 0)=.number false 0 (-1074):=rfl;obtain ⟨K,hK⟩:∃ K:Nat,K=1074:=⟨_,rfl⟩
  refine ⟨K,?_⟩;rw[e,Int.natAbs_zero,Nat.zero_mul,hK]
  rfl
 have ha:0<n.natAbs:=by omega
 have hl:=A5 ha hs;have hf:=full ha hs;have h:=mN (decide (n<0)) n.natAbs 0 ha hs;rw[Nat.pow_zero,Nat.mul_one] at h;have e:fb n=double.word (decide (n<0)) (Da n.natAbs):=h;have hr:Da n.natAbs=(n.natAbs.log2+1022)*4503599627370496+n.natAbs*2^(52-n.natAbs.log2):=rfl;rw[WR,Oy] at hf;have hg:∃ k,k=52-n.natAbs.log2:=⟨_,rfl⟩
 obtain ⟨k,hk⟩:=hg;refine ⟨k,?_⟩;rw[<- hk] at hf hr;have hg:∃ q,q=n.natAbs*2^k:=⟨_,rfl⟩
 obtain ⟨q,hq⟩:=hg;rw[<- hq] at hf hr |-;clear hq h;have e1:4503599627370496+Da n.natAbs%4503599627370496=q:=by rw[hr];omega
 have e2:-1074+((Da n.natAbs/4503599627370496-1:Nat):Int)=-(k:Int):=by rw[hr];omega
 rw[e,Ew _ _ (by rw[hr];omega) (by rw[hr];omega),e1,e2]
def nU (n:Int) (k up:Nat):signed (decide (n<0)) (n.natAbs*2^k) up=n*(2^(k+up):Nat):=by
 unfold signed;rw[Nat.shiftLeft_eq,Nat.mul_assoc,<- Nat.pow_add]
 by_cases h:n<0
 ·rw[ah (by simpa using h),Int.natCast_mul];rw[show ((n.natAbs:Nat):Int)=-n by omega,Int.neg_mul,Int.neg_neg]
 rw[ai (by simpa using h),Int.natCast_mul];rw[show ((n.natAbs:Nat):Int)=n by omega]
def F2 (a b:Int) (ha:Small a) (hb:Small b) (hab:Small (a+b)):double.add (fb a) (fb b)=some (fb (a+b)):=by
 obtain ⟨k,hk⟩:=rd a ha;obtain ⟨j,hj⟩:=rd b hb;unfold Format.add;rw[hk,hj]
 show Option.map double.write (some _)=_
 rw[dN]
 congr 1
 have Lk:min (-(k:Int)) (-(j:Int))=-((max k j:Nat):Int):=by omega
 have e1:(-(k:Int)- -((max k j:Nat):Int)).toNat=max k j-k:=by omega
 have e2:(-(j:Int)- -((max k j:Nat):Int)).toNat=max k j-j:=by omega
 simp only[Lk,e1,e2,nU];rw[show k+(max k j-k)=max k j by omega,show j+(max k j-j)=max k j by omega,<- Int.add_mul];generalize max k j=M;have hp:0<2^M:=Nat.two_pow_pos M;have hp':(0:Int)<((2^M:Nat):Int):=by omega
 have hn:((a+b)*((2^M:Nat):Int)).natAbs=(a+b).natAbs*2^M:=by rw[Int.natAbs_mul,Int.natAbs_natCast]
 rw[hn];have hsg:(if (a+b)*((2^M:Nat):Int)=0 then decide (a<0)&&decide (b<0) else decide ((a+b)*((2^M:Nat):Int)<0))=decide (a+b<0):=by
  by_cases h0:a+b=0
  ·rw[ah (by rw[h0,Int.zero_mul]),h0]
   by_cases h1:a<0
   ·simp[h1];omega
   simp[h1]
  rw[ai (Int.mul_ne_zero h0 (by omega))];refine decide_eq_decide.2 ⟨fun h=>?_,fun h=>Int.mul_neg_of_neg_of_pos h hp'⟩
  by_cases h1:a+b<0
  ·exact h1
  have:=Int.mul_nonneg (show 0<=a+b by omega) (Int.le_of_lt hp');omega
 rw[hsg];exact wr (a+b) hab M
def F3 (a b:Int) (ha:Small a) (hb:Small b):double.order (fb a) (fb b)=some (compare a b):=by
 obtain ⟨k,hk⟩:=rd a ha;obtain ⟨j,hj⟩:=rd b hb;unfold Format.order;rw[hk,hj];have Lk:min (-(k:Int)) (-(j:Int))=-((max k j:Nat):Int):=by omega
 have e1:(-(k:Int)- -((max k j:Nat):Int)).toNat=max k j-k:=by omega
 have e2:(-(j:Int)- -((max k j:Nat):Int)).toNat=max k j-j:=by omega
 show some (compare _ _)=_
 simp only[Lk,e1,e2,nU];rw[show k+(max k j-k)=max k j by omega,show j+(max k j-j)=max k j by omega];generalize max k j=M;have hp:0<2^M:=Nat.two_pow_pos M;have hp':(0:Int)<((2^M:Nat):Int):=by omega
 congr 1
 show compareOfLessAndEq _ _=compareOfLessAndEq _ _
 unfold compareOfLessAndEq;have h1:a*((2^M:Nat):Int)<b*((2^M:Nat):Int)↔a<b:=⟨fun h=>Int.lt_of_mul_lt_mul_right h (Int.le_of_lt hp'),fun h=>Int.mul_lt_mul_of_pos_right h hp'⟩
 have h2:a*((2^M:Nat):Int)=b*((2^M:Nat):Int)↔a=b:=⟨fun h=>Int.eq_of_mul_eq_mul_right (by omega) h,fun h=>by rw[h]⟩
 simp only[h1,h2]
def F4 (a:Int) (ha:Small a):(double.read (fb a)).toInt .zero=some a:=by
 obtain ⟨k,hk⟩:=rd a ha;rw[hk];unfold Datum.toInt Datum.integral;have e1:(-(k:Int)).toNat=0:=by omega
 have e2:(- -(k:Int)).toNat=k:=by omega
 simp only[e1,e2,Nat.shiftLeft_zero];have hc:Toward.zero.cut (decide (a<0)) (a.natAbs*2^k) k=a.natAbs:=by
  by_cases h0:a.natAbs=0
  ·rw[h0];exact ni _ _ 0 k (.inr rfl)
  exact ni _ _ _ k (.inl (by rw[Cg _ _ (by omega)];omega))
 rw[hc];have:=nU a 0 0;rw[Nat.pow_zero,Nat.mul_one] at this;rw[this];simp
end Go.Proofs.YtcgfilmmokmdjaaGreat.Fx
namespace Go.Proofs.YtcgfilmmokmdjaaGreat
open Go.Proofs.Tryz
open Go.RowKit
def td (key:Int) (w:World):Calls prog 94 #[.int .u64 key] w fun e w'=>e=.returned (.int .i64 (zp key:Int))/\w=w':=by
 have h1:IntKind.u64.wrap (key*11400714819323198485)=key*11400714819323198485%18446744073709551616:=by simp[IntKind.wrap,IntKind.signed,IntKind.bits]
 have h2:(zp key:Int)=key*11400714819323198485%18446744073709551616/2305843009213693952:=by unfold zp;omega
 go_enter func94,ntmps94
 go_wp2_with fail;go_ret;exact ⟨xe h2.symm,rfl⟩
def zLx (w:World):Calls prog 103 #[] w fun e w'=>e=.returned (yD Sl.nil 0 0)/\Below w.heap.size w w':=by
 go_enter func103,ntmps103
 go_wp2_with fail;exact au (v:=yD Sl.nil 0 0) (by simp[results,results103,go_sem,Sl.nil]) rfl ⟨rfl,(aj _ _).alloc (ag _) _⟩
def zNI (z:Int) (w:World):Calls prog 53 #[.int .i64 z] w fun e w'=>(∃ n:Nat,e=.returned (.int .i64 (n:Int))/\n<=4127/\(0<=z->n=eY z.toNat))/\w=w':=by
 by_cases hz:0<=z
 ·obtain ⟨n,rfl⟩:=dU hz;refine (Ox n w).mono ?_;rintro e w' ⟨rfl,rfl⟩;exact ⟨⟨eY n,rfl,wI n,fun _=>by rw[dR]⟩,rfl⟩
 have hd:decide (z<0)=true:=by simp;omega
 have HS:=zh hz;clear hz
 go_enter func53,ntmps53
 go_wp2_with fail;go_ret;exact ⟨⟨0,rfl,by omega,fun h=>by have:=HS.o;omega⟩,rfl⟩
def WS (x:It) (w:World):Calls prog 97 #[mg x] w fun e w'=>(∃ n:Nat,e=.returned (.int .i64 (n:Int))/\n<=4127/\(0<=x.size->n=eY x.size.toNat))/\Below w.heap.size w w':=by
 have HZ:=zh (fun W=>zNI x.size W);obtain ⟨x0,x1,x2,x3⟩:=x;dsimp only at HZ
 go_enter func97,ntmps97
 go_wp2_with fail;refine (HZ.o _).mono ?_;rintro e w2 ⟨⟨n,rfl,h1,h2⟩,rfl⟩;have H1:=zh h1;have H2:=zh h2;clear h1 h2;go_wp2_with fail;go_ret;exact ⟨⟨n,rfl,H1.o,H2.o⟩,(aj _ _).alloc (ag _) _⟩
def tV (s:Sl) (l g:Int) (w:World):Calls prog 93 #[yD s l g] w fun e w'=>e=.returned (.complex .f64 (Fx.fb l) (Fx.fb g))/\Below w.heap.size w w':=by
 go_enter func93,ntmps93
 go_wp2_with fail;go_ret;exact ⟨rfl,(aj _ _).alloc (ag _) _⟩
def WT (n:Nat) (hn:n<=10000) (w:World):Calls prog 96 #[.int .i64 (n:Int)] w fun e w'=>e=.returned (.complex .f64 (Fx.fb (-(n:Int))) (Fx.fb n))/\Below w.heap.size w w':=by
 go_enter func96,ntmps96
 go_wp2_with fail;go_ret;exact ⟨rfl,aj _ _⟩
def WU (a:Int) (ha:Fx.Small a):floatToIntVal .f64 (Fx.fb a) .i64=some a:=by
 have h:a.natAbs<2^53:=ha;rw[Fx.Oy] at h;unfold floatToIntVal;have:(FloatKind.f64.decode (Fx.fb a)).toInt .zero=some a:=Fx.F4 a ha;rw[this];simp only[IntKind.min,IntKind.max,IntKind.signed,IntKind.bits];rw[ah];simp;omega
def U2 (s:Sl) (l0 g0 l g:Int) (hl:Fx.Small l) (hg:Fx.Small g) (w:World):Calls prog 92 #[yD s l0 g0,.complex .f64 (Fx.fb l) (Fx.fb g)] w fun e w'=>e=.returned (yD s l g)/\Below w.heap.size w w':=by
 have h1:=fun W=>run_convert_float_int (P:=prog) W 170 2 .f64 .i64 (Fx.fb l) l (by kernel_rfl) underlying2 (WU l hl)
 have h2:=fun W=>run_convert_float_int (P:=prog) W 170 2 .f64 .i64 (Fx.fb g) g (by kernel_rfl) underlying2 (WU g hg)
 generalize Fx.fb l=bl at *;generalize Fx.fb g=bg at *
 go_enter func92,ntmps92
 go_wp2_with fail;exact au (v:=yD s l g) (by simp[results,results92,go_sem]) rfl ⟨rfl,((aj _ _).alloc (ag _) _).alloc (by simp) _⟩
def WY (key:Int) (w:World):Calls prog 162 #[.int .u64 key] w fun e w'=>e=.returned (.int .i64 (zp key:Int))/\w=w':=by
 have h1:IntKind.u64.wrap (key*11400714819323198485)=key*11400714819323198485%18446744073709551616:=by simp[IntKind.wrap,IntKind.signed,IntKind.bits]
 have h2:(zp key:Int)=key*11400714819323198485%18446744073709551616/2305843009213693952:=by unfold zp;omega
 go_enter func162,ntmps162
 go_wp2_with fail;go_ret;exact ⟨xe h2.symm,rfl⟩
def U4 (z:Int) (hz:0<=z) (w:World):Calls prog 28 #[.int .i64 z] w fun e w'=>e=.returned (.int .i64 (eY z.toNat:Int))/\w=w':=by
 obtain ⟨n,rfl⟩:=dU hz;rw[dR];exact Nt n w
def Xj {T:List It} {n:Nat} (h:n<T.length):zz (T.take (n+1))=zz (T.take n)+eY (eA T n).size.toNat:=by
 rw[xT h,xW];rfl
def Xm (v:Value) (l:List It) (w:World) (h:lg w v l) (hp:∀ x∈l,0<=x.size) (hs:l.length<=1000000) :
  Calls prog 163 #[v] w fun e w'=>e=.returned (.int .i64 (zz l:Int))/\Below w.heap.size w w':=by
 obtain ⟨a,cap,rfl,_,_⟩:=h.shape;have Hr:=zh h;have HP:=zh (fun j (h:j<l.length)=>hp _ (qk h));have HS:=zh (fun j (h:j<l.length)=>Xj h);have HE:=zh (show zz (l.take l.length)=zz l by rw[bQ])
 have HB:=zh (fun j=>show zz (l.take j)<=4127000000 from by
  have:=qY (l.take j)
  rw[aB] at this
  have:min j l.length*4127<=1000000*4127:=aX _ (by omega)
  omega)
 generalize hn:l.length=n at *;clear h hp hn
 go_enter func163,ntmps163
 go_wp2_with fail
 go_loopw [3,4] (fun sv iv W=>∃ i p:Nat,iv=.int .i64 (i:Int)/\sv=.int .i64 (p:Int)/\i<=n/\Hid (p=zz (l.take i))/\Hid (Below w.heap.size w W)) (fun _ iv _=>n-(intOf iv).toNat)
 case atStart=>exact ⟨0,0,by rfl,rfl,aq _,zh rfl,zh (aj _ _)⟩
 obtain ⟨i,p,rfl,rfl,hi,Hm,Hb⟩:=hrel
 by_cases hin:i<n
 ·obtain ⟨pb,F5,rfl,c0,c1,c2,c3⟩:=(Hr.o.bb Hb.o).at hin;have hS:=HS.o i hin;have hB:=HB.o (i+1);have hZ:=HP.o i hin;generalize eA l i=x at *;obtain ⟨x0,x1,x2,x3⟩:=x;dsimp only at *;have HZ:=zh (fun W=>U4 x3 hZ W);generalize eY x3.toNat=z at *;rw[hS,<- Hm.o] at hB;have HN:=zh (show p+z=zz (l.take (i+1)) by rw[hS,Hm.o]);have hpz:IntKind.i64.wrap ((p:Int)+(z:Int))=((p+z:Nat):Int):=(aF _ (by omega)).trans (by omega);have i1:(i:Int)<(n:Int):=by omega
  clear hS hZ;go_wp2_with fail;refine (HZ.o _).mono ?_;rintro e w2 ⟨rfl,rfl⟩;go_wp2_with fail;exact ⟨⟨i+1,p+z,by go_num,rfl,by omega,HN,Hb⟩,by simp[intOf];omega⟩
 obtain rfl:i=n:=by omega
 have HF:=zh (Hm.o.trans HE.o);go_wp2_with fail;go_ret;exact ⟨xe (by rw[HF.o]),Hb.o⟩
def Xw (s:Sl) {i:Nat} (hi:i<8) (W:World):(Instr.index 34 (.agg (zOC s)) (.int .i64 (i:Int))).run prog W=.ok (s.v i) W:=by
 rcases Li hi with h|h|h|h|h|h|h|h<;>subst h<;>rfl
variable {M:Mp} {i:Nat}
def Xx (hi:i<8) (h:BH M i=false):xQ M=false:=by
 unfold xQ;have:(List.range 8).all (BH M)=false:=by
  rw[List.all_eq_false];exact ⟨i,List.mem_range.2 hi,by rw[h];simp⟩
 rw[this];rfl
def Xy (h:∀ i,i<8->BH M i=true):xQ M=((M.live==(zz (vp M):Int))&&decide (0<=M.ew)&&decide (M.ew<=1099511627776)):=by
 unfold xQ;have:(List.range 8).all (BH M)=true:=List.all_eq_true.2 fun i hi=>h i (List.mem_range.1 hi)
 rw[this,bU]
def XI (h:wT (M.st i)=false):BH M i=false:=by unfold BH;rw[h];rfl
def XJ {j:Nat} (hj:j<(M.st i).length) (h:zp (eA (M.st i) j).key≠i):BH M i=false:=by
 unfold BH;rw[qd hj (by simpa using h),Bool.and_false]
def XK (h:wT (M.st i)=true) (h2:∀ j,j<(M.st i).length->zp (eA (M.st i) j).key=i):BH M i=true:=by
 unfold BH;rw[h,RK fun j hj=>by simpa using h2 j hj];rfl
def kR {M:Mp} {B:Nat} (h:∀ i,i<8->(M.st i).length<=B):∀ n,n<=8->(cat M.st n).length<=n*B
 |0,_=>by simp[cat]
 |n+1,hn=>by
  have ih:=kR h n (by omega)
  show (cat M.st n++M.st n).length<=_
  rw[ax,cV];have:=h n (by omega);omega
def Sb {l:List It} (h:wT l=true):∀ x∈l,0<=x.size:=fun x hx=>((tC.1 h).2 x hx).2.2.2.1
def uM (s:Sl) (M:Mp) (w:World) (h:fN w s M.st) (hs:∀ i,i<8->(M.st i).length<=100000) :
  Calls prog 87 #[yD s M.live M.ew] w fun e w'=>e=.returned (.bool (xQ M))/\Below w.heap.size w w':=by
 have Hr:=zh h;have HV:=zh (fun i (hi:i<8) W (hb:Below w.heap.size w W)=>ZP (s.v i) (M.st i) W ((h i hi).bb hb));have HI:=zh (fun i (hi:i<8)=>Xw s hi);have HL:=zh (fun i (hi:i<8)=>h.n hi);have jb:=zh hs;have lh:=zh (fun i (hi:i<8) (h:BH M i=false)=>Xx hi h);have rB:=zh (fun h=>Xy (M:=M) h)
 have Ll:=zh (fun n (hn:n<=8)=>show zz (cat M.st n)<=3301600000 from by
  have h1:=kR hs n hn
  have h2:=qY (cat M.st n)
  have:(cat M.st n).length*4127<=(8*100000)*4127:=aX _ (ak h1 (aX _ hn))
  omega)
 have HA:Hid (vp M=cat M.st 8):=zh (rfl);clear h hs;obtain ⟨f,L,G⟩:=M;dsimp only at *
 go_enter func87,ntmps87
 go_wp2_with fail;obtain ⟨W0,hW0,eP,HL0,UC⟩:∃ W0,w.alloc (.cells (yl s L G) 36)=W0/\Hid (Below w.heap.size w W0)/\Hid (W0.cell? ⟨w.heap.size,8,none⟩=some (.int .i64 L))/\Hid (W0.cell? ⟨w.heap.size,9,none⟩=some (.int .i64 G)):=⟨_,rfl,zh ((aj _ _).alloc (ag _) _),zh (by simp),zh (by simp)⟩
 try rw[hW0]
 clear hW0
 go_loopw [3,10] (fun lv iv W=>∃ i p:Nat,iv=.int .i64 (i:Int)/\lv=.int .i64 (p:Int)/\i<=8/\Hid (∀ j,j<i->BH ⟨f,L,G⟩ j=true)/\Hid (p=zz (cat f i))/\Hid (Below W0.heap.size W0 W)) (fun _ iv _=>8-(intOf iv).toNat)
 case atStart=>exact ⟨0,0,rfl,rfl,aq _,zh (fun j hj=>by omega),zh rfl,zh (aj _ _)⟩
 obtain ⟨i,p,rfl,rfl,hi,nr,Hp,HB⟩:=hrel
 by_cases hin:i<8
 ·have i1:(i:Int)<8:=by omega
  have hI:=HI.o i hin;have hL:=HL.o i hin;have jI:=zh (zA eP.o HB.o);have pE:=zh (HV.o i hin wr jI.o);have lF:=zh ((Hr.o i hin).bb jI.o);have BI:s.v i=.slice (s.a i) (s.n i) (s.c i):=rfl;rw[BI] at pE lF hI;have rC:=jb.o i hin;have hT:=Ll.o (i+1) (by omega);have hcs:cat f (i+1)=cat f i++f i:=rfl;rw[hcs,xW,<- Hp.o] at hT;have U5:=zh (show zz (cat f (i+1))=p+zz (f i) by rw[hcs,xW,Hp.o]);rw[hL] at pE lF hI;generalize s.a i=sa at *;generalize s.c i=sc at *;have Jd:=zh (lh.o i hin);have HY:=zh (fun h1 h2=>XK (M:=⟨f,L,G⟩) (i:=i) h1 h2);have Ch:=zh (fun h=>Jd.o (XI (M:=⟨f,L,G⟩) (i:=i) h));have CT:=zh (fun j h1 h2=>Jd.o (XJ (M:=⟨f,L,G⟩) (i:=i) (j:=j) h1 h2));have jY:=zh (fun j (h:j<(f i).length)=>Xj h)
  have HSe:=zh (show zz ((f i).take (f i).length)=zz (f i) by rw[bQ])
  have U6:=zh (fun j=>show zz ((f i).take j)<=zz (f i) from by
   have:zz ((f i).take j++(f i).drop j)=zz (f i):=by rw[b7]
   rw[xW] at this;omega)
  have Nu:=zh (fun h=>Sb (l:=f i) h);dsimp only at HY Ch CT;generalize f i=l at *;clear hL BI hcs Jd
  by_cases hv:wT l=true
  ·rw[hv] at pE;have U7:=zh (fun j (h:j<l.length)=>Nu.o hv _ (qk h));generalize hn:l.length=n at *;clear hn;go_wp2_with fail;refine pE.o.mono ?_;rintro e w2 ⟨rfl,hb2⟩;have eX:=zh (zA HB.o hb2);have iq:=zh (lF.o.bb hb2);clear hb2 pE jI HB lF;go_wp2_with fail
   go_loopw [3,19] (fun lv jv W=>∃ j q:Nat,jv=.int .i64 (j:Int)/\lv=.int .i64 ((p+q:Nat):Int)/\j<=n/\Hid (∀ r,r<j->zp (eA l r).key=i)/\Hid (q=zz (l.take j))/\Hid (Below w2.heap.size w2 W)) (fun _ jv _=>n-(intOf jv).toNat)
   case atStart=>exact ⟨0,0,rfl,rfl,aq _,zh (fun j hj=>by omega),zh rfl,zh (aj _ _)⟩
   obtain ⟨j,q,rfl,rfl,hj,OE,Hq,ic⟩:=hrel
   by_cases hjn:j<n
   ·obtain ⟨pb,F5,rfl,c0,c1,c2,c3⟩:=(iq.o.bb ic.o).at hjn;have i2:(j:Int)<(n:Int):=by omega
    have U8:=jY.o j hjn;have XL:=U6.o (j+1);have hpos:=U7.o j hjn;have Db:=zh (CT.o j hjn)
    have HK:=zh (fun (hk:zp (eA l j).key=i) r (hr:r<j+1)=>show zp (eA l r).key=i from by
     by_cases e:r=j
     ·rw[e];exact hk
     exact OE.o r (by omega))
    rw[U8,<- Hq.o] at XL;generalize eA l j=x at *;have jJ:=zh (fun W=>WS x W);have eO:Hid (Below wr.heap.size wr (wr.alloc (xX x))):=zh (yH wr x);have HS:=zh (fun W=>td x.key W);generalize hk:zp x.key=k at *;have mh:k<8:=by rw[<- hk];exact wy _
    obtain ⟨x0,x1,x2,x3⟩:=x;dsimp only at *;clear hk
    by_cases hki:k=i
    ·have g1:((k:Int) != (i:Int))=false:=by rw[bne_eq_false_iff_eq];omega
     have FT:=zh (HK.o hki);clear hki Db HK;go_wp2_with fail;refine (HS.o _).mono ?_;rintro e w3 ⟨rfl,rfl⟩;go_wp2_with fail;refine (jJ.o _).mono ?_;rintro e w4 ⟨⟨z,rfl,hz,hz2⟩,hb4⟩;have hz3:=hz2 hpos;have gq:=zh (zA ic.o (zA eO.o hb4));have HQ:=zh (show q+z=zz (l.take (j+1)) by rw[U8,Hq.o,hz3]);rw[<- hz3] at XL;have hw:IntKind.i64.wrap (((p+q:Nat):Int)+(z:Int))=((p+(q+z):Nat):Int):=(aF _ (by omega)).trans (by omega);rw[dO] at hw;clear hb4 hz2 hz3 U8;go_wp2_with fail;exact ⟨⟨j+1,q+z,by go_num,by simp,by omega,FT,HQ,gq⟩,by simp[intOf];omega⟩
    have g1:((k:Int) != (i:Int))=true:=bne_iff_ne.2 (by omega);have HF:=zh (Db.o hki);have eN:=zh (zA eP.o (zA eX.o (zA ic.o eO.o)));clear hki Db HK;go_wp2_with fail;refine (HS.o _).mono ?_;rintro e w3 ⟨rfl,rfl⟩;go_wp2_with fail;go_ret;exact ⟨zJ HF.o.symm,eN.o⟩
   obtain rfl:j=n:=by omega
   have F6:=zh (show ∀ r,r<i+1->BH ⟨f,L,G⟩ r=true from fun r hr=>by
    by_cases e:r=i
    ·rw[e];exact HY.o hv OE.o
    exact nr.o r (by omega))
   have nt:=zh (show p+q=zz (cat f (i+1)) by rw[U5.o,Hq.o,HSe.o]);have eN:=zh (zA eX.o ic.o);go_wp2_with fail;exact ⟨⟨i+1,p+q,by go_num,by simp,by omega,F6,nt,eN⟩,by simp[intOf];omega⟩
  have hv':wT l=false:=by simpa using hv
  have HF:=zh (Ch.o hv');rw[hv'] at pE;generalize l.length=n at *;go_wp2_with fail;refine pE.o.mono ?_;rintro e w2 ⟨rfl,hb2⟩;have eX:=zh (zA jI.o hb2);clear hb2;go_wp2_with fail;go_ret;exact ⟨zJ HF.o.symm,eX.o⟩
 obtain rfl:i=8:=by omega
 have hall:=rB.o nr.o;rw[HA.o] at hall;rw[<- Hp.o] at hall;have HF:=zh hall;have e8:=Below.keeps HB.o _ _ HL0.o;have e9:=Below.keeps HB.o _ _ UC.o;have eN:=zh (zA eP.o HB.o);clear hall
 by_cases g1:L=(p:Int)
 ·have q1:(L==(p:Int))=true:=beq_iff_eq.2 g1;rw[q1] at HF
  by_cases g2:0<=G
  ·have q2:decide (0<=G)=true:=by simpa using g2
   rw[q2] at HF;clear g1;go_wp2_with fail;go_ret;exact ⟨zJ (by rw[HF.o];simp),eN.o⟩
  have q2:decide (0<=G)=false:=by simpa using g2
  rw[q2] at HF;clear g1;go_wp2_with fail;go_ret;exact ⟨zJ (by rw[HF.o];simp),eN.o⟩
 have q1:(L==(p:Int))=false:=beq_eq_false_iff_ne.2 g1;rw[q1] at HF;go_wp2_with fail;go_ret;exact ⟨zJ (by rw[HF.o];simp),eN.o⟩
def zY (w:World) (s:Sl) (l g:Int) (t:TypeId):Below w.heap.size w (w.alloc (.cells (yl s l g) t)):=(aj _ _).alloc (ag _) _
def uW (s:Sl) (M:Mp) (w:World) (h:fN w s M.st) (hs:∀ i,i<8->(M.st i).length<=100000) :
  Calls prog 121 #[yD s M.live M.ew] w fun e w'=>e=.returned (.bool (xQ M))/\Below w.heap.size w w':=by
 have Hr:=zh h;have HV:=zh (fun i (hi:i<8) W (hb:Below w.heap.size w W)=>zJ1 (s.v i) (M.st i) W ((h i hi).bb hb));have HL:=zh (fun i (hi:i<8)=>h.n hi);have jb:=zh hs;have lh:=zh (fun i (hi:i<8) (h:BH M i=false)=>Xx hi h);have rB:=zh (fun h=>Xy (M:=M) h)
 have Ll:=zh (fun n (hn:n<=8)=>show zz (cat M.st n)<=3301600000 from by
  have h1:=kR hs n hn
  have h2:=qY (cat M.st n)
  have:(cat M.st n).length*4127<=(8*100000)*4127:=aX _ (ak h1 (aX _ hn))
  omega)
 have HA:Hid (vp M=cat M.st 8):=zh (rfl);clear h hs;obtain ⟨f,L,G⟩:=M;dsimp only at *;have eO:=zh (eZ.new w s L G 111);have eP:=zh (zY w s L G 111)
 go_enter func121,ntmps121
 go_wp2_with fail;obtain ⟨W0,hW0⟩:∃ W0,w.alloc (.cells (yl s L G) 111)=W0:=⟨_,rfl⟩
 rw[hW0] at eO eP
 try rw[hW0]
 clear hW0
 go_loopw [3,4] (fun lv iv W=>∃ i p:Nat,iv=.int .i64 (i:Int)/\lv=.int .i64 (p:Int)/\i<=8/\Hid (∀ j,j<i->BH ⟨f,L,G⟩ j=true)/\Hid (p=zz (cat f i))/\Hid (Below W0.heap.size W0 W)) (fun _ iv _=>8-(intOf iv).toNat)
 case atStart=>exact ⟨0,0,rfl,rfl,aq _,zh (fun j hj=>by omega),zh rfl,zh (aj _ _)⟩
 obtain ⟨i,p,rfl,rfl,hi,nr,Hp,HB⟩:=hrel;have jI:Hid (Below w.heap.size w wr):=zh (zA eP.o HB.o)
 by_cases hin:i<8
 ·have i1:(i:Int)<8:=by omega
  have hL:=HL.o i hin;have pE:=zh (HV.o i hin wr jI.o);have lF:=zh ((Hr.o i hin).bb jI.o);have BI:s.v i=.slice (s.a i) (s.n i) (s.c i):=rfl;have ci:=eO.o.c i hin;rw[BI] at pE lF ci;have hT:=Ll.o (i+1) (by omega);have hcs:cat f (i+1)=cat f i++f i:=rfl;rw[hcs,xW,<- Hp.o] at hT;have U5:=zh (show zz (cat f (i+1))=p+zz (f i) by rw[hcs,xW,Hp.o]);rw[hL] at pE lF ci;generalize s.a i=sa at *;generalize s.c i=sc at *;have Jd:=zh (lh.o i hin);have HY:=zh (fun h1 h2=>XK (M:=⟨f,L,G⟩) (i:=i) h1 h2);have Ch:=zh (fun h=>Jd.o (XI (M:=⟨f,L,G⟩) (i:=i) h));have CT:=zh (fun j h1 h2=>Jd.o (XJ (M:=⟨f,L,G⟩) (i:=i) (j:=j) h1 h2));have Nu:=zh (fun h=>Sb (l:=f i) h);have rC:=jb.o i hin;dsimp only at HY Ch CT;have IB:=zh ci;generalize f i=l at *;clear hL BI hcs Jd ci
  by_cases hv:wT l=true
  ·rw[hv] at pE;have jK:=zh (fun a n c W (h:lg W (.slice a n c) l)=>Xm (.slice a n c) l W h (Nu.o hv) (by omega));generalize hn:l.length=n at *;clear hn;have c1:=Below.keeps HB.o _ _ IB.o;go_wp2_with fail;refine pE.o.mono ?_;rintro e w2 ⟨rfl,hb2⟩;have eX:=zh (zA HB.o hb2);have iq:=zh (lF.o.bb hb2);clear hb2 pE HB lF c1;go_wp2_with fail
   go_loopw [5] (fun jv W=>∃ j:Nat,jv=.int .i64 (j:Int)/\j<=n/\Hid (∀ r,r<j->zp (eA l r).key=i)/\Hid (Below w2.heap.size w2 W)) (fun jv _=>n-(intOf jv).toNat)
   case atStart=>exact ⟨0,rfl,aq _,zh (fun j hj=>by omega),zh (aj _ _)⟩
   obtain ⟨j,rfl,hj,OE,ic⟩:=hrel;have c1:=Below.keeps (zA eX.o ic.o) _ _ IB.o
   by_cases hjn:j<n
   ·obtain ⟨pb,F5,rfl,e0,e1,e2,e3⟩:=(iq.o.bb ic.o).at hjn;have i2:(j:Int)<(n:Int):=by omega
    have Db:=zh (CT.o j hjn)
    have HK:=zh (fun (hk:zp (eA l j).key=i) r (hr:r<j+1)=>show zp (eA l r).key=i from by
     by_cases e:r=j
     ·rw[e];exact hk
     exact OE.o r (by omega))
    generalize eA l j=x at *;have HS:=zh (fun W=>WY x.key W);generalize hk:zp x.key=k at *;have mh:k<8:=by rw[<- hk];exact wy _
    obtain ⟨x0,x1,x2,x3⟩:=x;dsimp only at *;clear hk
    by_cases hki:k=i
    ·have g1:((k:Int) != (i:Int))=false:=by rw[bne_eq_false_iff_eq];omega
     have FT:=zh (HK.o hki);clear hki Db HK;go_wp2_with fail;refine (HS.o _).mono ?_;rintro e w3 ⟨rfl,rfl⟩;go_wp2_with fail;exact ⟨⟨j+1,by go_num,by omega,FT,ic⟩,by simp[intOf];omega⟩
    have g1:((k:Int) != (i:Int))=true:=bne_iff_ne.2 (by omega);have HF:=zh (Db.o hki);have eN:Hid (Below w.heap.size w wr):=zh (zA eP.o (zA eX.o ic.o));clear hki Db HK;go_wp2_with fail;refine (HS.o _).mono ?_;rintro e w3 ⟨rfl,rfl⟩;go_wp2_with fail;go_ret;exact ⟨zJ HF.o.symm,eN.o⟩
   obtain rfl:j=n:=by omega
   have F6:=zh (show ∀ r,r<i+1->BH ⟨f,L,G⟩ r=true from fun r hr=>by
    by_cases e:r=i
    ·rw[e];exact HY.o hv OE.o
    exact nr.o r (by omega))
   have sw:=zh (jK.o _ _ _ wr (iq.o.bb ic.o));generalize zz l=q at *;have hw:IntKind.i64.wrap ((p:Int)+(q:Int))=((p+q:Nat):Int):=(aF _ (by omega)).trans (by omega);go_wp2_with fail;refine sw.o.mono ?_;rintro e w3 ⟨rfl,hb3⟩;have eN:=zh (zA (zA eX.o ic.o) hb3);clear hb3;go_wp2_with fail;exact ⟨⟨i+1,p+q,by go_num,rfl,by omega,F6,zh U5.o.symm,eN⟩,by simp[intOf];omega⟩
  have hv':wT l=false:=by simpa using hv
  have HF:=zh (Ch.o hv');rw[hv'] at pE;generalize l.length=n at *;have c1:=Below.keeps HB.o _ _ IB.o;go_wp2_with fail;refine pE.o.mono ?_;rintro e w2 ⟨rfl,hb2⟩;have eX:=zh (zA jI.o hb2);clear hb2;go_wp2_with fail;go_ret;exact ⟨zJ HF.o.symm,eX.o⟩
 obtain rfl:i=8:=by omega
 have hall:=rB.o nr.o;rw[HA.o] at hall;rw[<- Hp.o] at hall;have HF:=zh hall;have e8:=Below.keeps HB.o _ _ eO.o.cl;have e9:=Below.keeps HB.o _ _ eO.o.cg;have eN:=jI;clear hall
 by_cases g1:L=(p:Int)
 ·have q1:(L==(p:Int))=true:=beq_iff_eq.2 g1;rw[q1] at HF
  by_cases g2:0<=G
  ·have q2:decide (0<=G)=true:=by simpa using g2
   rw[q2] at HF;clear g1;go_wp2_with fail;go_ret;exact ⟨zJ (by rw[HF.o];simp),eN.o⟩
  have q2:decide (0<=G)=false:=by simpa using g2
  rw[q2] at HF;clear g1;go_wp2_with fail;go_ret;exact ⟨zJ (by rw[HF.o];simp),eN.o⟩
 have q1:(L==(p:Int))=false:=beq_eq_false_iff_ne.2 g1;rw[q1] at HF;go_wp2_with fail;go_ret;exact ⟨zJ (by rw[HF.o];simp),eN.o⟩
end Go.Proofs.YtcgfilmmokmdjaaGreat
