import Derived.RangeFuncNested
import Derived.Test.YtcgfilmmokmdjaaGreatQAO
import Derived.Test.YtcgfilmmokmdjaaGreatQAL
import Derived.Test.YtcgfilmmokmdjaaGreatQAM
import Derived.Test.YtcgfilmmokmdjaaGreatQAN
set_option linter.all false
set_option maxRecDepth 100000
set_option maxHeartbeats 32000000
namespace Go.Proofs.YtcgfilmmokmdjaaGreat
open Go.RowKit Go.Shelf
attribute [local go_sem] Oper.semAt_some
def qT (l:List Gn) (key:Int) (pre:List Nat):List jK:=pre.flatMap fun n=>match zg (eV l n).m key with|some x=>[⟨(eV l n).num,(eV l n).mode,(eV l n).rev,x,n⟩]|none=>[]
theorem zIH {l:List Gn} {key:Int} (pre:List Nat) {n:Nat} {x:It} (h:zg (eV l n).m key=some x):qT l key (pre++[n])=qT l key pre++[⟨(eV l n).num,(eV l n).mode,(eV l n).rev,x,n⟩]:=by simp[qT,h]
theorem zHc {l:List Gn} {key:Int} (pre:List Nat) {n:Nat} (h:zg (eV l n).m key=none):qT l key (pre++[n])=qT l key pre:=by simp[qT,h]
theorem zJM (l:List Gn) (key:Int) (pre:List Nat):(qT l key pre).length≤pre.length:=by
 induction pre with
 |nil=>exact ag _
 |cons n pre ih =>
  have e:qT l key (n::pre)=(match zg (eV l n).m key with|some x=>[⟨(eV l n).num,(eV l n).mode,(eV l n).rev,x,n⟩]|none=>[])++qT l key pre:=rfl;rw[e,aw,aV];have:(match zg (eV l n).m key with|some x=>[(⟨(eV l n).num,(eV l n).mode,(eV l n).rev,x,n⟩:jK)]|none=>[]).length≤1:=by
   cases zg (eV l n).m key<;>simp
  omega
theorem zEp (n:Nat):yx (n+1) (n+1)=n::yx n n:=by
 unfold yx;rw[List.range_succ_eq_map,List.map_cons,List.map_map,List.cons.injEq];refine ⟨by omega,List.map_congr_left fun j _=>?_⟩;simp only[Function.comp_apply];omega
theorem Zz (l:List Gn) (key:Int):∀ n,qT l key (yx n n)=xU l key n
 |0=>rfl
 |n+1=>by
  have ih:=Zz l key n;rw[zEp,xU,← ih]
  rfl
theorem ZA {l:List Gn} {key:Int}:∀ n,∀ x∈xU l key n,x.at_<n
 |0,x,h=>by cases h
 |n+1,x,h=>by
  rw[xU] at h;rcases List.mem_append.1 h with h|h
  ·
   cases e:zg (eV l n).m key with
   |none=>rw[e] at h;cases h
   |some y=>rw[e] at h;rw[List.mem_singleton.1 h];exact dD n
  exact Nat.lt_succ_of_lt (ZA n x h)
theorem ZB {W W':World} (h:Below W.heap.size W W'):KeepsOthers W W':=⟨h.size,fun k o hk _=>(h.block k (Array.getElem?_eq_some_iff.1 hk).1).trans hk⟩
theorem zG8 {W W':World} {b:Nat} {n r md z:Int} {s:Sl} {l g:Int} {row:Option Nat} (h:eO W b n r md z s l g) (hg:W.grownBy W' row) (hrow:∀ r,row=some r→∃ o:Obj,W.heap[r]?=some o∧o.isCells=false):eO W' b n r md z s l g:=
 ⟨cell_kept h.n0 hg hrow,cell_kept h.n1 hg hrow,cell_kept h.n2 hg hrow,cell_kept h.n3 hg hrow,fun j hj=>cell_kept (h.c j hj) hg hrow,cell_kept h.cl hg hrow,cell_kept h.cg hg hrow,fun i=>by
  obtain ⟨o,ho,hc⟩:=cells_of_cell h.n0
  have e:=grownBy_keeps_cells hg hrow ho hc
  have e2:=h.f i
  unfold World.frozen? at e2 ⊢
  rw[e];exact e2⟩
theorem _root_.Go.Boxed.below {W W':World} {B:Nat} {t:TypeId} {v:Value} (h:Boxed W B t v) (hb:Below W.heap.size W W'):Boxed W' B t v:=(hb.block _ h.lt).trans h
theorem ZC (W:World) (cs:List Value) (e:TypeId):∀ j u,cs[j]?=some u→(W.alloc (.cells cs.toArray e)).cell? ((⟨W.heap.size,0,none⟩:Addr).add j)=some u:=fun j u h=>by
 rw[yM,aI];have h0:=World.alloc_heap_new W (.cells cs.toArray e);simp only[World.cell?,h0,List.getElem?_toArray];exact h
theorem zJt (W:World) (k:Nat) (hk:W.heap.size=k) (cs:List Value) (e:TypeId):∀ j u,cs[j]?=some u→(W.alloc (.cells cs.toArray e)).cell? ((⟨k,0,none⟩:Addr).add j)=some u:=by subst hk;exact ZC W cs e
theorem zL0 (x:jK):∀ u∈Dp x,u.oneCell'=true:=by
 intro u hu;simp only[Dp,aX,aY,aZ] at hu;rcases hu with h|h|h|h|h|h|h|h<;>rw[h]<;>rfl
theorem zLU {w:World} {v:Value} {L:List GP} (h:fD w v L) (x:Nat):fG w (pat L x).2 (pat L x).1.m.st:=by
 by_cases hx:x<L.length
 ·
  exact h.m _ (yX hx)
 have e:pat L x=Iy:=by unfold pat;rw[ax,dX (by omega)];rfl
 rw[e];exact PK w
theorem zK7 {L:List GP} (hs:∀ p∈L,∀ j,j<8→(p.1.m.st j).length≤10000) (x:Nat):∀ j,j<8→((pat L x).1.m.st j).length≤10000:=by
 by_cases hx:x<L.length
 ·
  exact hs _ (yX hx)
 have e:pat L x=Iy:=by unfold pat;rw[ax,dX (by omega)];rfl
 rw[e];intro j _;exact aq _
theorem zKc (i l:Int) (r:Bool) (a:Option Addr) (n c:Nat) (L:List GP) (w:World) (h:fD w (.slice a n c) L) (hs:∀ p∈L,∀ j,j<8→(p.1.m.st j).length≤10000) (hv:zY ⟨i,l,r,ep L⟩=true) (key:Int) :
  Calls Tryz.prog 62 #[zO i l r a n c,.int .u64 key] w fun e w'=>∃ v,e=.returned v∧CM w' w.heap.size v (xU (ep L) key n)∧Below w.heap.size w w':=by
 obtain ⟨Da,AX⟩:=((zW _).1 hv).len;dsimp only at Da AX;rw[zn] at Da AX;obtain rfl:n=L.length:=by obtain ⟨a',cap',e,_⟩:=h.shape;injection e
 obtain ⟨b,off,rfl,hg0⟩:=h.at (show 0<L.length by omega);have HG:=zh (fun j (hj:j<L.length)=>h.Mz hj);have hb:=cA w _ hg0.n0;have T1:=fun W (hb:Below w.heap.size w W)=>xD i l r (some ⟨b,off,none⟩) L.length c L W (h.below hb) hs
 have JR:=zh (fun W (hb:Below w.heap.size w W) (x:Nat)=>XW (pat L x).2 (pat L x).1.m key W ((zLU h x).below hb) (zK7 hs x));rw[hv] at T1;clear hg0 h hs;obtain ⟨i0,hi,hz0,hz1,hz2⟩:=cm zLp;refine (callsIn_wide (n:=20)).1 (callsIn_of_wp_marks Tryz.func62 rfl trivial ?_ rfl);simp only[Tryz.ntmps62,cu,aV,dI,Nat.reduceAdd,Nat.reduceSub,Array.replicate_succ,Array.replicate_zero,List.push_toArray,List.append_toArray,bQ,List.cons_append];have EO:=eW.new w i l r (some ⟨b,off,none⟩) L.length c 27;have w_:=zM w i l r (some ⟨b,off,none⟩) L.length c 27;have Qe:=Boxed.new (w.alloc (.cells (zK i l r (some ⟨b,off,none⟩) L.length c) 27)) 24 (.int .u64 key);rw[cO] at Qe
 gi_wp2_with (first|(refine ⟨trivial,?_⟩;gi_at_call 47;refine (callsIn_wide.2 (T1 _ (w_.alloc (by simp) _))).mono ?_;rintro e w1 ⟨rfl,hb1⟩;have hB1:=zA (w_.alloc (by simp) (.cells #[.int .u64 key] 24)) hb1;have k3:=(((EO.below ((aj _ _).alloc (ag _) (.cells #[.int .u64 key] 24))).below hb1).below ((aj _ w1).alloc (ag _) (.cells #[.slice none 0 0] 135))).c3;have JS:Boxed w1 (w.heap.size+1) 24 (.int .u64 key):=(hb1.block _ Qe.lt).trans Qe;clear hb1 EO w_ Qe)|(refine ⟨trivial,?_⟩;gi_at_call 105;refine (callsIn_wide.2 (zC0 _ _ _ _)).mono ?_;rintro e w' ⟨rfl,rfl⟩;clear k3))
 clear T1;have bO:=(Boxed.new w1 135 (.slice none 0 0)).alloc (.cells #[.slice (some ⟨b,off,none⟩) L.length c] 25);have bS:=Boxed.new (w1.alloc (.cells #[.slice none 0 0] 135)) 25 (.slice (some ⟨b,off,none⟩) L.length c);have bK:=(JS.alloc (.cells #[.slice none 0 0] 135)).alloc (.cells #[.slice (some ⟨b,off,none⟩) L.length c] 25);have sV:=JS.lt;simp only[cO] at bS;have hB2:Below w.heap.size w ((w1.alloc (.cells #[.slice none 0 0] 135)).alloc (.cells #[.slice (some ⟨b,off,none⟩) L.length c] 25)):=(hB1.alloc hB1.size _).alloc (by have:=hB1.size;simp;omega) _;have hsz:((w1.alloc (.cells #[.slice none 0 0] 135)).alloc (.cells #[.slice (some ⟨b,off,none⟩) L.length c] 25)).heap.size=w1.heap.size+2:=by simp
 obtain ⟨Bo,Nr⟩:∃ Bo,w1.heap.size=Bo:=⟨_,rfl⟩
 obtain ⟨W0,hW0⟩:∃ W0,(w1.alloc (.cells #[.slice none 0 0] 135)).alloc (.cells #[.slice (some ⟨b,off,none⟩) L.length c] 25)=W0:=⟨_,rfl⟩
 rw[Nr] at bO bS hsz sV ⊢;rw[hW0] at bO bS bK hB2 hsz ⊢;clear hW0 JS Nr hB1;clear w1;have T3:=hB2.size;refine wpIn_rangeFunc_ownH rfl (by decide) (gf:=143) (lb:=#[.pointer (some ⟨Bo+1,0,none⟩)]) rfl trivial (enters_of Tryz.func143 (by kernel_rfl) rfl)
  (zFb Fence.wide (20-1) trivial rfl (by decide) (Bo+1) w.heap.size b off L.length c L AX hb W0 bS.cell (fun j hj=>(HG.out j hj).below hB2)) CL.trans (CL.put (by omega) (by omega)) (aj _ _) (fun _=>rfl)
  (fun pre W=>((∃ v,Boxed W Bo 135 v∧W.ownsRow w.heap.size 138 8 v (qT (ep L) key pre).length ((qT (ep L) key pre).flatMap Dp)∧True)∧Boxed W (w.heap.size+1) 24 (.int .u64 key)∧Boxed W (Bo+1) 25 (.slice (some ⟨b,off,none⟩) L.length c))∧Below w.heap.size w W)
  (fun _ _ _=>False)
  (OwnFrom.and (OwnFrom.and (Own.from (holdsRow_own w.heap.size Bo 135 138 8 (fun pre=>(qT (ep L) key pre).length) (fun pre=>(qT (ep L) key pre).flatMap Dp) (fun _ _=>True)) _) (OwnFrom.and (Own.from (boxed_own _ _ _) _) (Own.from (boxed_own _ _ _) _))) (ownFrom_below (ag _) (by omega)))
  (fun _ _ _ _ _ hs _ _=>hs)
  ⟨⟨⟨_,bO,aT _ _ _ _,trivial⟩,bK,bS⟩,hB2⟩
  (fun x a' W=>∃ Bx,w.heap.size+1<Bx∧Bo+1<Bx∧eO W Bx (pat L x).1.num (pat L x).1.rev (pat L x).1.mode (pat L x).1.size (pat L x).2 (pat L x).1.m.live (pat L x).1.m.d_∧a'={tmps:=#[zO i l r (some ⟨b,off,none⟩) L.length c,.int .u64 key,.pointer (some ⟨w.heap.size,0,none⟩),.pointer (some ⟨w.heap.size+1,0,none⟩),.slice none 0 0,.pointer (some ⟨Bo,0,none⟩),.int .i64 (x:Int),.pointer (some ⟨Bx,0,none⟩),undef,undef,zO i l r (some ⟨b,off,none⟩) L.length c,.bool true,.bool false,.pointer (some ⟨w.heap.size,3,none⟩),.slice (some ⟨b,off,none⟩) L.length c,.func (.func 143) #[] #[.pointer (some ⟨Bo+1,0,none⟩)],.int .i64 (x:Int),SI (pat L x),undef,undef,undef,undef,undef,undef,undef,undef,undef,undef,undef,undef,undef,undef,undef,undef,undef,undef,undef,undef,undef,undef],defers:=[]})
  (fun x a' _ X Y row hs hg hr=>by obtain ⟨Bx,h1,h2,h3,h4⟩:=hs;exact ⟨Bx,h1,h2,zG8 h3 hg (fun r e=>(hr r e).2),h4⟩)
  ?assign ?body ?done ?stop
 case assign =>
  rintro l pre x W K hI hK;obtain ⟨⟨⟨v,hv,hrow,_⟩,GX,A5⟩,hB1⟩:=hI;have hlt:=A5.lt
  gi_wp2
  exact hK _ _ ((KeepsOthers.alloc _ _).from _) ⟨(aj _ W).alloc hB1.size _,fun v hv=>((aj (Bo+1+1) W).alloc hlt _).cell (p:=⟨Bo+1,0,none⟩) (dD _)|>.trans hv⟩
   ⟨⟨⟨v,hv.alloc _,hrow.alloc _,trivial⟩,GX.alloc _,A5.alloc _⟩,hB1.alloc hB1.size _⟩ ⟨W.heap.size,by have:=GX.lt;omega,by omega,eO.new W _ _ _ _ _ _ _ _,rfl⟩
 case body =>
  rintro l pre x a' W hl ⟨rr,hr⟩ ⟨⟨⟨v,hv,hrow,_⟩,GX,A5⟩,hB1⟩ ⟨Bx,hx1,hx2,bX,rfl⟩ hlt;have hn0:=(JR.out W hB1 x)
  have rW:=zJM (ep L) key pre;have GY:=fun (y:It) (h:zg (pat L x).1.m key=some y)=>zIH (l:=ep L) pre (n:=x) (by rw[yv];exact h)
  have EP:=fun (h:zg (pat L x).1.m key=none)=>zHc (l:=ep L) pre (n:=x) (by rw[yv];exact h)
  rw[yv] at GY;have g0:=bX.n0;have g1:=bX.n1;have g2:=bX.n2;obtain ⟨c0,c1,c2,c3,c4,c5,c6,c7,c8,c9⟩:=bX.q;have cK:=GX.cell;have T4:=bX.lt;have Qf:=GX.lt;have hOl:=hv.lt;have Ns:=hB1.size
  cases Bp:zg (pat L x).1.m key with
  |none =>
   rw[Bp] at hn0;have hm:=EP Bp;clear GY EP Bp JR HG
   gi_wp2_with (refine ⟨trivial,?_⟩;gi_at_call 95;refine (CallsIn.inRound l (callsIn_wide.2 hn0)).mono ?_;rintro e w2 ⟨rfl,hb2⟩)
   have hb3:=hb2.alloc hb2.size (xN fE);exact ⟨(ZB hb3).from _,⟨hb3.mono Ns,fun u hu=>hb3.keeps' hu⟩,⟨⟨v,hv.below hb3,by rw[hm];exact zG hrow hb3,trivial⟩,GX.below hb3,A5.below hb3⟩,hB1.trans (hb3.mono Ns)⟩
  |some y =>
   rw[Bp] at hn0;have hm:=GY y Bp;clear GY EP Bp JR HG
   gi_wp2_with (first|(refine ⟨trivial,?_⟩;gi_at_call 95;refine (CallsIn.inRound l (callsIn_wide.2 hn0)).mono ?_;rintro e w2 ⟨rfl,hb2⟩;have hb3:=hb2.alloc hb2.size (xN y);have q0:=hb3.keeps' g0;have q1:=hb3.keeps' g1;have q2:=hb3.keeps' g2;have hv3:=hv.below hb3;have qO:=hv3.cell;have hrow3:=zG hrow hb3;have T6:(w2.alloc (xN y)).heap.size=w2.heap.size+1:=(by simp);have ahN:=hb2.size)|(gi_at_builtin;refine wpListIn_append_own _ rfl _ _ 135 rfl w.heap.size 138 i0 _ 8 64 Tryz.underlying135 hi hz0 hz1 hz2 rfl (by decide) _ _ _ rfl (hrow3.alloc _) ⟨w2.heap.size+1,0,none⟩ 1 1 (Dp ⟨(pat L x).1.num,(pat L x).1.mode,(pat L x).1.rev,y,x⟩) rfl rfl (zJt _ (w2.heap.size+1) T6 (Dp ⟨(pat L x).1.num,(pat L x).1.mode,(pat L x).1.rev,y,x⟩) 138) (zL0 _) (by unfold maxLen;omega) (by omega) (by simp;omega) ?_;intro v' w4 hown' hgrow _;obtain ⟨g',cap',rfl⟩:=ownsRow_succ hown';obtain ⟨rP,hv2,hr2,hk2,hb4⟩:=hv3.appended (by decide) hrow3 (by omega) (by omega) hown' hgrow;have hc1:=rP.cell;have hf1:=rP.frozen))
   have Qg:=(((A5.below hb3).alloc _).kept hgrow ((A5.below hb3).not_row (by decide) hrow3)).other (B':=Bo) (by omega) (.slice (some ⟨g',0,none⟩) ((qT (ep L) key pre).length+1) cap');have bK5:=(((GX.below hb3).alloc _).kept hgrow ((GX.below hb3).not_row (by decide) hrow3)).other (B':=Bo) (by omega) (.slice (some ⟨g',0,none⟩) ((qT (ep L) key pre).length+1) cap');exact ⟨((ZB hb3).trans hk2).from _,⟨(hb3.mono Ns).trans hb4,fun u hu=>by rw[A5.cell] at hu;cases hu;exact Qg.cell⟩,⟨⟨_,hv2,by rw[hm,aw,b7];simpa using hr2,trivial⟩,bK5,Qg⟩,hB1.trans ((hb3.mono Ns).trans hb4)⟩
 case done =>
  rintro D ys W hD rfl ⟨⟨⟨v,hv,hrow,_⟩,GX,A5⟩,hB1⟩ hK;have hc:=hv.cell;rw[Zz] at hrow
  gi_wp2
  refine ⟨by simp,.inl ⟨_,_,rfl,run_takeDeferred hK,?_⟩⟩;exact ⟨_,results_tmp rfl _ _ _,v,rfl,ownsRow_putObj hrow _ hK rfl,hB1.trans (belowK_b (w:=w) (ag _) W D _ _ (by omega) hK rfl rfl)⟩
 rintro D c pre W _ _ h _;exact h.elim
end Go.Proofs.YtcgfilmmokmdjaaGreat
namespace Go.Proofs.YtcgfilmmokmdjaaGreat
open Go.RowKit
def yU:jK:=⟨0,0,0,fE,0⟩
abbrev IG (x:jK):Array Value:=#[.int .i64 x.gen,.int .i64 x.mode,.int .i64 x.rev,.int .u64 x.it.key,.int .u32 x.it.ck,.int .i64 x.it.off,.int .i64 x.it.size]
abbrev BZ (x:jK):Value:=.agg (IG x)
theorem ZD (l:List Gn) (key:Int):∀ n,(xU l key n).length≤n
 |0=>ag _
 |n+1=>by
  have h:=ZD l key n;rw[xU,aw]
  cases zg (eV l n).m key<;>simp<;>omega
theorem ZE {i l:Int} {r:Bool} {L:List GP} {n:Nat} (hn:n=L.length) (hv:zY ⟨i,l,r,ep L⟩=true) (key:Int):yA ⟨i,l,r,ep L⟩ key=xU (ep L) key n:=by
 unfold yA;rw[ah hv,hn];show xU (ep L) key (ep L).length=_;rw[zn]
theorem kJ {s:eX} (hv:zY s=false) (key:Int):yA s key=[]:=by unfold yA;rw[ai (by rw[hv];decide)]
theorem CM.rd {w:World} {B:Nat} {v:Value} {l:List jK} (h:CM w B v l):GV w v l:=Q0 (fun x _=>zKy x) (by decide) h
theorem ZF (i l:Int) (r:Bool) (a:Option Addr) (n c:Nat) (L:List GP) (w:World) (h:fD w (.slice a n c) L) (hs:∀ p∈L,∀ j,j<8→(p.1.m.st j).length≤10000) (key:Int) :
  Calls Tryz.prog 62 #[zO i l r a n c,.int .u64 key] w fun e w'=>∃ v,e=.returned v∧CM w' w.heap.size v (yA ⟨i,l,r,ep L⟩ key)∧Below w.heap.size w w':=by
 cases hv:zY ⟨i,l,r,ep L⟩ with
 |true =>
  rw[ZE (by obtain ⟨a',cap',e,_⟩:=h.shape;injection e) hv];exact zKc i l r a n c L w h hs hv key
 |false =>
  rw[kJ hv];refine (zLZ i l r a n c L w h hs hv key).mono ?_;rintro e w' ⟨rfl,hb⟩;exact ⟨_,rfl,aT _ _ _ _,hb⟩
structure mF (W:World) (b:Nat) (x:jK):Prop where
 c0:W.cell? ⟨b,0,none⟩=some (.int .i64 x.gen)
 c1:W.cell? ⟨b,1,none⟩=some (.int .i64 x.mode)
 c2:W.cell? ⟨b,2,none⟩=some (.int .i64 x.rev)
 c3:W.cell? ⟨b,3,none⟩=some (.int .u64 x.it.key)
 c4:W.cell? ⟨b,4,none⟩=some (.int .u32 x.it.ck)
 c5:W.cell? ⟨b,5,none⟩=some (.int .i64 x.it.off)
 c6:W.cell? ⟨b,6,none⟩=some (.int .i64 x.it.size)
 f:∀ i,W.frozen? ⟨b,i,none⟩=false
theorem mF.new (W:World) (x:jK):mF (W.alloc (.cells (IG x) 51)) W.heap.size x:=⟨by simp,by simp,by simp,by simp,by simp,by simp,by simp,fun i=>by simp⟩
theorem mF.lt {W:World} {b:Nat} {x:jK} (h:mF W b x):b<W.heap.size:=cA W _ h.c0
theorem mF.below {W W':World} {b:Nat} {x:jK} (h:mF W b x) (hB:Below W.heap.size W W'):mF W' b x:=⟨hB.keeps' h.c0,hB.keeps' h.c1,hB.keeps' h.c2,hB.keeps' h.c3,hB.keeps' h.c4,hB.keeps' h.c5,hB.keeps' h.c6,fun i=>(hB.frozen (p:=⟨b,i,none⟩) h.lt).trans (h.f i)⟩
abbrev y_ (x:jK):List (Nat×Value):=[(0,.int .i64 x.gen),(1,.int .i64 x.mode),(2,.int .i64 x.rev),(3,.int .u64 x.it.key),(4,.int .u32 x.it.ck),(5,.int .i64 x.it.off),(6,.int .i64 x.it.size)]
theorem mF.all {W:World} {b:Nat} {x:jK} (h:mF W b x) (y:jK):mF (pts W b (y_ y)) b y:=by
 have c0:=h.c0;have c1:=h.c1;have c2:=h.c2;have c3:=h.c3;have c4:=h.c4;have c5:=h.c5;have c6:=h.c6;refine ⟨?_,?_,?_,?_,?_,?_,?_,fun i=>(xY _ _ W).trans (h.f i)⟩
 ·
  simp[pts,go_sem,c0]
 ·
  simp[pts,go_sem,c1]
 ·
  simp[pts,go_sem,c2]
 ·
  simp[pts,go_sem,c3]
 ·
  simp[pts,go_sem,c4]
 ·
  simp[pts,go_sem,c5]
 simp[pts,go_sem,c6]
theorem zGr (i l:Int) (r:Bool) (a:Option Addr) (n c:Nat) (L:List GP) (w:World) (h:fD w (.slice a n c) L) (hs:∀ p∈L,∀ j,j<8→(p.1.m.st j).length≤10000) (key:Int) :
  Calls Tryz.prog 16 #[zO i l r a n c,.int .u64 key] w fun e w'=>e=.returned (.tuple #[BZ ((yA ⟨i,l,r,ep L⟩ key).headD yU),.bool (!(yA ⟨i,l,r,ep L⟩ key).isEmpty)])∧Below w.heap.size w w':=by
 have oT:=zh (fun W (hb:Below w.heap.size w W)=>ZF i l r a n c L W (h.below hb) hs key);have eB:=zh (eW.new w i l r a n c 27);have eH:=zh (zM w i l r a n c 27);obtain ⟨F,hF⟩:∃ F,yA ⟨i,l,r,ep L⟩ key=F:=⟨_,rfl⟩
 rw[hF] at oT ⊢;clear h hs hF
 go_enter Tryz.func16,Tryz.ntmps16
 go_upto_region 1 with fail;obtain ⟨W,hW⟩:∃ W,w.alloc (.cells (zK i l r a n c) 27)=W:=⟨_,rfl⟩
 change Code.wp _ _ _ _ ((w.alloc (.cells (zK i l r a n c) 27)).alloc _);have hsz:W.heap.size=w.heap.size+1:=by rw[← hW];simp
 rw[hW] at eB eH ⊢;clear hW;have nW:=eB.out.lt;have eP:=zh (eH.out.alloc eH.out.size (.cells #[.int .i64 0,.int .i64 0,.int .i64 0,.int .u64 0,.int .u32 0,.int .i64 0,.int .i64 0] 51));have fh:=zh (eB.out.below ((aj _ W).alloc (ag _) (.cells #[.int .i64 0,.int .i64 0,.int .i64 0,.int .u64 0,.int .u32 0,.int .i64 0,.int .i64 0] 51)));obtain ⟨k0,k1,k2,k3⟩:=fh.out.q;go_wp2_with fail;refine (oT.out _ eP.out).mono ?_;rintro e w1 ⟨v,rfl,ho,hb1⟩;clear k0 k1 k2 k3;have hR:=ho.rd;obtain ⟨a',cap',rfl,h2,h3,h4,h5⟩:=iN.shape hR (by decide) yU;have hlz:w.heap.size+1<w1.heap.size:=by have:=hb1.size;simp at this;omega
 have HP:mF w1 (w.heap.size+1) yU:=by rw[← hsz];exact (mF.new W yU).below hb1
 have z0:=HP.c0;have z1:=HP.c1;have z2:=HP.c2;have z3:=HP.c3;have z4:=HP.c4;have z5:=HP.c5;have z6:=HP.c6;have hf:=HP.f;have K_:=zh (zA eP.out hb1);clear hb1 hR ho
 cases F with
 |nil =>
  go_wp2_with fail;change bodyPost _ _ _ _ _ (pts w1 (w.heap.size+1) (y_ yU));have hby:=HP.all yU;have eD:=zh (zD (B:=w.heap.size) (b:=w.heap.size+1) (by omega) (y_ yU) K_.out);generalize pts w1 (w.heap.size+1) (y_ yU)=V at *;exact au (v:=.tuple #[BZ yU,.bool false]) (by simp[results,Tryz.results16,go_sem,hby.c0,hby.c1,hby.c2,hby.c3,hby.c4,hby.c5,hby.c6]) rfl ⟨rfl,eD.out⟩
 |cons x F =>
  obtain ⟨b,off,rfl,hc⟩:=h5 (by simp);have e0:decide ((((x::F).length:Nat):Int)=0)=false:=by simp;omega
  have c0:w1.cell? ⟨b,off,none⟩=some (.int .i64 x.gen):=by simpa using hc 0 (by simp) 0 _ rfl
  have c1:w1.cell? ⟨b,off+1,none⟩=some (.int .i64 x.mode):=by simpa using hc 0 (by simp) 1 _ rfl
  have c2:w1.cell? ⟨b,off+2,none⟩=some (.int .i64 x.rev):=by simpa using hc 0 (by simp) 2 _ rfl
  have c3:w1.cell? ⟨b,off+3,none⟩=some (.int .u64 x.it.key):=by simpa using hc 0 (by simp) 3 _ rfl
  have c4:w1.cell? ⟨b,off+4,none⟩=some (.int .u32 x.it.ck):=by simpa using hc 0 (by simp) 4 _ rfl
  have c5:w1.cell? ⟨b,off+5,none⟩=some (.int .i64 x.it.off):=by simpa using hc 0 (by simp) 5 _ rfl
  have c6:w1.cell? ⟨b,off+6,none⟩=some (.int .i64 x.it.size):=by simpa using hc 0 (by simp) 6 _ rfl
  have hpos:0<(x::F).length:=by simp
  clear hc;generalize (x::F).length=m at *;go_wp2_with fail;change bodyPost _ _ _ _ _ (pts w1 (w.heap.size+1) (y_ x));have hby:=HP.all x;have eD:=zh (zD (B:=w.heap.size) (b:=w.heap.size+1) (by omega) (y_ x) K_.out);generalize pts w1 (w.heap.size+1) (y_ x)=V at *;exact au (v:=.tuple #[BZ x,.bool true]) (by simp[results,Tryz.results16,go_sem,hby.c0,hby.c1,hby.c2,hby.c3,hby.c4,hby.c5,hby.c6]) rfl ⟨rfl,eD.out⟩
end Go.Proofs.YtcgfilmmokmdjaaGreat
namespace Go.Proofs.YtcgfilmmokmdjaaGreat
def vz (g:Gn) (key:Int):Gn:={g with m:=yP g.m key}
theorem lh.room {g:Gn} (h:lh g) (key:Int):g.m.d_+(iG (zg g.m key):Int)≤1099511627776:=by
 have:=h.small;have:=PE (zg g.m key);omega
theorem zHM {g:Gn} (h:lh g) (key:Int):lh (vz g key):=by
 have hm:=(zV _).1 h.m;have hr:=h.room key;have hd:=hm.del hr;have hs:=kA hm hr;have Mu:=h.sum;refine ⟨h.num,h.rev,h.mode,h.size,(zV _).2 hd,Y0 hm hd h.ends (cD _) ?_,?_⟩
 ·
  intro k y hy;rw[kR hm hr] at hy
  split at hy
  ·
   cases hy
  exact hy
 show g.size=16+(yP g.m key).live+(yP g.m key).d_
 omega
theorem ZG {g:Gn} (h:lh g) (hm:g.mode≠1) (key:Int):xA g [key]=(0,vz g key):=by
 unfold xA;rw[ah ((yJ g).2 h),ai hm];rfl
theorem zIx {l:List Gn} {i:Nat} (hi:i<l.length):l[i]?=some (eV l i):=by
 unfold eV;rw[ax,aB hi];rfl
theorem vT {l:List Gn} {j:Nat} (hj:j<l.length) (g:Gn) (i:Nat):eV (l.set j g) i=if i=j then g else eV l i:=by
 unfold eV;rw[ax,dB,ax]
 by_cases e:j=i
 ·
  rw[ah e,ah e.symm,ah hj];rfl
 rw[ai e,ai fun h=>e h.symm]
theorem eT.inj {s:eX} (h:eT s):∀ {i j:Nat},i<j→j<s.dY.length→(eV s.dY i).num<(eV s.dY j).num
 |i,0,hij,_=>by omega
 |i,j+1,hij,hj=>by
  have h1:=(h.g (j+1) hj).2.1 (by omega);rw[show j+1-1=j by omega] at h1
  by_cases e:i=j
  ·
   rw[e];exact h1
  have:=eT.inj h (show i<j by omega) (by omega);omega
theorem eT.z_ {s:eX} (h:eT s) {i j:Nat} (hi:i<s.dY.length) (hj:j<s.dY.length) (hne:i≠j):(eV s.dY i).num≠(eV s.dY j).num:=by
 rcases Nat.lt_or_gt_of_ne hne with h1|h1
 ·
  have:=h.inj h1 hj;omega
 have:=h.inj h1 hi;omega
theorem zJV {s:eX} (h:eT s) {j:Nat} (hj:j<s.dY.length) {g:Gn} (hg:g.num=(eV s.dY j).num):tH s.dY g=s.dY.set j g:=by
 refine List.ext_getElem? fun i=>?_
 unfold tH;rw[b_,dB]
 by_cases hi:i<s.dY.length
 ·
  rw[zIx hi]
  by_cases hij:j=i
  ·
   subst hij;rw[ah rfl,ah hj];simp[hg]
  rw[ai hij];have h1:(eV s.dY i).num≠g.num:=by rw[hg];exact h.z_ hi hj fun e=>hij e.symm
  simp[h1]
 rw[ai (by omega),dX (by omega)]
 rfl
structure Fit (s:eX) (j:Nat) (g:Gn):Prop where
 hj:j<s.dY.length
 v:lh g
 n:g.num=(eV s.dY j).num
 m:g.mode=1↔j+1=s.dY.length
 z:g.size≤2*s.lim
 t:j+1=s.dY.length→g.size+(((zJ g.m).length*24:Nat):Int)≤2*s.lim
def wi (s:eX) (j:Nat) (g:Gn):eX:=⟨s.id,s.lim,s.ro,s.dY.set j g⟩
theorem ZH {s:eX} (h:eT s) {j:Nat} {g:Gn} (hf:Fit s j g):eT (wi s j g):=by
 have hj:=hf.hj;refine ⟨h.id,h.lim,by show 1≤(s.dY.set j g).length∧(s.dY.set j g).length≤8;rw[a_];exact h.len,fun i hi=>?_,?_⟩
 ·
  have hi:i<s.dY.length:=by have:i<(s.dY.set j g).length:=hi;rwa [a_] at this
  have ho:=h.g i hi;unfold Cw wi;dsimp only;rw[a_,vT hj,vT hj];obtain ⟨h1,h2,h3,h4⟩:=ho
  by_cases e:i=j
  ·
   subst e;rw[ah rfl];refine ⟨(yJ _).2 hf.v,fun h0=>?_,hf.m,hf.z⟩;rw[ai (by omega),hf.n];exact h2 h0
  rw[ai e];refine ⟨h1,fun h0=>?_,h3,h4⟩
  by_cases e2:i-1=j
  ·
   rw[ah e2,hf.n,← e2];exact h2 h0
  rw[ai e2];exact h2 h0
 have hl:=h.len
 show (eV (s.dY.set j g) ((s.dY.set j g).length-1)).size+(((zJ (eV (s.dY.set j g) ((s.dY.set j g).length-1)).m).length*24:Nat):Int)≤2*s.lim
 rw[a_,vT hj]
 by_cases e:s.dY.length-1=j
 ·
  rw[ah e];exact hf.t (by omega)
 rw[ai e];exact h.top
theorem T7 {s:eX} (h:eT s) {j:Nat} {g:Gn} (hf:Fit s j g):yV s g=(wi s j g,0):=by
 have hv:=(zW _).2 (ZH h hf);have hp:=zJV h hf.hj hf.n;unfold wi at hv ⊢;unfold yV;rw[ah ((zW s).2 h),hp,ah ?_,ah hv]
 ·
  rw[List.any_eq_true];exact ⟨eV s.dY j,ti hf.hj,by simp[hf.n]⟩
theorem fit_drop {s:eX} (h:eT s) {j:Nat} (hj:j+1<s.dY.length) (key:Int):Fit s j (vz (eV s.dY j) key):=by
 have ho:=h.g j (by omega);exact ⟨by omega,zHM (h.vg (by omega)) key,rfl,ho.2.2.1,ho.2.2.2,fun e=>by omega⟩
/-! ### The numbers of the older fL -/
theorem T8 (l:List Gn) (key:Int):∀ (n i:Nat),i<(vw l key n).length→∃ r,r<n∧(vw l key n)[i]?=some (eV l r).num∧zg (eV l r).m key≠none∧(vw l key r).length=i
 |0,i,h=>by cases h
 |n+1,i,h=>by
  have e:vw l key (n+1)=vw l key n++(match zg (eV l n).m key with|some _=>[(eV l n).num]|none=>[]):=rfl
  by_cases hi:i<(vw l key n).length
  ·
   obtain ⟨r,h1,h2,h3,h4⟩:=T8 l key n i hi;exact ⟨r,by omega,by rw[e,List.getElem?_append_left hi];exact h2,h3,h4⟩
  rw[e,aw] at h
  cases hx:zg (eV l n).m key with
  |none=>rw[hx] at h;simp at h;omega
  |some x =>
   rw[hx] at h;have hi2:i=(vw l key n).length:=by simp at h;omega
   refine ⟨n,by omega,?_,by rw[hx];exact (fun h=>by cases h),hi2.symm⟩;rw[e,hx,dS (by omega),hi2];simp
/-! ### The slot after the Nt below place c -/
structure Dn (S:eX) (key:Int) (c:Nat) (s:eX):Prop where
 v:eT s
 id:s.id=S.id
 lim:s.lim=S.lim
 ro:s.ro=S.ro
 len:s.dY.length=S.dY.length
 num:∀ r,r<S.dY.length→(eV s.dY r).num=(eV S.dY r).num
 lo:∀ r,r<c→r<S.dY.length→zg (eV s.dY r).m key=none
 hi:∀ r,c≤r→eV s.dY r=eV S.dY r
 st:fu 48 s.dY
/-! ### What is found -/
theorem ZI {l:List Gn} {key:Int}:∀ {n:Nat} {x:jK} {t:List jK},xU l key n=x::t→x.at_<n∧x.mode=(eV l x.at_).mode∧zg (eV l x.at_).m key=some x.it∧x.gen=(eV l x.at_).num∧x.rev=(eV l x.at_).rev∧∀ r,x.at_<r→r<n→zg (eV l r).m key=none
 |0,_,_,h=>by cases h
 |n+1,x,t,h=>by
  have e:xU l key (n+1)=(match zg (eV l n).m key with|some x=>[⟨(eV l n).num,(eV l n).mode,(eV l n).rev,x,n⟩]|none=>[])++xU l key n:=rfl;rw[e] at h
  cases hx:zg (eV l n).m key with
  |some y =>
   rw[hx] at h;injection h with h1 _;subst h1;exact ⟨dD n,rfl,hx,rfl,rfl,fun r h1 h2=>by dsimp only at h1;omega⟩
  |none =>
   rw[hx] at h;obtain ⟨h1,h2,h3,h4,h5,h6⟩:=ZI (show xU l key n=x::t from h)
   exact ⟨by omega,h2,h3,h4,h5,fun r h7 h8=>by
    by_cases e:r=n
    ·
     rw[e];exact hx
    exact h6 r h7 (by omega)⟩
theorem T9 {s:eX} (h:eT s) (key:Int):yA s key=xU s.dY key s.dY.length:=by unfold yA;rw[ah ((zW s).2 h)]
theorem ZJ {s:eX} (h:eT s) (key:Int):zS s key=vw s.dY key (s.dY.length-1):=by unfold zS;rw[ah ((zW s).2 h)]
theorem zEl {g:Gn} (hg:lh g) {x:Nd} (hx:x.ok) (hz:g.size+(eN x.data.length:Int)≤1048576) (key:Int) :
  zg (yS g x).m key=if (x.key:Int)=key then (if x.del=true then none else some (Cx g x)) else zg g.m key:=by
 have hm:=(zV _).1 hg.m;have hs:=hg.small;have hxl:=xj x.data.length;unfold yS;dsimp only
 by_cases hd:x.del=true
 ·
  rw[ah hd];have h1:g.m.d_+(iG (zg g.m x.key):Int)≤1099511627776:=hg.room _;have rC:=hm.del h1;have hds:=kA hm h1;have il:=rC.live0;have h2:(yP g.m x.key).d_+(eN x.data.length:Int)≤1099511627776:=by omega
  have hw:=rC.Ex (n:=(eN x.data.length:Int)) (by omega) h2;rw[xp hw,uU,← xp rC,kR hm h1];simp only[hd,if_true]
 rw[ai hd];have hok:=Y1 hg hx;have h1:g.m.d_+(iG (zg g.m (Cx g x).key):Int)≤1099511627776:=hg.room _;rw[Yb hm hok h1,ai hd]
 rfl
/-! ### The slot with pg added to its last generation -/
noncomputable def zMu (S:eX) (l:List Nd):eX:=wi S (S.dY.length-1) (zj (ze S) l)
theorem zLG {S:eX} (h:eT S):wn S=(0,ze S):=by unfold wn;rw[ah ((zW S).2 h)]
theorem zL3 {S:eX} (h:eT S) {g:Gn} (hg:g.num=(ze S).num∧g.rev=(ze S).rev∧g.mode=(ze S).mode) (key:Int) :
  xU (S.dY.set (S.dY.length-1) g) key S.dY.length=(match zg g.m key with|some x=>[⟨(ze S).num,(ze S).mode,(ze S).rev,x,S.dY.length-1⟩]|none=>[])++xU S.dY key (S.dY.length-1):=by
 have hlen:=h.len;obtain ⟨k,hk⟩:∃ k,S.dY.length=k+1:=⟨S.dY.length-1,by omega⟩
 have hj:S.dY.length-1<S.dY.length:=by omega
 have Nu:∀ n,n≤S.dY.length-1→xU (S.dY.set (S.dY.length-1) g) key n=xU S.dY key n:=by
  intro n
  induction n with
  |zero=>intro _;rfl
  |succ n ih =>
   intro hn;unfold xU;rw[ih (by omega),vT hj,ai (by omega)]
 have e:xU (S.dY.set (S.dY.length-1) g) key S.dY.length=(match zg (eV (S.dY.set (S.dY.length-1) g) (S.dY.length-1)).m key with|some x=>[⟨(eV (S.dY.set (S.dY.length-1) g) (S.dY.length-1)).num,(eV (S.dY.set (S.dY.length-1) g) (S.dY.length-1)).mode,(eV (S.dY.set (S.dY.length-1) g) (S.dY.length-1)).rev,x,S.dY.length-1⟩]|none=>[])++xU (S.dY.set (S.dY.length-1) g) key (S.dY.length-1):=by
  rw[hk];rfl
 rw[e,Nu _ (ag _),vT hj,ah rfl,hg.1,hg.2.1,hg.2.2]
theorem T_ {S:eX} (h:eT S) (key:Int) :
  xU S.dY key S.dY.length=(match zg (ze S).m key with|some x=>[⟨(ze S).num,(ze S).mode,(ze S).rev,x,S.dY.length-1⟩]|none=>[])++xU S.dY key (S.dY.length-1):=by
 have hlen:=h.len;obtain ⟨k,hk⟩:∃ k,S.dY.length=k+1:=⟨S.dY.length-1,by omega⟩
 unfold ze;rw[hk];rfl
structure Rq where
  tk:Int
  kind:Int
  key:Nat
  ck:Nat
  data:List UInt8
def La:Rq:=⟨0,0,0,0,[]⟩
instance:Inhabited Rq:=⟨La⟩
def Rq.Wf (q:Rq):Prop:=q.key<18446744073709551616∧q.ck<4294967296
abbrev Kl:=Int×List Int
structure fB where
  t:eX
  ey:Bool
  eu:List Kl
  needs:List Nd
  res:List Int
  bytes:Int
noncomputable def xH (P:fB) (x:Nd):fB:={P with t:=(yV P.t (xE (wn P.t).2 [x]).2).1,needs:=P.needs++[x],bytes:=P.bytes+(eN x.data.length:Int)}
def kQ (l:List Gn) (num:Int):Nat:=(l.findIdx? fun g=>decide (g.num=num)).getD l.length
noncomputable def xW (s:eX) (num:Int) (keys:List Int):eX×Int:=
  if kQ s.dY num<s.dY.length then (if (xA (eV s.dY (kQ s.dY num)) keys).1=0 then yV s (xA (eV s.dY (kQ s.dY num)) keys).2 else (xh,(xA (eV s.dY (kQ s.dY num)) keys).1)) else (xh,6)
def gJ (l:List Kl) (num:Int):Nat:=(l.findIdx? fun k=>decide (num≤k.1)).getD l.length
def yq (l:List Kl) (i:Nat):Kl:=l.getD i (0,[])
def kL (l:List Kl) (num key:Int):List Kl:=
  if gJ l num<l.length∧(yq l (gJ l num)).1=num then l.set (gJ l num) (num,(yq l (gJ l num)).2++[key])
  else l.take (gJ l num)++(num,[key])::l.drop (gJ l num)
noncomputable def yK (key:Int) (P:fB) (num:Int):fB:={P with t:=(xW P.t num [key]).1,eu:=kL P.eu num key}
noncomputable def wC (t:eX) (key:Int):Bool:=!(yA t key).isEmpty&&decide (((yA t key).headD yU).mode=1)
noncomputable def wK (P:fB) (key:Int):fB:=(zS P.t key).foldl (yK key) P
def vj (q:Rq):Nd:=⟨q.key,q.ck,true,[]⟩
def vX (q:Rq):Nd:=⟨q.key,q.ck,false,q.data⟩
noncomputable def we (P:fB) (q:Rq):fB:=if wC (wK P q.key).t q.key=true then xH (wK P q.key) (vj q) else wK P q.key
noncomputable def yD (t:eX) (q:Rq):Int:=if 4096<q.data.length then 8 else if yY t (q.data.length:Int)=true then 0 else 9
noncomputable def yd (t:eX) (q:Rq):Int:=if (yA t q.key).isEmpty=false∧((yA t q.key).headD yU).it.ck=(q.ck:Int) then 0 else 6
def more (P:fB) (e:Int):fB:={P with res:=P.res++[e]}
noncomputable def zm (P:fB) (q:Rq):Bool×fB:=
  if P.res.length=16 then (false,P)
  else if q.kind=1 then
    (if yD P.t q=9∧vO P.t=true then (false,{P with ey:=decide (P.res.length=0)})
     else if yD P.t q=0 then
       (if 0<P.bytes∧16384<P.bytes+(eN q.data.length:Int) then (false,P) else (true,more (xH P (vX q)) 0))
     else (true,more P (yD P.t q)))
  else if q.kind=2 then
    (if yd P.t q=0 then
       (if wC P.t q.key=true∧0<P.bytes∧16384<P.bytes+24 then (false,P) else (true,more (we P q) 0))
     else (true,more P 6))
  else (true,more P 1)
noncomputable def tN:List Rq→fB→fB
  |[],P=>P
  |q::r,P=>if (zm P q).1=true then tN r (zm P q).2 else (zm P q).2
def wJ (s:eX):fB:=⟨s,false,[],[],[],0⟩
noncomputable def yT (s:eX) (l:List Rq):fB×Int:=if zY s=true then (tN l (wJ s),0) else (wJ xh,1)
/-! ### ZK far the numbers go -/
theorem kN (P:fB) (x:Nd):(xH P x).res=P.res:=rfl
theorem wR (P:fB) (key:Int):(wK P key).res=P.res∧(wK P key).needs=P.needs∧(wK P key).bytes=P.bytes∧(wK P key).ey=P.ey:=by
  have h:∀ (l:List Int) (P:fB),(l.foldl (yK key) P).res=P.res∧(l.foldl (yK key) P).needs=P.needs∧(l.foldl (yK key) P).bytes=P.bytes∧(l.foldl (yK key) P).ey=P.ey:=by
    intro l
    induction l with
    |nil=>intro P;exact ⟨rfl,rfl,rfl,rfl⟩
    |cons x r ih =>
      intro P;have:=ih (yK key P x);exact this
  exact h _ P
theorem qR (P:fB) (q:Rq) (h:P.res.length≤16):(zm P q).2.res.length≤16∧P.res.length≤(zm P q).2.res.length∧((zm P q).1=true→(zm P q).2.res.length=P.res.length+1):=by
  have hd:(we P q).res=P.res:=by
    unfold we
    split
    · rw[kN];exact (wR P q.key).1
    exact (wR P q.key).1
  have hm:∀ (Q:fB) (e:Int),(more Q e).res.length=Q.res.length+1:=fun Q e=>by unfold more;simp
  unfold zm
  split
  · exact ⟨h,ag _,fun h=>by cases h⟩
  split
  · split
    · exact ⟨h,ag _,fun h=>by cases h⟩
    split
    · split
      · exact ⟨h,ag _,fun h=>by cases h⟩
      dsimp only;rw[hm,kN];exact ⟨by omega,by omega,fun _=>rfl⟩
    dsimp only;rw[hm];exact ⟨by omega,by omega,fun _=>rfl⟩
  split
  · split
    · split
      · exact ⟨h,ag _,fun h=>by cases h⟩
      dsimp only;rw[hm,hd];exact ⟨by omega,by omega,fun _=>rfl⟩
    dsimp only;rw[hm];exact ⟨by omega,by omega,fun _=>rfl⟩
  dsimp only;rw[hm];exact ⟨by omega,by omega,fun _=>rfl⟩
structure SmP (K:Nat) (P:fB):Prop where
  l:fu (K+P.needs.length) P.t.dY
  n:P.needs.length≤P.res.length
  r:P.res.length≤16
  b0:0≤P.bytes
  b1:P.bytes≤4128*(P.needs.length:Int)
  k:P.eu.length≤8*P.res.length
  kk:∀ x∈P.eu,x.2.length≤8*P.res.length
  x:∀ x∈P.needs,x.data.length≤4096
end Go.Proofs.YtcgfilmmokmdjaaGreat
namespace Go.Proofs.YtcgfilmmokmdjaaGreat
open Go.RowKit
theorem zFV (a:Option Addr) (n c:Nat) (xs:List Value) (w:World) (h:Rd w 14 (.slice a n c) n xs) (h1:∀ u∈xs,u.oneCell'=true) (hs:n≤1000000) :
  Calls Tryz.prog 102 #[.slice a n c] w fun e w'=>∃ a' c',e=.returned (.slice a' n c')∧w'.ownsRow w.heap.size 38 14 (.slice a' n c') n xs∧Below w.heap.size w w':=by
 have Wv:∀ (w:World) (a:Option Addr) (n c n' c':Nat),(binOp .eql 25 (.slice a n c) (.slice none n' c')).run Tryz.prog w=.ok (.bool a.isNone) w:=fun w a n c n' c'=>Lib.run_eql_slice_nil w _ _ a n c n' c' Tryz.underlying25
 cases a with
 |none =>
  have h0:n=0:=by
   obtain ⟨_,a',cap',e,h2,_,h5,_⟩:=h;injection e with e1 e2 e3;have:=h5 e1.symm;omega
  subst h0;have hx:xs=[]:=List.length_eq_zero_iff.1 (by have:=h.1;omega);subst hx;clear h
  go_enter Tryz.func102,Tryz.ntmps102
  go_wp2_with fail;go_ret;exact ⟨_,_,rfl,aT _ _ _ _,aj _ _⟩
 |some p =>
  have Hr:=zh h;have H1:=zh h1;clear h h1
  go_enter Tryz.func102,Tryz.ntmps102
  go_wp2_with (at_builtin;go_must (refine zP rfl (.tmp 5) (.tmp 6) 25 rfl Zl w.heap.size rfl (cI (size:=14) _ #[] 0 (ag _) (by decide) rfl) rfl (Hr.out.alloc _) H1.out (by unfold maxLen;omega) (by omega) (by simp) ?_);intro v3 w3 ei eL hv3;clear hv3);have HB:=zh (zL ((aj w.heap.size w).alloc (ag _) _) (cI (e:=38) (size:=14) w #[] 0 (ag _) (by decide) rfl) (by simp) eL);rw[aI,bQ] at ei;obtain ⟨ra,rc,rfl,_⟩:=zH ei;have HO:=zh ei;clear ei eL;go_wp2_with fail;go_ret;exact ⟨_,_,rfl,HO.out,HB.out⟩
structure ia (W:World) (B:Nat) (v:Value) (n:Nat) (L:List GP):Prop where
 row:W.ownsRow B 38 14 v n (L.flatMap iL)
 len:n=L.length
 m:∀ p∈L,eZ W B p.2 p.1.m.st
theorem ia.rd {W:World} {B n:Nat} {v:Value} {L:List GP} (h:ia W B v n L):fD W v L:=qQ h.row h.len fun p hp=>(h.m p hp).rd
theorem ia.keep {W W':World} {B n:Nat} {v:Value} {L:List GP} (h:ia W B v n L) (hb:Below W.heap.size W W'):ia W' B v n L:=⟨zG h.row hb,h.len,fun p hp=>(h.m p hp).keep hb⟩
theorem ia.pts {W:World} {B n b:Nat} {v:Value} {L:List GP} (h:ia W B v n L) (hb:b<B) (vs:List (Nat×Value)):ia (Go.Proofs.YtcgfilmmokmdjaaGreat.pts W b vs) B v n L:=⟨wI hb h.row vs,h.len,fun p hp=>(h.m p hp).pts hb vs⟩
theorem ia.lower {W:World} {B B' n:Nat} {v:Value} {L:List GP} (h:ia W B v n L) (hB:B'≤B):ia W B' v n L:=⟨World.ownsRow.mono h.row hB,h.len,fun p hp=>(h.m p hp).mono hB⟩
theorem zLd {W:World} {B B' g n c:Nat} {xs:List Value} {s:Sl} {f:Nat→List It} (h:W.ownsRow B 38 14 (.slice (some ⟨g,0,none⟩) n c) n xs) (ho:eZ W B' s f):∀ i,i<8→(s.v i).ownBlock≠some g:=fun i hi e=>by
 obtain ⟨c1,f1,h1⟩:=Lib.ownsRow_kind h g rfl;obtain ⟨c2,f2,h2⟩:=Lib.ownsRow_kind (ho i hi) g e;rw[h1] at h2;injection h2 with h2;injection h2 with _ h3;exact absurd h3 (by decide)
theorem eZ.Aa {W:World} {B B' g n c:Nat} {xs:List Value} {s:Sl} {f:Nat→List It} (ho:eZ W B' s f) (h:W.ownsRow B 38 14 (.slice (some ⟨g,0,none⟩) n c) n xs) (vs:List (Nat×Value)):eZ (Go.Proofs.YtcgfilmmokmdjaaGreat.pts W g vs) B' s f:=fun i hi=>qj (zLd h ho i hi) vs (ho i hi)
theorem ia.set {W:World} {B n c g:Nat} {L:List GP} (h:ia W B (.slice (some ⟨g,0,none⟩) n c) n L) (k:Nat) (hk:k<n) (y:GP) (hy:eZ W B y.2 y.1.m.st) :
  ia (Go.Proofs.YtcgfilmmokmdjaaGreat.pts W g (Bk (k*14) y.1.num y.1.rev y.1.mode y.1.size y.2 y.1.m.live y.1.m.d_)) B (.slice (some ⟨g,0,none⟩) n c) n (L.set k y):=by
 have hl:=h.len;refine ⟨(t6 h.row k (by omega) y).1,by rw[a_];exact hl,fun p hp=>?_⟩;rcases List.mem_or_eq_of_mem_set hp with hp|rfl
 ·
  exact (h.m p hp).Aa h.row _
 exact hy.Aa h.row _
structure FT (W:World) (B:Nat) (v:Value) (n:Nat) (L M:List GP) (k:Nat):Prop where
 row:W.ownsRow B 38 14 v n (M.flatMap iL)
 len:n=M.length
 fst:ep M=ep L
 own:∀ j,j<k→eZ W B (pat M j).2 (pat M j).1.m.st
 old:∀ j,k≤j→pat M j=pat L j
theorem FT.keep {W W':World} {B n k:Nat} {v:Value} {L M:List GP} (h:FT W B v n L M k) (hb:Below W.heap.size W W'):FT W' B v n L M k:=⟨zG h.row hb,h.len,h.fst,fun j hj=>(h.own j hj).keep hb,h.old⟩
theorem ZM (L:List GP) (k:Nat) (y:GP):ep (L.set k y)=(ep L).set k y.1:=List.map_set ..
theorem FT.step {W:World} {B n c g k:Nat} {L M:List GP} (h:FT W B (.slice (some ⟨g,0,none⟩) n c) n L M k) (hk:k<n) (y:GP) (hy:eZ W B y.2 y.1.m.st) (hf:y.1=(pat L k).1) :
  FT (Go.Proofs.YtcgfilmmokmdjaaGreat.pts W g (Bk (k*14) y.1.num y.1.rev y.1.mode y.1.size y.2 y.1.m.live y.1.m.d_)) B (.slice (some ⟨g,0,none⟩) n c) n L (M.set k y) (k+1):=by
 have hl:=h.len;have hM:=aO List.length h.fst;rw[zn,zn] at hM;refine ⟨(t6 h.row k (by omega) y).1,by rw[a_];exact hl,?_,fun j hj=>?_,fun j hj=>?_⟩
 ·
  rw[ZM,h.fst];refine List.ext_getElem? fun i=>?_
  rw[dB]
  by_cases e:k=i
  ·
   subst e;have hk':k<(ep L).length:=by rw[zn];omega
   rw[ah rfl,ah hk',aB hk',hf];have h9:=yv (l:=L) (i:=k);unfold eV at h9;rw[ax,aB hk'] at h9;rw[← h9];rfl
  rw[ai e]
 ·
  rw[Za (by omega)]
  by_cases e:j=k
  ·
   rw[ah e];exact hy.Aa h.row _
  rw[ai e];exact (h.own j (by omega)).Aa h.row _
 rw[Za (by omega),ai (by omega)];exact h.old j (by omega)
theorem FT.all {W:World} {B n:Nat} {v:Value} {L M:List GP} (h:FT W B v n L M n):ia W B v n M:=⟨h.row,h.len,fun p hp=>by
 obtain ⟨j,hj,rfl⟩:=cG hp
 have h1:=h.own j (by rw[h.len];exact hj)
 have e:pat M j=M[j]:=by unfold pat;rw[ax,aB hj];rfl
 rw[e] at h1;exact h1⟩
def ClR (w:World) (i l:Int) (r:Bool) (n:Nat) (L:List GP) (e:Ending) (w':World):Prop:=(∃ a' c' M,e=.returned (zO i l r a' n c')∧ia w' w.heap.size (.slice a' n c') n M∧ep M=ep L)∧Below w.heap.size w w'
def ZN (B:Nat) (g:Gn):mE:=⟨fun v w=>∃ s,v=zd g.num g.rev g.mode g.size s g.m.live g.m.d_∧eZ w B s g.m.st,fun _ _ _ hb ⟨s,h1,h2⟩=>⟨s,h1,h2.keep hb⟩⟩
theorem zE0 (i l:Int) (r:Bool) (a:Option Addr) (n c:Nat) (L:List GP) (w:World) (h:fD w (.slice a n c) L) (hs:∀ p∈L,∀ j,j<8→(p.1.m.st j).length≤10000) (hn:n≤1000000) :
  Calls Tryz.prog 59 #[zO i l r a n c] w (ClR w i l r n L):=by
 have fO:L.length=n:=by
  obtain ⟨_,_,e,_⟩:=h.shape;injection e with _ e _;exact e.symm
 have jO:=zh (fun W (hb:Below w.heap.size w W)=>show Rd W 14 (.slice a n c) n (L.flatMap iL) from by
  have h1:=(iN.below h.r hb).2
  rwa [fO] at h1)
 have jH:=zh (P6 L);have jS:=zh (show ∀ k,k<n→fG w (pat L k).2 (pat L k).1.m.st∧∀ j,j<8→((pat L k).1.m.st j).length≤10000 from fun k hk=>⟨h.m _ (yX (by omega)),hs _ (yX (by omega))⟩);have jb:=zh fO;have hcap:n≤9223372036854775807:=by omega
 clear h hs fO
 go_enter Tryz.func59,Tryz.ntmps59
 go_upto_region 1 with fail;change Code.wp _ _ _ _ ((w.alloc (.cells (zK i l r a n c) 27)).alloc (.cells (zK 0 0 false none 0 0) 27));obtain ⟨W,hW,fM,hbr,fU⟩:=P8 w i l r a n c 27;rw[hW];have HX:=zh fM;have HR:=zh hbr;have HB:=zh fU;clear hW fM hbr fU;have ah0:=HR.out.lt;have k3:=HX.out.c3;go_wp2_with fail;refine (zFV a n c (L.flatMap iL) W (jO.out W HB.out) jH.out hn).mono ?_;rintro e w1 ⟨a1,c1,rfl,ho,hb⟩;have hz0:=hb.size;replace HX:=zh (HX.out.below hb);replace HR:=zh (HR.out.below hb);replace HB:=zh (zA HB.out hb);clear hb k3 jO jH;have k3:=HX.out.c3;have kf:=HX.out.f;go_upto_region 2 with fail;clear k3 kf;have Nv:=zh (show W.heap.size≤(pts w1 w.heap.size [(3,.slice a1 n c1)]).heap.size by rw[uf];exact hz0);have jc:=zh (show eW (pts w1 w.heap.size [(3,.slice a1 n c1)]) w.heap.size i l r a1 n c1 from HX.out.EH a1 n c1)
 have mN:=zh (HR.out.eE (d:=w.heap.size) (by omega) [(3,.slice a1 n c1)]);have gD:=zh (zD (B:=w.heap.size) (b:=w.heap.size) (ag _) [(3,.slice a1 n c1)] HB.out);have ZO:=zh (show FT (pts w1 w.heap.size [(3,.slice a1 n c1)]) W.heap.size (.slice a1 n c1) n L L 0 from ⟨wI (b:=w.heap.size) (by omega) ho _,jb.out.symm,rfl,fun j hj=>by omega,fun j _=>rfl⟩);clear ho HX HR HB;change Code.wp _ _ _ _ (pts w1 w.heap.size [(3,.slice a1 n c1)]);generalize pts w1 w.heap.size [(3,.slice a1 n c1)]=w2 at *;have k3:=jc.out.c3;go_wp2_with fail;clear k3
 go_loopw [12] (fun iv V=>∃ (k:Nat) (M:List GP),iv=.int .i64 (k:Int)∧k≤n∧Hid (FT V W.heap.size (.slice a1 n c1) n L M k)∧Hid (eW V w.heap.size i l r a1 n c1)∧Hid (eW V (w.heap.size+1) 0 0 false none 0 0)∧Hid (Below w.heap.size w V)∧Hid (W.heap.size≤V.heap.size)) (fun iv _=>n-(intOf iv).toNat)
 case atStart=>exact ⟨0,L,rfl,aq _,ZO,jc,mN,gD,Nv⟩
 clear ZO jc mN gD Nv;obtain ⟨k,M,rfl,hk,HC,HX,HR,HB,jl⟩:=hrel
 by_cases hlt:k<n
 ·
  have i1:(k:Int)<(n:Int):=by omega
  obtain ⟨g,rfl,hgB,rW⟩:=uV HC.out.row (by omega);have hat:=P4 HC.out.row HC.out.len hlt;rw[HC.out.old k (ag _)] at hat;obtain ⟨hm1,lB⟩:=jS.out k hlt;have nN:=zh hm1;have Nw:=zh lB;have BS:=zh (xw HC.out.row);have GM:=zh (fun W' (hb:Below wr.heap.size wr W')=>(hat.below hb).there (xw (zG HC.out.row hb)));clear hm1 lB;have jG:=zh (fun W' (s':Sl) (hb:Below wr.heap.size wr W') (ho:eZ W' W.heap.size s' (pat L k).1.m.st)=>(HC.out.keep hb).step hlt ((pat L k).1,s') ho rfl);generalize pat L k=p at *;obtain ⟨⟨num,rev,md,sz,⟨fs,LV,GA⟩⟩,s⟩:=p;dsimp only at nN Nw jG;obtain ⟨g0,g1,g2,g3,g4,g5,g6,g7,g8,g9,g10,g11,g12,g13⟩:=hat;dsimp only at g0 g1 g2 g3 g4 g5 g6 g7 g8 g9 g10 g11 g12 g13;go_upto_region 5 with fail;clear g0 g1 g2 g3 g4 g5 g6 g7 g8 g9 g10 g11 g12 g13;change Code.wp _ _ _ _ (wr.alloc (.cells (zX num rev md sz s LV GA) 38))
  have fH:=zZ wr num rev md sz s LV GA 38;have HG:=zh (eO.new wr num rev md sz s LV GA 38);have BR:=zh fH;replace HX:=zh (HX.out.below fH);replace HR:=zh (HR.out.below fH);replace HB:=zh (zA HB.out fH);replace jl:=zh (ak jl.out fH.size);clear fH HC;generalize wr.alloc (.cells (zX num rev md sz s LV GA) 38)=v0 at *;generalize wr.heap.size=bg at HG ⊢;have ES:=jl.out;refine xO [eR (.pointer (some ⟨w.heap.size,3,none⟩)),eR (.slice (some ⟨g,0,none⟩) n c1),eR (.int .i64 (k:Int)),eR (zd num rev md sz s LV GA),ZN W.heap.size ⟨num,rev,md,sz,⟨fs,LV,GA⟩⟩] [] 25 (by kernel_rfl) (by kernel_rfl) (by rfl) (by kernel_rfl) (fun f=>by simp[fF,zT,Act.put];exact rfl) ?_ ?_
  ·
   refine ⟨?_,?_,?_,?_,?_,trivial⟩
   ·
    intro f w1 hb hd;clear hd;dsimp only;go_wp2_with fail;exact pS rfl (by simp)
   ·
    intro f w1 hb hd;have d0:f 0=(.pointer (some ⟨w.heap.size,3,none⟩)):=hd 0 (by kernel_rfl);clear hd;dsimp only;rw[d0];have q3:=(HX.out.below hb).c3;go_wp2_with fail;exact pS rfl (by simp)
   ·
    intro f w1 hb hd;clear hd;dsimp only;go_wp2_with fail;exact pS rfl (by simp)
   ·
    intro f w1 hb hd;clear hd;dsimp only;have zo:=HG.out.below hb;obtain ⟨q0,q1,q2,q3,q4,q5,q6,q7,q8,q9,Dq,Dr,Ds,Dt⟩:=zo.q;clear zo;go_wp2_with fail;exact pS rfl (by simp)
   intro f w1 hb hd;have d3:f 3=(zd num rev md sz s LV GA):=hd 3 (by kernel_rfl);clear hd;dsimp only;rw[d3];go_wp2_with fail;refine (qd ⟨num,rev,md,sz,⟨fs,LV,GA⟩⟩ s w1 (nN.out.below (zA HB.out hb)) Nw.out).mono ?_;rintro e w9 ⟨⟨s9,rfl,BU⟩,gI⟩;have lg:=zh (BU.mono (ak ES hb.size));clear BU;go_wp2_with fail;exact ⟨rfl,gI,fun t ht=>by injection ht with ht;subst ht;exact ⟨⟨s9,rfl,lg.out⟩,fun h=>by simp at h⟩⟩
  intro f w5 hb hd jw;clear jw;have d1:f 1=.slice (some ⟨g,0,none⟩) n c1:=hd 1 (show 1<5 by decide);have d2:f 2=.int .i64 (k:Int):=hd 2 (show 2<5 by decide);obtain ⟨s4,d4,G0⟩:=show ∃ s,f 4=zd num rev md sz s LV GA∧eZ w5 W.heap.size s fs from hd 4 (show 4<5 by decide);clear hd
  try dsimp only
  rw[d1,d2,d4];clear d1 d2 d4;generalize f 0=z0;generalize f 3=z3;clear f;have hb5:=zA BR.out hb;have Qh:=zh (jG.out w5 s4 hb5 G0);have Ua:=zh (GM.out w5 hb5)
  try dsimp only at Qh
  have fJ:=zh ((HX.out.below hb).eE (d:=g) (by omega) (Bk (k*14) num rev md sz s4 LV GA));have jx:=zh ((HR.out.below hb).eE (d:=g) (by omega) (Bk (k*14) num rev md sz s4 LV GA));have gH:=zh (zD (B:=w.heap.size) (b:=g) (by omega) (Bk (k*14) num rev md sz s4 LV GA) (zA HB.out hb));have HZ5:=zh (show W.heap.size≤(pts w5 g (Bk (k*14) num rev md sz s4 LV GA)).heap.size by rw[uf];exact ak ES hb.size);clear G0 hb hb5 jG GM;change wpList _ _ _ (_::_::[]) _ _;go_wp2_with ((with_reducible refine wpList_store_mid ?_ 38 (.tmp 22) (.tmp 21) ?_ g (k*14) (zX num rev md sz s4 LV GA) ?_ ?_ ?_ ?_ ?_ ?_);rfl;rfl;rfl;rfl;exact Ua.out;exact Zj;exact ki _ _ _ _ _ _ _;rw[kU]);exact ⟨⟨k+1,_,by go_num,by omega,Qh,fJ,jx,gH,HZ5⟩,by simp[intOf];omega⟩
 have i1:¬ (k:Int)<(n:Int):=by omega
 obtain rfl:k=n:=by omega
 have HO:=zh HC.out.all;have HF:=zh HC.out.fst;clear HC;obtain ⟨k0,k1,k2,k3⟩:=HX.out.q;have ML:=jl.out;obtain ⟨z0,z1,z2,z3⟩:=HR.out.q;have zf:=HR.out.f;go_wp2_with fail;change bodyPost _ _ _ _ _ (pts wr (w.heap.size+1) (zR i l r a1 k c1));have A1:=zh ((HO.out.pts (b:=w.heap.size+1) (by omega) (zR i l r a1 k c1)).lower (show w.heap.size≤W.heap.size by omega));have hby:=HR.out.all i l r a1 k c1;have eD:=zh (zD (B:=w.heap.size) (b:=(w.heap.size+1)) (by omega) (zR i l r a1 k c1) HB.out);generalize pts wr (w.heap.size+1) (zR i l r a1 k c1)=V at *;exact au (v:=zO i l r a1 k c1) (by simp[results,Tryz.results59,go_sem,hby.c0,hby.c1,hby.c2,hby.c3]) rfl (⟨⟨a1,c1,M,rfl,A1.out,HF.out⟩,eD.out⟩)
theorem zIy (y:GP) (bg:Nat) (num rev md sz:Int) (s:Sl) (LV GA:Int) (w:World) (hg:eO w bg num rev md sz s LV GA) :
  Calls Tryz.prog 58 #[zd y.1.num y.1.rev y.1.mode y.1.size y.2 y.1.m.live y.1.m.d_,.pointer (some ⟨bg,0,none⟩)] w fun e w'=>e=.returned (.bool (y.1.num==num))∧Below w.heap.size w w':=by
 obtain ⟨⟨yn,yr,ym,yz,⟨yf,yL,yG⟩⟩,ys⟩:=y;dsimp only;have fH:=zZ w yn yr ym yz ys yL yG 38;have HY:=zh (eO.new w yn yr ym yz ys yL yG 38);have HG:=zh (hg.below fH);have HB:=zh fH;clear hg fH
 go_enter Tryz.func58,Tryz.ntmps58
 go_upto_region 1 with fail;change Code.wp _ _ _ _ (w.alloc (.cells (zX yn yr ym yz ys yL yG) 38));generalize w.alloc (.cells (zX yn yr ym yz ys yL yG) 38)=w1 at *;have q0:=HY.out.n0;have q1:=HG.out.n0;go_wp2_with fail;go_ret;exact ⟨rfl,HB.out⟩
def Ld (L:List GP) (num:Int) (z:Int):Prop:=(∃ k,k<L.length∧z=(k:Int)∧(pat L k).1.num=num∧∀ j,j<k→(pat L j).1.num≠num)∨(z=-1∧∀ j,j<L.length→(pat L j).1.num≠num)
theorem zFY (a:Option Addr) (n c:Nat) (L:List GP) (bg:Nat) (num rev md sz:Int) (s:Sl) (LV GA:Int) (w:World) (h:fD w (.slice a n c) L) (hn:n≤1000000) (hg:eO w bg num rev md sz s LV GA) :
  Calls Tryz.prog 57 #[.slice a n c,.func (.func 58) #[] #[.pointer (some ⟨bg,0,none⟩)]] w fun e w'=>(∃ z,e=.returned (.int .i64 z)∧Ld L num z)∧Below w.heap.size w w':=by
 have fO:L.length=n:=by
  obtain ⟨_,_,e,_⟩:=h.shape;injection e with _ e _;exact e.symm
 have Hr:=zh h;have Hg:=zh hg;have jb:=zh fO;clear h hg fO
 go_enter Tryz.func57,Tryz.ntmps57
 go_wp2_with fail
 go_loopw [8] (fun i wr=>∃ k:Nat,k≤n∧i=.int .i64 (k:Int)∧Hid (∀ j,j<k→(pat L j).1.num≠num)∧Hid (Below w.heap.size w wr)) (fun i _=>n-(intOf i).toNat)
 case atStart=>exact ⟨0,aq _,rfl,zh (fun j hj=>absurd hj (by omega)),zh (aj _ _)⟩
 obtain ⟨k,hk,rfl,mf,Hb⟩:=hrel
 by_cases hlt:k<n
 ·
  have hr:=Hr.out.below Hb.out;obtain ⟨b,off,rfl,hat⟩:=hr.at hlt;have HV:=zh (fun W (hb:Below wr.heap.size wr W)=>zIy (pat L k) bg num rev md sz s LV GA W ((Hg.out.below Hb.out).below hb))
  have A2:=zh (show (pat L k).1.num≠num→∀ j,j<k+1→(pat L j).1.num≠num from fun ho j hj=>by
   by_cases e:j=k
   ·
    subst e;exact ho
   exact mf.out j (by omega))
  have G1:=zh (show (pat L k).1.num=num→Ld L num (k:Int) from fun e=>.inl ⟨k,by rw[jb.out];exact hlt,rfl,e,mf.out⟩);clear hr;generalize pat L k=p at *;obtain ⟨⟨xn,xr,xm,xz,⟨xf,xL,xG⟩⟩,xs⟩:=p;obtain ⟨g0,g1,g2,g3,g4,g5,g6,g7,g8,g9,g10,g11,g12,g13⟩:=hat;dsimp only at g0 g1 g2 g3 g4 g5 g6 g7 g8 g9 g10 g11 g12 g13 HV A2 G1;have i1:(k:Int)<(n:Int):=by omega
  go_wp2_with fail;refine (HV.out _ (aj _ _)).mono ?_;rintro e w1 ⟨rfl,hb1⟩;have mQ:=zh (zA Hb.out hb1)
  by_cases hx:xn=num
  ·
   have HF:=zh (G1.out hx);have hx1:(xn==num)=true:=by simp[hx]
   clear hb1 hx A2 G1 HV;go_wp2_with fail;go_ret;exact ⟨⟨_,rfl,HF.out⟩,mQ.out⟩
  have HF:=zh (A2.out hx);have hx1:(xn==num)=false:=by simp[hx]
  clear hb1 hx A2 G1 HV;go_wp2_with fail;exact ⟨⟨k+1,by omega,by go_num,HF,mQ⟩,by simp[intOf];omega⟩
 obtain rfl:k=n:=by omega
 have i1:¬ (k:Int)<(k:Int):=by omega
 have HF:=zh (show Ld L num (-1) from .inr ⟨rfl,by rw[jb.out];exact mf.out⟩);go_wp2_with fail;go_ret;exact ⟨⟨_,rfl,HF.out⟩,Hb.out⟩
end Go.Proofs.YtcgfilmmokmdjaaGreat
