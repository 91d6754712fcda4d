import Derived.Test.YtcgfilmmokmdjaaGreatQAD
import Derived.Lib.AppendZerosOnto
import Derived.Lib.Overlaps
import Derived.Lib.AppendZeros
set_option linter.all false
set_option maxRecDepth 100000
set_option maxHeartbeats 32000000
namespace Go.Proofs.YtcgfilmmokmdjaaGreat
open Go.Proofs.Tryz
open Go.RowKit
def yN (W:World) (b:Nat) (s:Sl) (l g:Int):World:=
 (((((((((W.setCell ⟨b,0,none⟩ (.slice (s.a 0) (s.n 0) (s.c 0))).setCell ⟨b,1,none⟩ (.slice (s.a 1) (s.n 1) (s.c 1))).setCell ⟨b,2,none⟩ (.slice (s.a 2) (s.n 2) (s.c 2))).setCell ⟨b,3,none⟩ (.slice (s.a 3) (s.n 3) (s.c 3))).setCell ⟨b,4,none⟩ (.slice (s.a 4) (s.n 4) (s.c 4))).setCell ⟨b,5,none⟩ (.slice (s.a 5) (s.n 5) (s.c 5))).setCell ⟨b,6,none⟩ (.slice (s.a 6) (s.n 6) (s.c 6))).setCell ⟨b,7,none⟩ (.slice (s.a 7) (s.n 7) (s.c 7))).setCell ⟨b,8,none⟩ (.int .i64 l)).setCell ⟨b,9,none⟩ (.int .i64 g)
variable {W:World} {b:Nat} {s:Sl} {l g:Int}
def eZ.all (h:eZ W b s l g) (s':Sl) (l' g':Int):eZ (yN W b s' l' g') b s' l' g':=by
 have c0:=h.c 0 (by decide);have c1:=h.c 1 (by decide);have c2:=h.c 2 (by decide);have c3:=h.c 3 (by decide);have c4:=h.c 4 (by decide);have c5:=h.c 5 (by decide);have c6:=h.c 6 (by decide);have c7:=h.c 7 (by decide);have c8:=h.cl;have c9:=h.cg;refine ⟨fun j hj=>?_,?_,?_,fun i=>by simp[yN,h.f]⟩
 ·rcases Li hj with e|e|e|e|e|e|e|e<;>subst e<;>simp[yN,go_sem,c0,c1,c2,c3,c4,c5,c6,c7,Sl.v]
 ·simp[yN,go_sem,c8]
 simp[yN,go_sem,c9]
variable {B:Nat}
def zj {w0:World} (h:Below B w0 W) (hb:B<=b) (s:Sl) (l g:Int):Below B w0 (yN W b s l g):=
 (((((((((h.setCell hb _).setCell hb _).setCell hb _).setCell hb _).setCell hb _).setCell hb _).setCell hb _).setCell hb _).setCell hb _).setCell hb _
def eZ.eR (h:eZ W b s l g) {p:Addr} (hp:p.block≠b) (u:Value):eZ (W.setCell p u) b s l g:=by
 have ne:∀ i,p≠⟨b,i,none⟩:=fun i e=>hp (by rw[e])
 exact ⟨fun j hj=>(cA (h:=ne j) ..).trans (h.c j hj),(cA (h:=ne 8) ..).trans h.cl,(cA (h:=ne 9) ..).trans h.cg,fun i=>by simp[h.f]⟩
def eZ.oF {c:Nat} (h:eZ W b s l g) (hp:c≠b) (s':Sl) (l' g':Int):eZ (yN W c s' l' g') b s l g:=
 (((((((((h.eR (p:=⟨c,0,none⟩) hp _).eR (p:=⟨c,1,none⟩) hp _).eR (p:=⟨c,2,none⟩) hp _).eR (p:=⟨c,3,none⟩) hp _).eR (p:=⟨c,4,none⟩) hp _).eR (p:=⟨c,5,none⟩) hp _).eR (p:=⟨c,6,none⟩) hp _).eR (p:=⟨c,7,none⟩) hp _).eR (p:=⟨c,8,none⟩) hp _).eR (p:=⟨c,9,none⟩) hp _
variable {e:TypeId} {sz n:Nat} {xs:List Value}
def yJ {v:Value} (h:W.ownsRow B e sz v n xs) {p:Addr} (hp:p.block<B) (u:Value):(W.setCell p u).ownsRow B e sz v n xs:=
 tK h (fun e=>by have:=(World.ownsRow.lt h _ e).1;omega) u
def XM {v:Value} (h:W.ownsRow B e sz v n xs) (hp:b<B) (s:Sl) (l g:Int):(yN W b s l g).ownsRow B e sz v n xs:=
 yJ (p:=⟨b,9,none⟩) (yJ (p:=⟨b,8,none⟩) (yJ (p:=⟨b,7,none⟩) (yJ (p:=⟨b,6,none⟩) (yJ (p:=⟨b,5,none⟩) (yJ (p:=⟨b,4,none⟩) (yJ (p:=⟨b,3,none⟩) (yJ (p:=⟨b,2,none⟩) (yJ (p:=⟨b,1,none⟩) (yJ (p:=⟨b,0,none⟩) h hp _) hp _) hp _) hp _) hp _) hp _) hp _) hp _) hp _) hp _
def fA (w:World) (B:Nat) (s:Sl) (f:Nat->List It):Prop:=∀ i,i<8->fR w B (s.v i) (f i)
def fA.rd {w:World} {B:Nat} {s:Sl} {f:Nat->List It} (h:fA w B s f):fN w s f:=fun i hi=>(h i hi).rd
variable {w:World}
def fA.keep {w':World} {f:Nat->List It} (h:fA w B s f) (hb:Below w.heap.size w w'):fA w' B s f:=fun i hi=>zE (h i hi) hb
def fA.mono {w:World} {B B':Nat} {s:Sl} {f:Nat->List It} (h:fA w B s f) (hb:B'<=B):fA w B' s f:=fun i hi=>World.ownsRow.mono (h i hi) hb
def fA.mO {f:Nat->List It} (h:fA w B s f) (hb:b<B) (s':Sl) (l g:Int):fA (yN w b s' l g) B s f:=fun i hi=>XM (h i hi) hb s' l g
def fA.nil (w:World) (B:Nat):fA w B Sl.nil (fun _=>[]):=fun _ _=>aP _ _ _ _
def fA.set {w:World} {B:Nat} {s:Sl} {f:Nat->List It} (h:fA w B s f) {k:Nat} {a:Option Addr} {n c:Nat} {l:List It} (hl:fR w B (.slice a n c) l):fA w B (s.set k a n c) (fun i=>if i=k then l else f i):=fun i hi=>by
 show fR w B ((s.set k a n c).v i) (if i=k then l else f i)
 rw[Sl.su]
 by_cases e:i=k
 ·rw[ah e,ah e];exact hl
 rw[ai e,ai e];exact h i hi
section
variable {W:World} {b:Nat} {s:Sl} {l g:Int} (h:eZ W b s l g)
include h
def eZ.c0:W.cell? ⟨b,0,none⟩=some (.slice (s.a 0) (s.n 0) (s.c 0)):=h.c 0 (by decide)
def eZ.c1:W.cell? ⟨b,1,none⟩=some (.slice (s.a 1) (s.n 1) (s.c 1)):=h.c 1 (by decide)
def eZ.c2:W.cell? ⟨b,2,none⟩=some (.slice (s.a 2) (s.n 2) (s.c 2)):=h.c 2 (by decide)
def eZ.c3:W.cell? ⟨b,3,none⟩=some (.slice (s.a 3) (s.n 3) (s.c 3)):=h.c 3 (by decide)
def eZ.c4:W.cell? ⟨b,4,none⟩=some (.slice (s.a 4) (s.n 4) (s.c 4)):=h.c 4 (by decide)
def eZ.c5:W.cell? ⟨b,5,none⟩=some (.slice (s.a 5) (s.n 5) (s.c 5)):=h.c 5 (by decide)
def eZ.c6:W.cell? ⟨b,6,none⟩=some (.slice (s.a 6) (s.n 6) (s.c 6)):=h.c 6 (by decide)
def eZ.c7:W.cell? ⟨b,7,none⟩=some (.slice (s.a 7) (s.n 7) (s.c 7)):=h.c 7 (by decide)
end
def kw (s:Sl) (L G:Int) (f:Nat->List It) (w:World) (h:fN w s f) (hs:∀ i,i<8->(f i).length<=100000) :
  Calls prog 91 #[yD s L G] w fun e w'=>(∃ s',e=.returned (yD s' L G)/\fA w' w.heap.size s' f)/\Below w.heap.size w w':=by
 have Hr:=zh h;have HC:=zh (fun i (hi:i<8) W (hb:Below w.heap.size w W)=>Ux (s.v i) (f i) W ((h i hi).bb hb) (ak (hs i hi) (by decide)));have HI:=zh (fun i (hi:i<8)=>Xw s hi);have HL:=zh (fun i (hi:i<8)=>h.n hi);clear h hs;have eO:=zh ((eZ.new w s L G 36).bb (zY (w.alloc (.cells (yl s L G) 36)) Sl.nil 0 0 36));have sw:=zh (eZ.new (w.alloc (.cells (yl s L G) 36)) Sl.nil 0 0 36);have eP:=zh (zA (zY w s L G 36) (zY (w.alloc (.cells (yl s L G) 36)) Sl.nil 0 0 36));rw[show (w.alloc (.cells (yl s L G) 36)).heap.size=w.heap.size+1 by simp] at sw
 go_enter func91,ntmps91
 go_wp2_with fail;obtain ⟨W0,hW0⟩:∃ W0,(w.alloc (.cells (yl s L G) 36)).alloc (.cells #[.slice none 0 0,.slice none 0 0,.slice none 0 0,.slice none 0 0,.slice none 0 0,.slice none 0 0,.slice none 0 0,.slice none 0 0,.int .i64 0,.int .i64 0] 36)=W0:=⟨_,rfl⟩
 have hW1:(w.alloc (.cells (yl s L G) 36)).alloc (.cells (yl Sl.nil 0 0) 36)=W0:=hW0;rw[hW1] at eO sw eP
 try rw[hW0]
 clear hW0 hW1;have hs0:w.heap.size+2<=W0.heap.size:=sw.o.lt;have Je:=zh hs0;clear hs0
 go_loopw [7] (fun iv W=>∃ (i:Nat) (q:Sl),iv=.int .i64 (i:Int)/\i<=8/\Hid (∀ j,j<i->W.ownsRow (w.heap.size+2) 49 4 (q.v j) (f j).length (zg (f j)))/\Hid (∀ j,i<=j->q.v j=s.v j)/\Hid (eZ W w.heap.size q L G)/\Hid (eZ W (w.heap.size+1) Sl.nil 0 0)/\Hid (Below w.heap.size w W)) (fun iv _=>8-(intOf iv).toNat)
 case atStart=>exact ⟨0,s,rfl,aq _,zh (fun j hj=>by omega),zh (fun j _=>rfl),eO,sw,eP⟩
 obtain ⟨i,q,rfl,hi,XU,Hq2,HX,HY,HB⟩:=hrel
 by_cases hin:i<8
 ·have i1:(i:Int)<8:=by omega
  have hI:=HI.o i hin;have hL:=HL.o i hin;have IB:=zh (HC.o i hin wr HB.o);have BI:s.v i=.slice (s.a i) (s.n i) (s.c i):=rfl;rw[BI] at IB hI;rw[hL] at IB hI;generalize s.a i=sa at *;generalize s.c i=sc at *;clear BI hL;go_wp2_with fail;refine IB.o.mono ?_;rintro e w2 ⟨v2,rfl,eM,hb2⟩;have eX:=zh (zA HB.o hb2);have fK:=zh (HX.o.bb hb2);have iQ:=zh (HY.o.bb hb2);have jc:=zh (fun j hj=>zE (XU.o j hj) hb2);have Jf:w.heap.size+2<=wr.heap.size:=HY.o.lt;have gp:=zh (eM.mono Jf);obtain ⟨oa,oc,Ci,_⟩:=zG eM;subst Ci;clear eM hb2 Jf IB;have ci:=fK.o.c i hin;have fi:=fK.o.f i;have hqi:q.v i=.slice (q.a i) (q.n i) (q.c i):=rfl;rw[hqi] at ci;clear hqi;go_wp2_with fail;have i_:=zh (fK.o.Jc hin oa (f i).length oc)
  have oG:=zh (iQ.o.eR (p:=⟨w.heap.size,i,none⟩) (show w.heap.size≠w.heap.size+1 by omega) (.slice oa (f i).length oc));have f_:=zh (eX.o.setCell (p:=⟨w.heap.size,i,none⟩) (ag _) (.slice oa (f i).length oc));refine ⟨⟨i+1,q.set i oa (f i).length oc,by go_num,by omega,zh (fun j hj=>?_),zh (fun j hj=>?_),i_,oG,f_⟩,by simp[intOf];omega⟩
  ·rw[Sl.su]
   by_cases e:j=i
   ·subst e;rw[ah rfl];exact yJ gp.o (show w.heap.size<w.heap.size+2 by omega) _
   rw[ai e];exact yJ (jc.o j (by omega)) (show w.heap.size<w.heap.size+2 by omega) _
  rw[Sl.su,ai (by omega)];exact Hq2.o j (by omega)
 obtain rfl:i=8:=by omega
 obtain ⟨c0,c1,c2,c3,c4,c5,c6,c7,c8,c9⟩:=HX.o.q;obtain ⟨d0,d1,d2,d3,d4,d5,d6,d7,d8,d9⟩:=HY.o.q;have F:=HY.o.f;go_wp2_with fail;change bodyPost _ _ _ _ _ (yN wr (w.heap.size+1) q L G);have hby:=HY.o.all q L G;have oH:Hid (fA (yN wr (w.heap.size+1) q L G) w.heap.size q f):=zh (fun j hj=>World.ownsRow.mono (XM (XU.o j hj) (show w.heap.size+1<w.heap.size+2 by omega) q L G) (by omega));have eN:=zh (zj HB.o (Nat.le_succ _) q L G);generalize yN wr (w.heap.size+1) q L G=V at *;exact au (v:=yD q L G) (by simp[results,results91,go_sem,hby.q]) rfl ⟨⟨q,rfl,oH.o⟩,eN.o⟩
def Sc {P:Program} {dT sT elem:TypeId} {bytes:Nat} (hE:wQ P dT elem sz bytes) {w:World} {base:Nat} {e:TypeId} {n cap g:Nat} {xs:List Value} (h:w.ownsRow base e sz (.slice (some ⟨g,0,none⟩) n cap) n xs)
  {sa:Option Addr} {m sc:Nat} {news:List Value} (hs:Rd w sz (.slice sa m sc) m news) (o dl dc k:Nat) (hk:k=Nat.min m dl) (h0:0<k) (hsz:0<sz) (ho:o+k<=n) (h1:∀ u∈news.take (k*sz),u.oneCell'=true) :
  ∃ w',(∀ ty,(Builtin.copy_ #[dT,sT] ty #[.slice (some ⟨g,o*sz,none⟩) dl dc,.slice sa m sc]).run P w=.ok (.int .i64 (k:Int)) w') /\
   w'.ownsRow base e sz (.slice (some ⟨g,0,none⟩) n cap) n (xs.take (o*sz)++news.take (k*sz)++xs.drop (o*sz+k*sz))/\w.grownBy w' (some g):=by
 obtain ⟨hl,a',cap',e1,_,_,_,hc⟩:=hs;injection e1 with e1 e2 e3;subst e1 e3;have Fa:k<=m:=by rw[hk];exact Nat.min_le_left _ _
 have hlk:(news.take (k*sz)).length=k*sz:=by rw[aB,hl];exact bY (aX _ Fa)
 have hp:0<news.length:=by rw[hl];exact Nat.mul_pos (by omega) hsz
 obtain ⟨b,off,e4,hcell⟩:=hc hp;subst e4;obtain ⟨w',hrun,hown,hgr⟩:=qX (P:=P) h (o*sz) (news.take (k*sz)) (by rw[hlk,<- Nat.add_mul];exact aX _ ho) h1;rw[hlk] at hown;refine ⟨w',fun ty=>?_,hown,hgr⟩
 have hf:=run_firstCells_some (P:=P) (w:=w) sz k ⟨b,off,none⟩ m sc (news.take (k*sz)) hlk (fun j v hj=>by
  rw[yd]
  refine hcell j v ?_
  rw[dh] at hj
  split at hj
  ·exact hj
  cases hj)
 obtain ⟨ht,hZ⟩:=vE hE;simp[Builtin.copy_,run_underlying ht,Builtin.lenOf,hZ,<- hk,hf,hrun,goInt]
variable {cap:Nat}
def XV {base:Nat} {g:Nat} (h:w.ownsRow base e sz (.slice (some ⟨g,0,none⟩) n cap) n xs) (k:Nat) (hk:n+k<=cap) :
  ∃ ys,ys.length=k*sz/\w.ownsRow base e sz (.slice (some ⟨g,0,none⟩) (n+k) cap) (n+k) (xs++ys):=by
 have hx:=h.1;rcases h.2 with ⟨h',_⟩|⟨g',cap',cur,h',hb,hg,hnc,hcm,hcs,lQ⟩
 ·cases h'
 injection h' with h' _ h'';injection h' with h';injection h' with h' _;subst h' h'';have hN:(n+k)*sz<=cur.toList.length:=by rw[Array.length_toList,hcs];exact aX _ hk
 rw[Nat.add_mul] at hN;refine ⟨(cur.toList.drop (n*sz)).take (k*sz),by rw[aB,aT];omega,?_,.inr ⟨g,cap,cur,rfl,hb,hg,hk,hcm,hcs,?_⟩⟩
 ·rw[ax,hx,aB,aT,Nat.add_mul];omega
 rw[Nat.add_mul,List.take_add,lQ]
def qe {P:Program} {t:TypeId} {bytes:Nat} (hE:wQ P t e sz bytes) (g n cap k:Nat) (hk:k<=n) (hc:k<cap) :
  ∀ W kl,(Instr.slice t (.slice (some ⟨g,0,none⟩) n cap) (some (.int kl (k:Int))) none none).run P W=.ok (.slice (some ⟨g,k*sz,none⟩) (n-k) (cap-k)) W:=by
 obtain ⟨h1,h2⟩:=vE hE;intro W kl;rw[run_slice_l W t (some ⟨g,0,none⟩) n cap h1 kl (k:Int) (by omega) (by omega),h2];have:cap≠k:=by omega
 simp[Result.andThen,sliced,this,yd]
def zIm {a:Option Addr} (h:w.ownsRow B 49 4 (.slice a n cap) n xs) (i k:Nat) (hi:i<=n) (h0:0<n) (hk:cap<i+k) (hs:i+k<=1000001) :
  ∃ w' c',(∀ ty,(Builtin.append_ #[33,3] ty #[.slice a i cap,.int .i64 (k:Int)]).run prog w=.ok (.slice (some ⟨w.heap.size,0,none⟩) (i+k) c') w') /\
   w'.ownsRow w.heap.size 49 4 (.slice (some ⟨w.heap.size,0,none⟩) (i+k) c') (i+k) (xs.take (i*4)++zg (List.replicate k fZ))/\Below w.heap.size w w'/\c'<=maxLen:=by
 obtain ⟨x,hx⟩:∃ x,prog.info? 49=some x:=by
  cases hq:prog.info? 49 with
  |none=>have:=K9;rw[hq] at this;cases this
  |some x=>exact ⟨x,rfl⟩
 have hI:=K9;rw[hx] at hI;injection hI with hI;injection hI with hz hI;injection hI with hs4 Dc;have hz:x.zero=some (mg fZ):=hz;have hcap:0<cap:=by
  rcases h.2 with ⟨e,_⟩|⟨g,c,_,e,_,_,hnc,_⟩
  ·injection e with _ e2 _;omega
  injection e with _ _ e3;omega
 obtain ⟨hl0,a',cap',e1,_,_,_,hc⟩:=zr h;injection e1 with e1 e2 e3;subst e1 e3;have hl:(xs.take (i*4)).length=i*4:=by rw[aB,hl0];exact bY (aX _ hi)
 have hold:(Builtin.firstCells x.size i (.slice a i cap)).run prog w.drew=.ok (xs.take (i*4)).toArray w.drew:=by
  obtain ⟨b,off,e4,hcell⟩:=hc (by rw[hl0];omega);subst e4;rw[hs4];refine run_firstCells_some (P:=prog) (w:=w.drew) 4 i ⟨b,off,none⟩ i cap _ hl (fun j v hj=>?_);rw[yd];refine hcell j v ?_;rw[dh] at hj
  split at hj
  ·exact hj
  cases hj
 have hnb:Builtin.nextslicecap (i+k) cap*x.bytes<=281474976710656:=growslice_fits hk (by rw[Dc];omega);have hr:∀ ty,_:=fun ty=>Lib.run_append_grow_zeros (P:=prog) w 33 3 ty 49 x (mg fZ) .i64 .i64 underlying33 underlying3 hx hz a i cap (xs.take (i*4)) hold k (by omega) (by rw[hs4];decide) hk (by omega) (by rw[Dc];omega) hnb
 refine ⟨_,_,hr,?_,(Below.drew (aj _ _)).alloc (ag _) _,grownCap_le_maxLen w (i+k) cap _ (by unfold maxLen;omega)⟩;have hge:=grownCap_ge w (i+k) cap 49;have hcm:grownCap w (i+k) cap 49<=maxLen:=grownCap_le_maxLen w (i+k) cap _ (by unfold maxLen;omega);have hzl:(zg (List.replicate k fZ)).length=k*4:=by rw[yR,dw]
 have hlen:(xs.take (i*4)++zg (List.replicate k fZ)).length=(i+k)*4:=by rw[ax,hl,hzl,Nat.add_mul]
 refine ⟨hlen,.inr ⟨w.heap.size,_,_,rfl,ag _,heap_alloc_new w.drew _,hge,hcm,?_,?_⟩⟩
 ·have z4:(mg fZ).cells.size=4:=rfl;simp only[Array.size_append,cD,size_zeroCells,z4,hl,<- Nat.add_mul];rw[show i+k+(grownCap w (i+k) cap 49-(i+k))=grownCap w (i+k) cap 49 from by omega]
 simp only[Array.toList_append];rw[ua,<- hlen];exact List.take_left
def zJf {z c:List Value} {i:Nat} (hi:i<=n) (hx:xs.length=n*4) (hz:z.length=(n+1-i)*4) (hc:c.length=4) :
  ((xs.take (i*4)++z).take (i*4)++c++(xs.take (i*4)++z).drop (i*4+4)).take ((i+1)*4)++xs.drop (i*4)++((xs.take (i*4)++z).take (i*4)++c++(xs.take (i*4)++z).drop (i*4+4)).drop ((i+1)*4+(n-i)*4)=xs.take (i*4)++c++xs.drop (i*4):=by
 have hl:(xs.take (i*4)).length=i*4:=by rw[aB,hx];omega
 have e1:(xs.take (i*4)++z).take (i*4)=xs.take (i*4):=dI hl;have e2:(xs.take (i*4)++z).drop (i*4+4)=z.drop 4:=by rw[<- ct,List.drop_left' hl]
 have l2:(xs.take (i*4)++c).length=(i+1)*4:=by rw[ax,hl,hc];omega
 have e3:(xs.take (i*4)++c++z.drop 4).drop ((i+1)*4+(n-i)*4)=[]:=cu (by rw[ax,l2,aT,hz];omega);rw[e1,e2,dI l2,e3,cz]
def zIx {ys c:List Value} {i:Nat} (hi:i<=n) (hx:xs.length=n*4) (hy:ys.length=4) :
  ((xs++ys).take ((i+1)*4)++((xs++ys).drop (i*4)).take ((n-i)*4)++(xs++ys).drop ((i+1)*4+(n-i)*4)).take (i*4)++c++((xs++ys).take ((i+1)*4)++((xs++ys).drop (i*4)).take ((n-i)*4)++(xs++ys).drop ((i+1)*4+(n-i)*4)).drop (i*4+4)=xs.take (i*4)++c++xs.drop (i*4):=by
 have ld:(xs.drop (i*4)).length=(n-i)*4:=by rw[aT,hx];omega
 have e1:((xs++ys).drop (i*4)).take ((n-i)*4)=xs.drop (i*4):=by
  rw[List.drop_append_of_le_length (by omega),dI ld]
 have e2:(xs++ys).drop ((i+1)*4+(n-i)*4)=[]:=cu (by rw[ax,hx,hy];omega);have l3:((xs++ys).take ((i+1)*4)).length=(i+1)*4:=by rw[aB,ax,hx,hy];omega
 rw[e1,e2,cz];have e3:((xs++ys).take ((i+1)*4)++xs.drop (i*4)).take (i*4)=xs.take (i*4):=by
  rw[List.take_append_of_le_length (by omega),List.take_take,bY (by omega),List.take_append_of_le_length (by omega)]
 have e4:((xs++ys).take ((i+1)*4)++xs.drop (i*4)).drop (i*4+4)=xs.drop (i*4):=List.drop_left' (by rw[l3];omega);rw[e3,e4]
def zJM {g:Nat} (h:w.ownsRow B 49 4 (.slice (some ⟨g,0,none⟩) n cap) n xs) (i:Nat) (hi:i<n) :
  ∃ w',(∀ ty c,(Builtin.clear_ #[33] ty #[.slice (some ⟨g,i*4,none⟩) (n-i) c]).run prog w=.ok (.tuple #[]) w')/\w'.ownsRow B 49 4 (.slice (some ⟨g,0,none⟩) n cap) n (xs.take (i*4)++zg (List.replicate (n-i) fZ))/\w.grownBy w' (some g):=by
 have hl:xs.length=n*4:=h.1;obtain ⟨w',h1,h2,h3⟩:=qX (P:=prog) h (i*4) (zg (List.replicate (n-i) fZ)) (by rw[yR,dw];omega) (zv _);refine ⟨w',fun ty c=>?_,?_,h3⟩
 ·obtain ⟨m,hm⟩:∃ m,n-i=m+1:=⟨n-i-1,by omega⟩
  rw[hm] at h1 |-;simp only[Builtin.clear_];simp[run_underlying underlying33];have hz:=ua (m+1);simp only[mg,fZ] at hz;rw[hz,show zg (List.replicate (m+1) ⟨0,0,0,0⟩)=zg (List.replicate (m+1) fZ) from rfl,h1]
  rfl
 rw[cu (by rw[yR,dw];omega),cz] at h2;exact h2
def zJs {g:Nat} (h:w.ownsRow B 49 4 (.slice (some ⟨g,0,none⟩) n cap) n xs) {sa:Addr} {m sc:Nat} {news:List Value} (hs:Rd w 4 (.slice (some sa) m sc) m news) (h1:∀ u∈news,u.oneCell'=true) (hr:n+m<=cap) :
  ∃ w',(∀ ty,(Builtin.append_ #[33,33] ty #[.slice (some ⟨g,0,none⟩) n cap,.slice (some sa) m sc]).run prog w=.ok (.slice (some ⟨g,0,none⟩) (n+m) cap) w')/\w'.ownsRow B 49 4 (.slice (some ⟨g,0,none⟩) (n+m) cap) (n+m) (xs++news)/\w.grownBy w' (some g):=by
 obtain ⟨x,hx⟩:∃ x,prog.info? 49=some x:=by
  cases hq:prog.info? 49 with
  |none=>have:=K9;rw[hq] at this;cases this
  |some x=>exact ⟨x,rfl⟩
 have hI:=K9;rw[hx] at hI;injection hI with hI;injection hI with _ hI;injection hI with hs4 _;have hs4:x.size=4:=hs4;obtain ⟨hl,a',cap',e1,_,_,_,hc⟩:=hs;injection e1 with e1 e2 e3;subst e3;have hnews:∀ j u,news[j]?=some u->w.cell? (sa.add j)=some u:=fun j u hj=>by
  have hp:0<news.length:=by have:=(List.getElem?_eq_some_iff.1 hj).1;omega
  obtain ⟨b,off,e4,hcell⟩:=hc hp;rw[<- e1] at e4;obtain rfl:=Option.some.inj e4;rw[yd];exact hcell j u hj
 rcases h.2 with ⟨h',_⟩|⟨g',c2,cur,h',hb,hg,hnc,hcm,hcs,lQ⟩
 ·cases h'
 injection h' with h' _ h'';injection h' with h';injection h' with h' _;subst h' h'';have hx1:=h.1;have hfit:n*4+news.length<=cur.size:=by rw[hl,hcs];omega
 refine ⟨_,fun ty=>run_append_room (P:=prog) w 33 ty 49 x underlying33 hx g n cap cur hg sa m sc news (by rw[hs4];exact hl) hnews h1 hr (by rw[hs4];exact hfit),⟨?_,.inr ⟨g,cap,_,rfl,hb,setRow_heap w g cur _ _ _ hg,hr,hcm,?_,?_⟩⟩,⟨rfl,rfl,rfl,by simp,fun k _ hk=>setRow_other w g k _ (fun e=>hk (by rw[e]))⟩⟩
 ·rw[ax,hx1,hl,Nat.add_mul]
 ·rw[hs4];simp only[cD,ax,aB,aT,Array.length_toList];omega
 rw[hs4,lQ];have:(xs++news).length=(n+m)*4:=by rw[ax,hx1,hl,Nat.add_mul]
 rw[<- this];exact List.take_left
def zHI (w:World) (n:Nat) (h0:0<n) (hn:n<=1000000) :
  ∃ w' c,(∀ ty,(Builtin.append_ #[33,3] ty #[.slice none 0 0,.int .i64 (n:Int)]).run prog w=.ok (.slice (some ⟨w.heap.size,0,none⟩) n c) w') /\
   w'.ownsRow w.heap.size 49 4 (.slice (some ⟨w.heap.size,0,none⟩) 0 c) 0 []/\Below w.heap.size w w'/\n<=c/\c<=maxLen:=by
 obtain ⟨x,hx⟩:∃ x,prog.info? 49=some x:=by
  cases hq:prog.info? 49 with
  |none=>have:=K9;rw[hq] at this;cases this
  |some x=>exact ⟨x,rfl⟩
 have hI:=K9;rw[hx] at hI;injection hI with hI;injection hI with hz hI;injection hI with hs4 Dc;have hz:x.zero=some (mg fZ):=hz;have hr:∀ ty,_:=fun ty=>Lib.run_append_nil_zeros (P:=prog) w 33 3 ty 49 x (mg fZ) .i64 .i64 underlying33 underlying3 hx hz n h0 (by rw[hs4];decide) (by omega) (by rw[Dc];omega)
 have hge:=grownCap_ge w n 0 49;have hcm:grownCap w n 0 49<=maxLen:=grownCap_le_maxLen w n 0 _ (by unfold maxLen;omega);refine ⟨_,_,hr,⟨rfl,.inr ⟨w.heap.size,_,_,rfl,ag _,heap_alloc_new w.drew _,aq _,hcm,?_,by simp⟩⟩,(Below.drew (aj _ _)).alloc (ag _) _,hge,hcm⟩;have z4:(mg fZ).cells.size=4:=rfl;simp only[Array.size_append,size_zeroCells,z4,<- Nat.add_mul];rw[show n+(grownCap w n 0 49-n)=grownCap w n 0 49 from by omega]
def zLS (n:Nat) (hn:n<=1000000) (w:World) :
  Calls prog 172 #[.slice none 0 0,.int .i64 (n:Int)] w fun e w'=>∃ v',e=.returned v'/\fR w' w.heap.size v' []/\Below w.heap.size w w':=by
 have hneg:decide ((n:Int)<0)=false:=by simp
 by_cases h0:n=0
 ·subst h0
  go_enter func172,ntmps172
  go_wp2_with fail;go_ret;exact ⟨_,rfl,aP _ _ _ _,aj _ _⟩
 have hp:decide ((0:Int)<(n:Int))=true:=by simp;omega
 obtain ⟨w1,c,hrun,hown,hb,hnc,hcm⟩:=zHI w n (by omega) hn;have h1:=xH (P:=prog) yO (a:=some ⟨w.heap.size,0,none⟩) (n:=n) (cap:=c) (fun x hx=>⟨w.heap.size,0,(Option.some.inj hx).symm⟩) 0 (aq _);have h2:∀ W kh,(Instr.slice 33 (.slice none 0 0) none (some (.int kh ((0:Nat):Int))) none).run prog W=.ok (.slice none 0 0) W:=xH (P:=prog) yO (a:=none) (n:=0) (cap:=0) (fun x hx=>by cases hx) 0 (ag _);rw[show ((0:Nat):Int)=0 from rfl] at h1 h2;have HO:=zh hown;have HB:=zh hb;have j1:IntKind.i64.wrap ((n:Int)-0)=(n:Int):=(aF _ (by omega)).trans (by omega);clear hown hb
 go_enter func172,ntmps172
 go_wp2_with (at_builtin;refine Lib.wpList_append_run _ rfl (.tmp 20) (.tmp 21) _ _ rfl _ _ rfl rfl _ _ (hrun _) ?_);go_ret;exact ⟨_,rfl,HO.o,HB.o⟩
def U9 (f:Nat->List It) (n:Nat):(cat f (n+1)).length=(cat f n).length+(f n).length:=by
 show (cat f n++f n).length=_
 rw[ax]
def XW (f:Nat->List It):∀ d n,(cat f n).length<=(cat f (n+d)).length
 |0,_=>ag _
 |d+1,n=>by
  have:=XW f d n;rw[show n+(d+1)=(n+d)+1 by omega,U9];omega
def zG3 (b:Nat) (s:Sl) (L G:Int) (f:Nat->List It) (w:World) (hx:eZ w b s L G) (h:fN w s f) (hs:(cat f 8).length<=1000000) :
  Calls prog 133 #[.slice (some ⟨b,0,none⟩) 8 8] w fun e w'=>∃ v',e=.returned v'/\fR w' w.heap.size v' (cat f 8)/\Below w.heap.size w w':=by
 have HX:=zh hx;have HR:=zh h;have HL:=zh (fun i (hi:i<8)=>h.n hi);have HC:=zh (fun n=>U9 f n)
 have HM:=zh (fun n (hn:n<=8)=>show (cat f n).length<=1000000 from by
  have:=XW f (8-n) n
  rw[show n+(8-n)=8 by omega] at this
  omega)
 have HG:=zh (fun n hn W=>zLS n hn W);have HE:=zh (fun i=>show cat f (i+1)=cat f i++f i from rfl);clear hx h hs
 go_enter func133,ntmps133
 go_wp2_with fail
 go_loopw [3,11] (fun lv iv W=>∃ i:Nat,iv=.int .i64 (i:Int)/\i<=8/\lv=.int .i64 ((cat f i).length:Int)/\w=W) (fun _ iv _=>8-(intOf iv).toNat)
 case atStart=>exact ⟨0,rfl,aq _,rfl,rfl⟩
 obtain ⟨i,rfl,hi,rfl,rfl⟩:=hrel
 by_cases hin:i<8
 ·have i1:(i:Int)<8:=by omega
  have ci:=HX.o.c i hin;have BI:s.v i=.slice (s.a i) (s.n i) (s.c i):=rfl;rw[BI,HL.o i hin] at ci;have hm:=HM.o (i+1) (by omega);have hc:=HC.o i;rw[hc] at hm;have IB:=zh hc;generalize (cat f i).length=p at *;generalize (f i).length=q at *;have hw:IntKind.i64.wrap ((p:Int)+(q:Int))=((p+q:Nat):Int):=(aF _ (by omega)).trans (by omega);have hneg:decide (((p+q:Nat):Int)<0)=false:=by simp;omega
  clear BI hc;go_wp2_with fail;exact ⟨⟨i+1,by go_num,by omega,by rw[IB.o,dO],trivial⟩,by simp[intOf];omega⟩
 obtain rfl:i=8:=by omega
 have XX:=zh (HG.o (cat f 8).length (HM.o 8 (ag _)) w);generalize (cat f 8).length=tot at *;go_wp2_with fail;refine XX.o.mono ?_;rintro e w1 ⟨v1,rfl,hown1,hb1⟩;have ja:=zh hown1;have eV:=zh hb1;clear hown1 hb1 XX;go_wp2_with fail
 go_loopw [6,27] (fun ov iv W=>∃ i:Nat,iv=.int .i64 (i:Int)/\i<=8/\Hid (W.ownsRow w.heap.size 49 4 ov (cat f i).length (zg (cat f i)))/\Hid (Below w.heap.size w W)) (fun _ iv _=>8-(intOf iv).toNat)
 case atStart=>exact ⟨0,rfl,aq _,ja,eV⟩
 obtain ⟨i,rfl,hi,HO,HB⟩:=hrel
 by_cases hin:i<8
 ·have i1:(i:Int)<8:=by omega
  have ci:=Below.keeps HB.o _ _ (HX.o.c i hin);have lF:=zh ((HR.o i hin).bb HB.o);have BI:s.v i=.slice (s.a i) (s.n i) (s.c i):=rfl;rw[BI,HL.o i hin] at ci lF;have hm:=HM.o (i+1) (by omega);rw[HC.o i] at hm;have IC:=zh (HE.o i);have hone:=zv (f i);have jO:=zh hone;have hsz:=HB.o.size;have iE:Hid (Rd wr 4 (.slice (s.a i) (f i).length (s.c i)) (f i).length (zg (f i))):=zh (un lF.o);clear BI hone;go_wp2_with (at_builtin;refine zP (n:=(cat f i).length) (m:=(f i).length) rfl (.tmp 31) (.tmp 32) 33 rfl yO w.heap.size rfl HO.o rfl iE.o jO.o (by unfold maxLen;omega) (by omega) hsz ?_;intro v4 w4 fw gI hv4;clear hv4;have iP:Hid (fR w4 w.heap.size v4 (cat f (i+1))):=zh (yW fw (by rw[IC.o,zy]));have gq:=zh (zK HB.o HO.o hsz gI);clear fw gI);exact ⟨⟨i+1,by go_num,by omega,iP,gq⟩,by simp[intOf];omega⟩
 obtain rfl:i=8:=by omega
 go_wp2_with fail;go_ret;exact ⟨_,rfl,HO.o,HB.o⟩
end Go.Proofs.YtcgfilmmokmdjaaGreat
