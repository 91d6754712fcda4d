import Derived.Test.YtcgfilmmokmdjaaGreatQAO
set_option linter.all false
set_option maxRecDepth 100000
set_option maxHeartbeats 32000000
namespace Go.Proofs.YtcgfilmmokmdjaaGreat
open Go.Proofs.Tryz
open Go.RowKit
def zGp (a:Option Addr) (n c:Nat) (xs:List Value) (w:World) (h:Rd w 14 (.slice a n c) n xs) (h1:∀ u∈xs,u.oneCell'=true) (hs:n<=1000000) :
  Calls prog 102 #[.slice a n c] w fun e w'=>∃ a' c',e=.returned (.slice a' n c')/\w'.ownsRow w.heap.size 38 14 (.slice a' n c') n xs/\Below w.heap.size w w':=by
 have ZX:∀ (w:World) (a:Option Addr) (n c n' c':Nat),(binOp .eql 25 (.slice a n c) (.slice none n' c')).run prog w=.ok (.bool a.isNone) w:=fun w a n c n' c'=>Lib.run_eql_slice_nil w _ _ a n c n' c' underlying25
 cases a with
 |none =>
  have h0:n=0:=by
   obtain ⟨_,a',cap',e,h2,_,h5,_⟩:=h;injection e with e1 e2 e3;have:=h5 e1.symm;omega
  subst h0;have hx:xs=[]:=List.length_eq_zero_iff.1 (by have:=h.1;omega);subst hx;clear h
  go_enter func102,ntmps102
  go_wp2_with fail;go_ret;exact ⟨_,_,rfl,aP _ _ _ _,aj _ _⟩
 |some p =>
  have Hr:=zh h;have H1:=zh h1;clear h h1
  go_enter func102,ntmps102
  go_wp2_with (at_builtin;go_must (refine zP rfl (.tmp 5) (.tmp 6) 25 rfl Xc w.heap.size rfl (cT (size:=14) _ #[] 0 (ag _) (by decide) rfl) rfl (Hr.o.alloc _) H1.o (by unfold maxLen;omega) (by omega) (by simp) ?_);intro v3 w3 eB eW hv3;clear hv3);have HB:=zh (zK ((aj w.heap.size w).alloc (ag _) _) (cT (e:=38) (size:=14) w #[] 0 (ag _) (by decide) rfl) (by simp) eW);rw[aN,bV] at eB;obtain ⟨ra,rc,rfl,_⟩:=zG eB;have HO:=zh eB;clear eB eW;go_wp2_with fail;go_ret;exact ⟨_,_,rfl,HO.o,HB.o⟩
structure iN (W:World) (B:Nat) (v:Value) (n:Nat) (L:List GP):Prop where
 row:W.ownsRow B 38 14 v n (L.flatMap iM)
 len:n=L.length
 m:∀ p∈L,fA W B p.2 p.1.m.st
def iN.rd {W:World} {B n:Nat} {v:Value} {L:List GP} (h:iN W B v n L):fB W v L:=uk h.row h.len fun p hp=>(h.m p hp).rd
def iN.keep {W W':World} {B n:Nat} {v:Value} {L:List GP} (h:iN W B v n L) (hb:Below W.heap.size W W'):iN W' B v n L:=⟨zE h.row hb,h.len,fun p hp=>(h.m p hp).keep hb⟩
def iN.pts {W:World} {B n b:Nat} {v:Value} {L:List GP} (h:iN W B v n L) (hb:b<B) (vs:List (Nat×Value)):iN (Go.Proofs.YtcgfilmmokmdjaaGreat.pts W b vs) B v n L:=⟨xY hb h.row vs,h.len,fun p hp=>(h.m p hp).pts hb vs⟩
variable {W:World} {B B' n:Nat} {L:List GP}
def iN.lower {v:Value} (h:iN W B v n L) (hB:B'<=B):iN W B' v n L:=⟨World.ownsRow.mono h.row hB,h.len,fun p hp=>(h.m p hp).mono hB⟩
variable {g c:Nat}
def zKP {xs:List Value} {s:Sl} {f:Nat->List It} (h:W.ownsRow B 38 14 (.slice (some ⟨g,0,none⟩) n c) n xs) (ho:fA W B' s f):∀ i,i<8->(s.v i).ownBlock≠some g:=fun i hi e=>by
 obtain ⟨c1,f1,h1⟩:=Lib.ownsRow_kind h g rfl;obtain ⟨c2,f2,h2⟩:=Lib.ownsRow_kind (ho i hi) g e;rw[h1] at h2;injection h2 with h2;injection h2 with _ h3;exact absurd h3 (by decide)
def fA.Bk {xs:List Value} {s:Sl} {f:Nat->List It} (ho:fA W B' s f) (h:W.ownsRow B 38 14 (.slice (some ⟨g,0,none⟩) n c) n xs) (vs:List (Nat×Value)):fA (Go.Proofs.YtcgfilmmokmdjaaGreat.pts W g vs) B' s f:=fun i hi=>kX (zKP h ho i hi) vs (ho i hi)
def iN.set {W:World} {B n c g:Nat} {L:List GP} (h:iN W B (.slice (some ⟨g,0,none⟩) n c) n L) (k:Nat) (hk:k<n) (y:GP) (hy:fA W B y.2 y.1.m.st) :
  iN (Go.Proofs.YtcgfilmmokmdjaaGreat.pts W g (t_ (k*14) y.1.num y.1.rev y.1.mode y.1.size y.2 y.1.m.live y.1.m.ew)) B (.slice (some ⟨g,0,none⟩) n c) n (L.set k y):=by
 have hl:=h.len;refine ⟨(qi h.row k (by omega) y).1,by rw[a_];exact hl,fun p hp=>?_⟩;rcases List.mem_or_eq_of_mem_set hp with hp|rfl
 ·exact (h.m p hp).Bk h.row _
 exact hy.Bk h.row _
structure IP (W:World) (B:Nat) (v:Value) (n:Nat) (L M:List GP) (k:Nat):Prop where
 row:W.ownsRow B 38 14 v n (M.flatMap iM)
 len:n=M.length
 fst:ey M=ey L
 own:∀ j,j<k->fA W B (pat M j).2 (pat M j).1.m.st
 old:∀ j,k<=j->pat M j=pat L j
def IP.keep {W W':World} {B n k:Nat} {v:Value} {L M:List GP} (h:IP W B v n L M k) (hb:Below W.heap.size W W'):IP W' B v n L M k:=⟨zE h.row hb,h.len,h.fst,fun j hj=>(h.own j hj).keep hb,h.old⟩
def Xh (L:List GP) (k:Nat) (y:GP):ey (L.set k y)=(ey L).set k y.1:=List.map_set ..
def IP.step {k:Nat} {M:List GP} (h:IP W B (.slice (some ⟨g,0,none⟩) n c) n L M k) (hk:k<n) (y:GP) (hy:fA W B y.2 y.1.m.st) (hf:y.1=(pat L k).1) :
  IP (Go.Proofs.YtcgfilmmokmdjaaGreat.pts W g (t_ (k*14) y.1.num y.1.rev y.1.mode y.1.size y.2 y.1.m.live y.1.m.ew)) B (.slice (some ⟨g,0,none⟩) n c) n L (M.set k y) (k+1):=by
 have hl:=h.len;have hM:=aM List.length h.fst;rw[zk,zk] at hM;refine ⟨(qi h.row k (by omega) y).1,by rw[a_];exact hl,?_,fun j hj=>?_,fun j hj=>?_⟩
 ·rw[Xh,h.fst];refine List.ext_getElem? fun i=>?_
  rw[dJ]
  by_cases e:k=i
  ·subst e;have hk':k<(ey L).length:=by rw[zk];omega
   rw[ah rfl,ah hk',aA hk',hf];have h9:=yj (l:=L) (i:=k);unfold fh at h9;rw[aw,aA hk'] at h9;rw[<- h9];rfl
  rw[ai e]
 ·rw[zHe (by omega)]
  by_cases e:j=k
  ·rw[ah e];exact hy.Bk h.row _
  rw[ai e];exact (h.own j (by omega)).Bk h.row _
 rw[zHe (by omega),ai (by omega)];exact h.old j (by omega)
def IP.all {v:Value} {M:List GP} (h:IP W B v n L M n):iN W B v n M:=⟨h.row,h.len,fun p hp=>by
 obtain ⟨j,hj,rfl⟩:=cO hp
 have h1:=h.own j (by rw[h.len];exact hj)
 have e:pat M j=M[j]:=by unfold pat;rw[aw,aA hj];rfl
 rw[e] at h1;exact h1⟩
def ClR (w:World) (i l:Int) (r:Bool) (n:Nat) (L:List GP) (e:Ending) (w':World):Prop:=(∃ a' c' M,e=.returned (zQ i l r a' n c')/\iN w' w.heap.size (.slice a' n c') n M/\ey M=ey L)/\Below w.heap.size w w'
def zNl (B:Nat) (g:Gn):lZ:=⟨fun v w=>∃ s,v=ze g.num g.rev g.mode g.size s g.m.live g.m.ew/\fA w B s g.m.st,fun _ _ _ hb ⟨s,h1,h2⟩=>⟨s,h1,h2.keep hb⟩⟩
def zB3 (i l:Int) (r:Bool) (a:Option Addr) (n c:Nat) (L:List GP) (w:World) (h:fB w (.slice a n c) L) (hs:∀ p∈L,∀ j,j<8->(p.1.m.st j).length<=10000) (hn:n<=1000000) :
  Calls prog 59 #[zQ i l r a n c] w (ClR w i l r n L):=by
 have fT:L.length=n:=by
  obtain ⟨_,_,e,_⟩:=h.shape;injection e with _ e _;exact e.symm
 have j_:=zh (fun W (hb:Below w.heap.size w W)=>show Rd W 14 (.slice a n c) n (L.flatMap iM) from by
  have h1:=(jy.bb h.r hb).2
  rwa [fT] at h1)
 have jO:=zh (S5 L);have lz:Hid (∀ k,k<n->fN w (pat L k).2 (pat L k).1.m.st/\∀ j,j<8->((pat L k).1.m.st j).length<=10000):=zh (fun k hk=>⟨h.m _ (yP (by omega)),hs _ (yP (by omega))⟩);have jJ:=zh fT;have hcap:n<=9223372036854775807:=by omega
 clear h hs fT
 go_enter func59,ntmps59
 go_upto_region 1 with fail;change Code.wp _ _ _ _ ((w.alloc (.cells (zM i l r a n c) 27)).alloc (.cells (zM 0 0 false none 0 0) 27));obtain ⟨W,hW,fJ,hbr,fS⟩:=tN w i l r a n c 27;rw[hW];have HX:=zh fJ;have HR:=zh hbr;have HB:=zh fS;clear hW fJ hbr fS;have alQ:=HR.o.lt;have k3:=HX.o.c3;go_wp2_with fail;refine (zGp a n c (L.flatMap iM) W (j_.o W HB.o) jO.o hn).mono ?_;rintro e w1 ⟨a1,c1,rfl,ho,hb⟩;have hz0:=hb.size;replace HX:=zh (HX.o.bb hb);replace HR:=zh (HR.o.bb hb);replace HB:=zh (zA HB.o hb);clear hb k3 j_ jO;have k3:=HX.o.c3;have kf:=HX.o.f;go_upto_region 2 with fail;clear k3 kf;have PX:=zh (show W.heap.size<=(pts w1 w.heap.size [(3,.slice a1 n c1)]).heap.size by rw[wh];exact hz0);have jf:Hid (fp (pts w1 w.heap.size [(3,.slice a1 n c1)]) w.heap.size i l r a1 n c1):=zh (HX.o.Ds a1 n c1)
 have lB:=zh (HR.o.eL (d:=w.heap.size) (by omega) [(3,.slice a1 n c1)]);have gq:=zh (zC (B:=w.heap.size) (b:=w.heap.size) (ag _) [(3,.slice a1 n c1)] HB.o);have HC4:Hid (IP (pts w1 w.heap.size [(3,.slice a1 n c1)]) W.heap.size (.slice a1 n c1) n L L 0):=zh (⟨xY (b:=w.heap.size) (by omega) ho _,jJ.o.symm,rfl,fun j hj=>by omega,fun j _=>rfl⟩);clear ho HX HR HB;change Code.wp _ _ _ _ (pts w1 w.heap.size [(3,.slice a1 n c1)]);generalize pts w1 w.heap.size [(3,.slice a1 n c1)]=w2 at *;have k3:=jf.o.c3;go_wp2_with fail;clear k3
 go_loopw [12] (fun iv V=>∃ (k:Nat) (M:List GP),iv=.int .i64 (k:Int)/\k<=n/\Hid (IP V W.heap.size (.slice a1 n c1) n L M k)/\Hid (fp V w.heap.size i l r a1 n c1)/\Hid (fp V (w.heap.size+1) 0 0 false none 0 0)/\Hid (Below w.heap.size w V)/\Hid (W.heap.size<=V.heap.size)) (fun iv _=>n-(intOf iv).toNat)
 case atStart=>exact ⟨0,L,rfl,aq _,HC4,jf,lB,gq,PX⟩
 clear HC4 jf lB gq PX;obtain ⟨k,M,rfl,hk,HC,HX,HR,HB,jb⟩:=hrel
 by_cases hlt:k<n
 ·have i1:(k:Int)<(n:Int):=by omega
  obtain ⟨g,rfl,hgB,rV⟩:=uB HC.o.row (by omega);have hat:=PJ HC.o.row HC.o.len hlt;rw[HC.o.old k (ag _)] at hat;obtain ⟨hm1,lU⟩:=lz.o k hlt;have rW:=zh hm1;have PY:=zh lU;have Dp:=zh (xu HC.o.row);have JD:=zh (fun W' (hb:Below wr.heap.size wr W')=>(hat.bb hb).there (xu (zE HC.o.row hb)));clear hm1 lU;have jY:=zh (fun W' (s':Sl) (hb:Below wr.heap.size wr W') (ho:fA W' W.heap.size s' (pat L k).1.m.st)=>(HC.o.keep hb).step hlt ((pat L k).1,s') ho rfl);generalize pat L k=p at *;obtain ⟨⟨num,rev,md,sz,⟨fs,LV,GA⟩⟩,s⟩:=p;dsimp only at rW PY jY;obtain ⟨g0,g1,g2,g3,g4,g5,g6,g7,g8,g9,g10,g11,g12,g13⟩:=hat;dsimp only at g0 g1 g2 g3 g4 g5 g6 g7 g8 g9 g10 g11 g12 g13;go_upto_region 5 with fail;clear g0 g1 g2 g3 g4 g5 g6 g7 g8 g9 g10 g11 g12 g13;change Code.wp _ _ _ _ (wr.alloc (.cells (zU num rev md sz s LV GA) 38))
  have fq:=zT wr num rev md sz s LV GA 38;have HG:=zh (eU.new wr num rev md sz s LV GA 38);have Dm:=zh fq;replace HX:=zh (HX.o.bb fq);replace HR:=zh (HR.o.bb fq);replace HB:=zh (zA HB.o fq);replace jb:=zh (ak jb.o fq.size);clear fq HC;generalize wr.alloc (.cells (zU num rev md sz s LV GA) 38)=v0 at *;generalize wr.heap.size=bg at HG |-;have Cv:=jb.o;refine xD [eT (.pointer (some ⟨w.heap.size,3,none⟩)),eT (.slice (some ⟨g,0,none⟩) n c1),eT (.int .i64 (k:Int)),eT (ze num rev md sz s LV GA),zNl W.heap.size ⟨num,rev,md,sz,⟨fs,LV,GA⟩⟩] [] 25 (by kernel_rfl) (by kernel_rfl) (by rfl) (by kernel_rfl) (fun f=>by simp[fU,zW,Act.put];exact rfl) ?_ ?_
  ·refine ⟨?_,?_,?_,?_,?_,trivial⟩
   ·intro f w1 hb hd;clear hd;dsimp only;go_wp2_with fail;exact pS rfl (by simp)
   ·intro f w1 hb hd;have d0:f 0=_:=hd 0 (by kernel_rfl);clear hd;dsimp only;rw[d0];have q3:=(HX.o.bb hb).c3;go_wp2_with fail;exact pS rfl (by simp)
   ·intro f w1 hb hd;clear hd;dsimp only;go_wp2_with fail;exact pS rfl (by simp)
   ·intro f w1 hb hd;clear hd;dsimp only;have zo:=HG.o.bb hb;obtain ⟨q0,q1,q2,q3,q4,q5,q6,q7,q8,q9,w_,y_,z_,Aa⟩:=zo.q;clear zo;go_wp2_with fail;exact pS rfl (by simp)
   intro f w1 hb hd;have d3:f 3=_:=hd 3 (by kernel_rfl);clear hd;dsimp only;rw[d3];go_wp2_with fail;refine (kS ⟨num,rev,md,sz,⟨fs,LV,GA⟩⟩ s w1 (rW.o.bb (zA HB.o hb)) PY.o).mono ?_;rintro e w9 ⟨⟨s9,rfl,sZ⟩,gy⟩;have jl:=zh (sZ.mono (ak Cv hb.size));clear sZ;go_wp2_with fail;exact pRg gy ⟨s9,rfl,jl.o⟩ (by simp)
  intro f w5 hb hd iX;clear iX;have d1:f 1=_:=hd 1 (by simp);have d2:f 2=_:=hd 2 (by simp);obtain ⟨s4,d4,KO⟩:=hd 4 (by simp);clear hd
  try dsimp only
  rw[d1,d2,d4];clear d1 d2 d4;generalize f 0=z0;generalize f 3=z3;clear f;have hb5:=zA Dm.o hb;have Te:=zh (jY.o w5 s4 hb5 KO);have Xi:=zh (JD.o w5 hb5)
  try dsimp only at Te
  have gj:=zh ((HX.o.bb hb).eL (d:=g) (by omega) (t_ (k*14) num rev md sz s4 LV GA));have jN:=zh ((HR.o.bb hb).eL (d:=g) (by omega) (t_ (k*14) num rev md sz s4 LV GA));have gW:=zh (zC (B:=w.heap.size) (b:=g) (by omega) (t_ (k*14) num rev md sz s4 LV GA) (zA HB.o hb));have HZ5:=zh (show W.heap.size<=(pts w5 g (t_ (k*14) num rev md sz s4 LV GA)).heap.size by rw[wh];exact ak Cv hb.size);clear KO hb hb5 jY JD;change wpList _ _ _ (_::_::[]) _ _;go_wp2_with ((with_reducible refine wpList_store_mid ?_ 38 (.tmp 22) (.tmp 21) ?_ g (k*14) (zU num rev md sz s4 LV GA) ?_ ?_ ?_ ?_ ?_ ?_);rfl;rfl;rfl;rfl;exact Xi.o;exact WX;exact qP _ _ _ _ _ _ _;rw[qJ]);exact ⟨⟨k+1,_,by go_num,by omega,Te,gj,jN,gW,HZ5⟩,by simp[intOf];omega⟩
 have i1:¬ (k:Int)<(n:Int):=by omega
 obtain rfl:k=n:=by omega
 have HO:=zh HC.o.all;have HF:=zh HC.o.fst;clear HC;obtain ⟨k0,k1,k2,k3⟩:=HX.o.q;have Ph:=jb.o;obtain ⟨z0,z1,z2,z3⟩:=HR.o.q;have zf:=HR.o.f;go_wp2_with fail;change bodyPost _ _ _ _ _ (pts wr (w.heap.size+1) (zI i l r a1 k c1));have Cq:=zh ((HO.o.pts (b:=w.heap.size+1) (by omega) (zI i l r a1 k c1)).lower (show w.heap.size<=W.heap.size by omega));have hby:=HR.o.all i l r a1 k c1;have eN:=zh (zC (B:=w.heap.size) (b:=(w.heap.size+1)) (by omega) (zI i l r a1 k c1) HB.o);generalize pts wr (w.heap.size+1) (zI i l r a1 k c1)=V at *;exact au (v:=zQ i l r a1 k c1) (by simp[results,results59,go_sem,hby.c0,hby.c1,hby.c2,hby.c3]) rfl (⟨⟨a1,c1,M,rfl,Cq.o,HF.o⟩,eN.o⟩)
def zKT (y:GP) (bg:Nat) (num rev md sz:Int) (s:Sl) (LV GA:Int) (w:World) (hg:eU w bg num rev md sz s LV GA) :
  Calls prog 58 #[ze y.1.num y.1.rev y.1.mode y.1.size y.2 y.1.m.live y.1.m.ew,.pointer (some ⟨bg,0,none⟩)] w fun e w'=>e=.returned (.bool (y.1.num==num))/\Below w.heap.size w w':=by
 obtain ⟨⟨yn,yr,ym,yz,⟨yf,yL,yG⟩⟩,ys⟩:=y;dsimp only;have fq:=zT w yn yr ym yz ys yL yG 38;have HY:=zh (eU.new w yn yr ym yz ys yL yG 38);have HG:=zh (hg.bb fq);have HB:=zh fq;clear hg fq
 go_enter func58,ntmps58
 go_upto_region 1 with fail;change Code.wp _ _ _ _ (w.alloc (.cells (zU yn yr ym yz ys yL yG) 38));generalize w.alloc (.cells (zU yn yr ym yz ys yL yG) 38)=w1 at *;have q0:=HY.o.n0;have q1:=HG.o.n0;go_wp2_with fail;go_ret;exact ⟨rfl,HB.o⟩
def NR (L:List GP) (num:Int) (z:Int):Prop:=(∃ k,k<L.length/\z=(k:Int)/\(pat L k).1.num=num/\∀ j,j<k->(pat L j).1.num≠num)∨(z=-1/\∀ j,j<L.length->(pat L j).1.num≠num)
def zGr (a:Option Addr) (n c:Nat) (L:List GP) (bg:Nat) (num rev md sz:Int) (s:Sl) (LV GA:Int) (w:World) (h:fB w (.slice a n c) L) (hn:n<=1000000) (hg:eU w bg num rev md sz s LV GA) :
  Calls prog 57 #[.slice a n c,.func (.func 58) #[] #[.pointer (some ⟨bg,0,none⟩)]] w fun e w'=>(∃ z,e=.returned (.int .i64 z)/\NR L num z)/\Below w.heap.size w w':=by
 have fT:L.length=n:=by
  obtain ⟨_,_,e,_⟩:=h.shape;injection e with _ e _;exact e.symm
 have Hr:=zh h;have Hg:=zh hg;have jJ:=zh fT;clear h hg fT
 go_enter func57,ntmps57
 go_wp2_with fail
 go_loopw [8] (fun i wr=>∃ k:Nat,k<=n/\i=.int .i64 (k:Int)/\Hid (∀ j,j<k->(pat L j).1.num≠num)/\Hid (Below w.heap.size w wr)) (fun i _=>n-(intOf i).toNat)
 case atStart=>exact ⟨0,aq _,rfl,zh (fun j hj=>absurd hj (by omega)),zh (aj _ _)⟩
 obtain ⟨k,hk,rfl,nr,Hb⟩:=hrel
 by_cases hlt:k<n
 ·have hr:=Hr.o.bb Hb.o;obtain ⟨b,off,rfl,hat⟩:=hr.at hlt;have HV:=zh (fun W (hb:Below wr.heap.size wr W)=>zKT (pat L k) bg num rev md sz s LV GA W ((Hg.o.bb Hb.o).bb hb))
  have Cr:=zh (show (pat L k).1.num≠num->∀ j,j<k+1->(pat L j).1.num≠num from fun ho j hj=>by
   by_cases e:j=k
   ·subst e;exact ho
   exact nr.o j (by omega))
  have JL:Hid ((pat L k).1.num=num->NR L num (k:Int)):=zh (fun e=>.inl ⟨k,by rw[jJ.o];exact hlt,rfl,e,nr.o⟩);clear hr;generalize pat L k=p at *;obtain ⟨⟨xn,xr,xm,xz,⟨xf,xL,xG⟩⟩,xs⟩:=p;obtain ⟨g0,g1,g2,g3,g4,g5,g6,g7,g8,g9,g10,g11,g12,g13⟩:=hat;dsimp only at g0 g1 g2 g3 g4 g5 g6 g7 g8 g9 g10 g11 g12 g13 HV Cr JL;have i1:(k:Int)<(n:Int):=by omega
  go_wp2_with fail;refine (HV.o _ (aj _ _)).mono ?_;rintro e w1 ⟨rfl,hb1⟩;have nS:=zh (zA Hb.o hb1)
  by_cases hx:xn=num
  ·have HF:=zh (JL.o hx);have hx1:(xn==num)=true:=by simp[hx]
   clear hb1 hx Cr JL HV;go_wp2_with fail;go_ret;exact ⟨⟨_,rfl,HF.o⟩,nS.o⟩
  have HF:=zh (Cr.o hx);have hx1:(xn==num)=false:=by simp[hx]
  clear hb1 hx Cr JL HV;go_wp2_with fail;exact ⟨⟨k+1,by omega,by go_num,HF,nS⟩,by simp[intOf];omega⟩
 obtain rfl:k=n:=by omega
 have i1:¬ (k:Int)<(k:Int):=by omega
 have HF:Hid (NR L num (-1)):=zh (.inr ⟨rfl,by rw[jJ.o];exact nr.o⟩);go_wp2_with fail;go_ret;exact ⟨⟨_,rfl,HF.o⟩,Hb.o⟩
def zKe:wQ prog 87 24 1 8:=by
 obtain ⟨i,hi,hz,hs,hb⟩:=cq (P:=prog) (e:=24) (z:=.int .u64 0) (size:=1) (bytes:=8) (by kernel_rfl);exact ⟨underlying87,by decide,i,_,hi,hz,hs,hb,rfl⟩
end Go.Proofs.YtcgfilmmokmdjaaGreat
