import Derived.Test.YtcgfilmmokmdjaaGreatBd
import Derived.Test.YtcgfilmmokmdjaaGreatHg
set_option linter.all false
set_option maxRecDepth 100000
set_option maxHeartbeats 32000000
namespace Go.Proofs.YtcgfilmmokmdjaaGreat
open Go.RowKit
def zOG (s:fk) (a:Option Addr) (n c:Nat) (L:List GP) (W:World) (hr:fB W (.slice a n c) L) (hg:ey L=s.ep) (hl:fF 1000 s.ep) :
    Calls Tryz.prog 11 #[zQ s.id s.lim s.ro a n c] W (NC W (wU s)):=by
  have h:=zHY s.id s.lim s.ro a n c L W hr (yx (hg▸hl) (by decide));obtain ⟨i,l,r,g⟩:=s;dsimp only at hg h |-;subst hg;exact h
def zHS (s:fk) (a:Option Addr) (n c:Nat) (L:List GP) (W:World) (hr:fB W (.slice a n c) L) (hg:ey L=s.ep) (hs:fF 1000 s.ep) (g:Gn) (sl:Sl) (hm:fN W sl g.m.st) (hl:∀ j,j<8->(g.m.st j).length<=10000) :
    Calls Tryz.prog 14 #[zQ s.id s.lim s.ro a n c,ze g.num g.rev g.mode g.size sl g.m.live g.m.ew] W (FB W (yS s g)):=by
  have h:=zFO s.id s.lim s.ro a n c L W hr (yx (hg▸hs) (by decide)) (g,sl) hm hl;obtain ⟨i,l,r,gs⟩:=s;dsimp only at hg h |-;subst hg;exact h
def Tj {s:fk} {K:Nat} (h:fF K s.ep):∀ i,i<8->((wU s).2.m.st i).length<=K:=fun i hi=>by
  unfold wU
  split
  · rename_i hv
    exact h _ (vr ((zX s).1 hv)) i hi
  exact aq _
def uF {g:Gn} {l:List Nd} {K:Nat} (h:∀ i,i<8->(g.m.st i).length<=K):∀ i,i<8->((yZ g l).2.m.st i).length<=K+l.length:=fun i hi=>by
  have h0:((gX).m.st i).length<=K+l.length:=aq _;unfold yZ
  split
  · split
    · split
      · exact ws l g h i hi
      exact h0
    exact h0
  exact h0
def zHr (B:Nat) (p:fk×Int):lZ:=⟨fun v w=>∃ a n c L,v=.tuple #[zQ p.1.id p.1.lim p.1.ro a n c,.int .i64 p.2]/\ix w B (.slice a n c) L/\ey L=p.1.ep,fun _ _ _ hb ⟨a,n,c,L,h1,h2,h3⟩=>⟨a,n,c,L,h1,h2.bb hb,h3⟩⟩
def zMu (B:Nat) (s:fk):lZ:=⟨fun v w=>∃ a n c L,v=zQ s.id s.lim s.ro a n c/\ix w B (.slice a n c) L/\ey L=s.ep,fun _ _ _ hb ⟨a,n,c,L,h1,h2,h3⟩=>⟨a,n,c,L,h1,h2.bb hb,h3⟩⟩
variable {W:World} {B gn gc:Nat} {ga:Option Addr} {L:List GP} {kv nv rv:Value} {ks:List KP} {es:List (Nd×Value)}
def nj.slot {P:fP} {jo:Option Addr} {jq gc':Nat} {L':List GP} (h:nj W B P ga gn gc L kv ks nv es rv) (s:fk) (hg:ix W B (.slice jo jq gc') L') (rh:ey L'=s.ep):nj W B {P with t:=s} jo jq gc' L' kv ks nv es rv:=
  ⟨hg,rh,h.k,h.kk,h.n,h.nn,h.r⟩
def fM (W W':World) (B:Nat) (T:TypeId):Prop:=Below W.heap.size W W'∨∃ g,gO W W' B g T
variable {W':World} {B' sz n:Nat} {T:TypeId} {v:Value} {xs:List Value}
def fM.row (hown:W.ownsRow B T sz v n xs) (hg:W.grownBy W' v.ownBlock) (hB:B'<=B):fM W W' B' T:=by
  cases h:v.ownBlock with
  |none =>
    rw[h] at hg;exact .inl (Below.grown (aj _ _) hg (ag _) fun k hk=>by cases hk)
  |some g =>
    rw[h] at hg;exact .inr ⟨g,gO.grown (ak hB (hown.lt g h).1) (Lib.ownsRow_kind hown g h) hg (.inr rfl)⟩
variable {T':TypeId}
def iI.fC (h:iI W B T sz v n xs) (ho:fM W W' B T') (hne:T≠T'):iI W' B T sz v n xs:=by
  rcases ho with ho|⟨g,ho⟩
  · exact h.bb ho
  exact h.ik ho hne
def ix.fC (h:ix W B v L) (ho:fM W W' B T') (h1:38≠T') (h2:49≠T'):ix W' B v L:=by
  rcases ho with ho|⟨g,ho⟩
  · exact h.bb ho
  exact h.ik ho h1 h2
def iV.fC (h:iV W B v ks) (ho:fM W W' B T') (h1:89≠T') (h2:24≠T'):iV W' B v ks:=by
  rcases ho with ho|⟨g,ho⟩
  · exact h.bb ho
  exact h.ik ho h1 h2
def gH.fC (h:gH W B v es) (ho:fM W W' B T') (h1:56≠T') (h2:5≠T'):gH W' B v es:=by
  rcases ho with ho|⟨g,ho⟩
  · exact h.bb ho
  exact h.ik ho h1 h2
def yV (h:W.ownsRow B' T sz v n xs) (ho:fM W W' B T') (hne:T≠T'):W'.ownsRow B' T sz v n xs:=by
  rcases ho with ho|⟨g,ho⟩
  · exact zE h ho
  exact yT h ho hne
variable {b:Nat} {cs:Array Value}
def eu.fC (h:eu W b cs T) (ho:fM W W' B T') (hne:T≠T'):eu W' b cs T:=by
  rcases ho with ho|⟨g,ho⟩
  · exact h.bb ho
  unfold eu
  rw[ho.blk b h.lt (fun e=>by
    obtain ⟨c,f,h1⟩:=ho.ty
    have h2:W.heap[b]?=some (.cells cs T (0,0)):=h
    rw[<- e,h2] at h1
    injection h1 with h1
    injection h1 with _ h1
    exact hne h1)]
  exact h
def Qe:List TypeId:=[145,56,89,24,39]
structure fQ (B:Nat) (w W:World):Prop where
  b:Below B w W
  k:∀ (i:Nat) (c:Array Value) (T:TypeId) (f:Nat×Nat),w.heap[i]?=some (Obj.cells c T f)->T∉Qe->W.heap[i]?=some (Obj.cells c T f)
def fQ.size {B:Nat} {w W:World} (h:fQ B w W):w.heap.size<=W.heap.size:=h.b.size
variable {w:World}
def fQ.of (h:Below w.heap.size w W) (hB:B<=w.heap.size):fQ B w W:=⟨h.mono hB,fun i c T f h1 _=>by rw[h.block i (Array.getElem?_eq_some_iff.1 h1).1];exact h1⟩
def fQ.trans {B:Nat} {w W W':World} (h:fQ B w W) (h2:fQ B W W'):fQ B w W':=⟨h.b.trans h2.b,fun i c T f h1 hT=>h2.k i c T f (h.k i c T f h1 hT) hT⟩
def fQ.step (h:fQ B w W) (hb:Below W.heap.size W W') (hB:B<=W.heap.size):fQ B w W':=h.trans (fQ.of hb hB)
def fQ.fC (h:fQ B w W) (ho:fM W W' B' T) (hT:T∈Qe) (hb:Below B w W'):fQ B w W':=⟨hb,fun i c T2 f h1 Qf=>by
  have h2:=h.k i c T2 f h1 Qf
  have hlt:=(Array.getElem?_eq_some_iff.1 h2).1
  rcases ho with ho|⟨g,ho⟩
  · rw[ho.block i hlt];exact h2
  rw[ho.blk i hlt (fun e=>by
    obtain ⟨c',f',h3⟩:=ho.ty
    rw[<- e,h2] at h3
    injection h3 with h3
    injection h3 with _ h3
    exact Qf (h3▸hT))]
  exact h2⟩
def fQ.pts {B b:Nat} {w W:World} {T:TypeId} (h:fQ B w W) (hlo:B<=b) (vs:List (Nat×Value)) (ht:∃ c f,W.heap[b]?=some (.cells c T f)) (hT:T∈Qe):fQ B w (Go.Proofs.YtcgfilmmokmdjaaGreat.pts W b vs):=
  h.fC (.inr ⟨b,gO.pts hlo ht vs⟩) hT (zC hlo vs h.b)
def fQ.own (h:fQ B w W) (hown:W.ownsRow B T sz v n xs) (hB:B<=W.heap.size) (hg:W.grownBy W' v.ownBlock) (hT:T∈Qe):fQ B w W':=
  h.fC (fM.row hown hg (ag B)) hT (zK h.b hown hB hg)
def fQ.box (h:fQ B w W) (hb:eu w b cs T) (hT:T∉Qe):eu W b cs T:=h.k _ _ _ _ hb hT
def nj.need {P:fP} {oT:Value} (h:nj W B P ga gn gc L kv ks nv es rv) (x:Nd) (dv:Value) (hd:gD W B dv x.data)
    (hg:W.grownBy W' nv.ownBlock) (ho:W'.ownsRow B 56 4 oT (es.length+1) (xI es++vI (x,dv))):nj W' B {P with needs:=P.needs++[x]} ga gn gc L kv ks oT (es++[(x,dv)]) rv:=by
  have hO:=fM.row h.n.row hg (ag _);refine ⟨h.g.fC hO (by decide) (by decide),h.gg,h.k.fC hO (by decide) (by decide),h.kk,⟨?_,fun p hp=>?_⟩,?_,yV h.r hO (by decide)⟩
  · have e:xI (es++[(x,dv)])=xI es++vI (x,dv):=by unfold xI;rw[cn];simp
    rw[e,ax];exact ho
  · rcases List.mem_append.1 hp with hp|hp
    · exact iI.fC (h.n.dat p hp) hO (by decide)
    obtain rfl:=List.mem_singleton.1 hp;exact iI.fC hd hO (by decide)
  rw[aU,h.nn];rfl
def zNn (i l:Int) (r:Bool) (ga:Option Addr) (gn gc:Nat) (eH:Bool) (kv nv rv:Value) (iC:Int) (u:Value):(qS i l r ga gn gc eH kv nv rv iC).setIfInBounds 7 u=qS i l r ga gn gc eH kv u rv iC:=by
  simp only[aJ,aK,aI]
def zNg (i l:Int) (r:Bool) (ga:Option Addr) (gn gc:Nat) (eH:Bool) (kv nv rv:Value) (iC z:Int):(qS i l r ga gn gc eH kv nv rv iC).setIfInBounds 9 (.int .i64 z)=qS i l r ga gn gc eH kv nv rv z:=by
  simp only[aJ,aK,aI]
def zOA (h:eu W b cs T) (_:W.ownsRow B T sz v n xs) (hg:W.grownBy W' v.ownBlock) (hne:v.ownBlock≠some b):eu W' b cs T:=h.grown hg fun e=>hne e.symm
def zAj (i l:Int) (r:Bool) (ga:Option Addr) (gn gc:Nat) (eH:Bool) (kv nv rv:Value) (iC:Int) (i' l':Int) (r':Bool) (jo:Option Addr) (jq gc':Nat) :
    (zI i' l' r' jo jq gc').foldl (fun cs p=>cs.setIfInBounds p.1 p.2) (qS i l r ga gn gc eH kv nv rv iC)=qS i' l' r' jo jq gc' eH kv nv rv iC:=by
  simp only[cZ,dD,aJ,aK,aI]
def zFp {P:fP} (hlo:B<=b) (hP:Ac w b P.t.id P.t.lim P.t.ro ga gn gc P.eH kv nv rv P.bytes) (hR:nj w B P ga gn gc L kv ks nv es rv) (hl:fF 900 P.t.ep) (hB:B<=w.heap.size) (x:Nd) (da:Option Addr) (dn dc:Nat) (hx:gD w B (.slice da dn dc) x.data) (lu:x.data.length=dn) (iz:dn<=100000) (hel:es.length<=1000) (hby:0<=P.bytes/\P.bytes<=1000000000) :
    Calls Tryz.prog 147 #[.pointer (some ⟨b,0,none⟩),.agg #[.int .u64 (x.key:Int),.int .u32 (x.ck:Int),.bool x.del,.slice da dn dc]] w fun e w'=>e=.returned (.tuple #[])/\AX w' B b (xR P x)/\fQ B w w':=by
  have fS:b<w.heap.size:=hP.lt;have KT:∀ g,nv.ownBlock=some g->g<w.heap.size:=fun g h=>(hR.n.row.lt g h).2
  have EP:eY dn<=4127:=wI dn;have FC:=zh (fun W (hb:Below w.heap.size w W)=>zOG P.t ga gn gc L W (hR.g.rd.bb hb) hR.gg (hl.mono (by decide)));have Jp:=Tj hl;have lL:=zh (fun W sT v (hm:fN W sT (wU P.t).2.m.st) (hr:mJ W v [(x,.slice da dn dc)])=>zH4 (wU P.t).2 sT v [(x,.slice da dn dc)] 900 W hm Jp hr (by simp));have nR:=zh (fun W sA (hb:Below w.heap.size w W) (hm:fN W sA (yZ (wU P.t).2 [x]).2.m.st)=>zHS P.t ga gn gc L W (hR.g.rd.bb hb) hR.gg (hl.mono (by decide)) (yZ (wU P.t).2 [x]).2 sA hm (fun j hj=>ak (uF Jp j hj) (by simp)));have rI:Hid (xR P x={P with t:=(yS P.t (yZ (wU P.t).2 [x]).2).1,needs:=P.needs++[x],bytes:=P.bytes+(eY x.data.length:Int)}):=zh (rfl);generalize xR P x=P1 at *;simp only[List.map_cons,List.map_nil] at lL;generalize yS P.t (yZ (wU P.t).2 [x]).2=C at *;obtain ⟨C,ce⟩:=C
  generalize Xt:wU P.t=TT at *;clear Xt Jp;obtain ⟨te,T⟩:=TT;generalize Xu:yZ T [x]=AA at *;clear Xu;obtain ⟨ae,A⟩:=AA;obtain ⟨tn,tr,tm,tz,⟨tf,tL,tG⟩⟩:=T;obtain ⟨an,ar,am,az,⟨af,aL,aG⟩⟩:=A;dsimp only at FC lL nR rI;have HD:=zh hx;have HP:=zh hP;have HR:=zh hR;have jb:=zh (fun W=>qm dn W (by omega));have Xv:=zh (show (eY x.data.length:Int)=(eY dn:Int) by rw[lu]);clear hP hR hx hl;have Kk:Hid (vI (x,.slice da dn dc)=[.int .u64 (x.key:Int),.int .u32 (x.ck:Int),.bool x.del,.slice da dn dc]):=zh (rfl);generalize (x.key:Int)=xk at *;generalize (x.ck:Int)=xq at *;generalize x.del=xd at *
  go_enter Tryz.func147,Tryz.ntmps147
  go_upto_region 1 with fail;change Code.wp _ _ _ _ (.alloc _ (.cells _ 56));obtain ⟨w1,hV,eG,HX⟩:=dY w #[.int .u64 xk,.int .u32 xq,.bool xd,.slice da dn dc] 56;rw[hV];clear hV;have HB:=zh eG;replace HD:=zh (HD.o.bb eG);replace HP:=zh (HP.o.bb eG);replace HR:=zh (HR.o.bb eG);have hb3:b<w.heap.size:=fS;clear eG;generalize oU:w.heap.size=b3 at *;have Qg:=zh oU;have hz1:w.heap.size<=b3:=by omega
  have hz2:b3<=w.heap.size:=by omega
  clear oU;have p0:=HP.o.cell (i:=0) rfl;have p1:=HP.o.cell (i:=1) rfl;have p2:=HP.o.cell (i:=2) rfl;have p3:=HP.o.cell (i:=3) rfl;go_wp2_with fail;refine (FC.o w1 HB.o).mono ?_;rintro e w2 ⟨⟨sT,rfl,ho⟩,hb⟩;dsimp only;clear p0 p1 p2 p3 FC;have eX:=zh (hb.mono (ag _));have HT:Hid (fN w2 sT tf):=zh (ho.rd);clear ho;replace HX:=zh (HX.o.bb hb);replace HD:=zh (HD.o.bb hb);replace HP:=zh (HP.o.bb hb);replace HR:=zh (HR.o.bb hb);replace HB:=zh (HB.o.trans (hb.mono (by have:=HB.o.size;omega)));clear hb eX;have sX:=HR;have CV:=HP;have Ge:=HD;have mo:=HX;have eX:=HB;go_upto_region 2 with fail;change Code.wp _ _ _ _ (w2.alloc (.cells (zU tn tr tm tz sT tL tG) 38));obtain ⟨w3,hV,eG,HG⟩:=dY w2 (zU tn tr tm tz sT tL tG) 38;rw[hV];clear hV;have Aj:b3<=w2.heap.size:=ak hz2 HB.o.size
  have hX3:b3<w2.heap.size:=HX.o.lt;replace HT:=zh (HT.o.bb eG);replace HX:=zh (HX.o.bb eG);replace HD:=zh (HD.o.bb eG);replace HP:=zh (HP.o.bb eG);replace HR:=zh (HR.o.bb eG);replace HB:=zh (HB.o.trans (eG.mono Aj));have jZ:=zh eG;clear eG;generalize GF:w2.heap.size=b4 at *;have Qh:=zh GF;have hz3:w2.heap.size<=b4:=by omega
  have S1:b4<=w2.heap.size:=by omega
  clear GF;obtain ⟨g0,g1,g2,g3,g4,g5,g6,g7,g8,g9,g10,g11,g12,g13⟩:=HG.o.gen.q;have n0:=HX.o.cell (i:=0) rfl;have n1:=HX.o.cell (i:=1) rfl;have n2:=HX.o.cell (i:=2) rfl;have n3:=HX.o.cell (i:=3) rfl;go_wp2_with fail;have eG:=(aj w3.heap.size w3).alloc (ag _) (.cells #[.int .u64 xk,.int .u32 xq,.bool xd,.slice da dn dc] 56);have HN:Hid (mJ (w3.alloc (.cells #[.int .u64 xk,.int .u32 xq,.bool xd,.slice da dn dc] 56)) (.slice (some ⟨w3.heap.size,0,none⟩) 1 1) [(x,.slice da dn dc)]):=zh (⟨by rw[show xI [(x,.slice da dn dc)]=[.int .u64 xk,.int .u32 xq,.bool xd,.slice da dn dc] by unfold xI;rw[cC,List.flatMap_nil,cz,Kk.o]];exact Rd.new w3 4 [.int .u64 xk,.int .u32 xq,.bool xd,.slice da dn dc] 56 1 rfl (by decide),fun p hp=>by obtain rfl:=List.mem_singleton.1 hp;exact il.bb HD.o.1 eG⟩)
  refine (lL.o _ sT _ (HT.o.bb eG) HN.o).mono ?_;rintro e w4 ⟨⟨sA,rfl,ho⟩,hb⟩;dsimp only;replace hb:=zA eG hb;clear g0 g1 g2 g3 g4 g5 g6 g7 g8 g9 g10 g11 g12 g13;clear n0 n1 n2 n3 HN lL eG;have HA:Hid (fN w4 sA af):=zh (ho.rd);have Dy:b3<=w3.heap.size:=ak hz2 HB.o.size;have hb4:b4<w3.heap.size:=HG.o.lt;replace HG:=zh (HG.o.bb hb);replace HX:=zh (HX.o.bb hb);replace HD:=zh (HD.o.bb hb);replace HP:=zh (HP.o.bb hb);replace HR:=zh (HR.o.bb hb);replace HB:=zh (HB.o.trans (hb.mono Dy));replace jZ:=zh (jZ.o.trans (hb.mono (show b4<=w3.heap.size by omega)));clear ho hb HT;obtain ⟨g0,g1,g2,g3,g4,g5,g6,g7,g8,g9,g10,g11,g12,g13⟩:=HG.o.gen.q;have gf:=HG.o.gen.f;go_upto_region 3 with fail;change Code.wp _ _ _ _ (pts w4 b4 (zS an ar am az sA aL aG));have Qi:=zh (HG.o.pP an ar am az sA aL aG)
  have Mg:=zh (fN.gen HA.o HG.o (zS an ar am az sA aL aG));have ER:=zC (B:=b4) (b:=b4) (ag _) (zS an ar am az sA aL aG) jZ.o;have gW:=zh (zC (B:=b3) (b:=b4) Aj (zS an ar am az sA aL aG) HB.o);clear HG HA HX HP HR HD HB jZ;clear g0 g1 g2 g3 g4 g5 g6 g7 g8 g9 g10 g11 g12 g13 gf;generalize pts w4 b4 (zS an ar am az sA aL aG)=v5 at *;rw[<- Qh.o] at ER;have HP:=zh (CV.o.bb ER);have HR:=zh (sX.o.bb ER);have HD:=zh (Ge.o.bb ER);have HX:=zh (mo.o.bb ER);clear ER CV sX Ge mo eX;have Fz:B<=v5.heap.size:=by have:=gW.o.size;omega
  go_cut [32] (fun vq wx=>vq=.pointer (some ⟨b,0,none⟩)/\∃ jo jq gc' L',Hid (Ac wx b C.id C.lim C.ro jo jq gc' P.eH kv nv rv P.bytes)/\Hid (nj wx B {P with t:=C} jo jq gc' L' kv ks nv es rv)/\Hid (gD wx B (.slice da dn dc) x.data)/\Hid (eu wx b3 #[.int .u64 xk,.int .u32 xq,.bool xd,.slice da dn dc] 56)/\Hid (fQ B w wx))
  case first =>
    refine yQ [eT (.pointer (some ⟨b,0,none⟩)),eT (.pointer (some ⟨b,0,none⟩)),eT (.pointer (some ⟨b,0,none⟩)),eT (.pointer (some ⟨b,0,none⟩)),eT (zQ P.t.id P.t.lim P.t.ro ga gn gc),eT (ze an ar am az sA aL aG),zHr B (C,ce),zHr B (C,ce),zMu B C,eT (.int .i64 ce),eT (.pointer (some ⟨b,0,none⟩)),eT (.pointer (some ⟨b,0,none⟩))] [] 56 9 (by kernel_rfl) (by kernel_rfl) rfl rfl (by decide) (by rfl) (by kernel_rfl) (fun f=>by simp[fU,zW,Act.put];exact rfl) ?_ ?_ ?_
    · refine ⟨?_,?_,?_,?_,?_,?_,?_,?_,?_,?_,?_,?_,trivial⟩
      · intro f w1 hb hd
        clear hd;dsimp only;go_wp2_with fail;exact pS rfl (by simp)
      · intro f w1 hb hd
        clear hd;dsimp only;go_wp2_with fail;exact pS rfl (by simp)
      · intro f w1 hb hd
        have d1:f 1=_:=hd 1 (by kernel_rfl);clear hd;dsimp only;rw[d1];go_wp2_with fail;exact pS rfl (by simp)
      · intro f w1 hb hd
        have d2:f 2=_:=hd 2 (by kernel_rfl);clear hd;dsimp only;rw[d2];go_wp2_with fail;exact pS rfl (by simp)
      · intro f w1 hb hd
        have d3:f 3=_:=hd 3 (by kernel_rfl);clear hd;dsimp only;rw[d3];have hx:=HP.o.bb hb;have q0:=hx.cell (i:=0) rfl;have q1:=hx.cell (i:=1) rfl;have q2:=hx.cell (i:=2) rfl;have q3:=hx.cell (i:=3) rfl;clear hx;go_wp2_with fail;exact pS rfl (by simp)
      · intro f w1 hb hd
        clear hd;dsimp only;have hx:=(Qi.o.bb hb).gen;obtain ⟨q0,q1,q2,q3,q4,q5,q6,q7,q8,q9,w_,y_,z_,Aa⟩:=hx.q;clear hx;go_wp2_with fail;exact pS rfl (by simp)
      · intro f w1 hb hd
        have d4:f 4=_:=hd 4 (by kernel_rfl);have d5:f 5=_:=hd 5 (by kernel_rfl);clear hd;dsimp only;rw[d4];rw[d5];go_wp2_with fail;refine (nR.o w1 sA (gW.o.trans (hb.mono (ak hz2 gW.o.size))) (Mg.o.bb hb)).mono ?_;rintro e w9 ⟨⟨qa,qn,qc,qL,rfl,hown,hgn⟩,gy⟩;have ru:Hid (ix w9 B (.slice qa qn qc) qL):=zh (ix.own hown);have iZ:=zh hgn;clear hown hgn;go_wp2_with fail;exact pRg gy ⟨qa,qn,qc,qL,rfl,ru.o,iZ.o⟩ (by simp)
      · intro f w1 hb hd
        obtain ⟨a6,n6,c6,L6,d6,r6,g6⟩:=hd 6 (by kernel_rfl);clear hd;dsimp only;rw[d6];have ru:=zh r6;have iZ:=zh g6;clear r6 g6;go_wp2_with fail;exact pRg (aj _ _) ⟨a6,n6,c6,L6,rfl,ru.o,iZ.o⟩ (by simp)
      · intro f w1 hb hd
        obtain ⟨a7,n7,c7,L7,d7,r7,g7⟩:=hd 7 (by kernel_rfl);clear hd;dsimp only;rw[d7];have ru:=zh r7;have iZ:=zh g7;clear r7 g7;go_wp2_with fail;exact pRg (aj _ _) ⟨a7,n7,c7,L7,rfl,ru.o,iZ.o⟩ (by simp)
      · intro f w1 hb hd
        obtain ⟨a7,n7,c7,L7,d7,r7,g7⟩:=hd 7 (by kernel_rfl);clear hd;dsimp only;rw[d7];clear r7 g7;go_wp2_with fail;exact pS rfl (by simp)
      · intro f w1 hb hd
        have d0:f 0=_:=hd 0 (by kernel_rfl);clear hd;dsimp only;rw[d0];go_wp2_with fail;exact pS rfl (by simp)
      intro f w1 hb hd;have d10:f 10=_:=hd 10 (by kernel_rfl);clear hd;dsimp only;rw[d10];go_wp2_with fail;exact pS rfl (by simp)
    · intro f w8 hb hd iX
      clear iX;obtain ⟨a8,n8,c8,L8,d8,r8,g8⟩:=hd 8 (by simp);have d11:f 11=_:=hd 11 (show 11<12 by decide)
      try dsimp only
      rw[d8,d11];clear hd d8 d11;have gR:=HP.o.bb hb;have HO:=gO.pts (T:=145) hlo ⟨_,_,gR⟩ (zI C.id C.lim C.ro a8 n8 c8);have jB:Hid (Ac _ b C.id C.lim C.ro a8 n8 c8 P.eH kv nv rv P.bytes):=zh ((by have h:=eu.sets (zI C.id C.lim C.ro a8 n8 c8) gR;rw[zAj] at h;exact h));have iw:=zh (((HR.o.bb hb).slot C r8 g8).ik HO);have HDn:Hid (gD _ B _ _):=zh (iI.ik (HD.o.bb hb) HO (by decide));have GG:=zh ((HX.o.bb hb).eL (show b3≠b by omega) (zI C.id C.lim C.ro a8 n8 c8));have fH:=zh ((fQ.of ((gW.o.trans (hb.mono (ak hz2 gW.o.size))).mono hz1) (ak hB hz2)).pts hlo (zI C.id C.lim C.ro a8 n8 c8) ⟨_,_,gR⟩ (by decide));have q0:=gR.cell (i:=0) rfl;have q1:=gR.cell (i:=1) rfl;have q2:=gR.cell (i:=2) rfl;have q3:=gR.cell (i:=3) rfl;have qf:=gR.frozen;clear r8 g8 hb gR HO
      change wpList _ _ _ (_::[]) _ _;go_wp2_with fail;go_meet
      case rel=>exact ⟨rfl,a8,n8,c8,L8,jB,iw,HDn,GG,fH⟩
    intro f w8 hb hd iX;clear iX;obtain ⟨a8,n8,c8,L8,d8,r8,g8⟩:=hd 8 (by simp) (by decide);have d11:f 11=_:=hd 11 (show 11<12 by decide) (by decide);obtain ⟨a7,n7,c7,L7,d7,r7,g7⟩:=hd 7 (by simp) (by decide);clear r7 g7
    try dsimp only
    rw[d7,d8,d11];clear hd d7 d8 d11;have gR:=HP.o.bb hb;have HO:=gO.pts (T:=145) hlo ⟨_,_,gR⟩ (zI C.id C.lim C.ro a8 n8 c8);have jB:Hid (Ac _ b C.id C.lim C.ro a8 n8 c8 P.eH kv nv rv P.bytes):=zh ((by have h:=eu.sets (zI C.id C.lim C.ro a8 n8 c8) gR;rw[zAj] at h;exact h));have iw:=zh (((HR.o.bb hb).slot C r8 g8).ik HO);have HDn:Hid (gD _ B _ _):=zh (iI.ik (HD.o.bb hb) HO (by decide));have GG:=zh ((HX.o.bb hb).eL (show b3≠b by omega) (zI C.id C.lim C.ro a8 n8 c8));have fH:=zh ((fQ.of ((gW.o.trans (hb.mono (ak hz2 gW.o.size))).mono hz1) (ak hB hz2)).pts hlo (zI C.id C.lim C.ro a8 n8 c8) ⟨_,_,gR⟩ (by decide));have q0:=gR.cell (i:=0) rfl;have q1:=gR.cell (i:=1) rfl;have q2:=gR.cell (i:=2) rfl;have q3:=gR.cell (i:=3) rfl;have qf:=gR.frozen;clear r8 g8 hb gR HO
    change wpList _ _ _ (_::_::[]) _ _;go_wp2_with fail;go_meet
    case rel=>exact ⟨rfl,a8,n8,c8,L8,jB,iw,HDn,GG,fH⟩
  obtain ⟨rfl,jo,jq,gc',L',HP,HR,HD,HX,HB⟩:=hcut;generalize wc=v6 at *;obtain ⟨na,nc,JO,EB,nJ,_⟩:=zG HR.o.n.row;subst JO;have Gs:B<=v6.heap.size:=ak (ak hB hz2) HB.o.size;have lX:b<v6.heap.size:=HP.o.lt;have h36:b3<v6.heap.size:=HX.o.lt;have eG:=zV ((aj v6.heap.size v6).alloc (ag _) (.cells #[.int .u64 xk,.int .u32 xq,.bool xd,.slice da dn dc] 56));have pQ:=zh (HP.o.bb eG);have lS:=zh (HR.o.bb eG);have Tm:Hid (gD _ B _ _):=zh (iI.bb HD.o eG);have NS:=zh (HX.o.bb eG);have h_:=zh (HB.o.step eG Gs);have j_:=zh lS.o.n.row;have Cw:=zh (fun W (hg:(World.drew (v6.alloc (.cells #[.int .u64 xk,.int .u32 xq,.bool xd,.slice da dn dc] 56))).grownBy W (Value.slice na es.length nc).ownBlock)=>pQ.o.fC (fM.row j_.o hg (ag _)) (by decide))
  have hwX:=fun {W:World} (hg:(World.drew (v6.alloc (.cells #[.int .u64 xk,.int .u32 xq,.bool xd,.slice da dn dc] 56))).grownBy W (Value.slice na es.length nc).ownBlock)=>(show eu W b3 #[.int .u64 xk,.int .u32 xq,.bool xd,.slice da dn dc] 56 from zOA NS.o j_.o hg fun e=>by have:=KT _ e;omega)
  have amv:es.length+1<=1001:=by omega
  clear eG;have q7:=HP.o.cell (i:=7) rfl;have n0:=HX.o.cell (i:=0) rfl;have n1:=HX.o.cell (i:=1) rfl;have n2:=HX.o.cell (i:=2) rfl;have n3:=HX.o.cell (i:=3) rfl;go_upto_region 4 with fail
  go_cut [33] (fun vq wx=>vq=.pointer (some ⟨b,0,none⟩)/\∃ oT,Hid (Ac wx b C.id C.lim C.ro jo jq gc' P.eH kv oT rv P.bytes)/\Hid (nj wx B {P with t:=C,needs:=P.needs++[x]} jo jq gc' L' kv ks oT (es++[(x,.slice da dn dc)]) rv)/\Hid (eu wx b3 #[.int .u64 xk,.int .u32 xq,.bool xd,.slice da dn dc] 56)/\Hid (fQ B w wx))
  case first =>
   go_region_law ((refine wP (n:=es.length) (m:=1) (by rfl) (.tmp 38) (.tmp 40) 23 (by rfl) SY B (by rfl) j_.o (by rfl) (Rd.drew (Rd.jR v6.heap.size v6 rfl 4 [.int .u64 xk,.int .u32 xq,.bool xd,.slice da dn dc] 56 1 rfl (by decide))) (fun u hu=>by simp only[bp,bt,bu] at hu;rcases hu with h|h|h|h<;>rw[h]<;>rfl) (by unfold maxLen;omega) (by omega) (by simp;omega) ?_;intro v2 w8 eM fu hv2;clear hv2;obtain ⟨jD,jE,hv2,_,_,_⟩:=zG eM;subst hv2;have hp2:=Cw.o _ fu;have c7:=hp2.cell (i:=7) rfl;have f7:=hp2.frozen 7))
   all_goals
    have rF:Hid (eu (w8.setCell ⟨b,7,none⟩ (.slice jD (es.length+1) jE)) b3 #[.int .u64 xk,.int .u32 xq,.bool xd,.slice da dn dc] 56):=zh (eu.eL (c:=b) (by omega) [(7,.slice jD (es.length+1) jE)] (hwX fu));have jP:gO w8 (w8.setCell ⟨b,7,none⟩ (.slice jD (es.length+1) jE)) B b 145:=gO.pts hlo ⟨_,_,hp2⟩ [(7,.slice jD (es.length+1) jE)];have nD:=zh ((lS.o.need x (.slice da dn dc) Tm.o fu (by rw[Kk.o];exact eM)).ik jP);have oQ:Hid (Ac (w8.setCell ⟨b,7,none⟩ (.slice jD (es.length+1) jE)) b C.id C.lim C.ro jo jq gc' P.eH kv (.slice jD (es.length+1) jE) rv P.bytes):=zh ((by have h:=hp2.set 7 (.slice jD (es.length+1) jE);rw[zNn] at h;exact h));have jL:=zh ((h_.o.own j_.o (ak Gs (by simp)) fu (by decide)).pts hlo [(7,.slice jD (es.length+1) jE)] ⟨_,_,hp2⟩ (by decide));clear fu eM hp2 c7 f7 jP;go_wp2_with fail;go_meet
    case rel=>exact ⟨rfl,_,oQ,nD,rF,jL⟩
  obtain ⟨rfl,oT,HP,HR,HX,HB⟩:=hcut;generalize wc=v7 at *;clear pQ lS Tm NS h_ j_ Cw q7 n0 n1 n2 n3 hwX;go_upto_region 5 with fail;have pZ:b<v7.heap.size:=HP.o.lt;have Mh:B<=v7.heap.size:=ak (ak hB hz2) HB.o.size;refine xD [eT (.pointer (some ⟨b,0,none⟩)),eT (.pointer (some ⟨b,0,none⟩)),eT (.pointer (some ⟨b,9,none⟩)),eT (.int .i64 P.bytes),eT (.pointer (some ⟨b3,3,none⟩)),eT (.slice da dn dc),eT (.int .i64 (dn:Int)),eT (.int .i64 (eY dn:Int)),eT (.int .i64 (P.bytes+(eY dn:Int))),eT (.pointer (some ⟨b,0,none⟩)),eT (.pointer (some ⟨b,9,none⟩))] [] 56 (by kernel_rfl) (by kernel_rfl) (by rfl) (by kernel_rfl) (fun f=>by simp[fU,zW,Act.put];exact rfl) ?_ ?_
  · refine ⟨?_,?_,?_,?_,?_,?_,?_,?_,?_,?_,?_,trivial⟩
    · intro f w1 hb hd
      clear hd;dsimp only;go_wp2_with fail;exact pS rfl (by simp)
    · intro f w1 hb hd
      have d0:f 0=_:=hd 0 (by kernel_rfl);clear hd;dsimp only;rw[d0];go_wp2_with fail;exact pS rfl (by simp)
    · intro f w1 hb hd
      have d1:f 1=_:=hd 1 (by kernel_rfl);clear hd;dsimp only;rw[d1];go_wp2_with fail;exact pS rfl (by simp)
    · intro f w1 hb hd
      have d2:f 2=_:=hd 2 (by kernel_rfl);clear hd;dsimp only;rw[d2];have q9:=(HP.o.bb hb).cell (i:=9) rfl;go_wp2_with fail;exact pS rfl (by simp)
    · intro f w1 hb hd
      clear hd;dsimp only;go_wp2_with fail;exact pS rfl (by simp)
    · intro f w1 hb hd
      have d4:f 4=_:=hd 4 (by kernel_rfl);clear hd;dsimp only;rw[d4];have q3:=(HX.o.bb hb).cell (i:=3) rfl;go_wp2_with fail;exact pS rfl (by simp)
    · intro f w1 hb hd
      have d5:f 5=_:=hd 5 (by kernel_rfl);clear hd;dsimp only;rw[d5];go_wp2_with fail;exact pS rfl (by simp)
    · intro f w1 hb hd
      have d6:f 6=_:=hd 6 (by kernel_rfl);clear hd;dsimp only;rw[d6];go_wp2_with fail;refine (jb.o w1).mono ?_;rintro e w9 ⟨rfl,rfl⟩;go_wp2_with fail;exact pS rfl (by simp)
    · intro f w1 hb hd
      have d3:f 3=_:=hd 3 (by kernel_rfl);have d7:f 7=_:=hd 7 (by kernel_rfl);clear hd;dsimp only;rw[d3];rw[d7];have j0:=hby.1;have j1:=hby.2;have j2:=EP;go_wp2_with fail;exact pS rfl (by simp)
    · intro f w1 hb hd
      have d0:f 0=_:=hd 0 (by kernel_rfl);clear hd;dsimp only;rw[d0];go_wp2_with fail;exact pS rfl (by simp)
    intro f w1 hb hd;have d9:f 9=_:=hd 9 (by kernel_rfl);clear hd;dsimp only;rw[d9];go_wp2_with fail;exact pS rfl (by simp)
  intro f w8 hb hd iX;clear iX;have d8:f 8=_:=hd 8 (by simp);have d10:f 10=_:=hd 10 (show 10<11 by decide)
  try dsimp only
  rw[d8,d10];clear hd d8 d10;have gR:=HP.o.bb hb;have jP:gO w8 (w8.setCell ⟨b,9,none⟩ (.int .i64 (P.bytes+(eY dn:Int)))) B b 145:=gO.pts hlo ⟨_,_,gR⟩ [(9,.int .i64 (P.bytes+(eY dn:Int)))];have nD:=zh ((HR.o.bb hb).ik jP);have oQ:Hid (Ac (w8.setCell ⟨b,9,none⟩ (.int .i64 (P.bytes+(eY dn:Int)))) b C.id C.lim C.ro jo jq gc' P.eH kv oT rv (P.bytes+(eY dn:Int))):=zh ((by have h:=gR.set 9 (.int .i64 (P.bytes+(eY dn:Int)));rw[zNg] at h;exact h));have jL:=zh ((HB.o.step hb Mh).pts hlo [(9,.int .i64 (P.bytes+(eY dn:Int)))] ⟨_,_,gR⟩ (by decide));have q9:=gR.cell (i:=9) rfl;have qf:=gR.frozen 9;clear hb gR jP;go_wp2_with fail;go_end0
  exact ⟨rfl,by rw[rI.o];exact ⟨jo,jq,gc',L',kv,ks,oT,_,rv,hlo,by rw[Xv.o];exact oQ.o,⟨nD.o.g,nD.o.gg,nD.o.k,nD.o.kk,nD.o.n,nD.o.nn,nD.o.r⟩⟩,jL.o⟩
end Go.Proofs.YtcgfilmmokmdjaaGreat
