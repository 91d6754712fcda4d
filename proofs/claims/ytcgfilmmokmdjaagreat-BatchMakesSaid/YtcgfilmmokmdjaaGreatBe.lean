import Derived.Test.YtcgfilmmokmdjaaGreatBd
import Derived.Test.YtcgfilmmokmdjaaGreatHg
import Derived.Test.YtcgfilmmokmdjaaGreatQAC
set_option linter.all false
set_option maxRecDepth 100000
set_option maxHeartbeats 32000000
namespace Go.Proofs.YtcgfilmmokmdjaaGreat
open Go.RowKit
theorem zMj (s:eX) (a:Option Addr) (n c:Nat) (L:List GP) (W:World) (hr:fD W (.slice a n c) L) (hg:ep L=s.dY) (hl:fu 1000 s.dY) :
    Calls Tryz.prog 11 #[zO s.id s.lim s.ro a n c] W (KZ W (wn s)):=by
  have h:=zKX s.id s.lim s.ro a n c L W hr (xu (hg▸hl) (by decide));obtain ⟨i,l,r,g⟩:=s;dsimp only at hg h ⊢;subst hg;exact h
theorem Z6 (s:eX) (a:Option Addr) (n c:Nat) (L:List GP) (W:World) (hr:fD W (.slice a n c) L) (hg:ep L=s.dY) (hs:fu 1000 s.dY) (g:Gn) (sl:Sl) (hm:fG W sl g.m.st) (hl:∀ j,j<8→(g.m.st j).length≤10000) :
    Calls Tryz.prog 14 #[zO s.id s.lim s.ro a n c,zd g.num g.rev g.mode g.size sl g.m.live g.m.d_] W (D6 W (yV s g)):=by
  have h:=zJG s.id s.lim s.ro a n c L W hr (xu (hg▸hs) (by decide)) (g,sl) hm hl;obtain ⟨i,l,r,gs⟩:=s;dsimp only at hg h ⊢;subst hg;exact h
theorem kO {s:eX} {K:Nat} (h:fu K s.dY):∀ i,i<8→((wn s).2.m.st i).length≤K:=fun i hi=>by
  unfold wn
  split
  · rename_i hv
    exact h _ (tg ((zW s).1 hv)) i hi
  exact aq _
theorem qK {g:Gn} {l:List Nd} {K:Nat} (h:∀ i,i<8→(g.m.st i).length≤K):∀ i,i<8→((xE g l).2.m.st i).length≤K+l.length:=fun i hi=>by
  have h0:((ix).m.st i).length≤K+l.length:=aq _;unfold xE
  split
  · split
    · split
      · exact wT l g h i hi
      exact h0
    exact h0
  exact h0
def Ql (B:Nat) (p:eX×Int):mE:=⟨fun v w=>∃ a n c L,v=.tuple #[zO p.1.id p.1.lim p.1.ro a n c,.int .i64 p.2]∧gL w B (.slice a n c) L∧ep L=p.1.dY,fun _ _ _ hb ⟨a,n,c,L,h1,h2,h3⟩=>⟨a,n,c,L,h1,h2.below hb,h3⟩⟩
def Z7 (B:Nat) (s:eX):mE:=⟨fun v w=>∃ a n c L,v=zO s.id s.lim s.ro a n c∧gL w B (.slice a n c) L∧ep L=s.dY,fun _ _ _ hb ⟨a,n,c,L,h1,h2,h3⟩=>⟨a,n,c,L,h1,h2.below hb,h3⟩⟩
theorem mo.slot {W:World} {B:Nat} {P:fB} {ga iI:Option Addr} {gn gc iJ gc':Nat} {L L':List GP} {kv:Value} {ks:List KP} {nv:Value} {es:List (Nd×Value)} {rv:Value} (h:mo W B P ga gn gc L kv ks nv es rv) (s:eX) (hg:gL W B (.slice iI iJ gc') L') (oK:ep L'=s.dY):mo W B {P with t:=s} iI iJ gc' L' kv ks nv es rv:=
  ⟨hg,oK,h.k,h.kk,h.n,h.nn,h.r⟩
def fA (W W':World) (B:Nat) (T:TypeId):Prop:=Below W.heap.size W W'∨∃ g,gw W W' B g T
theorem fA.row {W W':World} {B B' sz n:Nat} {T:TypeId} {v:Value} {xs:List Value} (hown:W.ownsRow B T sz v n xs) (hg:W.grownBy W' v.ownBlock) (hB:B'≤B):fA W W' B' T:=by
  cases h:v.ownBlock with
  |none =>
    rw[h] at hg;exact .inl (Below.grown (aj _ _) hg (ag _) fun k hk=>by cases hk)
  |some g =>
    rw[h] at hg;exact .inr ⟨g,gw.grown (ak hB (hown.lt g h).1) (Lib.ownsRow_kind hown g h) hg (.inr rfl)⟩
theorem g_.eY {W W':World} {B:Nat} {T T':TypeId} {sz:Nat} {v:Value} {n:Nat} {xs:List Value} (h:g_ W B T sz v n xs) (ho:fA W W' B T') (hne:T≠T'):g_ W' B T sz v n xs:=by
  rcases ho with ho|⟨g,ho⟩
  · exact h.below ho
  exact h.gK ho hne
theorem gL.eY {W W':World} {B:Nat} {T':TypeId} {v:Value} {L:List GP} (h:gL W B v L) (ho:fA W W' B T') (h1:38≠T') (h2:49≠T'):gL W' B v L:=by
  rcases ho with ho|⟨g,ho⟩
  · exact h.below ho
  exact h.gK ho h1 h2
theorem iu.eY {W W':World} {B:Nat} {T':TypeId} {v:Value} {ks:List KP} (h:iu W B v ks) (ho:fA W W' B T') (h1:89≠T') (h2:24≠T'):iu W' B v ks:=by
  rcases ho with ho|⟨g,ho⟩
  · exact h.below ho
  exact h.gK ho h1 h2
theorem gm.eY {W W':World} {B:Nat} {T':TypeId} {v:Value} {es:List (Nd×Value)} (h:gm W B v es) (ho:fA W W' B T') (h1:56≠T') (h2:5≠T'):gm W' B v es:=by
  rcases ho with ho|⟨g,ho⟩
  · exact h.below ho
  exact h.gK ho h1 h2
theorem yN {W W':World} {B B':Nat} {T T':TypeId} {sz n:Nat} {v:Value} {xs:List Value} (h:W.ownsRow B' T sz v n xs) (ho:fA W W' B T') (hne:T≠T'):W'.ownsRow B' T sz v n xs:=by
  rcases ho with ho|⟨g,ho⟩
  · exact zG h ho
  exact yp h ho hne
theorem dZ.eY {W W':World} {B b:Nat} {cs:Array Value} {T T':TypeId} (h:dZ W b cs T) (ho:fA W W' B T') (hne:T≠T'):dZ W' b cs T:=by
  rcases ho with ho|⟨g,ho⟩
  · exact h.below ho
  unfold dZ
  rw[ho.blk b h.lt (fun e=>by
    obtain ⟨c,f,h1⟩:=ho.ty
    have h2:W.heap[b]?=some (.cells cs T (0,0)):=h
    rw[← e,h2] at h1
    injection h1 with h1
    injection h1 with _ h1
    exact hne h1)]
  exact h
def NI:List TypeId:=[145,56,89,24,39]
structure fw (B:Nat) (w W:World):Prop where
  b:Below B w W
  k:∀ (i:Nat) (c:Array Value) (T:TypeId) (f:Nat×Nat),w.heap[i]?=some (Obj.cells c T f)→T∉NI→W.heap[i]?=some (Obj.cells c T f)
theorem fw.size {B:Nat} {w W:World} (h:fw B w W):w.heap.size≤W.heap.size:=h.b.size
theorem fw.of {B:Nat} {w W:World} (h:Below w.heap.size w W) (hB:B≤w.heap.size):fw B w W:=⟨h.mono hB,fun i c T f h1 _=>by rw[h.block i (Array.getElem?_eq_some_iff.1 h1).1];exact h1⟩
theorem fw.trans {B:Nat} {w W W':World} (h:fw B w W) (h2:fw B W W'):fw B w W':=⟨h.b.trans h2.b,fun i c T f h1 hT=>h2.k i c T f (h.k i c T f h1 hT) hT⟩
theorem fw.step {B:Nat} {w W W':World} (h:fw B w W) (hb:Below W.heap.size W W') (hB:B≤W.heap.size):fw B w W':=h.trans (fw.of hb hB)
theorem fw.eY {B B':Nat} {w W W':World} {T:TypeId} (h:fw B w W) (ho:fA W W' B' T) (hT:T∈NI) (hb:Below B w W'):fw B w W':=⟨hb,fun i c T2 f h1 NJ=>by
  have h2:=h.k i c T2 f h1 NJ
  have hlt:=(Array.getElem?_eq_some_iff.1 h2).1
  rcases ho with ho|⟨g,ho⟩
  · rw[ho.block i hlt];exact h2
  rw[ho.blk i hlt (fun e=>by
    obtain ⟨c',f',h3⟩:=ho.ty
    rw[← e,h2] at h3
    injection h3 with h3
    injection h3 with _ h3
    exact NJ (h3▸hT))]
  exact h2⟩
theorem fw.pts {B b:Nat} {w W:World} {T:TypeId} (h:fw B w W) (hlo:B≤b) (vs:List (Nat×Value)) (ht:∃ c f,W.heap[b]?=some (.cells c T f)) (hT:T∈NI):fw B w (Go.Proofs.YtcgfilmmokmdjaaGreat.pts W b vs):=
  h.eY (.inr ⟨b,gw.pts hlo ht vs⟩) hT (zD hlo vs h.b)
theorem fw.own {B sz n:Nat} {w W W':World} {T:TypeId} {v:Value} {xs:List Value} (h:fw B w W) (hown:W.ownsRow B T sz v n xs) (hB:B≤W.heap.size) (hg:W.grownBy W' v.ownBlock) (hT:T∈NI):fw B w W':=
  h.eY (fA.row hown hg (ag B)) hT (zL h.b hown hB hg)
theorem fw.box {B b:Nat} {w W:World} {cs:Array Value} {T:TypeId} (h:fw B w W) (hb:dZ w b cs T) (hT:T∉NI):dZ W b cs T:=h.k _ _ _ _ hb hT
theorem mo.need {W W':World} {B:Nat} {P:fB} {ga:Option Addr} {gn gc:Nat} {L:List GP} {kv:Value} {ks:List KP} {nv nG:Value} {es:List (Nd×Value)} {rv:Value} (h:mo W B P ga gn gc L kv ks nv es rv) (x:Nd) (dv:Value) (hd:fR W B dv x.data)
    (hg:W.grownBy W' nv.ownBlock) (ho:W'.ownsRow B 56 4 nG (es.length+1) (xP es++vK (x,dv))):mo W' B {P with needs:=P.needs++[x]} ga gn gc L kv ks nG (es++[(x,dv)]) rv:=by
  have hO:=fA.row h.n.row hg (ag _);refine ⟨h.g.eY hO (by decide) (by decide),h.gg,h.k.eY hO (by decide) (by decide),h.kk,⟨?_,fun p hp=>?_⟩,?_,yN h.r hO (by decide)⟩
  · have e:xP (es++[(x,dv)])=xP es++vK (x,dv):=by unfold xP;rw[b7];simp
    rw[e,aw];exact ho
  · rcases List.mem_append.1 hp with hp|hp
    · exact g_.eY (h.n.dat p hp) hO (by decide)
    obtain rfl:=List.mem_singleton.1 hp;exact g_.eY hd hO (by decide)
  rw[bD,h.nn];rfl
theorem zMG (i l:Int) (r:Bool) (ga:Option Addr) (gn gc:Nat) (ey:Bool) (kv nv rv:Value) (gQ:Int) (u:Value):(tY i l r ga gn gc ey kv nv rv gQ).setIfInBounds 7 u=tY i l r ga gn gc ey kv u rv gQ:=by
  simp only[aK,aM,aJ]
theorem zMA (i l:Int) (r:Bool) (ga:Option Addr) (gn gc:Nat) (ey:Bool) (kv nv rv:Value) (gQ z:Int):(tY i l r ga gn gc ey kv nv rv gQ).setIfInBounds 9 (.int .i64 z)=tY i l r ga gn gc ey kv nv rv z:=by
  simp only[aK,aM,aJ]
theorem zMc {W W':World} {B b sz n:Nat} {cs:Array Value} {T:TypeId} {v:Value} {xs:List Value} (h:dZ W b cs T) (_:W.ownsRow B T sz v n xs) (hg:W.grownBy W' v.ownBlock) (hne:v.ownBlock≠some b):dZ W' b cs T:=h.grown hg fun e=>hne e.symm
theorem kj (i l:Int) (r:Bool) (ga:Option Addr) (gn gc:Nat) (ey:Bool) (kv nv rv:Value) (gQ:Int) (i' l':Int) (r':Bool) (iI:Option Addr) (iJ gc':Nat) :
    (zR i' l' r' iI iJ gc').foldl (fun cs p=>cs.setIfInBounds p.1 p.2) (tY i l r ga gn gc ey kv nv rv gQ)=tY i' l' r' iI iJ gc' ey kv nv rv gQ:=by
  simp only[List.foldl_cons,List.foldl_nil,aK,aM,aJ]
theorem Z8 {w:World} {B b:Nat} {P:fB} {ga:Option Addr} {gn gc:Nat} {L:List GP} {kv:Value} {ks:List KP} {nv:Value} {es:List (Nd×Value)} {rv:Value} (hlo:B≤b) (hP:rH w b P.t.id P.t.lim P.t.ro ga gn gc P.ey kv nv rv P.bytes) (hR:mo w B P ga gn gc L kv ks nv es rv) (hl:fu 900 P.t.dY) (hB:B≤w.heap.size) (x:Nd) (da:Option Addr) (dn dc:Nat) (hx:fR w B (.slice da dn dc) x.data) (nk:x.data.length=dn) (il:dn≤100000) (hel:es.length≤1000) (hby:0≤P.bytes∧P.bytes≤1000000000) :
    Calls Tryz.prog 147 #[.pointer (some ⟨b,0,none⟩),.agg #[.int .u64 (x.key:Int),.int .u32 (x.ck:Int),.bool x.del,.slice da dn dc]] w fun e w'=>e=.returned (.tuple #[])∧sH w' B b (xH P x)∧fw B w w':=by
  have fU:b<w.heap.size:=hP.lt;have IL:∀ g,nv.ownBlock=some g→g<w.heap.size:=fun g h=>(hR.n.row.lt g h).2
  have Dv:eN dn≤4127:=xj dn;have D7:=zh (fun W (hb:Below w.heap.size w W)=>zMj P.t ga gn gc L W (hR.g.rd.below hb) hR.gg (hl.mono (by decide)));have Gq:=kO hl;have mG:=zh (fun W sT v (hm:fG W sT (wn P.t).2.m.st) (hr:nC W v [(x,.slice da dn dc)])=>zLF (wn P.t).2 sT v [(x,.slice da dn dc)] 900 W hm Gq hr (by simp));have Ab:=zh (fun W sA (hb:Below w.heap.size w W) (hm:fG W sA (xE (wn P.t).2 [x]).2.m.st)=>Z6 P.t ga gn gc L W (hR.g.rd.below hb) hR.gg (hl.mono (by decide)) (xE (wn P.t).2 [x]).2 sA hm (fun j hj=>ak (qK Gq j hj) (by simp)));have oZ:=zh (show xH P x={P with t:=(yV P.t (xE (wn P.t).2 [x]).2).1,needs:=P.needs++[x],bytes:=P.bytes+(eN x.data.length:Int)} from rfl);generalize xH P x=P1 at *;simp only[List.map_cons,List.map_nil] at mG;generalize yV P.t (xE (wn P.t).2 [x]).2=C at *;obtain ⟨C,ce⟩:=C
  generalize Ug:wn P.t=TT at *;clear Ug Gq;obtain ⟨te,T⟩:=TT;generalize Uh:xE T [x]=AA at *;clear Uh;obtain ⟨ae,A⟩:=AA;obtain ⟨tn,tr,tm,tz,⟨tf,tL,tG⟩⟩:=T;obtain ⟨an,ar,am,az,⟨af,aL,aG⟩⟩:=A;dsimp only at D7 mG Ab oZ;have HD:=zh hx;have HP:=zh hP;have HR:=zh hR;have jl:=zh (fun W=>qA dn W (by omega));have Ui:=zh (show (eN x.data.length:Int)=(eN dn:Int) by rw[nk]);clear hP hR hx hl;have Ig:=zh (show vK (x,.slice da dn dc)=[.int .u64 (x.key:Int),.int .u32 (x.ck:Int),.bool x.del,.slice da dn dc] from rfl);generalize (x.key:Int)=xk at *;generalize (x.ck:Int)=xq at *;generalize x.del=xd at *
  go_enter Tryz.func147,Tryz.ntmps147
  go_upto_region 1 with fail;change Code.wp _ _ _ _ (w.alloc (.cells #[.int .u64 xk,.int .u32 xq,.bool xd,.slice da dn dc] 56));have ew:=(aj w.heap.size w).alloc (ag _) (.cells #[.int .u64 xk,.int .u32 xq,.bool xd,.slice da dn dc] 56);have HX:=zh (dZ.new w #[.int .u64 xk,.int .u32 xq,.bool xd,.slice da dn dc] 56);have HB:=zh ew;replace HD:=zh (HD.out.below ew);replace HP:=zh (HP.out.below ew);replace HR:=zh (HR.out.below ew);have hb3:b<w.heap.size:=fU;clear ew;generalize w.alloc (.cells #[.int .u64 xk,.int .u32 xq,.bool xd,.slice da dn dc] 56)=w1 at *;generalize nH:w.heap.size=b3 at *;have NK:=zh nH;have hz1:w.heap.size≤b3:=by omega
  have hz2:b3≤w.heap.size:=by omega
  clear nH;have p0:=HP.out.cell (i:=0) rfl;have p1:=HP.out.cell (i:=1) rfl;have p2:=HP.out.cell (i:=2) rfl;have p3:=HP.out.cell (i:=3) rfl;go_wp2_with fail;refine (D7.out w1 HB.out).mono ?_;rintro e w2 ⟨⟨sT,rfl,ho⟩,hb⟩;dsimp only;clear p0 p1 p2 p3 D7;have eM:=zh (hb.mono (ag _));have HT:=zh (show fG w2 sT tf from ho.rd);clear ho;replace HX:=zh (HX.out.below hb);replace HD:=zh (HD.out.below hb);replace HP:=zh (HP.out.below hb);replace HR:=zh (HR.out.below hb);replace HB:=zh (HB.out.trans (hb.mono (by have:=HB.out.size;omega)));clear hb eM;have rD:=HR;have Be:=HP;have FH:=HD;have lD:=HX;have eM:=HB;go_upto_region 2 with fail;change Code.wp _ _ _ _ (w2.alloc (.cells (zX tn tr tm tz sT tL tG) 38));have ew:=zZ w2 tn tr tm tz sT tL tG 38;have HG:=zh (dZ.new w2 (zX tn tr tm tz sT tL tG) 38);have rQ:b3≤w2.heap.size:=ak hz2 HB.out.size
  have hX3:b3<w2.heap.size:=HX.out.lt;replace HT:=zh (HT.out.below ew);replace HX:=zh (HX.out.below ew);replace HD:=zh (HD.out.below ew);replace HP:=zh (HP.out.below ew);replace HR:=zh (HR.out.below ew);replace HB:=zh (HB.out.trans (ew.mono rQ));have jT:=zh ew;clear ew;generalize w2.alloc (.cells (zX tn tr tm tz sT tL tG) 38)=w3 at *;generalize EV:w2.heap.size=b4 at *;have NL:=zh EV;have hz3:w2.heap.size≤b4:=by omega
  have PX:b4≤w2.heap.size:=by omega
  clear EV;obtain ⟨g0,g1,g2,g3,g4,g5,g6,g7,g8,g9,g10,g11,g12,g13⟩:=HG.out.gen.q;have n0:=HX.out.cell (i:=0) rfl;have n1:=HX.out.cell (i:=1) rfl;have n2:=HX.out.cell (i:=2) rfl;have n3:=HX.out.cell (i:=3) rfl;go_wp2_with fail;have ew:=(aj w3.heap.size w3).alloc (ag _) (.cells #[.int .u64 xk,.int .u32 xq,.bool xd,.slice da dn dc] 56);have HN:=zh (show nC (w3.alloc (.cells #[.int .u64 xk,.int .u32 xq,.bool xd,.slice da dn dc] 56)) (.slice (some ⟨w3.heap.size,0,none⟩) 1 1) [(x,.slice da dn dc)] from ⟨by rw[show xP [(x,.slice da dn dc)]=[.int .u64 xk,.int .u32 xq,.bool xd,.slice da dn dc] by unfold xP;rw[ct,List.flatMap_nil,bZ,Ig.out]];exact Rd.new w3 4 [.int .u64 xk,.int .u32 xq,.bool xd,.slice da dn dc] 56 1 rfl (by decide),fun p hp=>by obtain rfl:=List.mem_singleton.1 hp;exact iE.below HD.out.1 ew⟩)
  refine (mG.out _ sT _ (HT.out.below ew) HN.out).mono ?_;rintro e w4 ⟨⟨sA,rfl,ho⟩,hb⟩;dsimp only;replace hb:=zA ew hb;clear g0 g1 g2 g3 g4 g5 g6 g7 g8 g9 g10 g11 g12 g13;clear n0 n1 n2 n3 HN mG ew;have HA:=zh (show fG w4 sA af from ho.rd);have B_:b3≤w3.heap.size:=ak hz2 HB.out.size;have hb4:b4<w3.heap.size:=HG.out.lt;replace HG:=zh (HG.out.below hb);replace HX:=zh (HX.out.below hb);replace HD:=zh (HD.out.below hb);replace HP:=zh (HP.out.below hb);replace HR:=zh (HR.out.below hb);replace HB:=zh (HB.out.trans (hb.mono B_));replace jT:=zh (jT.out.trans (hb.mono (show b4≤w3.heap.size by omega)));clear ho hb HT;obtain ⟨g0,g1,g2,g3,g4,g5,g6,g7,g8,g9,g10,g11,g12,g13⟩:=HG.out.gen.q;have gf:=HG.out.gen.f;go_upto_region 3 with fail;change Code.wp _ _ _ _ (pts w4 b4 (zQ an ar am az sA aL aG));have NM:=zh (HG.out.pW an ar am az sA aL aG)
  have JU:=zh (fG.gen HA.out HG.out (zQ an ar am az sA aL aG));have Dw:=zD (B:=b4) (b:=b4) (ag _) (zQ an ar am az sA aL aG) jT.out;have gH:=zh (zD (B:=b3) (b:=b4) rQ (zQ an ar am az sA aL aG) HB.out);clear HG HA HX HP HR HD HB jT;clear g0 g1 g2 g3 g4 g5 g6 g7 g8 g9 g10 g11 g12 g13 gf;generalize pts w4 b4 (zQ an ar am az sA aL aG)=v5 at *;rw[← NL.out] at Dw;have HP:=zh (Be.out.below Dw);have HR:=zh (rD.out.below Dw);have HD:=zh (FH.out.below Dw);have HX:=zh (lD.out.below Dw);clear Dw Be rD FH lD eM;have FQ:B≤v5.heap.size:=by have:=gH.out.size;omega
  go_cut [32] (fun vq wx=>vq=.pointer (some ⟨b,0,none⟩)∧∃ iI iJ gc' L',Hid (rH wx b C.id C.lim C.ro iI iJ gc' P.ey kv nv rv P.bytes)∧Hid (mo wx B {P with t:=C} iI iJ gc' L' kv ks nv es rv)∧Hid (fR wx B (.slice da dn dc) x.data)∧Hid (dZ wx b3 #[.int .u64 xk,.int .u32 xq,.bool xd,.slice da dn dc] 56)∧Hid (fw B w wx))
  case first =>
    refine ye [eR (.pointer (some ⟨b,0,none⟩)),eR (.pointer (some ⟨b,0,none⟩)),eR (.pointer (some ⟨b,0,none⟩)),eR (.pointer (some ⟨b,0,none⟩)),eR (zO P.t.id P.t.lim P.t.ro ga gn gc),eR (zd an ar am az sA aL aG),Ql B (C,ce),Ql B (C,ce),Z7 B C,eR (.int .i64 ce),eR (.pointer (some ⟨b,0,none⟩)),eR (.pointer (some ⟨b,0,none⟩))] [] 56 9 (by kernel_rfl) (by kernel_rfl) rfl rfl (by decide) (by rfl) (by kernel_rfl) (fun f=>by simp[fF,zT,Act.put];exact rfl) ?_ ?_ ?_
    · refine ⟨?_,?_,?_,?_,?_,?_,?_,?_,?_,?_,?_,?_,trivial⟩
      · intro f w1 hb hd
        clear hd;dsimp only;go_wp2_with fail;exact pS rfl (by simp)
      · intro f w1 hb hd
        clear hd;dsimp only;go_wp2_with fail;exact pS rfl (by simp)
      · intro f w1 hb hd
        have d1:f 1=(.pointer (some ⟨b,0,none⟩)):=hd 1 (by kernel_rfl);clear hd;dsimp only;rw[d1];go_wp2_with fail;exact pS rfl (by simp)
      · intro f w1 hb hd
        have d2:f 2=(.pointer (some ⟨b,0,none⟩)):=hd 2 (by kernel_rfl);clear hd;dsimp only;rw[d2];go_wp2_with fail;exact pS rfl (by simp)
      · intro f w1 hb hd
        have d3:f 3=(.pointer (some ⟨b,0,none⟩)):=hd 3 (by kernel_rfl);clear hd;dsimp only;rw[d3];have hx:=HP.out.below hb;have q0:=hx.cell (i:=0) rfl;have q1:=hx.cell (i:=1) rfl;have q2:=hx.cell (i:=2) rfl;have q3:=hx.cell (i:=3) rfl;clear hx;go_wp2_with fail;exact pS rfl (by simp)
      · intro f w1 hb hd
        clear hd;dsimp only;have hx:=(NM.out.below hb).gen;obtain ⟨q0,q1,q2,q3,q4,q5,q6,q7,q8,q9,Dq,Dr,Ds,Dt⟩:=hx.q;clear hx;go_wp2_with fail;exact pS rfl (by simp)
      · intro f w1 hb hd
        have d4:f 4=(zO P.t.id P.t.lim P.t.ro ga gn gc):=hd 4 (by kernel_rfl);have d5:f 5=(zd an ar am az sA aL aG):=hd 5 (by kernel_rfl);clear hd;dsimp only;rw[d4];rw[d5];go_wp2_with fail;refine (Ab.out w1 sA (gH.out.trans (hb.mono (ak hz2 gH.out.size))) (JU.out.below hb)).mono ?_;rintro e w9 ⟨⟨qa,qn,qc,qL,rfl,hown,hgn⟩,gI⟩;have oO:=zh (show gL w9 B (.slice qa qn qc) qL from gL.own hown);have jU:=zh hgn;clear hown hgn;go_wp2_with fail;exact ⟨rfl,gI,fun t ht=>by injection ht with ht;subst ht;exact ⟨⟨qa,qn,qc,qL,rfl,oO.out,jU.out⟩,fun h=>by simp at h⟩⟩
      · intro f w1 hb hd
        obtain ⟨a6,n6,c6,L6,d6,r6,g6⟩:=show ∃ a n c L,f 6=.tuple #[zO C.id C.lim C.ro a n c,.int .i64 ce]∧gL w1 B (.slice a n c) L∧ep L=C.dY from hd 6 (by kernel_rfl);clear hd;dsimp only;rw[d6];have oO:=zh r6;have jU:=zh g6;clear r6 g6;go_wp2_with fail;exact ⟨rfl,aj _ _,fun t ht=>by injection ht with ht;subst ht;exact ⟨⟨a6,n6,c6,L6,rfl,oO.out,jU.out⟩,fun h=>by simp at h⟩⟩
      · intro f w1 hb hd
        obtain ⟨a7,n7,c7,L7,d7,r7,g7⟩:=show ∃ a n c L,f 7=.tuple #[zO C.id C.lim C.ro a n c,.int .i64 ce]∧gL w1 B (.slice a n c) L∧ep L=C.dY from hd 7 (by kernel_rfl);clear hd;dsimp only;rw[d7];have oO:=zh r7;have jU:=zh g7;clear r7 g7;go_wp2_with fail;exact ⟨rfl,aj _ _,fun t ht=>by injection ht with ht;subst ht;exact ⟨⟨a7,n7,c7,L7,rfl,oO.out,jU.out⟩,fun h=>by simp at h⟩⟩
      · intro f w1 hb hd
        obtain ⟨a7,n7,c7,L7,d7,r7,g7⟩:=show ∃ a n c L,f 7=.tuple #[zO C.id C.lim C.ro a n c,.int .i64 ce]∧gL w1 B (.slice a n c) L∧ep L=C.dY from hd 7 (by kernel_rfl);clear hd;dsimp only;rw[d7];clear r7 g7;go_wp2_with fail;exact pS rfl (by simp)
      · intro f w1 hb hd
        have d0:f 0=(.pointer (some ⟨b,0,none⟩)):=hd 0 (by kernel_rfl);clear hd;dsimp only;rw[d0];go_wp2_with fail;exact pS rfl (by simp)
      intro f w1 hb hd;have d10:f 10=(.pointer (some ⟨b,0,none⟩)):=hd 10 (by kernel_rfl);clear hd;dsimp only;rw[d10];go_wp2_with fail;exact pS rfl (by simp)
    · intro f w8 hb hd jw
      clear jw;obtain ⟨a8,n8,c8,L8,d8,r8,g8⟩:=show ∃ a n c L,f 8=zO C.id C.lim C.ro a n c∧gL w8 B (.slice a n c) L∧ep L=C.dY from hd 8 (show 8<12 by decide);have d11:f 11=.pointer (some ⟨b,0,none⟩):=hd 11 (show 11<12 by decide)
      try dsimp only
      rw[d8,d11];clear hd d8 d11;have gp:=HP.out.below hb;have HO:=gw.pts (T:=145) hlo ⟨_,_,gp⟩ (zR C.id C.lim C.ro a8 n8 c8);have iW:=zh (show rH _ b C.id C.lim C.ro a8 n8 c8 P.ey kv nv rv P.bytes from (by have h:=dZ.sets (zR C.id C.lim C.ro a8 n8 c8) gp;rw[kj] at h;exact h));have iq:=zh (((HR.out.below hb).slot C r8 g8).gK HO);have HDn:=zh (show fR _ B _ _ from g_.gK (HD.out.below hb) HO (by decide));have EW:=zh ((HX.out.below hb).eE (show b3≠b by omega) (zR C.id C.lim C.ro a8 n8 c8));have fV:=zh ((fw.of ((gH.out.trans (hb.mono (ak hz2 gH.out.size))).mono hz1) (ak hB hz2)).pts hlo (zR C.id C.lim C.ro a8 n8 c8) ⟨_,_,gp⟩ (by decide));have q0:=gp.cell (i:=0) rfl;have q1:=gp.cell (i:=1) rfl;have q2:=gp.cell (i:=2) rfl;have q3:=gp.cell (i:=3) rfl;have qf:=gp.frozen;clear r8 g8 hb gp HO
      generalize f 0=rI,f 1=rJ,f 2=pY,f 3=pZ,f 4=p_,f 5=q_,f 6=rK,f 7=B9,f 9=CQ,f 10=o6;clear f;change wpList _ _ _ (_::[]) _ _;go_wp2_with fail;go_meet
      case rel=>exact ⟨rfl,a8,n8,c8,L8,iW,iq,HDn,EW,fV⟩
    intro f w8 hb hd jw;clear jw;obtain ⟨a8,n8,c8,L8,d8,r8,g8⟩:=show ∃ a n c L,f 8=zO C.id C.lim C.ro a n c∧gL w8 B (.slice a n c) L∧ep L=C.dY from hd 8 (show 8<12 by decide) (show 8≠9 by decide);have d11:f 11=.pointer (some ⟨b,0,none⟩):=hd 11 (show 11<12 by decide) (show 11≠9 by decide);obtain ⟨a7,n7,c7,L7,d7,r7,g7⟩:=show ∃ a n c L,f 7=.tuple #[zO C.id C.lim C.ro a n c,.int .i64 ce]∧gL w8 B (.slice a n c) L∧ep L=C.dY from hd 7 (show 7<12 by decide) (show 7≠9 by decide);clear r7 g7
    try dsimp only
    rw[d7,d8,d11];clear hd d7 d8 d11;have gp:=HP.out.below hb;have HO:=gw.pts (T:=145) hlo ⟨_,_,gp⟩ (zR C.id C.lim C.ro a8 n8 c8);have iW:=zh (show rH _ b C.id C.lim C.ro a8 n8 c8 P.ey kv nv rv P.bytes from (by have h:=dZ.sets (zR C.id C.lim C.ro a8 n8 c8) gp;rw[kj] at h;exact h));have iq:=zh (((HR.out.below hb).slot C r8 g8).gK HO);have HDn:=zh (show fR _ B _ _ from g_.gK (HD.out.below hb) HO (by decide));have EW:=zh ((HX.out.below hb).eE (show b3≠b by omega) (zR C.id C.lim C.ro a8 n8 c8));have fV:=zh ((fw.of ((gH.out.trans (hb.mono (ak hz2 gH.out.size))).mono hz1) (ak hB hz2)).pts hlo (zR C.id C.lim C.ro a8 n8 c8) ⟨_,_,gp⟩ (by decide));have q0:=gp.cell (i:=0) rfl;have q1:=gp.cell (i:=1) rfl;have q2:=gp.cell (i:=2) rfl;have q3:=gp.cell (i:=3) rfl;have qf:=gp.frozen;clear r8 g8 hb gp HO
    generalize f 0=rI,f 1=rJ,f 2=pY,f 3=pZ,f 4=p_,f 5=q_,f 6=rK,f 9=CQ,f 10=o6;clear f;change wpList _ _ _ (_::_::[]) _ _;go_wp2_with fail;go_meet
    case rel=>exact ⟨rfl,a8,n8,c8,L8,iW,iq,HDn,EW,fV⟩
  obtain ⟨rfl,iI,iJ,gc',L',HP,HR,HD,HX,HB⟩:=hcut;generalize wc=v6 at *;obtain ⟨na,nc,G6,Da,mK,_⟩:=zH HR.out.n.row;subst G6;have IF:B≤v6.heap.size:=ak (ak hB hz2) HB.out.size;have jr:b<v6.heap.size:=HP.out.lt;have h36:b3<v6.heap.size:=HX.out.lt;have ew:=zi ((aj v6.heap.size v6).alloc (ag _) (.cells #[.int .u64 xk,.int .u32 xq,.bool xd,.slice da dn dc] 56));have oh:=zh (HP.out.below ew);have jW:=zh (HR.out.below ew);have Qm:=zh (show fR _ B _ _ from g_.below HD.out ew);have Le:=zh (HX.out.below ew);have mj:=zh (HB.out.step ew IF);have jO:=zh jW.out.n.row;have FV:=zh (fun W (hg:(World.drew (v6.alloc (.cells #[.int .u64 xk,.int .u32 xq,.bool xd,.slice da dn dc] 56))).grownBy W (Value.slice na es.length nc).ownBlock)=>oh.out.eY (fA.row jO.out hg (ag _)) (by decide))
  have Z9:=fun {W:World} (hg:(World.drew (v6.alloc (.cells #[.int .u64 xk,.int .u32 xq,.bool xd,.slice da dn dc] 56))).grownBy W (Value.slice na es.length nc).ownBlock)=>(show dZ W b3 #[.int .u64 xk,.int .u32 xq,.bool xd,.slice da dn dc] 56 from zMc Le.out jO.out hg fun e=>by have:=IL _ e;omega)
  have aiB:es.length+1≤1001:=by omega
  clear ew;have q7:=HP.out.cell (i:=7) rfl;have n0:=HX.out.cell (i:=0) rfl;have n1:=HX.out.cell (i:=1) rfl;have n2:=HX.out.cell (i:=2) rfl;have n3:=HX.out.cell (i:=3) rfl;go_upto_region 4 with fail
  go_cut [33] (fun vq wx=>vq=.pointer (some ⟨b,0,none⟩)∧∃ nG,Hid (rH wx b C.id C.lim C.ro iI iJ gc' P.ey kv nG rv P.bytes)∧Hid (mo wx B {P with t:=C,needs:=P.needs++[x]} iI iJ gc' L' kv ks nG (es++[(x,.slice da dn dc)]) rv)∧Hid (dZ wx b3 #[.int .u64 xk,.int .u32 xq,.bool xd,.slice da dn dc] 56)∧Hid (fw B w wx))
  case first =>
   go_region_law ((refine vL (n:=es.length) (m:=1) (by rfl) (.tmp 38) (.tmp 40) 23 (by rfl) Ts B (by rfl) jO.out (by rfl) (Rd.drew (Rd.jD v6.heap.size v6 rfl 4 [.int .u64 xk,.int .u32 xq,.bool xd,.slice da dn dc] 56 1 rfl (by decide))) (fun u hu=>by simp only[aX,aY,aZ] at hu;rcases hu with h|h|h|h<;>rw[h]<;>rfl) (by unfold maxLen;omega) (by omega) (by simp;omega) ?_;intro v2 w8 eG fp hv2;clear hv2;obtain ⟨lJ,lK,hv2,_,_,_⟩:=zH eG;subst hv2;have hp2:=FV.out _ fp;have c7:=hp2.cell (i:=7) rfl;have f7:=hp2.frozen 7))
   all_goals
    have oV:=zh (show dZ (w8.setCell ⟨b,7,none⟩ (.slice lJ (es.length+1) lK)) b3 #[.int .u64 xk,.int .u32 xq,.bool xd,.slice da dn dc] 56 from dZ.eE (c:=b) (by omega) [(7,.slice lJ (es.length+1) lK)] (Z9 fp));have jB:gw w8 (w8.setCell ⟨b,7,none⟩ (.slice lJ (es.length+1) lK)) B b 145:=gw.pts hlo ⟨_,_,hp2⟩ [(7,.slice lJ (es.length+1) lK)];have mH:=zh ((jW.out.need x (.slice da dn dc) Qm.out fp (by rw[Ig.out];exact eG)).gK jB);have od:=zh (show rH (w8.setCell ⟨b,7,none⟩ (.slice lJ (es.length+1) lK)) b C.id C.lim C.ro iI iJ gc' P.ey kv (.slice lJ (es.length+1) lK) rv P.bytes from (by have h:=hp2.set 7 (.slice lJ (es.length+1) lK);rw[zMG] at h;exact h));have i_:=zh ((mj.out.own jO.out (ak IF (by simp)) fp (by decide)).pts hlo [(7,.slice lJ (es.length+1) lK)] ⟨_,_,hp2⟩ (by decide));clear fp eG hp2 c7 f7 jB;go_wp2_with fail;go_meet
    case rel=>exact ⟨rfl,_,od,mH,oV,i_⟩
  obtain ⟨rfl,nG,HP,HR,HX,HB⟩:=hcut;generalize wc=v7 at *;clear oh jW Qm Le mj jO FV q7 n0 n1 n2 n3 Z9;go_upto_region 5 with fail;have oG:b<v7.heap.size:=HP.out.lt;have NN:B≤v7.heap.size:=ak (ak hB hz2) HB.out.size;refine xO [eR (.pointer (some ⟨b,0,none⟩)),eR (.pointer (some ⟨b,0,none⟩)),eR (.pointer (some ⟨b,9,none⟩)),eR (.int .i64 P.bytes),eR (.pointer (some ⟨b3,3,none⟩)),eR (.slice da dn dc),eR (.int .i64 (dn:Int)),eR (.int .i64 (eN dn:Int)),eR (.int .i64 (P.bytes+(eN dn:Int))),eR (.pointer (some ⟨b,0,none⟩)),eR (.pointer (some ⟨b,9,none⟩))] [] 56 (by kernel_rfl) (by kernel_rfl) (by rfl) (by kernel_rfl) (fun f=>by simp[fF,zT,Act.put];exact rfl) ?_ ?_
  · refine ⟨?_,?_,?_,?_,?_,?_,?_,?_,?_,?_,?_,trivial⟩
    · intro f w1 hb hd
      clear hd;dsimp only;go_wp2_with fail;exact pS rfl (by simp)
    · intro f w1 hb hd
      have d0:f 0=(.pointer (some ⟨b,0,none⟩)):=hd 0 (by kernel_rfl);clear hd;dsimp only;rw[d0];go_wp2_with fail;exact pS rfl (by simp)
    · intro f w1 hb hd
      have d1:f 1=(.pointer (some ⟨b,0,none⟩)):=hd 1 (by kernel_rfl);clear hd;dsimp only;rw[d1];go_wp2_with fail;exact pS rfl (by simp)
    · intro f w1 hb hd
      have d2:f 2=(.pointer (some ⟨b,9,none⟩)):=hd 2 (by kernel_rfl);clear hd;dsimp only;rw[d2];have q9:=(HP.out.below hb).cell (i:=9) rfl;go_wp2_with fail;exact pS rfl (by simp)
    · intro f w1 hb hd
      clear hd;dsimp only;go_wp2_with fail;exact pS rfl (by simp)
    · intro f w1 hb hd
      have d4:f 4=(.pointer (some ⟨b3,3,none⟩)):=hd 4 (by kernel_rfl);clear hd;dsimp only;rw[d4];have q3:=(HX.out.below hb).cell (i:=3) rfl;go_wp2_with fail;exact pS rfl (by simp)
    · intro f w1 hb hd
      have d5:f 5=(.slice da dn dc):=hd 5 (by kernel_rfl);clear hd;dsimp only;rw[d5];go_wp2_with fail;exact pS rfl (by simp)
    · intro f w1 hb hd
      have d6:f 6=(.int .i64 (dn:Int)):=hd 6 (by kernel_rfl);clear hd;dsimp only;rw[d6];go_wp2_with fail;refine (jl.out w1).mono ?_;rintro e w9 ⟨rfl,rfl⟩;go_wp2_with fail;exact pS rfl (by simp)
    · intro f w1 hb hd
      have d3:f 3=(.int .i64 P.bytes):=hd 3 (by kernel_rfl);have d7:f 7=(.int .i64 (eN dn:Int)):=hd 7 (by kernel_rfl);clear hd;dsimp only;rw[d3];rw[d7];have j0:=hby.1;have j1:=hby.2;have j2:=Dv;go_wp2_with fail;exact pS rfl (by simp)
    · intro f w1 hb hd
      have d0:f 0=(.pointer (some ⟨b,0,none⟩)):=hd 0 (by kernel_rfl);clear hd;dsimp only;rw[d0];go_wp2_with fail;exact pS rfl (by simp)
    intro f w1 hb hd;have d9:f 9=(.pointer (some ⟨b,0,none⟩)):=hd 9 (by kernel_rfl);clear hd;dsimp only;rw[d9];go_wp2_with fail;exact pS rfl (by simp)
  intro f w8 hb hd jw;clear jw;have d8:f 8=.int .i64 (P.bytes+(eN dn:Int)):=hd 8 (show 8<11 by decide);have d10:f 10=.pointer (some ⟨b,9,none⟩):=hd 10 (show 10<11 by decide)
  try dsimp only
  rw[d8,d10];clear hd d8 d10;have gp:=HP.out.below hb;have jB:gw w8 (w8.setCell ⟨b,9,none⟩ (.int .i64 (P.bytes+(eN dn:Int)))) B b 145:=gw.pts hlo ⟨_,_,gp⟩ [(9,.int .i64 (P.bytes+(eN dn:Int)))];have mH:=zh ((HR.out.below hb).gK jB);have od:=zh (show rH (w8.setCell ⟨b,9,none⟩ (.int .i64 (P.bytes+(eN dn:Int)))) b C.id C.lim C.ro iI iJ gc' P.ey kv nG rv (P.bytes+(eN dn:Int)) from (by have h:=gp.set 9 (.int .i64 (P.bytes+(eN dn:Int)));rw[zMA] at h;exact h));have i_:=zh ((HB.out.step hb NN).pts hlo [(9,.int .i64 (P.bytes+(eN dn:Int)))] ⟨_,_,gp⟩ (by decide));have q9:=gp.cell (i:=9) rfl;have qf:=gp.frozen 9;clear hb gp jB;generalize f 0=rI,f 1=rJ,f 2=pY,f 3=pZ,f 4=p_,f 5=q_,f 6=rK,f 7=B9,f 9=CQ;clear f;go_wp2_with fail;go_end0
  exact ⟨rfl,by rw[oZ.out];exact ⟨iI,iJ,gc',L',kv,ks,nG,_,rv,hlo,by rw[Ui.out];exact od.out,⟨mH.out.g,mH.out.gg,mH.out.k,mH.out.kk,mH.out.n,mH.out.nn,mH.out.r⟩⟩,i_.out⟩
end Go.Proofs.YtcgfilmmokmdjaaGreat
