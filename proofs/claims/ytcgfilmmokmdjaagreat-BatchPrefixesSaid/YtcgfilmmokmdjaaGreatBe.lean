/- A part of the walk. -/
import Derived.Test.YtcgfilmmokmdjaaGreatBd
import Derived.Test.YtcgfilmmokmdjaaGreatHg
import Derived.Test.YtcgfilmmokmdjaaGreatQAA
set_option linter.all false
set_option maxRecDepth 100000
set_option maxHeartbeats 32000000
namespace Go.Proofs.YtcgfilmmokmdjaaGreat
open Go.RowKit
theorem zM6 (s : eL) (a : Option Addr) (n c : Nat) (L : List GP) (W : World) (hr : fH W (.slice a n c) L) (hg : ea L = s.dW) (hl : fA 1000 s.dW) :
    Calls Tryz.prog 11 #[ze s.id s.lim s.ro a n c] W (Kv W (tX s)):=by
  have h:=Yc s.id s.lim s.ro a n c L W hr (vI (hg ▸ hl) (by decide));obtain ⟨i,l,r,g⟩:=s;dsimp only at hg h ⊢;subst hg;exact h
theorem zGh (s : eL) (a : Option Addr) (n c : Nat) (L : List GP) (W : World) (hr : fH W (.slice a n c) L) (hg : ea L = s.dW) (hs : fA 1000 s.dW) (g : Gn) (sl : Sl) (hm : fq W sl g.m.st) (hl : ∀ j,j < 8 → (g.m.st j).length ≤ 10000) :
    Calls Tryz.prog 14 #[ze s.id s.lim s.ro a n c,zV g.num g.rev g.mode g.size sl g.m.live g.m.dZ] W (I2 W (yM s g)):=by
  have h:=zJp s.id s.lim s.ro a n c L W hr (vI (hg ▸ hs) (by decide)) (g,sl) hm hl;obtain ⟨i,l,r,gs⟩:=s;dsimp only at hg h ⊢;subst hg;exact h
theorem zEl {s : eL} {K : Nat} (h : fA K s.dW) : ∀ i,i < 8 → ((tX s).2.m.st i).length ≤ K:=fun i hi => by
  unfold tX
  split
  · rename_i hv
    exact h _ (uw ((zZ s).1 hv)) i hi
  exact aq _
theorem zDJ {g : Gn} {l : List Nd} {K : Nat} (h : ∀ i,i < 8 → (g.m.st i).length ≤ K) : ∀ i,i < 8 → ((xQ g l).2.m.st i).length ≤ K + l.length:=fun i hi => by
  have h0 : ((gY).m.st i).length ≤ K + l.length:=aq _;unfold xQ
  split
  · split
    · split
      · exact xg l g h i hi
      exact h0
    exact h0
  exact h0
def UB (B : Nat) (p : eL × Int) : pY:=⟨fun v w => ∃ a n c L,v = .tuple #[ze p.1.id p.1.lim p.1.ro a n c,.int .i64 p.2] ∧ gq w B (.slice a n c) L ∧ ea L = p.1.dW,fun _ _ _ hb ⟨a,n,c,L,h1,h2,h3⟩ => ⟨a,n,c,L,h1,h2.below hb,h3⟩⟩
def zLr (B : Nat) (s : eL) : pY:=⟨fun v w => ∃ a n c L,v = ze s.id s.lim s.ro a n c ∧ gq w B (.slice a n c) L ∧ ea L = s.dW,fun _ _ _ hb ⟨a,n,c,L,h1,h2,h3⟩ => ⟨a,n,c,L,h1,h2.below hb,h3⟩⟩
theorem lF.slot {W : World} {B : Nat} {P : fG} {ga Bu : Option Addr} {gn gc Bv gc' : Nat} {L L' : List GP} {kv : Value} {ks : List KP} {nv : Value} {es : List (Nd × Value)} {rv : Value} (h : lF W B P ga gn gc L kv ks nv es rv) (s : eL) (hg : gq W B (.slice Bu Bv gc') L') (B6 : ea L' = s.dW) : lF W B { P with t:=s } Bu Bv gc' L' kv ks nv es rv:=
  ⟨hg,B6,h.k,h.kk,h.n,h.nn,h.r⟩
def gM (W W' : World) (B : Nat) (T : TypeId) : Prop:=Below W.heap.size W W' ∨ ∃ g,iH W W' B g T
theorem gM.row {W W' : World} {B B' sz n : Nat} {T : TypeId} {v : Value} {xs : List Value} (hown : W.ownsRow B T sz v n xs) (hg : W.grownBy W' v.ownBlock) (hB : B' ≤ B) : gM W W' B' T:=by
  cases h : v.ownBlock with
  | none =>
    rw [h] at hg;exact .inl (Below.grown (aj _ _) hg (ai _) fun k hk => by cases hk)
  | some g =>
    rw [h] at hg;exact .inr ⟨g,iH.grown (ak hB (hown.lt g h).1) (Lib.ownsRow_kind hown g h) hg (.inr rfl)⟩
theorem iA.gD {W W' : World} {B : Nat} {T T' : TypeId} {sz : Nat} {v : Value} {n : Nat} {xs : List Value} (h : iA W B T sz v n xs) (ho : gM W W' B T') (hne : T ≠ T') : iA W' B T sz v n xs:=by
  rcases ho with ho | ⟨g,ho⟩
  · exact h.below ho
  exact h.jB ho hne
theorem gq.gD {W W' : World} {B : Nat} {T' : TypeId} {v : Value} {L : List GP} (h : gq W B v L) (ho : gM W W' B T') (h1 : 38 ≠ T') (h2 : 49 ≠ T') : gq W' B v L:=by
  rcases ho with ho | ⟨g,ho⟩
  · exact h.below ho
  exact h.jB ho h1 h2
theorem gN.gD {W W' : World} {B : Nat} {T' : TypeId} {v : Value} {ks : List KP} (h : gN W B v ks) (ho : gM W W' B T') (h1 : 89 ≠ T') (h2 : 24 ≠ T') : gN W' B v ks:=by
  rcases ho with ho | ⟨g,ho⟩
  · exact h.below ho
  exact h.jB ho h1 h2
theorem fW.gD {W W' : World} {B : Nat} {T' : TypeId} {v : Value} {es : List (Nd × Value)} (h : fW W B v es) (ho : gM W W' B T') (h1 : 56 ≠ T') (h2 : 5 ≠ T') : fW W' B v es:=by
  rcases ho with ho | ⟨g,ho⟩
  · exact h.below ho
  exact h.jB ho h1 h2
theorem wL {W W' : World} {B B' : Nat} {T T' : TypeId} {sz n : Nat} {v : Value} {xs : List Value} (h : W.ownsRow B' T sz v n xs) (ho : gM W W' B T') (hne : T ≠ T') : W'.ownsRow B' T sz v n xs:=by
  rcases ho with ho | ⟨g,ho⟩
  · exact zI h ho
  exact xp h ho hne
theorem dX.gD {W W' : World} {B b : Nat} {cs : Array Value} {T T' : TypeId} (h : dX W b cs T) (ho : gM W W' B T') (hne : T ≠ T') : dX W' b cs T:=by
  rcases ho with ho | ⟨g,ho⟩
  · exact h.below ho
  unfold dX
  rw [ho.blk b h.lt (fun e => by
    obtain ⟨c,f,h1⟩:=ho.ty
    have h2 : W.heap[b]? = some (.cells cs T (0,0)):=h
    rw [← e,h2] at h1
    injection h1 with h1
    injection h1 with _ h1
    exact hne h1)]
  exact h
def R2 : List TypeId:=[145,56,89,24,39]
structure fk (B : Nat) (w W : World) : Prop where
  b : Below B w W
  k : ∀ (i : Nat) (c : Array Value) (T : TypeId) (f : Nat × Nat),w.heap[i]? = some (Obj.cells c T f) → T ∉ R2 → W.heap[i]? = some (Obj.cells c T f)
theorem fk.size {B : Nat} {w W : World} (h : fk B w W) : w.heap.size ≤ W.heap.size:=h.b.size
theorem fk.of {B : Nat} {w W : World} (h : Below w.heap.size w W) (hB : B ≤ w.heap.size) : fk B w W:=⟨h.mono hB,fun i c T f h1 _ => by rw [h.block i (Array.getElem?_eq_some_iff.1 h1).1]; exact h1⟩
theorem fk.trans {B : Nat} {w W W' : World} (h : fk B w W) (h2 : fk B W W') : fk B w W':=⟨h.b.trans h2.b,fun i c T f h1 hT => h2.k i c T f (h.k i c T f h1 hT) hT⟩
theorem fk.step {B : Nat} {w W W' : World} (h : fk B w W) (hb : Below W.heap.size W W') (hB : B ≤ W.heap.size) : fk B w W':=h.trans (fk.of hb hB)
theorem fk.gD {B B' : Nat} {w W W' : World} {T : TypeId} (h : fk B w W) (ho : gM W W' B' T) (hT : T ∈ R2) (hb : Below B w W') : fk B w W':=⟨hb,fun i c T2 f h1 R3 => by
  have h2:=h.k i c T2 f h1 R3
  have hlt:=(Array.getElem?_eq_some_iff.1 h2).1
  rcases ho with ho | ⟨g,ho⟩
  · rw [ho.block i hlt]; exact h2
  rw [ho.blk i hlt (fun e => by
    obtain ⟨c',f',h3⟩:=ho.ty
    rw [← e,h2] at h3
    injection h3 with h3
    injection h3 with _ h3
    exact R3 (h3 ▸ hT))]
  exact h2⟩
theorem fk.pts {B b : Nat} {w W : World} {T : TypeId} (h : fk B w W) (hlo : B ≤ b) (vs : List (Nat × Value)) (ht : ∃ c f,W.heap[b]? = some (.cells c T f)) (hT : T ∈ R2) : fk B w (Go.Proofs.YtcgfilmmokmdjaaGreat.pts W b vs):=
  h.gD (.inr ⟨b,iH.pts hlo ht vs⟩) hT (zD hlo vs h.b)
theorem fk.own {B sz n : Nat} {w W W' : World} {T : TypeId} {v : Value} {xs : List Value} (h : fk B w W) (hown : W.ownsRow B T sz v n xs) (hB : B ≤ W.heap.size) (hg : W.grownBy W' v.ownBlock) (hT : T ∈ R2) : fk B w W':=
  h.gD (gM.row hown hg (ai B)) hT (zL h.b hown hB hg)
theorem fk.box {B b : Nat} {w W : World} {cs : Array Value} {T : TypeId} (h : fk B w W) (hb : dX w b cs T) (hT : T ∉ R2) : dX W b cs T:=h.k _ _ _ _ hb hT
theorem lF.need {W W' : World} {B : Nat} {P : fG} {ga : Option Addr} {gn gc : Nat} {L : List GP} {kv : Value} {ks : List KP} {nv JQ : Value} {es : List (Nd × Value)} {rv : Value} (h : lF W B P ga gn gc L kv ks nv es rv) (x : Nd) (dv : Value) (hd : gF W B dv x.data)
    (hg : W.grownBy W' nv.ownBlock) (ho : W'.ownsRow B 56 4 JQ (es.length + 1) (wU es ++ uB (x,dv))) : lF W' B { P with needs:=P.needs ++ [x] } ga gn gc L kv ks JQ (es ++ [(x,dv)]) rv:=by
  have hO:=gM.row h.n.row hg (ai _);refine ⟨h.g.gD hO (by decide) (by decide),h.gg,h.k.gD hO (by decide) (by decide),h.kk,⟨?_,fun p hp => ?_⟩,?_,wL h.r hO (by decide)⟩
  · have e : wU (es ++ [(x,dv)]) = wU es ++ uB (x,dv):=by unfold wU; rw [cC]; simp
    rw [e,ax];exact ho
  · rcases List.mem_append.1 hp with hp | hp
    · exact iA.gD (h.n.dat p hp) hO (by decide)
    obtain rfl:=List.mem_singleton.1 hp;exact iA.gD hd hO (by decide)
  rw [bE,h.nn]; rfl
theorem zMe (i l : Int) (r : Bool) (ga : Option Addr) (gn gc : Nat) (eN : Bool) (kv nv rv : Value) (mg : Int) (u : Value) : (qJ i l r ga gn gc eN kv nv rv mg).setIfInBounds 7 u = qJ i l r ga gn gc eN kv u rv mg:=by
  simp only [aM,aN,aK]
theorem zMZ (i l : Int) (r : Bool) (ga : Option Addr) (gn gc : Nat) (eN : Bool) (kv nv rv : Value) (mg z : Int) : (qJ i l r ga gn gc eN kv nv rv mg).setIfInBounds 9 (.int .i64 z) = qJ i l r ga gn gc eN kv nv rv z:=by
  simp only [aM,aN,aK]
theorem zMz {W W' : World} {B b sz n : Nat} {cs : Array Value} {T : TypeId} {v : Value} {xs : List Value} (h : dX W b cs T) (_ : W.ownsRow B T sz v n xs) (hg : W.grownBy W' v.ownBlock) (hne : v.ownBlock ≠ some b) : dX W' b cs T:=h.grown hg fun e => hne e.symm
theorem UC (i l : Int) (r : Bool) (ga : Option Addr) (gn gc : Nat) (eN : Bool) (kv nv rv : Value) (mg : Int) (i' l' : Int) (r' : Bool) (Bu : Option Addr) (Bv gc' : Nat) :
    (zP i' l' r' Bu Bv gc').foldl (fun cs p => cs.setIfInBounds p.1 p.2) (qJ i l r ga gn gc eN kv nv rv mg) = qJ i' l' r' Bu Bv gc' eN kv nv rv mg:=by
  simp only [cG,cV,aM,aN,aK]
theorem zFL {w : World} {B b : Nat} {P : fG} {ga : Option Addr} {gn gc : Nat} {L : List GP} {kv : Value} {ks : List KP} {nv : Value} {es : List (Nd × Value)} {rv : Value} (hlo : B ≤ b) (hP : CG w b P.t.id P.t.lim P.t.ro ga gn gc P.eN kv nv rv P.bytes) (hR : lF w B P ga gn gc L kv ks nv es rv) (hl : fA 900 P.t.dW) (hB : B ≤ w.heap.size) (x : Nd) (da : Option Addr) (dn dc : Nat) (hx : gF w B (.slice da dn dc) x.data) (Ch : x.data.length = dn) (iy : dn ≤ 100000) (hel : es.length ≤ 1000) (hby : 0 ≤ P.bytes ∧ P.bytes ≤ 1000000000) :
    Calls Tryz.prog 147 #[.pointer (some ⟨b,0,none⟩),.agg #[.int .u64 (x.key : Int),.int .u32 (x.ck : Int),.bool x.del,.slice da dn dc]] w fun e w' => e = .returned (.tuple #[]) ∧ Dd w' B b (vy P x) ∧ fk B w w':=by
  have fP : b < w.heap.size:=hP.lt;have R7 : ∀ g,nv.ownBlock = some g → g < w.heap.size:=fun g h => (hR.n.row.lt g h).2
  have LB : eP dn ≤ 4127:=xt dn;have MD:=zh (fun W (hb : Below w.heap.size w W) => zM6 P.t ga gn gc L W (hR.g.rd.below hb) hR.gg (hl.mono (by decide)));have QY:=zEl hl;have CW:=zh (fun W sT v (hm : fq W sT (tX P.t).2.m.st) (hr : mr W v [(x,.slice da dn dc)]) => zHK (tX P.t).2 sT v [(x,.slice da dn dc)] 900 W hm QY hr (by simp));have I6:=zh (fun W sA (hb : Below w.heap.size w W) (hm : fq W sA (xQ (tX P.t).2 [x]).2.m.st) => zGh P.t ga gn gc L W (hR.g.rd.below hb) hR.gg (hl.mono (by decide)) (xQ (tX P.t).2 [x]).2 sA hm (fun j hj => ak (zDJ QY j hj) (by simp)));have Bc:=zh (show vy P x = { P with t:=(yM P.t (xQ (tX P.t).2 [x]).2).1,needs:=P.needs ++ [x],bytes:=P.bytes + (eP x.data.length : Int) } from rfl);generalize vy P x = P1 at *;simp only [List.map_cons,List.map_nil] at CW;generalize yM P.t (xQ (tX P.t).2 [x]).2 = C at *;obtain ⟨C,ce⟩:=C
  generalize hTT : tX P.t = TT at *;clear hTT QY;obtain ⟨te,T⟩:=TT;generalize hAA : xQ T [x] = AA at *;clear hAA;obtain ⟨ae,A⟩:=AA;obtain ⟨tn,tr,tm,tz,⟨tf,tL,tG⟩⟩:=T;obtain ⟨an,ar,am,az,⟨af,aL,aG⟩⟩:=A;dsimp only at MD CW I6 Bc;have HD:=zh hx;have HP:=zh hP;have HR:=zh hR;have iW:=zh (fun W => qW dn W (by omega));have HXl:=zh (show (eP x.data.length : Int) = (eP dn : Int) by rw [Ch]);clear hP hR hx hl;have Qv:=zh (show uB (x,.slice da dn dc) = [.int .u64 (x.key : Int),.int .u32 (x.ck : Int),.bool x.del,.slice da dn dc] from rfl);generalize (x.key : Int) = xk at *;generalize (x.ck : Int) = xq at *;generalize x.del = xd at *
  go_enter Tryz.func147,Tryz.ntmps147
  go_upto_region 1 with fail;change Code.wp _ _ _ _ (w.alloc (.cells #[.int .u64 xk,.int .u32 xq,.bool xd,.slice da dn dc] 56));have eO:=(aj w.heap.size w).alloc (ai _) (.cells #[.int .u64 xk,.int .u32 xq,.bool xd,.slice da dn dc] 56);have HX:=zh (dX.new w #[.int .u64 xk,.int .u32 xq,.bool xd,.slice da dn dc] 56);have HB:=zh eO;replace HD:=zh (HD.out.below eO);replace HP:=zh (HP.out.below eO);replace HR:=zh (HR.out.below eO);have hb3 : b < w.heap.size:=fP;clear eO;generalize w.alloc (.cells #[.int .u64 xk,.int .u32 xq,.bool xd,.slice da dn dc] 56) = w1 at *;generalize E8 : w.heap.size = b3 at *;have YF:=zh E8;have hz1 : w.heap.size ≤ b3:=by omega
  have hz2 : b3 ≤ w.heap.size:=by omega
  clear E8;have p0:=HP.out.cell (i:=0) rfl;have p1:=HP.out.cell (i:=1) rfl;have p2:=HP.out.cell (i:=2) rfl;have p3:=HP.out.cell (i:=3) rfl;go_wp2_with fail;refine (MD.out w1 HB.out).mono ?_;rintro e w2 ⟨⟨sT,rfl,ho⟩,hb⟩;dsimp only;clear p0 p1 p2 p3 MD;have eV:=zh (hb.mono (ai _));have HT:=zh (show fq w2 sT tf from ho.rd);clear ho;replace HX:=zh (HX.out.below hb);replace HD:=zh (HD.out.below hb);replace HP:=zh (HP.out.below hb);replace HR:=zh (HR.out.below hb);replace HB:=zh (HB.out.trans (hb.mono (by have:=HB.out.size; omega)));clear hb eV;have C5:=HR;have DV:=HP;have NA:=HD;have jV:=HX;have eV:=HB;go_upto_region 2 with fail;change Code.wp _ _ _ _ (w2.alloc (.cells (zQ tn tr tm tz sT tL tG) 38));have eO:=zb w2 tn tr tm tz sT tL tG 38;have HG:=zh (dX.new w2 (zQ tn tr tm tz sT tL tG) 38);have H3 : b3 ≤ w2.heap.size:=ak hz2 HB.out.size
  have hX3 : b3 < w2.heap.size:=HX.out.lt;replace HT:=zh (HT.out.below eO);replace HX:=zh (HX.out.below eO);replace HD:=zh (HD.out.below eO);replace HP:=zh (HP.out.below eO);replace HR:=zh (HR.out.below eO);replace HB:=zh (HB.out.trans (eO.mono H3));have EZ:=zh eO;clear eO;generalize w2.alloc (.cells (zQ tn tr tm tz sT tL tG) 38) = w3 at *;generalize R9 : w2.heap.size = b4 at *;have YG:=zh R9;have hz3 : w2.heap.size ≤ b4:=by omega
  have XH : b4 ≤ w2.heap.size:=by omega
  clear R9;obtain ⟨g0,g1,g2,g3,g4,g5,g6,g7,g8,g9,g10,g11,g12,g13⟩:=HG.out.gen.q;have n0:=HX.out.cell (i:=0) rfl;have n1:=HX.out.cell (i:=1) rfl;have n2:=HX.out.cell (i:=2) rfl;have n3:=HX.out.cell (i:=3) rfl;go_wp2_with fail;have eO:=(aj w3.heap.size w3).alloc (ai _) (.cells #[.int .u64 xk,.int .u32 xq,.bool xd,.slice da dn dc] 56);have HN:=zh (show mr (w3.alloc (.cells #[.int .u64 xk,.int .u32 xq,.bool xd,.slice da dn dc] 56)) (.slice (some ⟨w3.heap.size,0,none⟩) 1 1) [(x,.slice da dn dc)] from ⟨by rw [show wU [(x,.slice da dn dc)] = [.int .u64 xk,.int .u32 xq,.bool xd,.slice da dn dc] by unfold wU; rw [cN,List.flatMap_nil,bB,Qv.out]]; exact Rd.new w3 4 [.int .u64 xk,.int .u32 xq,.bool xd,.slice da dn dc] 56 1 rfl (by decide),fun p hp => by obtain rfl:=List.mem_singleton.1 hp; exact iw.below HD.out.1 eO⟩)
  refine (CW.out _ sT _ (HT.out.below eO) HN.out).mono ?_;rintro e w4 ⟨⟨sA,rfl,ho⟩,hb⟩;dsimp only;replace hb:=zA eO hb;clear g0 g1 g2 g3 g4 g5 g6 g7 g8 g9 g10 g11 g12 g13;clear n0 n1 n2 n3 HN CW eO;have HA:=zh (show fq w4 sA af from ho.rd);have YH : b3 ≤ w3.heap.size:=ak hz2 HB.out.size;have hb4 : b4 < w3.heap.size:=HG.out.lt;replace HG:=zh (HG.out.below hb);replace HX:=zh (HX.out.below hb);replace HD:=zh (HD.out.below hb);replace HP:=zh (HP.out.below hb);replace HR:=zh (HR.out.below hb);replace HB:=zh (HB.out.trans (hb.mono YH));replace EZ:=zh (EZ.out.trans (hb.mono (show b4 ≤ w3.heap.size by omega)));clear ho hb HT;obtain ⟨g0,g1,g2,g3,g4,g5,g6,g7,g8,g9,g10,g11,g12,g13⟩:=HG.out.gen.q;have gf:=HG.out.gen.f;go_upto_region 3 with fail;change Code.wp _ _ _ _ (pts w4 b4 (zJ an ar am az sA aL aG));have HG5:=zh (HG.out.Cu an ar am az sA aL aG)
  have HA5:=zh (fq.gen HA.out HG.out (zJ an ar am az sA aL aG));have Ij:=zD (B:=b4) (b:=b4) (ai _) (zJ an ar am az sA aL aG) EZ.out;have gw:=zh (zD (B:=b3) (b:=b4) H3 (zJ an ar am az sA aL aG) HB.out);clear HG HA HX HP HR HD HB EZ;clear g0 g1 g2 g3 g4 g5 g6 g7 g8 g9 g10 g11 g12 g13 gf;generalize pts w4 b4 (zJ an ar am az sA aL aG) = v5 at *;rw [← YG.out] at Ij;have HP:=zh (DV.out.below Ij);have HR:=zh (C5.out.below Ij);have HD:=zh (NA.out.below Ij);have HX:=zh (jV.out.below Ij);clear Ij DV C5 NA jV eV;have hB5 : B ≤ v5.heap.size:=by have:=gw.out.size; omega
  go_cut [32] (fun vq wx => vq = .pointer (some ⟨b,0,none⟩) ∧ ∃ Bu Bv gc' L',Hid (CG wx b C.id C.lim C.ro Bu Bv gc' P.eN kv nv rv P.bytes) ∧ Hid (lF wx B { P with t:=C } Bu Bv gc' L' kv ks nv es rv) ∧ Hid (gF wx B (.slice da dn dc) x.data) ∧ Hid (dX wx b3 #[.int .u64 xk,.int .u32 xq,.bool xd,.slice da dn dc] 56) ∧ Hid (fk B w wx))
  case first =>
    refine yh [eX (.pointer (some ⟨b,0,none⟩)),eX (.pointer (some ⟨b,0,none⟩)),eX (.pointer (some ⟨b,0,none⟩)),eX (.pointer (some ⟨b,0,none⟩)),eX (ze P.t.id P.t.lim P.t.ro ga gn gc),eX (zV an ar am az sA aL aG),UB B (C,ce),UB B (C,ce),zLr B C,eX (.int .i64 ce),eX (.pointer (some ⟨b,0,none⟩)),eX (.pointer (some ⟨b,0,none⟩))] [] 56 9 (by kernel_rfl) (by kernel_rfl) rfl rfl (by decide) (by rfl) (by kernel_rfl) (fun f => by simp [fD,zW,Act.put]; exact rfl) ?_ ?_ ?_
    · refine ⟨?_,?_,?_,?_,?_,?_,?_,?_,?_,?_,?_,?_,trivial⟩
      · intro f w1 hb hd
        clear hd;dsimp only;go_wp2_with fail;exact pS rfl (by simp)
      · intro f w1 hb hd
        clear hd;dsimp only;go_wp2_with fail;exact pS rfl (by simp)
      · intro f w1 hb hd
        have d1 : f 1 = (.pointer (some ⟨b,0,none⟩)):=hd 1 (by kernel_rfl);clear hd;dsimp only;rw [d1];go_wp2_with fail;exact pS rfl (by simp)
      · intro f w1 hb hd
        have d2 : f 2 = (.pointer (some ⟨b,0,none⟩)):=hd 2 (by kernel_rfl);clear hd;dsimp only;rw [d2];go_wp2_with fail;exact pS rfl (by simp)
      · intro f w1 hb hd
        have d3 : f 3 = (.pointer (some ⟨b,0,none⟩)):=hd 3 (by kernel_rfl);clear hd;dsimp only;rw [d3];have hx:=HP.out.below hb;have q0:=hx.cell (i:=0) rfl;have q1:=hx.cell (i:=1) rfl;have q2:=hx.cell (i:=2) rfl;have q3:=hx.cell (i:=3) rfl;clear hx;go_wp2_with fail;exact pS rfl (by simp)
      · intro f w1 hb hd
        clear hd;dsimp only;have hx:=(HG5.out.below hb).gen;obtain ⟨q0,q1,q2,q3,q4,q5,q6,q7,q8,q9,FC,FD,FE,FF⟩:=hx.q;clear hx;go_wp2_with fail;exact pS rfl (by simp)
      · intro f w1 hb hd
        have d4 : f 4 = (ze P.t.id P.t.lim P.t.ro ga gn gc):=hd 4 (by kernel_rfl);have d5 : f 5 = (zV an ar am az sA aL aG):=hd 5 (by kernel_rfl);clear hd;dsimp only;rw [d4];rw [d5];go_wp2_with fail;refine (I6.out w1 sA (gw.out.trans (hb.mono (ak hz2 gw.out.size))) (HA5.out.below hb)).mono ?_;rintro e w9 ⟨⟨qa,qn,qc,qL,rfl,hown,hgn⟩,gL⟩;have ED:=zh (show gq w9 B (.slice qa qn qc) qL from gq.own hown);have jm:=zh hgn;clear hown hgn;go_wp2_with fail;exact ⟨rfl,gL,fun t ht => by injection ht with ht; subst ht; exact ⟨⟨qa,qn,qc,qL,rfl,ED.out,jm.out⟩,fun h => by simp at h⟩⟩
      · intro f w1 hb hd
        obtain ⟨a6,n6,c6,L6,d6,r6,g6⟩:=show ∃ a n c L,f 6 = .tuple #[ze C.id C.lim C.ro a n c,.int .i64 ce] ∧ gq w1 B (.slice a n c) L ∧ ea L = C.dW from hd 6 (by kernel_rfl);clear hd;dsimp only;rw [d6];have ED:=zh r6;have jm:=zh g6;clear r6 g6;go_wp2_with fail;exact ⟨rfl,aj _ _,fun t ht => by injection ht with ht; subst ht; exact ⟨⟨a6,n6,c6,L6,rfl,ED.out,jm.out⟩,fun h => by simp at h⟩⟩
      · intro f w1 hb hd
        obtain ⟨a7,n7,c7,L7,d7,r7,g7⟩:=show ∃ a n c L,f 7 = .tuple #[ze C.id C.lim C.ro a n c,.int .i64 ce] ∧ gq w1 B (.slice a n c) L ∧ ea L = C.dW from hd 7 (by kernel_rfl);clear hd;dsimp only;rw [d7];have ED:=zh r7;have jm:=zh g7;clear r7 g7;go_wp2_with fail;exact ⟨rfl,aj _ _,fun t ht => by injection ht with ht; subst ht; exact ⟨⟨a7,n7,c7,L7,rfl,ED.out,jm.out⟩,fun h => by simp at h⟩⟩
      · intro f w1 hb hd
        obtain ⟨a7,n7,c7,L7,d7,r7,g7⟩:=show ∃ a n c L,f 7 = .tuple #[ze C.id C.lim C.ro a n c,.int .i64 ce] ∧ gq w1 B (.slice a n c) L ∧ ea L = C.dW from hd 7 (by kernel_rfl);clear hd;dsimp only;rw [d7];clear r7 g7;go_wp2_with fail;exact pS rfl (by simp)
      · intro f w1 hb hd
        have d0 : f 0 = (.pointer (some ⟨b,0,none⟩)):=hd 0 (by kernel_rfl);clear hd;dsimp only;rw [d0];go_wp2_with fail;exact pS rfl (by simp)
      intro f w1 hb hd;have d10 : f 10 = (.pointer (some ⟨b,0,none⟩)):=hd 10 (by kernel_rfl);clear hd;dsimp only;rw [d10];go_wp2_with fail;exact pS rfl (by simp)
    · intro f w8 hb hd iD
      clear iD;obtain ⟨a8,n8,c8,L8,d8,r8,g8⟩:=show ∃ a n c L,f 8 = ze C.id C.lim C.ro a n c ∧ gq w8 B (.slice a n c) L ∧ ea L = C.dW from hd 8 (show 8 < 12 by decide);have d11 : f 11 = .pointer (some ⟨b,0,none⟩):=hd 11 (show 11 < 12 by decide)
      try dsimp only
      rw [d8,d11];clear hd d8 d11;have iN:=HP.out.below hb;have HO:=iH.pts (T:=145) hlo ⟨_,_,iN⟩ (zP C.id C.lim C.ro a8 n8 c8);have lC:=zh (show CG _ b C.id C.lim C.ro a8 n8 c8 P.eN kv nv rv P.bytes from (by have h:=dX.sets (zP C.id C.lim C.ro a8 n8 c8) iN; rw [UC] at h; exact h));have iQ:=zh (((HR.out.below hb).slot C r8 g8).jB HO);have HDn:=zh (show gF _ B _ _ from iA.jB (HD.out.below hb) HO (by decide));have JR:=zh ((HX.out.below hb).eD (show b3 ≠ b by omega) (zP C.id C.lim C.ro a8 n8 c8));have fK:=zh ((fk.of ((gw.out.trans (hb.mono (ak hz2 gw.out.size))).mono hz1) (ak hB hz2)).pts hlo (zP C.id C.lim C.ro a8 n8 c8) ⟨_,_,iN⟩ (by decide));have q0:=iN.cell (i:=0) rfl;have q1:=iN.cell (i:=1) rfl;have q2:=iN.cell (i:=2) rfl;have q3:=iN.cell (i:=3) rfl;have qf:=iN.frozen;clear r8 g8 hb iN HO
      generalize f 0 = D3,f 1 = Dy,f 2 = Dz,f 3 = DC,f 4 = DF,f 5 = DG,f 6 = E7,f 7 = Ii,f 9 = KI,f 10 = Es;clear f;change wpList _ _ _ (_ :: []) _ _;go_wp2_with fail;go_meet
      case rel => exact ⟨rfl,a8,n8,c8,L8,lC,iQ,HDn,JR,fK⟩
    intro f w8 hb hd iD;clear iD;obtain ⟨a8,n8,c8,L8,d8,r8,g8⟩:=show ∃ a n c L,f 8 = ze C.id C.lim C.ro a n c ∧ gq w8 B (.slice a n c) L ∧ ea L = C.dW from hd 8 (show 8 < 12 by decide) (show 8 ≠ 9 by decide);have d11 : f 11 = .pointer (some ⟨b,0,none⟩):=hd 11 (show 11 < 12 by decide) (show 11 ≠ 9 by decide);obtain ⟨a7,n7,c7,L7,d7,r7,g7⟩:=show ∃ a n c L,f 7 = .tuple #[ze C.id C.lim C.ro a n c,.int .i64 ce] ∧ gq w8 B (.slice a n c) L ∧ ea L = C.dW from hd 7 (show 7 < 12 by decide) (show 7 ≠ 9 by decide);clear r7 g7
    try dsimp only
    rw [d7,d8,d11];clear hd d7 d8 d11;have iN:=HP.out.below hb;have HO:=iH.pts (T:=145) hlo ⟨_,_,iN⟩ (zP C.id C.lim C.ro a8 n8 c8);have lC:=zh (show CG _ b C.id C.lim C.ro a8 n8 c8 P.eN kv nv rv P.bytes from (by have h:=dX.sets (zP C.id C.lim C.ro a8 n8 c8) iN; rw [UC] at h; exact h));have iQ:=zh (((HR.out.below hb).slot C r8 g8).jB HO);have HDn:=zh (show gF _ B _ _ from iA.jB (HD.out.below hb) HO (by decide));have JR:=zh ((HX.out.below hb).eD (show b3 ≠ b by omega) (zP C.id C.lim C.ro a8 n8 c8));have fK:=zh ((fk.of ((gw.out.trans (hb.mono (ak hz2 gw.out.size))).mono hz1) (ak hB hz2)).pts hlo (zP C.id C.lim C.ro a8 n8 c8) ⟨_,_,iN⟩ (by decide));have q0:=iN.cell (i:=0) rfl;have q1:=iN.cell (i:=1) rfl;have q2:=iN.cell (i:=2) rfl;have q3:=iN.cell (i:=3) rfl;have qf:=iN.frozen;clear r8 g8 hb iN HO
    generalize f 0 = D3,f 1 = Dy,f 2 = Dz,f 3 = DC,f 4 = DF,f 5 = DG,f 6 = E7,f 9 = KI,f 10 = Es;clear f;change wpList _ _ _ (_ :: _ :: []) _ _;go_wp2_with fail;go_meet
    case rel => exact ⟨rfl,a8,n8,c8,L8,lC,iQ,HDn,JR,fK⟩
  obtain ⟨rfl,Bu,Bv,gc',L',HP,HR,HD,HX,HB⟩:=hcut;generalize wc = v6 at *;obtain ⟨na,nc,YI,Ds,mq,_⟩:=zM HR.out.n.row;subst YI;have Ym : B ≤ v6.heap.size:=ak (ak hB hz2) HB.out.size;have l9 : b < v6.heap.size:=HP.out.lt;have h36 : b3 < v6.heap.size:=HX.out.lt;have eO:=zy ((aj v6.heap.size v6).alloc (ai _) (.cells #[.int .u64 xk,.int .u32 xq,.bool xd,.slice da dn dc] 56));have ME:=zh (HP.out.below eO);have KJ:=zh (HR.out.below eO);have HDa:=zh (show gF _ B _ _ from iA.below HD.out eO);have PV:=zh (HX.out.below eO);have H9:=zh (HB.out.step eO Ym);have Bd:=zh KJ.out.n.row;have UD:=zh (fun W (hg : (World.drew (v6.alloc (.cells #[.int .u64 xk,.int .u32 xq,.bool xd,.slice da dn dc] 56))).grownBy W (Value.slice na es.length nc).ownBlock) => ME.out.gD (gM.row Bd.out hg (ai _)) (by decide))
  have hwX:=fun {W : World} (hg : (World.drew (v6.alloc (.cells #[.int .u64 xk,.int .u32 xq,.bool xd,.slice da dn dc] 56))).grownBy W (Value.slice na es.length nc).ownBlock) => (show dX W b3 #[.int .u64 xk,.int .u32 xq,.bool xd,.slice da dn dc] 56 from zMz PV.out Bd.out hg fun e => by have:=R7 _ e; omega)
  have aoo : es.length + 1 ≤ 1001:=by omega
  clear eO;have q7:=HP.out.cell (i:=7) rfl;have n0:=HX.out.cell (i:=0) rfl;have n1:=HX.out.cell (i:=1) rfl;have n2:=HX.out.cell (i:=2) rfl;have n3:=HX.out.cell (i:=3) rfl;go_upto_region 4 with fail
  go_cut [33] (fun vq wx => vq = .pointer (some ⟨b,0,none⟩) ∧ ∃ JQ,Hid (CG wx b C.id C.lim C.ro Bu Bv gc' P.eN kv JQ rv P.bytes) ∧ Hid (lF wx B { P with t:=C,needs:=P.needs ++ [x] } Bu Bv gc' L' kv ks JQ (es ++ [(x,.slice da dn dc)]) rv) ∧ Hid (dX wx b3 #[.int .u64 xk,.int .u32 xq,.bool xd,.slice da dn dc] 56) ∧ Hid (fk B w wx))
  case first =>
   go_region_law ((refine vP (n:=es.length) (m:=1) (by rfl) (.tmp 38) (.tmp 40) 23 (by rfl) Xj B (by rfl) Bd.out (by rfl) (Rd.drew (Rd.Da v6.heap.size v6 rfl 4 [.int .u64 xk,.int .u32 xq,.bool xd,.slice da dn dc] 56 1 rfl (by decide))) (fun u hu => by simp only [cA,cB,or_false] at hu; rcases hu with h | h | h | h <;> rw [h] <;> rfl) (by unfold maxLen; omega) (by omega) (by simp; omega) ?_; intro v2 w8 eC fB hv2; clear hv2; obtain ⟨pV,pW,hv2,_,_,_⟩:=zM eC; subst hv2; have hp2:=UD.out _ fB; have c7:=hp2.cell (i:=7) rfl; have f7:=hp2.frozen 7))
   all_goals
    have Bk:=zh (show dX (w8.setCell ⟨b,7,none⟩ (.slice pV (es.length + 1) pW)) b3 #[.int .u64 xk,.int .u32 xq,.bool xd,.slice da dn dc] 56 from dX.eD (c:=b) (by omega) [(7,.slice pV (es.length + 1) pW)] (hwX fB));have A_ : iH w8 (w8.setCell ⟨b,7,none⟩ (.slice pV (es.length + 1) pW)) B b 145:=iH.pts hlo ⟨_,_,hp2⟩ [(7,.slice pV (es.length + 1) pW)];have CX:=zh ((KJ.out.need x (.slice da dn dc) HDa.out fB (by rw [Qv.out]; exact eC)).jB A_);have El:=zh (show CG (w8.setCell ⟨b,7,none⟩ (.slice pV (es.length + 1) pW)) b C.id C.lim C.ro Bu Bv gc' P.eN kv (.slice pV (es.length + 1) pW) rv P.bytes from (by have h:=hp2.set 7 (.slice pV (es.length + 1) pW); rw [zMe] at h; exact h));have lL:=zh ((H9.out.own Bd.out (ak Ym (by simp)) fB (by decide)).pts hlo [(7,.slice pV (es.length + 1) pW)] ⟨_,_,hp2⟩ (by decide));clear fB eC hp2 c7 f7 A_;go_wp2_with fail;go_meet
    case rel => exact ⟨rfl,_,El,CX,Bk,lL⟩
  obtain ⟨rfl,JQ,HP,HR,HX,HB⟩:=hcut;generalize wc = v7 at *;clear ME KJ HDa PV H9 Bd UD q7 n0 n1 n2 n3 hwX;go_upto_region 5 with fail;have B4 : b < v7.heap.size:=HP.out.lt;have hB7 : B ≤ v7.heap.size:=ak (ak hB hz2) HB.out.size;refine yx [eX (.pointer (some ⟨b,0,none⟩)),eX (.pointer (some ⟨b,0,none⟩)),eX (.pointer (some ⟨b,9,none⟩)),eX (.int .i64 P.bytes),eX (.pointer (some ⟨b3,3,none⟩)),eX (.slice da dn dc),eX (.int .i64 (dn : Int)),eX (.int .i64 (eP dn : Int)),eX (.int .i64 (P.bytes + (eP dn : Int))),eX (.pointer (some ⟨b,0,none⟩)),eX (.pointer (some ⟨b,9,none⟩))] [] 56 (by kernel_rfl) (by kernel_rfl) (by rfl) (by kernel_rfl) (fun f => by simp [fD,zW,Act.put]; exact rfl) ?_ ?_
  · refine ⟨?_,?_,?_,?_,?_,?_,?_,?_,?_,?_,?_,trivial⟩
    · intro f w1 hb hd
      clear hd;dsimp only;go_wp2_with fail;exact pS rfl (by simp)
    · intro f w1 hb hd
      have d0 : f 0 = (.pointer (some ⟨b,0,none⟩)):=hd 0 (by kernel_rfl);clear hd;dsimp only;rw [d0];go_wp2_with fail;exact pS rfl (by simp)
    · intro f w1 hb hd
      have d1 : f 1 = (.pointer (some ⟨b,0,none⟩)):=hd 1 (by kernel_rfl);clear hd;dsimp only;rw [d1];go_wp2_with fail;exact pS rfl (by simp)
    · intro f w1 hb hd
      have d2 : f 2 = (.pointer (some ⟨b,9,none⟩)):=hd 2 (by kernel_rfl);clear hd;dsimp only;rw [d2];have q9:=(HP.out.below hb).cell (i:=9) rfl;go_wp2_with fail;exact pS rfl (by simp)
    · intro f w1 hb hd
      clear hd;dsimp only;go_wp2_with fail;exact pS rfl (by simp)
    · intro f w1 hb hd
      have d4 : f 4 = (.pointer (some ⟨b3,3,none⟩)):=hd 4 (by kernel_rfl);clear hd;dsimp only;rw [d4];have q3:=(HX.out.below hb).cell (i:=3) rfl;go_wp2_with fail;exact pS rfl (by simp)
    · intro f w1 hb hd
      have d5 : f 5 = (.slice da dn dc):=hd 5 (by kernel_rfl);clear hd;dsimp only;rw [d5];go_wp2_with fail;exact pS rfl (by simp)
    · intro f w1 hb hd
      have d6 : f 6 = (.int .i64 (dn : Int)):=hd 6 (by kernel_rfl);clear hd;dsimp only;rw [d6];go_wp2_with fail;refine (iW.out w1).mono ?_;rintro e w9 ⟨rfl,rfl⟩;go_wp2_with fail;exact pS rfl (by simp)
    · intro f w1 hb hd
      have d3 : f 3 = (.int .i64 P.bytes):=hd 3 (by kernel_rfl);have d7 : f 7 = (.int .i64 (eP dn : Int)):=hd 7 (by kernel_rfl);clear hd;dsimp only;rw [d3];rw [d7];have j0:=hby.1;have j1:=hby.2;have j2:=LB;go_wp2_with fail;exact pS rfl (by simp)
    · intro f w1 hb hd
      have d0 : f 0 = (.pointer (some ⟨b,0,none⟩)):=hd 0 (by kernel_rfl);clear hd;dsimp only;rw [d0];go_wp2_with fail;exact pS rfl (by simp)
    intro f w1 hb hd;have d9 : f 9 = (.pointer (some ⟨b,0,none⟩)):=hd 9 (by kernel_rfl);clear hd;dsimp only;rw [d9];go_wp2_with fail;exact pS rfl (by simp)
  intro f w8 hb hd iD;clear iD;have d8 : f 8 = .int .i64 (P.bytes + (eP dn : Int)):=hd 8 (show 8 < 11 by decide);have d10 : f 10 = .pointer (some ⟨b,9,none⟩):=hd 10 (show 10 < 11 by decide)
  try dsimp only
  rw [d8,d10];clear hd d8 d10;have iN:=HP.out.below hb;have A_ : iH w8 (w8.setCell ⟨b,9,none⟩ (.int .i64 (P.bytes + (eP dn : Int)))) B b 145:=iH.pts hlo ⟨_,_,iN⟩ [(9,.int .i64 (P.bytes + (eP dn : Int)))];have CX:=zh ((HR.out.below hb).jB A_);have El:=zh (show CG (w8.setCell ⟨b,9,none⟩ (.int .i64 (P.bytes + (eP dn : Int)))) b C.id C.lim C.ro Bu Bv gc' P.eN kv JQ rv (P.bytes + (eP dn : Int)) from (by have h:=iN.set 9 (.int .i64 (P.bytes + (eP dn : Int))); rw [zMZ] at h; exact h));have lL:=zh ((HB.out.step hb hB7).pts hlo [(9,.int .i64 (P.bytes + (eP dn : Int)))] ⟨_,_,iN⟩ (by decide));have q9:=iN.cell (i:=9) rfl;have qf:=iN.frozen 9;clear hb iN A_;generalize f 0 = D3,f 1 = Dy,f 2 = Dz,f 3 = DC,f 4 = DF,f 5 = DG,f 6 = E7,f 7 = Ii,f 9 = KI;clear f;go_wp2_with fail;go_end0
  exact ⟨rfl,by rw [Bc.out]; exact ⟨Bu,Bv,gc',L',kv,ks,JQ,_,rv,hlo,by rw [HXl.out]; exact El.out,⟨CX.out.g,CX.out.gg,CX.out.k,CX.out.kk,CX.out.n,CX.out.nn,CX.out.r⟩⟩,lL.out⟩
end Go.Proofs.YtcgfilmmokmdjaaGreat
