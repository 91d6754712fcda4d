/- A part of the walk. -/
import Derived.Test.YtcgfilmmokmdjaaGreatBd
import Derived.Test.YtcgfilmmokmdjaaGreatHg
import Derived.Test.YtcgfilmmokmdjaaGreatQAA
set_option maxRecDepth 100000
set_option maxHeartbeats 32000000
namespace Go.Proofs.YtcgfilmmokmdjaaGreat
open Go.RowKit
theorem zMN (s : eE) (a : Option Addr) (n c : Nat) (L : List GP) (W : World) (hr : fl W (.slice a n c) L) (hg : dV L = s.dP) (hl : eV 1000 s.dP) :
    Calls Tryz.prog 11 #[zZ s.id s.lim s.ro a n c] W (Hx W (uG s)) := by
  have h := X9 s.id s.lim s.ro a n c L W hr (wm (hg ▸ hl) (by decide));obtain ⟨i, l, r, g⟩ := s;dsimp only at hg h ⊢;subst hg;exact h
theorem Y2 (s : eE) (a : Option Addr) (n c : Nat) (L : List GP) (W : World) (hr : fl W (.slice a n c) L) (hg : dV L = s.dP) (hs : eV 1000 s.dP) (g : Gn) (sl : Sl) (hm : fp W sl g.m.st) (hl : ∀ j, j < 8 → (g.m.st j).length ≤ 10000) :
    Calls Tryz.prog 14 #[zZ s.id s.lim s.ro a n c, za g.num g.rev g.mode g.size sl g.m.live g.m.dR] W (CM W (yb s g)) := by
  have h := YR s.id s.lim s.ro a n c L W hr (wm (hg ▸ hs) (by decide)) (g, sl) hm hl;obtain ⟨i, l, r, gs⟩ := s;dsimp only at hg h ⊢;subst hg;exact h
theorem Sv {s : eE} {K : Nat} (h : eV K s.dP) : ∀ i, i < 8 → ((uG s).2.m.st i).length ≤ K := fun i hi => by
  unfold uG
  split
  · rename_i hv
    exact h _ (uX ((zR s).1 hv)) i hi
  exact au _
theorem qJ {g : Gn} {l : List Nd} {K : Nat} (h : ∀ i, i < 8 → (g.m.st i).length ≤ K) : ∀ i, i < 8 → ((yt g l).2.m.st i).length ≤ K + l.length := fun i hi => by
  have h0 : ((fT).m.st i).length ≤ K + l.length := au _;unfold yt
  split
  · split
    · split
      · exact wL l g h i hi
      exact h0
    exact h0
  exact h0
def OO (B : Nat) (p : eE × Int) : lQ := ⟨fun v w => ∃ a n c L, v = .tuple #[zZ p.1.id p.1.lim p.1.ro a n c, .int .i64 p.2] ∧ fV w B (.slice a n c) L ∧ dV L = p.1.dP, fun _ _ _ hb ⟨a, n, c, L, h1, h2, h3⟩ => ⟨a, n, c, L, h1, h2.below hb, h3⟩⟩
def Y3 (B : Nat) (s : eE) : lQ := ⟨fun v w => ∃ a n c L, v = zZ s.id s.lim s.ro a n c ∧ fV w B (.slice a n c) L ∧ dV L = s.dP, fun _ _ _ hb ⟨a, n, c, L, h1, h2, h3⟩ => ⟨a, n, c, L, h1, h2.below hb, h3⟩⟩
theorem lD.slot {W : World} {B : Nat} {P : fg} {ga nH : Option Addr} {gn gc nI gc' : Nat} {L L' : List GP} {kv : Value} {ks : List KP} {nv : Value} {es : List (Nd × Value)} {rv : Value} (h : lD W B P ga gn gc L kv ks nv es rv) (s : eE) (hg : fV W B (.slice nH nI gc') L') (nN : dV L' = s.dP) : lD W B { P with t := s } nH nI gc' L' kv ks nv es rv :=
  ⟨hg, nN, h.k, h.kk, h.n, h.nn, h.r⟩
def gC (W W' : World) (B : Nat) (T : TypeId) : Prop := Below W.heap.size W W' ∨ ∃ g, iI W W' B g T
theorem gC.row {W W' : World} {B B' sz n : Nat} {T : TypeId} {v : Value} {xs : List Value} (hown : W.ownsRow B T sz v n xs) (hg : W.grownBy W' v.ownBlock) (hB : B' ≤ B) : gC W W' B' T := by
  cases h : v.ownBlock with
  | none =>
    rw [h] at hg;exact .inl (Below.grown (aj _ _) hg (ai _) fun k hk => by cases hk)
  | some g =>
    rw [h] at hg;exact .inr ⟨g, iI.grown (ak hB (hown.lt g h).1) (Lib.ownsRow_kind hown g h) hg (.inr rfl)⟩
theorem ix.gl {W W' : World} {B : Nat} {T T' : TypeId} {sz : Nat} {v : Value} {n : Nat} {xs : List Value} (h : ix W B T sz v n xs) (ho : gC W W' B T') (hne : T ≠ T') : ix W' B T sz v n xs := by
  rcases ho with ho | ⟨g, ho⟩
  · exact h.below ho
  exact h.jw ho hne
theorem fV.gl {W W' : World} {B : Nat} {T' : TypeId} {v : Value} {L : List GP} (h : fV W B v L) (ho : gC W W' B T') (h1 : 38 ≠ T') (h2 : 49 ≠ T') : fV W' B v L := by
  rcases ho with ho | ⟨g, ho⟩
  · exact h.below ho
  exact h.jw ho h1 h2
theorem gD.gl {W W' : World} {B : Nat} {T' : TypeId} {v : Value} {ks : List KP} (h : gD W B v ks) (ho : gC W W' B T') (h1 : 89 ≠ T') (h2 : 24 ≠ T') : gD W' B v ks := by
  rcases ho with ho | ⟨g, ho⟩
  · exact h.below ho
  exact h.jw ho h1 h2
theorem fO.gl {W W' : World} {B : Nat} {T' : TypeId} {v : Value} {es : List (Nd × Value)} (h : fO W B v es) (ho : gC W W' B T') (h1 : 56 ≠ T') (h2 : 5 ≠ T') : fO W' B v es := by
  rcases ho with ho | ⟨g, ho⟩
  · exact h.below ho
  exact h.jw ho h1 h2
theorem wA {W W' : World} {B B' : Nat} {T T' : TypeId} {sz n : Nat} {v : Value} {xs : List Value} (h : W.ownsRow B' T sz v n xs) (ho : gC W W' B T') (hne : T ≠ T') : W'.ownsRow B' T sz v n xs := by
  rcases ho with ho | ⟨g, ho⟩
  · exact zH h ho
  exact xh h ho hne
theorem dQ.gl {W W' : World} {B b : Nat} {cs : Array Value} {T T' : TypeId} (h : dQ W b cs T) (ho : gC W W' B T') (hne : T ≠ T') : dQ W' b cs T := by
  rcases ho with ho | ⟨g, ho⟩
  · exact h.below ho
  unfold dQ
  rw [ho.blk b h.lt (fun e => by
    obtain ⟨c, f, h1⟩ := ho.ty
    have h2 : W.heap[b]? = some (.cells cs T (0, 0)) := h
    rw [← e, h2] at h1
    injection h1 with h1
    injection h1 with _ h1
    exact hne h1)]
  exact h
def pT : List TypeId := [145, 56, 89, 24, 39]
structure eX (B : Nat) (w W : World) : Prop where
  b : Below B w W
  k : ∀ (i : Nat) (c : Array Value) (T : TypeId) (f : Nat × Nat), w.heap[i]? = some (Obj.cells c T f) → T ∉ pT → W.heap[i]? = some (Obj.cells c T f)
theorem eX.size {B : Nat} {w W : World} (h : eX B w W) : w.heap.size ≤ W.heap.size := h.b.size
theorem eX.of {B : Nat} {w W : World} (h : Below w.heap.size w W) (hB : B ≤ w.heap.size) : eX B w W := ⟨h.mono hB, fun i c T f h1 _ => by rw [h.block i (Array.getElem?_eq_some_iff.1 h1).1]; exact h1⟩
theorem eX.trans {B : Nat} {w W W' : World} (h : eX B w W) (h2 : eX B W W') : eX B w W' := ⟨h.b.trans h2.b, fun i c T f h1 hT => h2.k i c T f (h.k i c T f h1 hT) hT⟩
theorem eX.step {B : Nat} {w W W' : World} (h : eX B w W) (hb : Below W.heap.size W W') (hB : B ≤ W.heap.size) : eX B w W' := h.trans (eX.of hb hB)
theorem eX.gl {B B' : Nat} {w W W' : World} {T : TypeId} (h : eX B w W) (ho : gC W W' B' T) (hT : T ∈ pT) (hb : Below B w W') : eX B w W' := ⟨hb, fun i c T2 f h1 Y4 => by
  have h2 := h.k i c T2 f h1 Y4
  have hlt := (Array.getElem?_eq_some_iff.1 h2).1
  rcases ho with ho | ⟨g, ho⟩
  · rw [ho.block i hlt]; exact h2
  rw [ho.blk i hlt (fun e => by
    obtain ⟨c', f', h3⟩ := ho.ty
    rw [← e, h2] at h3
    injection h3 with h3
    injection h3 with _ h3
    exact Y4 (h3 ▸ hT))]
  exact h2⟩
theorem eX.pts {B b : Nat} {w W : World} {T : TypeId} (h : eX B w W) (hlo : B ≤ b) (vs : List (Nat × Value)) (ht : ∃ c f, W.heap[b]? = some (.cells c T f)) (hT : T ∈ pT) : eX B w (Go.Proofs.YtcgfilmmokmdjaaGreat.pts W b vs) :=
  h.gl (.inr ⟨b, iI.pts hlo ht vs⟩) hT (zD hlo vs h.b)
theorem eX.own {B sz n : Nat} {w W W' : World} {T : TypeId} {v : Value} {xs : List Value} (h : eX B w W) (hown : W.ownsRow B T sz v n xs) (hB : B ≤ W.heap.size) (hg : W.grownBy W' v.ownBlock) (hT : T ∈ pT) : eX B w W' :=
  h.gl (gC.row hown hg (ai B)) hT (zM h.b hown hB hg)
theorem eX.box {B b : Nat} {w W : World} {cs : Array Value} {T : TypeId} (h : eX B w W) (hb : dQ w b cs T) (hT : T ∉ pT) : dQ W b cs T := h.k _ _ _ _ hb hT
theorem lD.need {W W' : World} {B : Nat} {P : fg} {ga : Option Addr} {gn gc : Nat} {L : List GP} {kv : Value} {ks : List KP} {nv Dy : Value} {es : List (Nd × Value)} {rv : Value} (h : lD W B P ga gn gc L kv ks nv es rv) (x : Nd) (dv : Value) (hd : gu W B dv x.data)
    (hg : W.grownBy W' nv.ownBlock) (ho : W'.ownsRow B 56 4 Dy (es.length + 1) (wM es ++ vy (x, dv))) : lD W' B { P with needs := P.needs ++ [x] } ga gn gc L kv ks Dy (es ++ [(x, dv)]) rv := by
  have hO := gC.row h.n.row hg (ai _);refine ⟨h.g.gl hO (by decide) (by decide), h.gg, h.k.gl hO (by decide) (by decide), h.kk, ⟨?_, fun p hp => ?_⟩, ?_, wA h.r hO (by decide)⟩
  · have e : wM (es ++ [(x, dv)]) = wM es ++ vy (x, dv) := by unfold wM; rw [cm]; simp
    rw [e, aA];exact ho
  · rcases List.mem_append.1 hp with hp | hp
    · exact ix.gl (h.n.dat p hp) hO (by decide)
    obtain rfl := List.mem_singleton.1 hp;exact ix.gl hd hO (by decide)
  rw [bW, h.nn]; rfl
theorem zLy (i l : Int) (r : Bool) (ga : Option Addr) (gn gc : Nat) (ep : Bool) (kv nv rv : Value) (l9 : Int) (u : Value) : (tZ i l r ga gn gc ep kv nv rv l9).setIfInBounds 7 u = tZ i l r ga gn gc ep kv u rv l9 := by
  simp only [aP, aQ, aN]
theorem zLr (i l : Int) (r : Bool) (ga : Option Addr) (gn gc : Nat) (ep : Bool) (kv nv rv : Value) (l9 z : Int) : (tZ i l r ga gn gc ep kv nv rv l9).setIfInBounds 9 (.int .i64 z) = tZ i l r ga gn gc ep kv nv rv z := by
  simp only [aP, aQ, aN]
theorem zMJ {W W' : World} {B b sz n : Nat} {cs : Array Value} {T : TypeId} {v : Value} {xs : List Value} (h : dQ W b cs T) (_ : W.ownsRow B T sz v n xs) (hg : W.grownBy W' v.ownBlock) (hne : v.ownBlock ≠ some b) : dQ W' b cs T := h.grown hg fun e => hne e.symm
theorem ku (i l : Int) (r : Bool) (ga : Option Addr) (gn gc : Nat) (ep : Bool) (kv nv rv : Value) (l9 : Int) (i' l' : Int) (r' : Bool) (nH : Option Addr) (nI gc' : Nat) :
    (zJ i' l' r' nH nI gc').foldl (fun cs p => cs.setIfInBounds p.1 p.2) (tZ i l r ga gn gc ep kv nv rv l9) = tZ i' l' r' nH nI gc' ep kv nv rv l9 := by
  simp only [dD, List.foldl_nil, aP, aQ, aN]
theorem Y5 {w : World} {B b : Nat} {P : fg} {ga : Option Addr} {gn gc : Nat} {L : List GP} {kv : Value} {ks : List KP} {nv : Value} {es : List (Nd × Value)} {rv : Value} (hlo : B ≤ b) (hP : oI w b P.t.id P.t.lim P.t.ro ga gn gc P.ep kv nv rv P.bytes) (hR : lD w B P ga gn gc L kv ks nv es rv) (hl : eV 900 P.t.dP) (hB : B ≤ w.heap.size) (x : Nd) (da : Option Addr) (dn dc : Nat) (hx : gu w B (.slice da dn dc) x.data) (n5 : x.data.length = dn) (iw : dn ≤ 100000) (hel : es.length ≤ 1000) (hby : 0 ≤ P.bytes ∧ P.bytes ≤ 1000000000) :
    Calls Tryz.prog 147 #[.pointer (some ⟨b, 0, none⟩), .agg #[.int .u64 (x.key : Int), .int .u32 (x.ck : Int), .bool x.del, .slice da dn dc]] w fun e w' => e = .returned (.tuple #[]) ∧ pW w' B b (vH P x) ∧ eX B w w' := by
  have fu : b < w.heap.size := hP.lt;have Mf : ∀ g, nv.ownBlock = some g → g < w.heap.size := fun g h => (hR.n.row.lt g h).2
  have Fg : eG dn ≤ 4127 := xx dn;have Gc := zh (fun W (hb : Below w.heap.size w W) => zMN P.t ga gn gc L W (hR.g.rd.below hb) hR.gg (hl.mono (by decide)));have EN := Sv hl;have oJ := zh (fun W sT v (hm : fp W sT (uG P.t).2.m.st) (hr : mK W v [(x, .slice da dn dc)]) => Xp (uG P.t).2 sT v [(x, .slice da dn dc)] 900 W hm EN hr (by simp));have Ak := zh (fun W sA (hb : Below w.heap.size w W) (hm : fp W sA (yt (uG P.t).2 [x]).2.m.st) => Y2 P.t ga gn gc L W (hR.g.rd.below hb) hR.gg (hl.mono (by decide)) (yt (uG P.t).2 [x]).2 sA hm (fun j hj => ak (qJ EN j hj) (by simp)));have pU := zh (show vH P x = { P with t := (yb P.t (yt (uG P.t).2 [x]).2).1, needs := P.needs ++ [x], bytes := P.bytes + (eG x.data.length : Int) } from rfl);generalize vH P x = P1 at *;simp only [List.map_cons, List.map_nil] at oJ;generalize yb P.t (yt (uG P.t).2 [x]).2 = C at *;obtain ⟨C, ce⟩ := C
  generalize hTT : uG P.t = TT at *;clear hTT EN;obtain ⟨te, T⟩ := TT;generalize hAA : yt T [x] = AA at *;clear hAA;obtain ⟨ae, A⟩ := AA;obtain ⟨tn, tr, tm, tz, ⟨tf, tL, tG⟩⟩ := T;obtain ⟨an, ar, am, az, ⟨af, aL, aG⟩⟩ := A;dsimp only at Gc oJ Ak pU;have HD := zh hx;have HP := zh hP;have HR := zh hR;have iz := zh (fun W => t8 dn W (by omega));have HXl := zh (show (eG x.data.length : Int) = (eG dn : Int) by rw [n5]);clear hP hR hx hl;have KE := zh (show vy (x, .slice da dn dc) = [.int .u64 (x.key : Int), .int .u32 (x.ck : Int), .bool x.del, .slice da dn dc] from rfl);generalize (x.key : Int) = xk at *;generalize (x.ck : Int) = xq at *;generalize x.del = xd at *
  go_enter Tryz.func147, Tryz.ntmps147
  go_upto_region 1 with fail;change Code.wp _ _ _ _ (w.alloc (.cells #[.int .u64 xk, .int .u32 xq, .bool xd, .slice da dn dc] 56));have eC := (aj w.heap.size w).alloc (ai _) (.cells #[.int .u64 xk, .int .u32 xq, .bool xd, .slice da dn dc] 56);have HX := zh (dQ.new w #[.int .u64 xk, .int .u32 xq, .bool xd, .slice da dn dc] 56);have HB := zh eC;replace HD := zh (HD.out.below eC);replace HP := zh (HP.out.below eC);replace HR := zh (HR.out.below eC);have eU : b < w.heap.size := fu;clear eC;generalize w.alloc (.cells #[.int .u64 xk, .int .u32 xq, .bool xd, .slice da dn dc] 56) = w1 at *;generalize A3 : w.heap.size = b3 at *;have Sw := zh A3;have mf : w.heap.size ≤ b3 := by omega
  have gV : b3 ≤ w.heap.size := by omega
  clear A3;have p0 := HP.out.cell (i := 0) rfl;have p1 := HP.out.cell (i := 1) rfl;have p2 := HP.out.cell (i := 2) rfl;have p3 := HP.out.cell (i := 3) rfl;go_wp2_with fail;refine (Gc.out w1 HB.out).mono ?_;rintro e w2 ⟨⟨sT, rfl, ho⟩, hb⟩;dsimp only;clear p0 p1 p2 p3 Gc;have eN := zh (hb.mono (ai _));have HT := zh (show fp w2 sT tf from ho.rd);clear ho;replace HX := zh (HX.out.below hb);replace HD := zh (HD.out.below hb);replace HP := zh (HP.out.below hb);replace HR := zh (HR.out.below hb);replace HB := zh (HB.out.trans (hb.mono (by have := HB.out.size; omega)));clear hb eN;have pK := HR;have Bg := HP;have G9 := HD;have jU := HX;have eN := HB;go_upto_region 2 with fail;change Code.wp _ _ _ _ (w2.alloc (.cells (zW tn tr tm tz sT tL tG) 38));have eC := zQ w2 tn tr tm tz sT tL tG 38;have HG := zh (dQ.new w2 (zW tn tr tm tz sT tL tG) 38);have BW : b3 ≤ w2.heap.size := ak gV HB.out.size
  have hX3 : b3 < w2.heap.size := HX.out.lt;replace HT := zh (HT.out.below eC);replace HX := zh (HX.out.below eC);replace HD := zh (HD.out.below eC);replace HP := zh (HP.out.below eC);replace HR := zh (HR.out.below eC);replace HB := zh (HB.out.trans (eC.mono BW));have oH := zh eC;clear eC;generalize w2.alloc (.cells (zW tn tr tm tz sT tL tG) 38) = w3 at *;generalize Mg : w2.heap.size = b4 at *;have Sy := zh Mg;have D5 : w2.heap.size ≤ b4 := by omega
  have Rx : b4 ≤ w2.heap.size := by omega
  clear Mg;obtain ⟨g0, g1, g2, g3, g4, g5, g6, g7, g8, g9, g10, g11, g12, g13⟩ := HG.out.gen.q;have n0 := HX.out.cell (i := 0) rfl;have n1 := HX.out.cell (i := 1) rfl;have n2 := HX.out.cell (i := 2) rfl;have n3 := HX.out.cell (i := 3) rfl;go_wp2_with fail;have eC := (aj w3.heap.size w3).alloc (ai _) (.cells #[.int .u64 xk, .int .u32 xq, .bool xd, .slice da dn dc] 56);have HN := zh (show mK (w3.alloc (.cells #[.int .u64 xk, .int .u32 xq, .bool xd, .slice da dn dc] 56)) (.slice (some ⟨w3.heap.size, 0, none⟩) 1 1) [(x, .slice da dn dc)] from ⟨by rw [show wM [(x, .slice da dn dc)] = [.int .u64 xk, .int .u32 xq, .bool xd, .slice da dn dc] by unfold wM; rw [cN, List.flatMap_nil, bY, KE.out]]; exact Rd.new w3 4 [.int .u64 xk, .int .u32 xq, .bool xd, .slice da dn dc] 56 1 rfl (by decide), fun p hp => by obtain rfl := List.mem_singleton.1 hp; exact ik.below HD.out.1 eC⟩)
  refine (oJ.out _ sT _ (HT.out.below eC) HN.out).mono ?_;rintro e w4 ⟨⟨sA, rfl, ho⟩, hb⟩;dsimp only;replace hb := zA eC hb;clear g0 g1 g2 g3 g4 g5 g6 g7 g8 g9 g10 g11 g12 g13;clear n0 n1 n2 n3 HN oJ eC;have HA := zh (show fp w4 sA af from ho.rd);have Sz : b3 ≤ w3.heap.size := ak gV HB.out.size;have hb4 : b4 < w3.heap.size := HG.out.lt;replace HG := zh (HG.out.below hb);replace HX := zh (HX.out.below hb);replace HD := zh (HD.out.below hb);replace HP := zh (HP.out.below hb);replace HR := zh (HR.out.below hb);replace HB := zh (HB.out.trans (hb.mono Sz));replace oH := zh (oH.out.trans (hb.mono (show b4 ≤ w3.heap.size by omega)));clear ho hb HT;obtain ⟨g0, g1, g2, g3, g4, g5, g6, g7, g8, g9, g10, g11, g12, g13⟩ := HG.out.gen.q;have gf := HG.out.gen.f;go_upto_region 3 with fail;change Code.wp _ _ _ _ (pts w4 b4 (zL an ar am az sA aL aG));have HG5 := zh (HG.out.nh an ar am az sA aL aG)
  have HA5 := zh (fp.gen HA.out HG.out (zL an ar am az sA aL aG));have Ch := zD (B := b4) (b := b4) (ai _) (zL an ar am az sA aL aG) oH.out;have gj := zh (zD (B := b3) (b := b4) BW (zL an ar am az sA aL aG) HB.out);clear HG HA HX HP HR HD HB oH;clear g0 g1 g2 g3 g4 g5 g6 g7 g8 g9 g10 g11 g12 g13 gf;generalize pts w4 b4 (zL an ar am az sA aL aG) = v5 at *;rw [← Sy.out] at Ch;have HP := zh (Bg.out.below Ch);have HR := zh (pK.out.below Ch);have HD := zh (G9.out.below Ch);have HX := zh (jU.out.below Ch);clear Ch Bg pK G9 jU eN;have Oy : B ≤ v5.heap.size := by have := gj.out.size; omega
  go_cut [32] (fun vq wx => vq = .pointer (some ⟨b, 0, none⟩) ∧ ∃ nH nI gc' L', Hid (oI wx b C.id C.lim C.ro nH nI gc' P.ep kv nv rv P.bytes) ∧ Hid (lD wx B { P with t := C } nH nI gc' L' kv ks nv es rv) ∧ Hid (gu wx B (.slice da dn dc) x.data) ∧ Hid (dQ wx b3 #[.int .u64 xk, .int .u32 xq, .bool xd, .slice da dn dc] 56) ∧ Hid (eX B w wx))
  case first =>
    refine xJ [eP (.pointer (some ⟨b, 0, none⟩)), eP (.pointer (some ⟨b, 0, none⟩)), eP (.pointer (some ⟨b, 0, none⟩)), eP (.pointer (some ⟨b, 0, none⟩)), eP (zZ P.t.id P.t.lim P.t.ro ga gn gc), eP (za an ar am az sA aL aG), OO B (C, ce), OO B (C, ce), Y3 B C, eP (.int .i64 ce), eP (.pointer (some ⟨b, 0, none⟩)), eP (.pointer (some ⟨b, 0, none⟩))] [] 56 9 (by kernel_rfl) (by kernel_rfl) rfl rfl (by decide) (by rfl) (by kernel_rfl) (fun f => by simp [fq, zX, Act.put]; exact rfl) ?_ ?_ ?_
    · refine ⟨?_, ?_, ?_, ?_, ?_, ?_, ?_, ?_, ?_, ?_, ?_, ?_, trivial⟩
      · intro f w1 hb hd
        clear hd;dsimp only;go_wp2_with fail;exact pS rfl (by simp)
      · intro f w1 hb hd
        clear hd;dsimp only;go_wp2_with fail;exact pS rfl (by simp)
      · intro f w1 hb hd
        have d1 : f 1 = (.pointer (some ⟨b, 0, none⟩)) := hd 1 (by kernel_rfl);clear hd;dsimp only;rw [d1];go_wp2_with fail;exact pS rfl (by simp)
      · intro f w1 hb hd
        have d2 : f 2 = (.pointer (some ⟨b, 0, none⟩)) := hd 2 (by kernel_rfl);clear hd;dsimp only;rw [d2];go_wp2_with fail;exact pS rfl (by simp)
      · intro f w1 hb hd
        have d3 : f 3 = (.pointer (some ⟨b, 0, none⟩)) := hd 3 (by kernel_rfl);clear hd;dsimp only;rw [d3];have hx := HP.out.below hb;have q0 := hx.cell (i := 0) rfl;have q1 := hx.cell (i := 1) rfl;have q2 := hx.cell (i := 2) rfl;have q3 := hx.cell (i := 3) rfl;clear hx;go_wp2_with fail;exact pS rfl (by simp)
      · intro f w1 hb hd
        clear hd;dsimp only;have hx := (HG5.out.below hb).gen;obtain ⟨q0, q1, q2, q3, q4, q5, q6, q7, q8, q9, AY, AZ, A0, A1⟩ := hx.q;clear hx;go_wp2_with fail;exact pS rfl (by simp)
      · intro f w1 hb hd
        have d4 : f 4 = (zZ P.t.id P.t.lim P.t.ro ga gn gc) := hd 4 (by kernel_rfl);have d5 : f 5 = (za an ar am az sA aL aG) := hd 5 (by kernel_rfl);clear hd;dsimp only;rw [d4];rw [d5];go_wp2_with fail;refine (Ak.out w1 sA (gj.out.trans (hb.mono (ak gV gj.out.size))) (HA5.out.below hb)).mono ?_;rintro e w9 ⟨⟨qa, qn, qc, qL, rfl, hown, Em⟩, fP⟩;have Dz := zh (show fV w9 B (.slice qa qn qc) qL from fV.own hown);have jW := zh Em;clear hown Em;go_wp2_with fail;exact ⟨rfl, fP, fun t ht => by injection ht with ht; subst ht; exact ⟨⟨qa, qn, qc, qL, rfl, Dz.out, jW.out⟩, fun h => by simp at h⟩⟩
      · intro f w1 hb hd
        obtain ⟨a6, n6, c6, L6, d6, r6, g6⟩ := show ∃ a n c L, f 6 = .tuple #[zZ C.id C.lim C.ro a n c, .int .i64 ce] ∧ fV w1 B (.slice a n c) L ∧ dV L = C.dP from hd 6 (by kernel_rfl);clear hd;dsimp only;rw [d6];have Dz := zh r6;have jW := zh g6;clear r6 g6;go_wp2_with fail;exact ⟨rfl, aj _ _, fun t ht => by injection ht with ht; subst ht; exact ⟨⟨a6, n6, c6, L6, rfl, Dz.out, jW.out⟩, fun h => by simp at h⟩⟩
      · intro f w1 hb hd
        obtain ⟨a7, n7, c7, L7, d7, r7, g7⟩ := show ∃ a n c L, f 7 = .tuple #[zZ C.id C.lim C.ro a n c, .int .i64 ce] ∧ fV w1 B (.slice a n c) L ∧ dV L = C.dP from hd 7 (by kernel_rfl);clear hd;dsimp only;rw [d7];have Dz := zh r7;have jW := zh g7;clear r7 g7;go_wp2_with fail;exact ⟨rfl, aj _ _, fun t ht => by injection ht with ht; subst ht; exact ⟨⟨a7, n7, c7, L7, rfl, Dz.out, jW.out⟩, fun h => by simp at h⟩⟩
      · intro f w1 hb hd
        obtain ⟨a7, n7, c7, L7, d7, r7, g7⟩ := show ∃ a n c L, f 7 = .tuple #[zZ C.id C.lim C.ro a n c, .int .i64 ce] ∧ fV w1 B (.slice a n c) L ∧ dV L = C.dP from hd 7 (by kernel_rfl);clear hd;dsimp only;rw [d7];clear r7 g7;go_wp2_with fail;exact pS rfl (by simp)
      · intro f w1 hb hd
        have d0 : f 0 = (.pointer (some ⟨b, 0, none⟩)) := hd 0 (by kernel_rfl);clear hd;dsimp only;rw [d0];go_wp2_with fail;exact pS rfl (by simp)
      intro f w1 hb hd;have d10 : f 10 = (.pointer (some ⟨b, 0, none⟩)) := hd 10 (by kernel_rfl);clear hd;dsimp only;rw [d10];go_wp2_with fail;exact pS rfl (by simp)
    · intro f w8 hb hd jc
      clear jc;obtain ⟨a8, n8, c8, L8, d8, r8, g8⟩ := show ∃ a n c L, f 8 = zZ C.id C.lim C.ro a n c ∧ fV w8 B (.slice a n c) L ∧ dV L = C.dP from hd 8 (show 8 < 12 by decide);have d11 : f 11 = .pointer (some ⟨b, 0, none⟩) := hd 11 (show 11 < 12 by decide)
      try dsimp only
      rw [d8, d11];clear hd d8 d11;have iN := HP.out.below hb;have HO := iI.pts (T := 145) hlo ⟨_, _, iN⟩ (zJ C.id C.lim C.ro a8 n8 c8);have lC := zh (show oI _ b C.id C.lim C.ro a8 n8 c8 P.ep kv nv rv P.bytes from (by have h := dQ.sets (zJ C.id C.lim C.ro a8 n8 c8) iN; rw [ku] at h; exact h));have jP := zh (((HR.out.below hb).slot C r8 g8).jw HO);have Gd := zh (show gu _ B _ _ from ix.jw (HD.out.below hb) HO (by decide));have IC := zh ((HX.out.below hb).ek (show b3 ≠ b by omega) (zJ C.id C.lim C.ro a8 n8 c8));have gI := zh ((eX.of ((gj.out.trans (hb.mono (ak gV gj.out.size))).mono mf) (ak hB gV)).pts hlo (zJ C.id C.lim C.ro a8 n8 c8) ⟨_, _, iN⟩ (by decide));have q0 := iN.cell (i := 0) rfl;have q1 := iN.cell (i := 1) rfl;have q2 := iN.cell (i := 2) rfl;have q3 := iN.cell (i := 3) rfl;have qf := iN.frozen;clear r8 g8 hb iN HO
      generalize f 0 = Ai, f 1 = sX, f 2 = sY, f 3 = sZ, f 4 = s6, f 5 = s_, f 6 = Aj, f 7 = CO, f 9 = El, f 10 = t_;clear f;change wpList _ _ _ (_ :: []) _ _;go_wp2_with fail;go_meet
      case rel => exact ⟨rfl, a8, n8, c8, L8, lC, jP, Gd, IC, gI⟩
    intro f w8 hb hd jc;clear jc;obtain ⟨a8, n8, c8, L8, d8, r8, g8⟩ := show ∃ a n c L, f 8 = zZ C.id C.lim C.ro a n c ∧ fV w8 B (.slice a n c) L ∧ dV L = C.dP from hd 8 (show 8 < 12 by decide) (show 8 ≠ 9 by decide);have d11 : f 11 = .pointer (some ⟨b, 0, none⟩) := hd 11 (show 11 < 12 by decide) (show 11 ≠ 9 by decide);obtain ⟨a7, n7, c7, L7, d7, r7, g7⟩ := show ∃ a n c L, f 7 = .tuple #[zZ C.id C.lim C.ro a n c, .int .i64 ce] ∧ fV w8 B (.slice a n c) L ∧ dV L = C.dP from hd 7 (show 7 < 12 by decide) (show 7 ≠ 9 by decide);clear r7 g7
    try dsimp only
    rw [d7, d8, d11];clear hd d7 d8 d11;have iN := HP.out.below hb;have HO := iI.pts (T := 145) hlo ⟨_, _, iN⟩ (zJ C.id C.lim C.ro a8 n8 c8);have lC := zh (show oI _ b C.id C.lim C.ro a8 n8 c8 P.ep kv nv rv P.bytes from (by have h := dQ.sets (zJ C.id C.lim C.ro a8 n8 c8) iN; rw [ku] at h; exact h));have jP := zh (((HR.out.below hb).slot C r8 g8).jw HO);have Gd := zh (show gu _ B _ _ from ix.jw (HD.out.below hb) HO (by decide));have IC := zh ((HX.out.below hb).ek (show b3 ≠ b by omega) (zJ C.id C.lim C.ro a8 n8 c8));have gI := zh ((eX.of ((gj.out.trans (hb.mono (ak gV gj.out.size))).mono mf) (ak hB gV)).pts hlo (zJ C.id C.lim C.ro a8 n8 c8) ⟨_, _, iN⟩ (by decide));have q0 := iN.cell (i := 0) rfl;have q1 := iN.cell (i := 1) rfl;have q2 := iN.cell (i := 2) rfl;have q3 := iN.cell (i := 3) rfl;have qf := iN.frozen;clear r8 g8 hb iN HO
    generalize f 0 = Ai, f 1 = sX, f 2 = sY, f 3 = sZ, f 4 = s6, f 5 = s_, f 6 = Aj, f 9 = El, f 10 = t_;clear f;change wpList _ _ _ (_ :: _ :: []) _ _;go_wp2_with fail;go_meet
    case rel => exact ⟨rfl, a8, n8, c8, L8, lC, jP, Gd, IC, gI⟩
  obtain ⟨rfl, nH, nI, gc', L', HP, HR, HD, HX, HB⟩ := fZ;generalize wc = v6 at *;obtain ⟨na, nc, SA, Ag, lI, _⟩ := zO HR.out.n.row;subst SA;have JZ : B ≤ v6.heap.size := ak (ak hB gV) HB.out.size;have l5 : b < v6.heap.size := HP.out.lt;have h36 : b3 < v6.heap.size := HX.out.lt;have eC := zz ((aj v6.heap.size v6).alloc (ai _) (.cells #[.int .u64 xk, .int .u32 xq, .bool xd, .slice da dn dc] 56));have DA := zh (HP.out.below eC);have En := zh (HR.out.below eC);have Y6 := zh (show gu _ B _ _ from ix.below HD.out eC);have J4 := zh (HX.out.below eC);have B8 := zh (HB.out.step eC JZ);have ng := zh En.out.n.row;have OP := zh (fun W (hg : (World.drew (v6.alloc (.cells #[.int .u64 xk, .int .u32 xq, .bool xd, .slice da dn dc] 56))).grownBy W (Value.slice na es.length nc).ownBlock) => DA.out.gl (gC.row ng.out hg (ai _)) (by decide))
  have Y7 := fun {W : World} (hg : (World.drew (v6.alloc (.cells #[.int .u64 xk, .int .u32 xq, .bool xd, .slice da dn dc] 56))).grownBy W (Value.slice na es.length nc).ownBlock) => (show dQ W b3 #[.int .u64 xk, .int .u32 xq, .bool xd, .slice da dn dc] 56 from zMJ J4.out ng.out hg fun e => by have := Mf _ e; omega)
  have ahr : es.length + 1 ≤ 1001 := by omega
  clear eC;have q7 := HP.out.cell (i := 7) rfl;have n0 := HX.out.cell (i := 0) rfl;have n1 := HX.out.cell (i := 1) rfl;have n2 := HX.out.cell (i := 2) rfl;have n3 := HX.out.cell (i := 3) rfl;go_upto_region 4 with fail
  go_cut [33] (fun vq wx => vq = .pointer (some ⟨b, 0, none⟩) ∧ ∃ Dy, Hid (oI wx b C.id C.lim C.ro nH nI gc' P.ep kv Dy rv P.bytes) ∧ Hid (lD wx B { P with t := C, needs := P.needs ++ [x] } nH nI gc' L' kv ks Dy (es ++ [(x, .slice da dn dc)]) rv) ∧ Hid (dQ wx b3 #[.int .u64 xk, .int .u32 xq, .bool xd, .slice da dn dc] 56) ∧ Hid (eX B w wx))
  case first =>
   go_region_law ((refine ww (n := es.length) (m := 1) (by rfl) (.tmp 38) (.tmp 40) 23 (by rfl) WT B (by rfl) ng.out (by rfl) (Rd.drew (Rd.np v6.heap.size v6 rfl 4 [.int .u64 xk, .int .u32 xq, .bool xd, .slice da dn dc] 56 1 rfl (by decide))) (fun u hu => by simp only [cA, cB, or_false] at hu; rcases hu with h | h | h | h <;> rw [h] <;> rfl) (by unfold maxLen; omega) (by omega) (by simp; omega) ?_; intro v2 w8 eo fm oG; clear oG; obtain ⟨mL, mM, oG, _, _, _⟩ := zO eo; subst oG; have hp2 := OP.out _ fm; have c7 := hp2.cell (i := 7) rfl; have f7 := hp2.frozen 7))
   all_goals
    have mJ := zh (show dQ (w8.setCell ⟨b, 7, none⟩ (.slice mL (es.length + 1) mM)) b3 #[.int .u64 xk, .int .u32 xq, .bool xd, .slice da dn dc] 56 from dQ.ek (c := b) (by omega) [(7, .slice mL (es.length + 1) mM)] (Y7 fm));have mA : iI w8 (w8.setCell ⟨b, 7, none⟩ (.slice mL (es.length + 1) mM)) B b 145 := iI.pts hlo ⟨_, _, hp2⟩ [(7, .slice mL (es.length + 1) mM)];have o_ := zh ((En.out.need x (.slice da dn dc) Y6.out fm (by rw [KE.out]; exact eo)).jw mA);have sR := zh (show oI (w8.setCell ⟨b, 7, none⟩ (.slice mL (es.length + 1) mM)) b C.id C.lim C.ro nH nI gc' P.ep kv (.slice mL (es.length + 1) mM) rv P.bytes from (by have h := hp2.set 7 (.slice mL (es.length + 1) mM); rw [zLy] at h; exact h));have lJ := zh ((B8.out.own ng.out (ak JZ (by simp)) fm (by decide)).pts hlo [(7, .slice mL (es.length + 1) mM)] ⟨_, _, hp2⟩ (by decide));clear fm eo hp2 c7 f7 mA;go_wp2_with fail;go_meet
    case rel => exact ⟨rfl, _, sR, o_, mJ, lJ⟩
  obtain ⟨rfl, Dy, HP, HR, HX, HB⟩ := fZ;generalize wc = v7 at *;clear DA En Y6 J4 B8 ng OP q7 n0 n1 n2 n3 Y7;go_upto_region 5 with fail;have nM : b < v7.heap.size := HP.out.lt;have SB : B ≤ v7.heap.size := ak (ak hB gV) HB.out.size;refine yO [eP (.pointer (some ⟨b, 0, none⟩)), eP (.pointer (some ⟨b, 0, none⟩)), eP (.pointer (some ⟨b, 9, none⟩)), eP (.int .i64 P.bytes), eP (.pointer (some ⟨b3, 3, none⟩)), eP (.slice da dn dc), eP (.int .i64 (dn : Int)), eP (.int .i64 (eG dn : Int)), eP (.int .i64 (P.bytes + (eG dn : Int))), eP (.pointer (some ⟨b, 0, none⟩)), eP (.pointer (some ⟨b, 9, none⟩))] [] 56 (by kernel_rfl) (by kernel_rfl) (by rfl) (by kernel_rfl) (fun f => by simp [fq, zX, Act.put]; exact rfl) ?_ ?_
  · refine ⟨?_, ?_, ?_, ?_, ?_, ?_, ?_, ?_, ?_, ?_, ?_, trivial⟩
    · intro f w1 hb hd
      clear hd;dsimp only;go_wp2_with fail;exact pS rfl (by simp)
    · intro f w1 hb hd
      have d0 : f 0 = (.pointer (some ⟨b, 0, none⟩)) := hd 0 (by kernel_rfl);clear hd;dsimp only;rw [d0];go_wp2_with fail;exact pS rfl (by simp)
    · intro f w1 hb hd
      have d1 : f 1 = (.pointer (some ⟨b, 0, none⟩)) := hd 1 (by kernel_rfl);clear hd;dsimp only;rw [d1];go_wp2_with fail;exact pS rfl (by simp)
    · intro f w1 hb hd
      have d2 : f 2 = (.pointer (some ⟨b, 9, none⟩)) := hd 2 (by kernel_rfl);clear hd;dsimp only;rw [d2];have q9 := (HP.out.below hb).cell (i := 9) rfl;go_wp2_with fail;exact pS rfl (by simp)
    · intro f w1 hb hd
      clear hd;dsimp only;go_wp2_with fail;exact pS rfl (by simp)
    · intro f w1 hb hd
      have d4 : f 4 = (.pointer (some ⟨b3, 3, none⟩)) := hd 4 (by kernel_rfl);clear hd;dsimp only;rw [d4];have q3 := (HX.out.below hb).cell (i := 3) rfl;go_wp2_with fail;exact pS rfl (by simp)
    · intro f w1 hb hd
      have d5 : f 5 = (.slice da dn dc) := hd 5 (by kernel_rfl);clear hd;dsimp only;rw [d5];go_wp2_with fail;exact pS rfl (by simp)
    · intro f w1 hb hd
      have d6 : f 6 = (.int .i64 (dn : Int)) := hd 6 (by kernel_rfl);clear hd;dsimp only;rw [d6];go_wp2_with fail;refine (iz.out w1).mono ?_;rintro e w9 ⟨rfl, rfl⟩;go_wp2_with fail;exact pS rfl (by simp)
    · intro f w1 hb hd
      have d3 : f 3 = (.int .i64 P.bytes) := hd 3 (by kernel_rfl);have d7 : f 7 = (.int .i64 (eG dn : Int)) := hd 7 (by kernel_rfl);clear hd;dsimp only;rw [d3];rw [d7];have j0 := hby.1;have j1 := hby.2;have j2 := Fg;go_wp2_with fail;exact pS rfl (by simp)
    · intro f w1 hb hd
      have d0 : f 0 = (.pointer (some ⟨b, 0, none⟩)) := hd 0 (by kernel_rfl);clear hd;dsimp only;rw [d0];go_wp2_with fail;exact pS rfl (by simp)
    intro f w1 hb hd;have d9 : f 9 = (.pointer (some ⟨b, 0, none⟩)) := hd 9 (by kernel_rfl);clear hd;dsimp only;rw [d9];go_wp2_with fail;exact pS rfl (by simp)
  intro f w8 hb hd jc;clear jc;have d8 : f 8 = .int .i64 (P.bytes + (eG dn : Int)) := hd 8 (show 8 < 11 by decide);have d10 : f 10 = .pointer (some ⟨b, 9, none⟩) := hd 10 (show 10 < 11 by decide)
  try dsimp only
  rw [d8, d10];clear hd d8 d10;have iN := HP.out.below hb;have mA : iI w8 (w8.setCell ⟨b, 9, none⟩ (.int .i64 (P.bytes + (eG dn : Int)))) B b 145 := iI.pts hlo ⟨_, _, iN⟩ [(9, .int .i64 (P.bytes + (eG dn : Int)))];have o_ := zh ((HR.out.below hb).jw mA);have sR := zh (show oI (w8.setCell ⟨b, 9, none⟩ (.int .i64 (P.bytes + (eG dn : Int)))) b C.id C.lim C.ro nH nI gc' P.ep kv Dy rv (P.bytes + (eG dn : Int)) from (by have h := iN.set 9 (.int .i64 (P.bytes + (eG dn : Int))); rw [zLr] at h; exact h));have lJ := zh ((HB.out.step hb SB).pts hlo [(9, .int .i64 (P.bytes + (eG dn : Int)))] ⟨_, _, iN⟩ (by decide));have q9 := iN.cell (i := 9) rfl;have qf := iN.frozen 9;clear hb iN mA;generalize f 0 = Ai, f 1 = sX, f 2 = sY, f 3 = sZ, f 4 = s6, f 5 = s_, f 6 = Aj, f 7 = CO, f 9 = El;clear f;go_wp2_with fail;go_end0
  exact ⟨rfl, by rw [pU.out]; exact ⟨nH, nI, gc', L', kv, ks, Dy, _, rv, hlo, by rw [HXl.out]; exact sR.out, ⟨o_.out.g, o_.out.gg, o_.out.k, o_.out.kk, o_.out.n, o_.out.nn, o_.out.r⟩⟩, lJ.out⟩
end Go.Proofs.YtcgfilmmokmdjaaGreat
