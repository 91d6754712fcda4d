/- A part of the walk. -/
import Derived.Test.YtcgfilmmokmdjaaGreatBd
import Derived.Test.YtcgfilmmokmdjaaGreatHg
import Derived.Test.YtcgfilmmokmdjaaGreatQAA
set_option linter.all false
set_option maxRecDepth 100000
set_option maxHeartbeats 32000000
namespace Go.Proofs.YtcgfilmmokmdjaaGreat
open Go.RowKit
theorem zMN (s : eL) (a : Option Addr) (n c : Nat) (L : List GP) (W : World) (hr : fq W (.slice a n c) L) (hg : dZ L = s.dU) (hl : eV 1000 s.dU) :
    Calls Tryz.prog 11 #[zZ s.id s.lim s.ro a n c] W (G4 W (uG s)) := by
  have h := XS s.id s.lim s.ro a n c L W hr (wm (hg ▸ hl) (by decide));obtain ⟨i, l, r, g⟩ := s;dsimp only at hg h ⊢;subst hg;exact h
theorem YH (s : eL) (a : Option Addr) (n c : Nat) (L : List GP) (W : World) (hr : fq W (.slice a n c) L) (hg : dZ L = s.dU) (hs : eV 1000 s.dU) (g : Gn) (sl : Sl) (hm : fw W sl g.m.st) (hl : ∀ j, j < 8 → (g.m.st j).length ≤ 10000) :
    Calls Tryz.prog 14 #[zZ s.id s.lim s.ro a n c, za g.num g.rev g.mode g.size sl g.m.live g.m.dW] W (CD W (yb s g)) := by
  have h := Yx s.id s.lim s.ro a n c L W hr (wm (hg ▸ hs) (by decide)) (g, sl) hm hl;obtain ⟨i, l, r, gs⟩ := s;dsimp only at hg h ⊢;subst hg;exact h
theorem R7 {s : eL} {K : Nat} (h : eV K s.dU) : ∀ i, i < 8 → ((uG s).2.m.st i).length ≤ K := fun i hi => by
  unfold uG
  split
  · rename_i hv
    exact h _ (uX ((zR s).1 hv)) i hi
  exact au _
theorem qJ {g : Gn} {l : List Nd} {K : Nat} (h : ∀ i, i < 8 → (g.m.st i).length ≤ K) : ∀ i, i < 8 → ((yt g l).2.m.st i).length ≤ K + l.length := fun i hi => by
  have h0 : ((fW).m.st i).length ≤ K + l.length := au _;unfold yt
  split
  · split
    · split
      · exact wL l g h i hi
      exact h0
    exact h0
  exact h0
def Om (B : Nat) (p : eL × Int) : lT := ⟨fun v w => ∃ a n c L, v = .tuple #[zZ p.1.id p.1.lim p.1.ro a n c, .int .i64 p.2] ∧ f_ w B (.slice a n c) L ∧ dZ L = p.1.dU, fun _ _ _ hb ⟨a, n, c, L, h1, h2, h3⟩ => ⟨a, n, c, L, h1, h2.below hb, h3⟩⟩
def YI (B : Nat) (s : eL) : lT := ⟨fun v w => ∃ a n c L, v = zZ s.id s.lim s.ro a n c ∧ f_ w B (.slice a n c) L ∧ dZ L = s.dU, fun _ _ _ hb ⟨a, n, c, L, h1, h2, h3⟩ => ⟨a, n, c, L, h1, h2.below hb, h3⟩⟩
theorem lF.slot {W : World} {B : Nat} {P : fh} {ga nJ : Option Addr} {gn gc nK gc' : Nat} {L L' : List GP} {kv : Value} {ks : List KP} {nv : Value} {es : List (Nd × Value)} {rv : Value} (h : lF W B P ga gn gc L kv ks nv es rv) (s : eL) (hg : f_ W B (.slice nJ nK gc') L') (nP : dZ L' = s.dU) : lF W B { P with t := s } nJ nK gc' L' kv ks nv es rv :=
  ⟨hg, nP, h.k, h.kk, h.n, h.nn, h.r⟩
def gH (W W' : World) (B : Nat) (T : TypeId) : Prop := Below W.heap.size W W' ∨ ∃ g, iJ W W' B g T
theorem gH.row {W W' : World} {B B' sz n : Nat} {T : TypeId} {v : Value} {xs : List Value} (hown : W.ownsRow B T sz v n xs) (hg : W.grownBy W' v.ownBlock) (hB : B' ≤ B) : gH W W' B' T := by
  cases h : v.ownBlock with
  | none =>
    rw [h] at hg;exact .inl (Below.grown (aj _ _) hg (ai _) fun k hk => by cases hk)
  | some g =>
    rw [h] at hg;exact .inr ⟨g, iJ.grown (ak hB (hown.lt g h).1) (Lib.ownsRow_kind hown g h) hg (.inr rfl)⟩
theorem iA.gq {W W' : World} {B : Nat} {T T' : TypeId} {sz : Nat} {v : Value} {n : Nat} {xs : List Value} (h : iA W B T sz v n xs) (ho : gH W W' B T') (hne : T ≠ T') : iA W' B T sz v n xs := by
  rcases ho with ho | ⟨g, ho⟩
  · exact h.below ho
  exact h.jw ho hne
theorem f_.gq {W W' : World} {B : Nat} {T' : TypeId} {v : Value} {L : List GP} (h : f_ W B v L) (ho : gH W W' B T') (h1 : 38 ≠ T') (h2 : 49 ≠ T') : f_ W' B v L := by
  rcases ho with ho | ⟨g, ho⟩
  · exact h.below ho
  exact h.jw ho h1 h2
theorem gI.gq {W W' : World} {B : Nat} {T' : TypeId} {v : Value} {ks : List KP} (h : gI W B v ks) (ho : gH W W' B T') (h1 : 89 ≠ T') (h2 : 24 ≠ T') : gI W' B v ks := by
  rcases ho with ho | ⟨g, ho⟩
  · exact h.below ho
  exact h.jw ho h1 h2
theorem fS.gq {W W' : World} {B : Nat} {T' : TypeId} {v : Value} {es : List (Nd × Value)} (h : fS W B v es) (ho : gH W W' B T') (h1 : 56 ≠ T') (h2 : 5 ≠ T') : fS W' B v es := by
  rcases ho with ho | ⟨g, ho⟩
  · exact h.below ho
  exact h.jw ho h1 h2
theorem wA {W W' : World} {B B' : Nat} {T T' : TypeId} {sz n : Nat} {v : Value} {xs : List Value} (h : W.ownsRow B' T sz v n xs) (ho : gH W W' B T') (hne : T ≠ T') : W'.ownsRow B' T sz v n xs := by
  rcases ho with ho | ⟨g, ho⟩
  · exact zH h ho
  exact xh h ho hne
theorem dV.gq {W W' : World} {B b : Nat} {cs : Array Value} {T T' : TypeId} (h : dV W b cs T) (ho : gH W W' B T') (hne : T ≠ T') : dV W' b cs T := by
  rcases ho with ho | ⟨g, ho⟩
  · exact h.below ho
  unfold dV
  rw [ho.blk b h.lt (fun e => by
    obtain ⟨c, f, h1⟩ := ho.ty
    have h2 : W.heap[b]? = some (.cells cs T (0, 0)) := h
    rw [← e, h2] at h1
    injection h1 with h1
    injection h1 with _ h1
    exact hne h1)]
  exact h
def LM : List TypeId := [145, 56, 89, 24, 39]
structure eX (B : Nat) (w W : World) : Prop where
  b : Below B w W
  k : ∀ (i : Nat) (c : Array Value) (T : TypeId) (f : Nat × Nat), w.heap[i]? = some (Obj.cells c T f) → T ∉ LM → W.heap[i]? = some (Obj.cells c T f)
theorem eX.size {B : Nat} {w W : World} (h : eX B w W) : w.heap.size ≤ W.heap.size := h.b.size
theorem eX.of {B : Nat} {w W : World} (h : Below w.heap.size w W) (hB : B ≤ w.heap.size) : eX B w W := ⟨h.mono hB, fun i c T f h1 _ => by rw [h.block i (Array.getElem?_eq_some_iff.1 h1).1]; exact h1⟩
theorem eX.trans {B : Nat} {w W W' : World} (h : eX B w W) (h2 : eX B W W') : eX B w W' := ⟨h.b.trans h2.b, fun i c T f h1 hT => h2.k i c T f (h.k i c T f h1 hT) hT⟩
theorem eX.step {B : Nat} {w W W' : World} (h : eX B w W) (hb : Below W.heap.size W W') (hB : B ≤ W.heap.size) : eX B w W' := h.trans (eX.of hb hB)
theorem eX.gq {B B' : Nat} {w W W' : World} {T : TypeId} (h : eX B w W) (ho : gH W W' B' T) (hT : T ∈ LM) (hb : Below B w W') : eX B w W' := ⟨hb, fun i c T2 f h1 YJ => by
  have h2 := h.k i c T2 f h1 YJ
  have hlt := (Array.getElem?_eq_some_iff.1 h2).1
  rcases ho with ho | ⟨g, ho⟩
  · rw [ho.block i hlt]; exact h2
  rw [ho.blk i hlt (fun e => by
    obtain ⟨c', f', h3⟩ := ho.ty
    rw [← e, h2] at h3
    injection h3 with h3
    injection h3 with _ h3
    exact YJ (h3 ▸ hT))]
  exact h2⟩
theorem eX.pts {B b : Nat} {w W : World} {T : TypeId} (h : eX B w W) (hlo : B ≤ b) (vs : List (Nat × Value)) (ht : ∃ c f, W.heap[b]? = some (.cells c T f)) (hT : T ∈ LM) : eX B w (Go.Proofs.YtcgfilmmokmdjaaGreat.pts W b vs) :=
  h.gq (.inr ⟨b, iJ.pts hlo ht vs⟩) hT (zD hlo vs h.b)
theorem eX.own {B sz n : Nat} {w W W' : World} {T : TypeId} {v : Value} {xs : List Value} (h : eX B w W) (hown : W.ownsRow B T sz v n xs) (hB : B ≤ W.heap.size) (hg : W.grownBy W' v.ownBlock) (hT : T ∈ LM) : eX B w W' :=
  h.gq (gH.row hown hg (ai B)) hT (zM h.b hown hB hg)
theorem eX.box {B b : Nat} {w W : World} {cs : Array Value} {T : TypeId} (h : eX B w W) (hb : dV w b cs T) (hT : T ∉ LM) : dV W b cs T := h.k _ _ _ _ hb hT
theorem lF.need {W W' : World} {B : Nat} {P : fh} {ga : Option Addr} {gn gc : Nat} {L : List GP} {kv : Value} {ks : List KP} {nv Dr : Value} {es : List (Nd × Value)} {rv : Value} (h : lF W B P ga gn gc L kv ks nv es rv) (x : Nd) (dv : Value) (hd : gy W B dv x.data)
    (hg : W.grownBy W' nv.ownBlock) (ho : W'.ownsRow B 56 4 Dr (es.length + 1) (wM es ++ vy (x, dv))) : lF W' B { P with needs := P.needs ++ [x] } ga gn gc L kv ks Dr (es ++ [(x, dv)]) rv := by
  have hO := gH.row h.n.row hg (ai _);refine ⟨h.g.gq hO (by decide) (by decide), h.gg, h.k.gq hO (by decide) (by decide), h.kk, ⟨?_, fun p hp => ?_⟩, ?_, wA h.r hO (by decide)⟩
  · have e : wM (es ++ [(x, dv)]) = wM es ++ vy (x, dv) := by unfold wM; rw [b_]; simp
    rw [e, aA];exact ho
  · rcases List.mem_append.1 hp with hp | hp
    · exact iA.gq (h.n.dat p hp) hO (by decide)
    obtain rfl := List.mem_singleton.1 hp;exact iA.gq hd hO (by decide)
  rw [bV, h.nn]; rfl
theorem zLy (i l : Int) (r : Bool) (ga : Option Addr) (gn gc : Nat) (ey : Bool) (kv nv rv : Value) (mf : Int) (u : Value) : (tZ i l r ga gn gc ey kv nv rv mf).setIfInBounds 7 u = tZ i l r ga gn gc ey kv u rv mf := by
  simp only [aP, aQ, aN]
theorem zLr (i l : Int) (r : Bool) (ga : Option Addr) (gn gc : Nat) (ey : Bool) (kv nv rv : Value) (mf z : Int) : (tZ i l r ga gn gc ey kv nv rv mf).setIfInBounds 9 (.int .i64 z) = tZ i l r ga gn gc ey kv nv rv z := by
  simp only [aP, aQ, aN]
theorem zMJ {W W' : World} {B b sz n : Nat} {cs : Array Value} {T : TypeId} {v : Value} {xs : List Value} (h : dV W b cs T) (_ : W.ownsRow B T sz v n xs) (hg : W.grownBy W' v.ownBlock) (hne : v.ownBlock ≠ some b) : dV W' b cs T := h.grown hg fun e => hne e.symm
theorem ku (i l : Int) (r : Bool) (ga : Option Addr) (gn gc : Nat) (ey : Bool) (kv nv rv : Value) (mf : Int) (i' l' : Int) (r' : Bool) (nJ : Option Addr) (nK gc' : Nat) :
    (zJ i' l' r' nJ nK gc').foldl (fun cs p => cs.setIfInBounds p.1 p.2) (tZ i l r ga gn gc ey kv nv rv mf) = tZ i' l' r' nJ nK gc' ey kv nv rv mf := by
  simp only [dJ, List.foldl_nil, aP, aQ, aN]
theorem YK {w : World} {B b : Nat} {P : fh} {ga : Option Addr} {gn gc : Nat} {L : List GP} {kv : Value} {ks : List KP} {nv : Value} {es : List (Nd × Value)} {rv : Value} (hlo : B ≤ b) (hP : oL w b P.t.id P.t.lim P.t.ro ga gn gc P.ey kv nv rv P.bytes) (hR : lF w B P ga gn gc L kv ks nv es rv) (hl : eV 900 P.t.dU) (hB : B ≤ w.heap.size) (x : Nd) (da : Option Addr) (dn dc : Nat) (hx : gy w B (.slice da dn dc) x.data) (od : x.data.length = dn) (iz : dn ≤ 100000) (hel : es.length ≤ 1000) (hby : 0 ≤ P.bytes ∧ P.bytes ≤ 1000000000) :
    Calls Tryz.prog 147 #[.pointer (some ⟨b, 0, none⟩), .agg #[.int .u64 (x.key : Int), .int .u32 (x.ck : Int), .bool x.del, .slice da dn dc]] w fun e w' => e = .returned (.tuple #[]) ∧ p_ w' B b (vH P x) ∧ eX B w w' := by
  have fB : b < w.heap.size := hP.lt;have LN : ∀ g, nv.ownBlock = some g → g < w.heap.size := fun g h => (hR.n.row.lt g h).2
  have E9 : eM dn ≤ 4127 := xx dn;have F6 := zh (fun W (hb : Below w.heap.size w W) => zMN P.t ga gn gc L W (hR.g.rd.below hb) hR.gg (hl.mono (by decide)));have EH := R7 hl;have oM := zh (fun W sT v (hm : fw W sT (uG P.t).2.m.st) (hr : mL W v [(x, .slice da dn dc)]) => Xa (uG P.t).2 sT v [(x, .slice da dn dc)] 900 W hm EH hr (by simp));have Ai := zh (fun W sA (hb : Below w.heap.size w W) (hm : fw W sA (yt (uG P.t).2 [x]).2.m.st) => YH P.t ga gn gc L W (hR.g.rd.below hb) hR.gg (hl.mono (by decide)) (yt (uG P.t).2 [x]).2 sA hm (fun j hj => ak (qJ EH j hj) (by simp)));have pY := zh (show vH P x = { P with t := (yb P.t (yt (uG P.t).2 [x]).2).1, needs := P.needs ++ [x], bytes := P.bytes + (eM x.data.length : Int) } from rfl);generalize vH P x = P1 at *;simp only [List.map_cons, List.map_nil] at oM;generalize yb P.t (yt (uG P.t).2 [x]).2 = C at *;obtain ⟨C, ce⟩ := C
  generalize hTT : uG P.t = TT at *;clear hTT EH;obtain ⟨te, T⟩ := TT;generalize hAA : yt T [x] = AA at *;clear hAA;obtain ⟨ae, A⟩ := AA;obtain ⟨tn, tr, tm, tz, ⟨tf, tL, tG⟩⟩ := T;obtain ⟨an, ar, am, az, ⟨af, aL, aG⟩⟩ := A;dsimp only at F6 oM Ai pY;have HD := zh hx;have HP := zh hP;have HR := zh hR;have iC := zh (fun W => t8 dn W (by omega));have HXl := zh (show (eM x.data.length : Int) = (eM dn : Int) by rw [od]);clear hP hR hx hl;have Ki := zh (show vy (x, .slice da dn dc) = [.int .u64 (x.key : Int), .int .u32 (x.ck : Int), .bool x.del, .slice da dn dc] from rfl);generalize (x.key : Int) = xk at *;generalize (x.ck : Int) = xq at *;generalize x.del = xd at *
  go_enter Tryz.func147, Tryz.ntmps147
  go_upto_region 1 with fail;change Code.wp _ _ _ _ (w.alloc (.cells #[.int .u64 xk, .int .u32 xq, .bool xd, .slice da dn dc] 56));have eG := (aj w.heap.size w).alloc (ai _) (.cells #[.int .u64 xk, .int .u32 xq, .bool xd, .slice da dn dc] 56);have HX := zh (dV.new w #[.int .u64 xk, .int .u32 xq, .bool xd, .slice da dn dc] 56);have HB := zh eG;replace HD := zh (HD.out.below eG);replace HP := zh (HP.out.below eG);replace HR := zh (HR.out.below eG);have hb3 : b < w.heap.size := fB;clear eG;generalize w.alloc (.cells #[.int .u64 xk, .int .u32 xq, .bool xd, .slice da dn dc] 56) = w1 at *;generalize A3 : w.heap.size = b3 at *;have R9 := zh A3;have hz1 : w.heap.size ≤ b3 := by omega
  have hz2 : b3 ≤ w.heap.size := by omega
  clear A3;have p0 := HP.out.cell (i := 0) rfl;have p1 := HP.out.cell (i := 1) rfl;have p2 := HP.out.cell (i := 2) rfl;have p3 := HP.out.cell (i := 3) rfl;go_wp2_with fail;refine (F6.out w1 HB.out).mono ?_;rintro e w2 ⟨⟨sT, rfl, ho⟩, hb⟩;dsimp only;clear p0 p1 p2 p3 F6;have eP := zh (hb.mono (ai _));have HT := zh (show fw w2 sT tf from ho.rd);clear ho;replace HX := zh (HX.out.below hb);replace HD := zh (HD.out.below hb);replace HP := zh (HP.out.below hb);replace HR := zh (HR.out.below hb);replace HB := zh (HB.out.trans (hb.mono (by have := HB.out.size; omega)));clear hb eP;have pP := HR;have Bf := HP;have GU := HD;have jU := HX;have eP := HB;go_upto_region 2 with fail;change Code.wp _ _ _ _ (w2.alloc (.cells (zW tn tr tm tz sT tL tG) 38));have eG := zQ w2 tn tr tm tz sT tL tG 38;have HG := zh (dV.new w2 (zW tn tr tm tz sT tL tG) 38);have BV : b3 ≤ w2.heap.size := ak hz2 HB.out.size
  have hX3 : b3 < w2.heap.size := HX.out.lt;replace HT := zh (HT.out.below eG);replace HX := zh (HX.out.below eG);replace HD := zh (HD.out.below eG);replace HP := zh (HP.out.below eG);replace HR := zh (HR.out.below eG);replace HB := zh (HB.out.trans (eG.mono BV));have oK := zh eG;clear eG;generalize w2.alloc (.cells (zW tn tr tm tz sT tL tG) 38) = w3 at *;generalize LO : w2.heap.size = b4 at *;have R_ := zh LO;have hz3 : w2.heap.size ≤ b4 := by omega
  have Q9 : b4 ≤ w2.heap.size := by omega
  clear LO;obtain ⟨g0, g1, g2, g3, g4, g5, g6, g7, g8, g9, g10, g11, g12, g13⟩ := HG.out.gen.q;have n0 := HX.out.cell (i := 0) rfl;have n1 := HX.out.cell (i := 1) rfl;have n2 := HX.out.cell (i := 2) rfl;have n3 := HX.out.cell (i := 3) rfl;go_wp2_with fail;have eG := (aj w3.heap.size w3).alloc (ai _) (.cells #[.int .u64 xk, .int .u32 xq, .bool xd, .slice da dn dc] 56);have HN := zh (show mL (w3.alloc (.cells #[.int .u64 xk, .int .u32 xq, .bool xd, .slice da dn dc] 56)) (.slice (some ⟨w3.heap.size, 0, none⟩) 1 1) [(x, .slice da dn dc)] from ⟨by rw [show wM [(x, .slice da dn dc)] = [.int .u64 xk, .int .u32 xq, .bool xd, .slice da dn dc] by unfold wM; rw [cO, List.flatMap_nil, bW, Ki.out]]; exact Rd.new w3 4 [.int .u64 xk, .int .u32 xq, .bool xd, .slice da dn dc] 56 1 rfl (by decide), fun p hp => by obtain rfl := List.mem_singleton.1 hp; exact iw.below HD.out.1 eG⟩)
  refine (oM.out _ sT _ (HT.out.below eG) HN.out).mono ?_;rintro e w4 ⟨⟨sA, rfl, ho⟩, hb⟩;dsimp only;replace hb := zA eG hb;clear g0 g1 g2 g3 g4 g5 g6 g7 g8 g9 g10 g11 g12 g13;clear n0 n1 n2 n3 HN oM eG;have HA := zh (show fw w4 sA af from ho.rd);have Sb : b3 ≤ w3.heap.size := ak hz2 HB.out.size;have hb4 : b4 < w3.heap.size := HG.out.lt;replace HG := zh (HG.out.below hb);replace HX := zh (HX.out.below hb);replace HD := zh (HD.out.below hb);replace HP := zh (HP.out.below hb);replace HR := zh (HR.out.below hb);replace HB := zh (HB.out.trans (hb.mono Sb));replace oK := zh (oK.out.trans (hb.mono (show b4 ≤ w3.heap.size by omega)));clear ho hb HT;obtain ⟨g0, g1, g2, g3, g4, g5, g6, g7, g8, g9, g10, g11, g12, g13⟩ := HG.out.gen.q;have gf := HG.out.gen.f;go_upto_region 3 with fail;change Code.wp _ _ _ _ (pts w4 b4 (zL an ar am az sA aL aG));have HG5 := zh (HG.out.nj an ar am az sA aL aG)
  have HA5 := zh (fw.gen HA.out HG.out (zL an ar am az sA aL aG));have Cf := zD (B := b4) (b := b4) (ai _) (zL an ar am az sA aL aG) oK.out;have gp := zh (zD (B := b3) (b := b4) BV (zL an ar am az sA aL aG) HB.out);clear HG HA HX HP HR HD HB oK;clear g0 g1 g2 g3 g4 g5 g6 g7 g8 g9 g10 g11 g12 g13 gf;generalize pts w4 b4 (zL an ar am az sA aL aG) = v5 at *;rw [← R_.out] at Cf;have HP := zh (Bf.out.below Cf);have HR := zh (pP.out.below Cf);have HD := zh (GU.out.below Cf);have HX := zh (jU.out.below Cf);clear Cf Bf pP GU jU eP;have N9 : B ≤ v5.heap.size := by have := gp.out.size; omega
  go_cut [32] (fun vq wx => vq = .pointer (some ⟨b, 0, none⟩) ∧ ∃ nJ nK gc' L', Hid (oL wx b C.id C.lim C.ro nJ nK gc' P.ey kv nv rv P.bytes) ∧ Hid (lF wx B { P with t := C } nJ nK gc' L' kv ks nv es rv) ∧ Hid (gy wx B (.slice da dn dc) x.data) ∧ Hid (dV wx b3 #[.int .u64 xk, .int .u32 xq, .bool xd, .slice da dn dc] 56) ∧ Hid (eX B w wx))
  case first =>
    refine xJ [eR (.pointer (some ⟨b, 0, none⟩)), eR (.pointer (some ⟨b, 0, none⟩)), eR (.pointer (some ⟨b, 0, none⟩)), eR (.pointer (some ⟨b, 0, none⟩)), eR (zZ P.t.id P.t.lim P.t.ro ga gn gc), eR (za an ar am az sA aL aG), Om B (C, ce), Om B (C, ce), YI B C, eR (.int .i64 ce), eR (.pointer (some ⟨b, 0, none⟩)), eR (.pointer (some ⟨b, 0, none⟩))] [] 56 9 (by kernel_rfl) (by kernel_rfl) rfl rfl (by decide) (by rfl) (by kernel_rfl) (fun f => by simp [fA, zX, Act.put]; exact rfl) ?_ ?_ ?_
    · refine ⟨?_, ?_, ?_, ?_, ?_, ?_, ?_, ?_, ?_, ?_, ?_, ?_, trivial⟩
      · intro f w1 hb hd
        clear hd;dsimp only;go_wp2_with fail;exact pS rfl (by simp)
      · intro f w1 hb hd
        clear hd;dsimp only;go_wp2_with fail;exact pS rfl (by simp)
      · intro f w1 hb hd
        have d1 : f 1 = (.pointer (some ⟨b, 0, none⟩)) := hd 1 (by kernel_rfl);clear hd;dsimp only;rw [d1];go_wp2_with fail;exact pS rfl (by simp)
      · intro f w1 hb hd
        have d2 : f 2 = (.pointer (some ⟨b, 0, none⟩)) := hd 2 (by kernel_rfl);clear hd;dsimp only;rw [d2];go_wp2_with fail;exact pS rfl (by simp)
      · intro f w1 hb hd
        have d3 : f 3 = (.pointer (some ⟨b, 0, none⟩)) := hd 3 (by kernel_rfl);clear hd;dsimp only;rw [d3];have hx := HP.out.below hb;have q0 := hx.cell (i := 0) rfl;have q1 := hx.cell (i := 1) rfl;have q2 := hx.cell (i := 2) rfl;have q3 := hx.cell (i := 3) rfl;clear hx;go_wp2_with fail;exact pS rfl (by simp)
      · intro f w1 hb hd
        clear hd;dsimp only;have hx := (HG5.out.below hb).gen;obtain ⟨q0, q1, q2, q3, q4, q5, q6, q7, q8, q9, AY, AZ, A0, A1⟩ := hx.q;clear hx;go_wp2_with fail;exact pS rfl (by simp)
      · intro f w1 hb hd
        have d4 : f 4 = (zZ P.t.id P.t.lim P.t.ro ga gn gc) := hd 4 (by kernel_rfl);have d5 : f 5 = (za an ar am az sA aL aG) := hd 5 (by kernel_rfl);clear hd;dsimp only;rw [d4];rw [d5];go_wp2_with fail;refine (Ai.out w1 sA (gp.out.trans (hb.mono (ak hz2 gp.out.size))) (HA5.out.below hb)).mono ?_;rintro e w9 ⟨⟨qa, qn, qc, qL, rfl, hown, hgn⟩, fT⟩;have Ds := zh (show f_ w9 B (.slice qa qn qc) qL from f_.own hown);have jW := zh hgn;clear hown hgn;go_wp2_with fail;exact ⟨rfl, fT, fun t ht => by injection ht with ht; subst ht; exact ⟨⟨qa, qn, qc, qL, rfl, Ds.out, jW.out⟩, fun h => by simp at h⟩⟩
      · intro f w1 hb hd
        obtain ⟨a6, n6, c6, L6, d6, r6, g6⟩ := show ∃ a n c L, f 6 = .tuple #[zZ C.id C.lim C.ro a n c, .int .i64 ce] ∧ f_ w1 B (.slice a n c) L ∧ dZ L = C.dU from hd 6 (by kernel_rfl);clear hd;dsimp only;rw [d6];have Ds := zh r6;have jW := zh g6;clear r6 g6;go_wp2_with fail;exact ⟨rfl, aj _ _, fun t ht => by injection ht with ht; subst ht; exact ⟨⟨a6, n6, c6, L6, rfl, Ds.out, jW.out⟩, fun h => by simp at h⟩⟩
      · intro f w1 hb hd
        obtain ⟨a7, n7, c7, L7, d7, r7, g7⟩ := show ∃ a n c L, f 7 = .tuple #[zZ C.id C.lim C.ro a n c, .int .i64 ce] ∧ f_ w1 B (.slice a n c) L ∧ dZ L = C.dU from hd 7 (by kernel_rfl);clear hd;dsimp only;rw [d7];have Ds := zh r7;have jW := zh g7;clear r7 g7;go_wp2_with fail;exact ⟨rfl, aj _ _, fun t ht => by injection ht with ht; subst ht; exact ⟨⟨a7, n7, c7, L7, rfl, Ds.out, jW.out⟩, fun h => by simp at h⟩⟩
      · intro f w1 hb hd
        obtain ⟨a7, n7, c7, L7, d7, r7, g7⟩ := show ∃ a n c L, f 7 = .tuple #[zZ C.id C.lim C.ro a n c, .int .i64 ce] ∧ f_ w1 B (.slice a n c) L ∧ dZ L = C.dU from hd 7 (by kernel_rfl);clear hd;dsimp only;rw [d7];clear r7 g7;go_wp2_with fail;exact pS rfl (by simp)
      · intro f w1 hb hd
        have d0 : f 0 = (.pointer (some ⟨b, 0, none⟩)) := hd 0 (by kernel_rfl);clear hd;dsimp only;rw [d0];go_wp2_with fail;exact pS rfl (by simp)
      intro f w1 hb hd;have d10 : f 10 = (.pointer (some ⟨b, 0, none⟩)) := hd 10 (by kernel_rfl);clear hd;dsimp only;rw [d10];go_wp2_with fail;exact pS rfl (by simp)
    · intro f w8 hb hd jc
      clear jc;obtain ⟨a8, n8, c8, L8, d8, r8, g8⟩ := show ∃ a n c L, f 8 = zZ C.id C.lim C.ro a n c ∧ f_ w8 B (.slice a n c) L ∧ dZ L = C.dU from hd 8 (show 8 < 12 by decide);have d11 : f 11 = .pointer (some ⟨b, 0, none⟩) := hd 11 (show 11 < 12 by decide)
      try dsimp only
      rw [d8, d11];clear hd d8 d11;have iO := HP.out.below hb;have HO := iJ.pts (T := 145) hlo ⟨_, _, iO⟩ (zJ C.id C.lim C.ro a8 n8 c8);have lD := zh (show oL _ b C.id C.lim C.ro a8 n8 c8 P.ey kv nv rv P.bytes from (by have h := dV.sets (zJ C.id C.lim C.ro a8 n8 c8) iO; rw [ku] at h; exact h));have jP := zh (((HR.out.below hb).slot C r8 g8).jw HO);have HDn := zh (show gy _ B _ _ from iA.jw (HD.out.below hb) HO (by decide));have Ij := zh ((HX.out.below hb).eu (show b3 ≠ b by omega) (zJ C.id C.lim C.ro a8 n8 c8));have gN := zh ((eX.of ((gp.out.trans (hb.mono (ak hz2 gp.out.size))).mono hz1) (ak hB hz2)).pts hlo (zJ C.id C.lim C.ro a8 n8 c8) ⟨_, _, iO⟩ (by decide));have q0 := iO.cell (i := 0) rfl;have q1 := iO.cell (i := 1) rfl;have q2 := iO.cell (i := 2) rfl;have q3 := iO.cell (i := 3) rfl;have qf := iO.frozen;clear r8 g8 hb iO HO
      generalize f 0 = Ag, f 1 = sW, f 2 = sX, f 3 = sY, f 4 = sZ, f 5 = s6, f 6 = Ah, f 7 = CH, f 9 = Eh, f 10 = t_;clear f;change wpList _ _ _ (_ :: []) _ _;go_wp2_with fail;go_meet
      case rel => exact ⟨rfl, a8, n8, c8, L8, lD, jP, HDn, Ij, gN⟩
    intro f w8 hb hd jc;clear jc;obtain ⟨a8, n8, c8, L8, d8, r8, g8⟩ := show ∃ a n c L, f 8 = zZ C.id C.lim C.ro a n c ∧ f_ w8 B (.slice a n c) L ∧ dZ L = C.dU from hd 8 (show 8 < 12 by decide) (show 8 ≠ 9 by decide);have d11 : f 11 = .pointer (some ⟨b, 0, none⟩) := hd 11 (show 11 < 12 by decide) (show 11 ≠ 9 by decide);obtain ⟨a7, n7, c7, L7, d7, r7, g7⟩ := show ∃ a n c L, f 7 = .tuple #[zZ C.id C.lim C.ro a n c, .int .i64 ce] ∧ f_ w8 B (.slice a n c) L ∧ dZ L = C.dU from hd 7 (show 7 < 12 by decide) (show 7 ≠ 9 by decide);clear r7 g7
    try dsimp only
    rw [d7, d8, d11];clear hd d7 d8 d11;have iO := HP.out.below hb;have HO := iJ.pts (T := 145) hlo ⟨_, _, iO⟩ (zJ C.id C.lim C.ro a8 n8 c8);have lD := zh (show oL _ b C.id C.lim C.ro a8 n8 c8 P.ey kv nv rv P.bytes from (by have h := dV.sets (zJ C.id C.lim C.ro a8 n8 c8) iO; rw [ku] at h; exact h));have jP := zh (((HR.out.below hb).slot C r8 g8).jw HO);have HDn := zh (show gy _ B _ _ from iA.jw (HD.out.below hb) HO (by decide));have Ij := zh ((HX.out.below hb).eu (show b3 ≠ b by omega) (zJ C.id C.lim C.ro a8 n8 c8));have gN := zh ((eX.of ((gp.out.trans (hb.mono (ak hz2 gp.out.size))).mono hz1) (ak hB hz2)).pts hlo (zJ C.id C.lim C.ro a8 n8 c8) ⟨_, _, iO⟩ (by decide));have q0 := iO.cell (i := 0) rfl;have q1 := iO.cell (i := 1) rfl;have q2 := iO.cell (i := 2) rfl;have q3 := iO.cell (i := 3) rfl;have qf := iO.frozen;clear r8 g8 hb iO HO
    generalize f 0 = Ag, f 1 = sW, f 2 = sX, f 3 = sY, f 4 = sZ, f 5 = s6, f 6 = Ah, f 9 = Eh, f 10 = t_;clear f;change wpList _ _ _ (_ :: _ :: []) _ _;go_wp2_with fail;go_meet
    case rel => exact ⟨rfl, a8, n8, c8, L8, lD, jP, HDn, Ij, gN⟩
  obtain ⟨rfl, nJ, nK, gc', L', HP, HR, HD, HX, HB⟩ := hcut;generalize wc = v6 at *;obtain ⟨na, nc, Sc, Ae, lK, _⟩ := zO HR.out.n.row;subst Sc;have JG : B ≤ v6.heap.size := ak (ak hB hz2) HB.out.size;have l6 : b < v6.heap.size := HP.out.lt;have h36 : b3 < v6.heap.size := HX.out.lt;have eG := zz ((aj v6.heap.size v6).alloc (ai _) (.cells #[.int .u64 xk, .int .u32 xq, .bool xd, .slice da dn dc] 56));have Dt := zh (HP.out.below eG);have Ei := zh (HR.out.below eG);have YL := zh (show gy _ B _ _ from iA.below HD.out eG);have JK := zh (HX.out.below eG);have B6 := zh (HB.out.step eG JG);have ni := zh Ei.out.n.row;have Oo := zh (fun W (hg : (World.drew (v6.alloc (.cells #[.int .u64 xk, .int .u32 xq, .bool xd, .slice da dn dc] 56))).grownBy W (Value.slice na es.length nc).ownBlock) => Dt.out.gq (gH.row ni.out hg (ai _)) (by decide))
  have YM := fun {W : World} (hg : (World.drew (v6.alloc (.cells #[.int .u64 xk, .int .u32 xq, .bool xd, .slice da dn dc] 56))).grownBy W (Value.slice na es.length nc).ownBlock) => (show dV W b3 #[.int .u64 xk, .int .u32 xq, .bool xd, .slice da dn dc] 56 from zMJ JK.out ni.out hg fun e => by have := LN _ e; omega)
  have agX : es.length + 1 ≤ 1001 := by omega
  clear eG;have q7 := HP.out.cell (i := 7) rfl;have n0 := HX.out.cell (i := 0) rfl;have n1 := HX.out.cell (i := 1) rfl;have n2 := HX.out.cell (i := 2) rfl;have n3 := HX.out.cell (i := 3) rfl;go_upto_region 4 with fail
  go_cut [33] (fun vq wx => vq = .pointer (some ⟨b, 0, none⟩) ∧ ∃ Dr, Hid (oL wx b C.id C.lim C.ro nJ nK gc' P.ey kv Dr rv P.bytes) ∧ Hid (lF wx B { P with t := C, needs := P.needs ++ [x] } nJ nK gc' L' kv ks Dr (es ++ [(x, .slice da dn dc)]) rv) ∧ Hid (dV wx b3 #[.int .u64 xk, .int .u32 xq, .bool xd, .slice da dn dc] 56) ∧ Hid (eX B w wx))
  case first =>
   go_region_law ((refine ww (n := es.length) (m := 1) (by rfl) (.tmp 38) (.tmp 40) 23 (by rfl) WB B (by rfl) ni.out (by rfl) (Rd.drew (Rd.nu v6.heap.size v6 rfl 4 [.int .u64 xk, .int .u32 xq, .bool xd, .slice da dn dc] 56 1 rfl (by decide))) (fun u hu => by simp only [cB, cC, or_false] at hu; rcases hu with h | h | h | h <;> rw [h] <;> rfl) (by unfold maxLen; omega) (by omega) (by simp; omega) ?_; intro v2 w8 ew fu hv2; clear hv2; obtain ⟨mM, mN, hv2, _, _, _⟩ := zO ew; subst hv2; have hp2 := Oo.out _ fu; have c7 := hp2.cell (i := 7) rfl; have f7 := hp2.frozen 7))
   all_goals
    have mK := zh (show dV (w8.setCell ⟨b, 7, none⟩ (.slice mM (es.length + 1) mN)) b3 #[.int .u64 xk, .int .u32 xq, .bool xd, .slice da dn dc] 56 from dV.eu (c := b) (by omega) [(7, .slice mM (es.length + 1) mN)] (YM fu));have mD : iJ w8 (w8.setCell ⟨b, 7, none⟩ (.slice mM (es.length + 1) mN)) B b 145 := iJ.pts hlo ⟨_, _, hp2⟩ [(7, .slice mM (es.length + 1) mN)];have pj := zh ((Ei.out.need x (.slice da dn dc) YL.out fu (by rw [Ki.out]; exact ew)).jw mD);have sQ := zh (show oL (w8.setCell ⟨b, 7, none⟩ (.slice mM (es.length + 1) mN)) b C.id C.lim C.ro nJ nK gc' P.ey kv (.slice mM (es.length + 1) mN) rv P.bytes from (by have h := hp2.set 7 (.slice mM (es.length + 1) mN); rw [zLy] at h; exact h));have lL := zh ((B6.out.own ni.out (ak JG (by simp)) fu (by decide)).pts hlo [(7, .slice mM (es.length + 1) mN)] ⟨_, _, hp2⟩ (by decide));clear fu ew hp2 c7 f7 mD;go_wp2_with fail;go_meet
    case rel => exact ⟨rfl, _, sQ, pj, mK, lL⟩
  obtain ⟨rfl, Dr, HP, HR, HX, HB⟩ := hcut;generalize wc = v7 at *;clear Dt Ei YL JK B6 ni Oo q7 n0 n1 n2 n3 YM;go_upto_region 5 with fail;have nO : b < v7.heap.size := HP.out.lt;have Sd : B ≤ v7.heap.size := ak (ak hB hz2) HB.out.size;refine yO [eR (.pointer (some ⟨b, 0, none⟩)), eR (.pointer (some ⟨b, 0, none⟩)), eR (.pointer (some ⟨b, 9, none⟩)), eR (.int .i64 P.bytes), eR (.pointer (some ⟨b3, 3, none⟩)), eR (.slice da dn dc), eR (.int .i64 (dn : Int)), eR (.int .i64 (eM dn : Int)), eR (.int .i64 (P.bytes + (eM dn : Int))), eR (.pointer (some ⟨b, 0, none⟩)), eR (.pointer (some ⟨b, 9, none⟩))] [] 56 (by kernel_rfl) (by kernel_rfl) (by rfl) (by kernel_rfl) (fun f => by simp [fA, zX, Act.put]; exact rfl) ?_ ?_
  · refine ⟨?_, ?_, ?_, ?_, ?_, ?_, ?_, ?_, ?_, ?_, ?_, trivial⟩
    · intro f w1 hb hd
      clear hd;dsimp only;go_wp2_with fail;exact pS rfl (by simp)
    · intro f w1 hb hd
      have d0 : f 0 = (.pointer (some ⟨b, 0, none⟩)) := hd 0 (by kernel_rfl);clear hd;dsimp only;rw [d0];go_wp2_with fail;exact pS rfl (by simp)
    · intro f w1 hb hd
      have d1 : f 1 = (.pointer (some ⟨b, 0, none⟩)) := hd 1 (by kernel_rfl);clear hd;dsimp only;rw [d1];go_wp2_with fail;exact pS rfl (by simp)
    · intro f w1 hb hd
      have d2 : f 2 = (.pointer (some ⟨b, 9, none⟩)) := hd 2 (by kernel_rfl);clear hd;dsimp only;rw [d2];have q9 := (HP.out.below hb).cell (i := 9) rfl;go_wp2_with fail;exact pS rfl (by simp)
    · intro f w1 hb hd
      clear hd;dsimp only;go_wp2_with fail;exact pS rfl (by simp)
    · intro f w1 hb hd
      have d4 : f 4 = (.pointer (some ⟨b3, 3, none⟩)) := hd 4 (by kernel_rfl);clear hd;dsimp only;rw [d4];have q3 := (HX.out.below hb).cell (i := 3) rfl;go_wp2_with fail;exact pS rfl (by simp)
    · intro f w1 hb hd
      have d5 : f 5 = (.slice da dn dc) := hd 5 (by kernel_rfl);clear hd;dsimp only;rw [d5];go_wp2_with fail;exact pS rfl (by simp)
    · intro f w1 hb hd
      have d6 : f 6 = (.int .i64 (dn : Int)) := hd 6 (by kernel_rfl);clear hd;dsimp only;rw [d6];go_wp2_with fail;refine (iC.out w1).mono ?_;rintro e w9 ⟨rfl, rfl⟩;go_wp2_with fail;exact pS rfl (by simp)
    · intro f w1 hb hd
      have d3 : f 3 = (.int .i64 P.bytes) := hd 3 (by kernel_rfl);have d7 : f 7 = (.int .i64 (eM dn : Int)) := hd 7 (by kernel_rfl);clear hd;dsimp only;rw [d3];rw [d7];have j0 := hby.1;have j1 := hby.2;have j2 := E9;go_wp2_with fail;exact pS rfl (by simp)
    · intro f w1 hb hd
      have d0 : f 0 = (.pointer (some ⟨b, 0, none⟩)) := hd 0 (by kernel_rfl);clear hd;dsimp only;rw [d0];go_wp2_with fail;exact pS rfl (by simp)
    intro f w1 hb hd;have d9 : f 9 = (.pointer (some ⟨b, 0, none⟩)) := hd 9 (by kernel_rfl);clear hd;dsimp only;rw [d9];go_wp2_with fail;exact pS rfl (by simp)
  intro f w8 hb hd jc;clear jc;have d8 : f 8 = .int .i64 (P.bytes + (eM dn : Int)) := hd 8 (show 8 < 11 by decide);have d10 : f 10 = .pointer (some ⟨b, 9, none⟩) := hd 10 (show 10 < 11 by decide)
  try dsimp only
  rw [d8, d10];clear hd d8 d10;have iO := HP.out.below hb;have mD : iJ w8 (w8.setCell ⟨b, 9, none⟩ (.int .i64 (P.bytes + (eM dn : Int)))) B b 145 := iJ.pts hlo ⟨_, _, iO⟩ [(9, .int .i64 (P.bytes + (eM dn : Int)))];have pj := zh ((HR.out.below hb).jw mD);have sQ := zh (show oL (w8.setCell ⟨b, 9, none⟩ (.int .i64 (P.bytes + (eM dn : Int)))) b C.id C.lim C.ro nJ nK gc' P.ey kv Dr rv (P.bytes + (eM dn : Int)) from (by have h := iO.set 9 (.int .i64 (P.bytes + (eM dn : Int))); rw [zLr] at h; exact h));have lL := zh ((HB.out.step hb Sd).pts hlo [(9, .int .i64 (P.bytes + (eM dn : Int)))] ⟨_, _, iO⟩ (by decide));have q9 := iO.cell (i := 9) rfl;have qf := iO.frozen 9;clear hb iO mD;generalize f 0 = Ag, f 1 = sW, f 2 = sX, f 3 = sY, f 4 = sZ, f 5 = s6, f 6 = Ah, f 7 = CH, f 9 = Eh;clear f;go_wp2_with fail;go_end0
  exact ⟨rfl, by rw [pY.out]; exact ⟨nJ, nK, gc', L', kv, ks, Dr, _, rv, hlo, by rw [HXl.out]; exact sQ.out, ⟨pj.out.g, pj.out.gg, pj.out.k, pj.out.kk, pj.out.n, pj.out.nn, pj.out.r⟩⟩, lL.out⟩
end Go.Proofs.YtcgfilmmokmdjaaGreat
