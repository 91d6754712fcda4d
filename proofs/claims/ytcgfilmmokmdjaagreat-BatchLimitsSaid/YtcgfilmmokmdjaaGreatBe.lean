/- A part of the walk. -/
import Derived.Test.YtcgfilmmokmdjaaGreatBd
import Derived.Test.YtcgfilmmokmdjaaGreatHg
import Derived.Test.YtcgfilmmokmdjaaGreatQAA
set_option linter.all false
set_option maxRecDepth 100000
set_option maxHeartbeats 32000000
namespace Go.Proofs.YtcgfilmmokmdjaaGreat
open Go.RowKit
theorem zLs (s : Slt) (a : Option Addr) (n c : Nat) (L : List GP) (W : World) (hr : RdG W (.slice a n c) L) (hg : gns L = s.gens) (hl : LenS 1000 s.gens) :
    Calls Tryz.prog 11 #[zhq s.id s.lim s.ro a n c] W (zJ3 W (tB s)) := by
  have h := zJq s.id s.lim s.ro a n c L W hr (uc (hg ▸ hl) (by decide));obtain ⟨i, l, r, g⟩ := s;dsimp only at hg h ⊢;subst hg;exact h
theorem zFZ (s : Slt) (a : Option Addr) (n c : Nat) (L : List GP) (W : World) (hr : RdG W (.slice a n c) L) (hg : gns L = s.gens) (hs : LenS 1000 s.gens) (g : Gn) (sl : Sl) (hm : RdM W sl g.m.st) (hl : ∀ j, j < 8 → (g.m.st j).length ≤ 10000) :
    Calls Tryz.prog 14 #[zhq s.id s.lim s.ro a n c, ze g.num g.rev g.mode g.size sl g.m.live g.m.garb] W (SRo W (yb s g)) := by
  have h := zIc s.id s.lim s.ro a n c L W hr (uc (hg ▸ hs) (by decide)) (g, sl) hm hl;obtain ⟨i, l, r, gs⟩ := s;dsimp only at hg h ⊢;subst hg;exact h
theorem zDf {s : Slt} {K : Nat} (h : LenS K s.gens) : ∀ i, i < 8 → ((tB s).2.m.st i).length ≤ K := fun i hi => by
  unfold tB
  split
  · rename_i hv
    exact h _ (tD ((zT s).1 hv)) i hi
  exact Nat.zero_le _
theorem zCA {g : Gn} {l : List Nd} {K : Nat} (h : ∀ i, i < 8 → (g.m.st i).length ≤ K) : ∀ i, i < 8 → ((xM g l).2.m.st i).length ≤ K + l.length := fun i hi => by
  have h0 : ((gn0).m.st i).length ≤ K + l.length := Nat.zero_le _;unfold xM
  split
  · split
    · split
      · exact xx l g h i hi
      exact h0
    exact h0
  exact h0
def zFz (B : Nat) (p : Slt × Int) : Sta := ⟨fun v w => ∃ a n c L, v = .tuple #[zhq p.1.id p.1.lim p.1.ro a n c, .int .i64 p.2] ∧ KRdG w B (.slice a n c) L ∧ gns L = p.1.gens, fun _ _ _ hb ⟨a, n, c, L, h1, h2, h3⟩ => ⟨a, n, c, L, h1, h2.below hb, h3⟩⟩
def zKd (B : Nat) (s : Slt) : Sta := ⟨fun v w => ∃ a n c L, v = zhq s.id s.lim s.ro a n c ∧ KRdG w B (.slice a n c) L ∧ gns L = s.gens, fun _ _ _ hb ⟨a, n, c, L, h1, h2, h3⟩ => ⟨a, n, c, L, h1, h2.below hb, h3⟩⟩
theorem PlR.slot {W : World} {B : Nat} {P : Pst} {ga ga' : Option Addr} {gn gc gn' gc' : Nat} {L L' : List GP} {kv : Value} {ks : List KP} {nv : Value} {es : List (Nd × Value)} {rv : Value} (h : PlR W B P ga gn gc L kv ks nv es rv) (s : Slt) (hg : KRdG W B (.slice ga' gn' gc') L') (hgg : gns L' = s.gens) : PlR W B { P with t := s } ga' gn' gc' L' kv ks nv es rv :=
  ⟨hg, hgg, h.k, h.kk, h.n, h.nn, h.r⟩
def OthR (W W' : World) (B : Nat) (T : TypeId) : Prop := Below W.heap.size W W' ∨ ∃ g, Oth W W' B g T
theorem OthR.row {W W' : World} {B B' sz n : Nat} {T : TypeId} {v : Value} {xs : List Value} (hown : W.ownsRow B T sz v n xs) (hg : W.grownBy W' v.ownBlock) (hB : B' ≤ B) : OthR W W' B' T := by
  cases h : v.ownBlock with
  | none =>
    rw [h] at hg;exact .inl (Below.grown (Below.refl _ _) hg (Nat.le_refl _) fun k hk => by cases hk)
  | some g =>
    rw [h] at hg;exact .inr ⟨g, Oth.grown (Nat.le_trans hB (hown.lt g h).1) (Lib.ownsRow_kind hown g h) hg (.inr rfl)⟩
theorem KRd.othR {W W' : World} {B : Nat} {T T' : TypeId} {sz : Nat} {v : Value} {n : Nat} {xs : List Value} (h : KRd W B T sz v n xs) (ho : OthR W W' B T') (hne : T ≠ T') : KRd W' B T sz v n xs := by
  rcases ho with ho | ⟨g, ho⟩
  · exact h.below ho
  exact h.oth ho hne
theorem KRdG.othR {W W' : World} {B : Nat} {T' : TypeId} {v : Value} {L : List GP} (h : KRdG W B v L) (ho : OthR W W' B T') (h1 : 38 ≠ T') (h2 : 49 ≠ T') : KRdG W' B v L := by
  rcases ho with ho | ⟨g, ho⟩
  · exact h.below ho
  exact h.oth ho h1 h2
theorem OwnKs.othR {W W' : World} {B : Nat} {T' : TypeId} {v : Value} {ks : List KP} (h : OwnKs W B v ks) (ho : OthR W W' B T') (h1 : 89 ≠ T') (h2 : 24 ≠ T') : OwnKs W' B v ks := by
  rcases ho with ho | ⟨g, ho⟩
  · exact h.below ho
  exact h.oth ho h1 h2
theorem OwnNk.othR {W W' : World} {B : Nat} {T' : TypeId} {v : Value} {es : List (Nd × Value)} (h : OwnNk W B v es) (ho : OthR W W' B T') (h1 : 56 ≠ T') (h2 : 5 ≠ T') : OwnNk W' B v es := by
  rcases ho with ho | ⟨g, ho⟩
  · exact h.below ho
  exact h.oth ho h1 h2
theorem xl {W W' : World} {B B' : Nat} {T T' : TypeId} {sz n : Nat} {v : Value} {xs : List Value} (h : W.ownsRow B' T sz v n xs) (ho : OthR W W' B T') (hne : T ≠ T') : W'.ownsRow B' T sz v n xs := by
  rcases ho with ho | ⟨g, ho⟩
  · exact zH h ho
  exact xU h ho hne
theorem BlkE.othR {W W' : World} {B b : Nat} {cs : Array Value} {T T' : TypeId} (h : BlkE W b cs T) (ho : OthR W W' B T') (hne : T ≠ T') : BlkE W' b cs T := by
  rcases ho with ho | ⟨g, ho⟩
  · exact h.below ho
  unfold BlkE
  rw [ho.blk b h.lt (fun e => by
    obtain ⟨c, f, h1⟩ := ho.ty
    have h2 : W.heap[b]? = some (.cells cs T (0, 0)) := h
    rw [← e, h2] at h1
    injection h1 with h1
    injection h1 with _ h1
    exact hne h1)]
  exact h
def pT5 : List TypeId := [145, 56, 89, 24, 39]
structure BelK (B : Nat) (w W : World) : Prop where
  b : Below B w W
  k : ∀ (i : Nat) (c : Array Value) (T : TypeId) (f : Nat × Nat), w.heap[i]? = some (Obj.cells c T f) → T ∉ pT5 → W.heap[i]? = some (Obj.cells c T f)
theorem BelK.size {B : Nat} {w W : World} (h : BelK B w W) : w.heap.size ≤ W.heap.size := h.b.size
theorem BelK.of {B : Nat} {w W : World} (h : Below w.heap.size w W) (hB : B ≤ w.heap.size) : BelK B w W := ⟨h.mono hB, fun i c T f h1 _ => by rw [h.block i (Array.getElem?_eq_some_iff.1 h1).1]; exact h1⟩
theorem BelK.trans {B : Nat} {w W W' : World} (h : BelK B w W) (h2 : BelK B W W') : BelK B w W' := ⟨h.b.trans h2.b, fun i c T f h1 hT => h2.k i c T f (h.k i c T f h1 hT) hT⟩
theorem BelK.step {B : Nat} {w W W' : World} (h : BelK B w W) (hb : Below W.heap.size W W') (hB : B ≤ W.heap.size) : BelK B w W' := h.trans (BelK.of hb hB)
theorem BelK.othR {B B' : Nat} {w W W' : World} {T : TypeId} (h : BelK B w W) (ho : OthR W W' B' T) (hT : T ∈ pT5) (hb : Below B w W') : BelK B w W' := ⟨hb, fun i c T2 f h1 hT2 => by
  have h2 := h.k i c T2 f h1 hT2
  have hlt := (Array.getElem?_eq_some_iff.1 h2).1
  rcases ho with ho | ⟨g, ho⟩
  · rw [ho.block i hlt]; exact h2
  rw [ho.blk i hlt (fun e => by
    obtain ⟨c', f', h3⟩ := ho.ty
    rw [← e, h2] at h3
    injection h3 with h3
    injection h3 with _ h3
    exact hT2 (h3 ▸ hT))]
  exact h2⟩
theorem BelK.pts {B b : Nat} {w W : World} {T : TypeId} (h : BelK B w W) (hlo : B ≤ b) (vs : List (Nat × Value)) (ht : ∃ c f, W.heap[b]? = some (.cells c T f)) (hT : T ∈ pT5) : BelK B w (Go.Proofs.YtcgfilmmokmdjaaGreat.pts W b vs) :=
  h.othR (.inr ⟨b, Oth.pts hlo ht vs⟩) hT (zD hlo vs h.b)
theorem BelK.own {B sz n : Nat} {w W W' : World} {T : TypeId} {v : Value} {xs : List Value} (h : BelK B w W) (hown : W.ownsRow B T sz v n xs) (hB : B ≤ W.heap.size) (hg : W.grownBy W' v.ownBlock) (hT : T ∈ pT5) : BelK B w W' :=
  h.othR (OthR.row hown hg (Nat.le_refl B)) hT (zK h.b hown hB hg)
theorem BelK.box {B b : Nat} {w W : World} {cs : Array Value} {T : TypeId} (h : BelK B w W) (hb : BlkE w b cs T) (hT : T ∉ pT5) : BlkE W b cs T := h.k _ _ _ _ hb hT
theorem PlR.need {W W' : World} {B : Nat} {P : Pst} {ga : Option Addr} {gn gc : Nat} {L : List GP} {kv : Value} {ks : List KP} {nv nv' : Value} {es : List (Nd × Value)} {rv : Value} (h : PlR W B P ga gn gc L kv ks nv es rv) (x : Nd) (dv : Value) (hd : KDat W B dv x.data)
    (hg : W.grownBy W' nv.ownBlock) (ho : W'.ownsRow B 56 4 nv' (es.length + 1) (wL es ++ vh (x, dv))) : PlR W' B { P with needs := P.needs ++ [x] } ga gn gc L kv ks nv' (es ++ [(x, dv)]) rv := by
  have hO := OthR.row h.n.row hg (Nat.le_refl _);refine ⟨h.g.othR hO (by decide) (by decide), h.gg, h.k.othR hO (by decide) (by decide), h.kk, ⟨?_, fun p hp => ?_⟩, ?_, xl h.r hO (by decide)⟩
  · have e : wL (es ++ [(x, dv)]) = wL es ++ vh (x, dv) := by unfold wL; rw [List.flatMap_append]; simp
    rw [e, List.length_append];exact ho
  · rcases List.mem_append.1 hp with hp | hp
    · exact KRd.othR (h.n.dat p hp) hO (by decide)
    obtain rfl := List.mem_singleton.1 hp;exact KRd.othR hd hO (by decide)
  rw [List.map_append, h.nn]; rfl
theorem zLQ (i l : Int) (r : Bool) (ga : Option Addr) (gn gc : Nat) (rot : Bool) (kv nv rv : Value) (by_ : Int) (u : Value) : (uz i l r ga gn gc rot kv nv rv by_).setIfInBounds 7 u = uz i l r ga gn gc rot kv u rv by_ := by
  simp only [List.setIfInBounds_toArray, List.set_cons_zero, List.set_cons_succ]
theorem zLK (i l : Int) (r : Bool) (ga : Option Addr) (gn gc : Nat) (rot : Bool) (kv nv rv : Value) (by_ z : Int) : (uz i l r ga gn gc rot kv nv rv by_).setIfInBounds 9 (.int .i64 z) = uz i l r ga gn gc rot kv nv rv z := by
  simp only [List.setIfInBounds_toArray, List.set_cons_zero, List.set_cons_succ]
theorem zLn {W W' : World} {B b sz n : Nat} {cs : Array Value} {T : TypeId} {v : Value} {xs : List Value} (h : BlkE W b cs T) (_ : W.ownsRow B T sz v n xs) (hg : W.grownBy W' v.ownBlock) (hne : v.ownBlock ≠ some b) : BlkE W' b cs T := h.grown hg fun e => hne e.symm
theorem qz (i l : Int) (r : Bool) (ga : Option Addr) (gn gc : Nat) (rot : Bool) (kv nv rv : Value) (by_ : Int) (i' l' : Int) (r' : Bool) (ga' : Option Addr) (gn' gc' : Nat) :
    (zU i' l' r' ga' gn' gc').foldl (fun cs p => cs.setIfInBounds p.1 p.2) (uz i l r ga gn gc rot kv nv rv by_) = uz i' l' r' ga' gn' gc' rot kv nv rv by_ := by
  simp only [List.foldl_cons, List.foldl_nil, List.setIfInBounds_toArray, List.set_cons_zero, List.set_cons_succ]
theorem zEC {w : World} {B b : Nat} {P : Pst} {ga : Option Addr} {gn gc : Nat} {L : List GP} {kv : Value} {ks : List KP} {nv : Value} {es : List (Nd × Value)} {rv : Value} (hlo : B ≤ b) (hP : PlB w b P.t.id P.t.lim P.t.ro ga gn gc P.rot kv nv rv P.bytes) (hR : PlR w B P ga gn gc L kv ks nv es rv) (hl : LenS 900 P.t.gens) (hB : B ≤ w.heap.size) (x : Nd) (da : Option Addr) (dn dc : Nat) (hx : KDat w B (.slice da dn dc) x.data) (hdn : x.data.length = dn) (hdl : dn ≤ 100000) (hel : es.length ≤ 1000) (hby : 0 ≤ P.bytes ∧ P.bytes ≤ 1000000000) :
    Calls Tryz.prog 147 #[.pointer (some ⟨b, 0, none⟩), .agg #[.int .u64 (x.key : Int), .int .u32 (x.ck : Int), .bool x.del, .slice da dn dc]] w fun e w' => e = .returned (.tuple #[]) ∧ PlM w' B b (vp P x) ∧ BelK B w w' := by
  have hbw : b < w.heap.size := hP.lt;have hnrow : ∀ g, nv.ownBlock = some g → g < w.heap.size := fun g h => (hR.n.row.lt g h).2
  have hszl : szN dn ≤ 4127 := xg dn;have HTp := zh (fun W (hb : Below w.heap.size w W) => zLs P.t ga gn gc L W (hR.g.rd.below hb) hR.gg (hl.mono (by decide)));have hTl := zDf hl;have HAd := zh (fun W sT v (hm : RdM W sT (tB P.t).2.m.st) (hr : RdN W v [(x, .slice da dn dc)]) => zKX (tB P.t).2 sT v [(x, .slice da dn dc)] 900 W hm hTl hr (by simp));have HCh := zh (fun W sA (hb : Below w.heap.size w W) (hm : RdM W sA (xM (tB P.t).2 [x]).2.m.st) => zFZ P.t ga gn gc L W (hR.g.rd.below hb) hR.gg (hl.mono (by decide)) (xM (tB P.t).2 [x]).2 sA hm (fun j hj => Nat.le_trans (zCA hTl j hj) (by simp)));have HPm := zh (show vp P x = { P with t := (yb P.t (xM (tB P.t).2 [x]).2).1, needs := P.needs ++ [x], bytes := P.bytes + (szN x.data.length : Int) } from rfl);generalize vp P x = P1 at *;simp only [List.map_cons, List.map_nil] at HAd;generalize yb P.t (xM (tB P.t).2 [x]).2 = C at *
  obtain ⟨C, ce⟩ := C;generalize hTT : tB P.t = TT at *;clear hTT hTl;obtain ⟨te, T⟩ := TT;generalize hAA : xM T [x] = AA at *;clear hAA;obtain ⟨ae, A⟩ := AA;obtain ⟨tn, tr, tm, tz, ⟨tf, tL, tG⟩⟩ := T;obtain ⟨an, ar, am, az, ⟨af, aL, aG⟩⟩ := A;dsimp only at HTp HAd HCh HPm;have HD := zh hx;have HP := zh hP;have HR := zh hR;have HSz := zh (fun W => tR dn W (by omega));have HXl := zh (show (szN x.data.length : Int) = (szN dn : Int) by rw [hdn]);clear hP hR hx hl;have Hnd := zh (show vh (x, .slice da dn dc) = [.int .u64 (x.key : Int), .int .u32 (x.ck : Int), .bool x.del, .slice da dn dc] from rfl);generalize (x.key : Int) = xk at *;generalize (x.ck : Int) = xq at *;generalize x.del = xd at *
  go_enter Tryz.func147, Tryz.ntmps147
  go_upto_region 1 with fail;change Code.wp _ _ _ _ (w.alloc (.cells #[.int .u64 xk, .int .u32 xq, .bool xd, .slice da dn dc] 56));have hba := (Below.refl w.heap.size w).alloc (Nat.le_refl _) (.cells #[.int .u64 xk, .int .u32 xq, .bool xd, .slice da dn dc] 56);have HX := zh (BlkE.new w #[.int .u64 xk, .int .u32 xq, .bool xd, .slice da dn dc] 56);have HB := zh hba;replace HD := zh (HD.out.below hba);replace HP := zh (HP.out.below hba);replace HR := zh (HR.out.below hba);have hb3 : b < w.heap.size := hbw;clear hba;generalize w.alloc (.cells #[.int .u64 xk, .int .u32 xq, .bool xd, .slice da dn dc] 56) = w1 at *;generalize hb3n : w.heap.size = b3 at *;have Hb3n := zh hb3n;have hz1 : w.heap.size ≤ b3 := by omega
  have hz2 : b3 ≤ w.heap.size := by omega
  clear hb3n;have p0 := HP.out.cell (i := 0) rfl;have p1 := HP.out.cell (i := 1) rfl;have p2 := HP.out.cell (i := 2) rfl;have p3 := HP.out.cell (i := 3) rfl;go_wp2_with fail;refine (HTp.out w1 HB.out).mono ?_;rintro e w2 ⟨⟨sT, rfl, ho⟩, hb⟩;dsimp only;clear p0 p1 p2 p3 HTp;have HB2 := zh (hb.mono (Nat.le_refl _));have HT := zh (show RdM w2 sT tf from ho.rd);clear ho;replace HX := zh (HX.out.below hb);replace HD := zh (HD.out.below hb);replace HP := zh (HP.out.below hb);replace HR := zh (HR.out.below hb);replace HB := zh (HB.out.trans (hb.mono (by have := HB.out.size; omega)));clear hb HB2;have HRk := HR;have HPk := HP;have HDk := HD;have HXk := HX;have HB2 := HB;go_upto_region 2 with fail;change Code.wp _ _ _ _ (w2.alloc (.cells (zX tn tr tm tz sT tL tG) 38));have hba := zZ w2 tn tr tm tz sT tL tG 38;have HG := zh (BlkE.new w2 (zX tn tr tm tz sT tL tG) 38)
  have hsz2 : b3 ≤ w2.heap.size := Nat.le_trans hz2 HB.out.size;have hX3 : b3 < w2.heap.size := HX.out.lt;replace HT := zh (HT.out.below hba);replace HX := zh (HX.out.below hba);replace HD := zh (HD.out.below hba);replace HP := zh (HP.out.below hba);replace HR := zh (HR.out.below hba);replace HB := zh (HB.out.trans (hba.mono hsz2));have HBk := zh hba;clear hba;generalize w2.alloc (.cells (zX tn tr tm tz sT tL tG) 38) = w3 at *;generalize hb4n : w2.heap.size = b4 at *;have Hb4n := zh hb4n;have hz3 : w2.heap.size ≤ b4 := by omega
  have hz4 : b4 ≤ w2.heap.size := by omega
  clear hb4n;obtain ⟨g0, g1, g2, g3, g4, g5, g6, g7, g8, g9, g10, g11, g12, g13⟩ := HG.out.gen.q;have n0 := HX.out.cell (i := 0) rfl;have n1 := HX.out.cell (i := 1) rfl;have n2 := HX.out.cell (i := 2) rfl;have n3 := HX.out.cell (i := 3) rfl;go_wp2_with fail;have hba := (Below.refl w3.heap.size w3).alloc (Nat.le_refl _) (.cells #[.int .u64 xk, .int .u32 xq, .bool xd, .slice da dn dc] 56)
  have HN := zh (show RdN (w3.alloc (.cells #[.int .u64 xk, .int .u32 xq, .bool xd, .slice da dn dc] 56)) (.slice (some ⟨w3.heap.size, 0, none⟩) 1 1) [(x, .slice da dn dc)] from ⟨by rw [show wL [(x, .slice da dn dc)] = [.int .u64 xk, .int .u32 xq, .bool xd, .slice da dn dc] by unfold wL; rw [List.flatMap_cons, List.flatMap_nil, List.append_nil, Hnd.out]]; exact Rd.new w3 4 [.int .u64 xk, .int .u32 xq, .bool xd, .slice da dn dc] 56 1 rfl (by decide), fun p hp => by obtain rfl := List.mem_singleton.1 hp; exact RdL.below HD.out.1 hba⟩);refine (HAd.out _ sT _ (HT.out.below hba) HN.out).mono ?_;rintro e w4 ⟨⟨sA, rfl, ho⟩, hb⟩;dsimp only;replace hb := zA hba hb;clear g0 g1 g2 g3 g4 g5 g6 g7 g8 g9 g10 g11 g12 g13;clear n0 n1 n2 n3 HN HAd hba;have HA := zh (show RdM w4 sA af from ho.rd);have hsz3 : b3 ≤ w3.heap.size := Nat.le_trans hz2 HB.out.size;have hb4 : b4 < w3.heap.size := HG.out.lt
  replace HG := zh (HG.out.below hb);replace HX := zh (HX.out.below hb);replace HD := zh (HD.out.below hb);replace HP := zh (HP.out.below hb);replace HR := zh (HR.out.below hb);replace HB := zh (HB.out.trans (hb.mono hsz3));replace HBk := zh (HBk.out.trans (hb.mono (show b4 ≤ w3.heap.size by omega)));clear ho hb HT;obtain ⟨g0, g1, g2, g3, g4, g5, g6, g7, g8, g9, g10, g11, g12, g13⟩ := HG.out.gen.q;have gf := HG.out.gen.f;go_upto_region 3 with fail;change Code.wp _ _ _ _ (pts w4 b4 (zO an ar am az sA aL aG));have HG5 := zh (HG.out.genAll an ar am az sA aL aG);have HA5 := zh (RdM.gen HA.out HG.out (zO an ar am az sA aL aG));have HBk5 := zD (B := b4) (b := b4) (Nat.le_refl _) (zO an ar am az sA aL aG) HBk.out;have HB5 := zh (zD (B := b3) (b := b4) hsz2 (zO an ar am az sA aL aG) HB.out);clear HG HA HX HP HR HD HB HBk;clear g0 g1 g2 g3 g4 g5 g6 g7 g8 g9 g10 g11 g12 g13 gf
  generalize pts w4 b4 (zO an ar am az sA aL aG) = v5 at *;rw [← Hb4n.out] at HBk5;have HP := zh (HPk.out.below HBk5);have HR := zh (HRk.out.below HBk5);have HD := zh (HDk.out.below HBk5);have HX := zh (HXk.out.below HBk5);clear HBk5 HPk HRk HDk HXk HB2;have hB5 : B ≤ v5.heap.size := by have := HB5.out.size; omega
  go_cut [32] (fun vq wx => vq = .pointer (some ⟨b, 0, none⟩) ∧ ∃ ga' gn' gc' L', Hid (PlB wx b C.id C.lim C.ro ga' gn' gc' P.rot kv nv rv P.bytes) ∧ Hid (PlR wx B { P with t := C } ga' gn' gc' L' kv ks nv es rv) ∧ Hid (KDat wx B (.slice da dn dc) x.data) ∧ Hid (BlkE wx b3 #[.int .u64 xk, .int .u32 xq, .bool xd, .slice da dn dc] 56) ∧ Hid (BelK B w wx))
  case first =>
    refine xQ [eqS (.pointer (some ⟨b, 0, none⟩)), eqS (.pointer (some ⟨b, 0, none⟩)), eqS (.pointer (some ⟨b, 0, none⟩)), eqS (.pointer (some ⟨b, 0, none⟩)), eqS (zhq P.t.id P.t.lim P.t.ro ga gn gc), eqS (ze an ar am az sA aL aG), zFz B (C, ce), zFz B (C, ce), zKd B C, eqS (.int .i64 ce), eqS (.pointer (some ⟨b, 0, none⟩)), eqS (.pointer (some ⟨b, 0, none⟩))] [] 56 9 (by kernel_rfl) (by kernel_rfl) rfl rfl (by decide) (by rfl) (by kernel_rfl) (fun f => by simp [frm, zN, Act.put]; exact rfl) ?_ ?_ ?_
    · refine ⟨?_, ?_, ?_, ?_, ?_, ?_, ?_, ?_, ?_, ?_, ?_, ?_, trivial⟩
      · intro f w1 hb hd
        clear hd;dsimp only;go_wp2_with fail;exact pS rfl (by simp)
      · intro f w1 hb hd
        clear hd;dsimp only;go_wp2_with fail;exact pS rfl (by simp)
      · intro f w1 hb hd
        have d1 : f 1 = (.pointer (some ⟨b, 0, none⟩)) := hd 1 (by kernel_rfl);clear hd;dsimp only;rw [d1];go_wp2_with fail;exact pS rfl (by simp)
      · intro f w1 hb hd
        have d2 : f 2 = (.pointer (some ⟨b, 0, none⟩)) := hd 2 (by kernel_rfl);clear hd;dsimp only;rw [d2];go_wp2_with fail;exact pS rfl (by simp)
      · intro f w1 hb hd
        have d3 : f 3 = (.pointer (some ⟨b, 0, none⟩)) := hd 3 (by kernel_rfl);clear hd;dsimp only;rw [d3];have hx := HP.out.below hb;have q0 := hx.cell (i := 0) rfl;have q1 := hx.cell (i := 1) rfl;have q2 := hx.cell (i := 2) rfl;have q3 := hx.cell (i := 3) rfl;clear hx;go_wp2_with fail;exact pS rfl (by simp)
      · intro f w1 hb hd
        clear hd;dsimp only;have hx := (HG5.out.below hb).gen;obtain ⟨q0, q1, q2, q3, q4, q5, q6, q7, q8, q9, q10, q11, q12, q13⟩ := hx.q;clear hx;go_wp2_with fail;exact pS rfl (by simp)
      · intro f w1 hb hd
        have d4 : f 4 = (zhq P.t.id P.t.lim P.t.ro ga gn gc) := hd 4 (by kernel_rfl);have d5 : f 5 = (ze an ar am az sA aL aG) := hd 5 (by kernel_rfl);clear hd;dsimp only;rw [d4];rw [d5];go_wp2_with fail;refine (HCh.out w1 sA (HB5.out.trans (hb.mono (Nat.le_trans hz2 HB5.out.size))) (HA5.out.below hb)).mono ?_;rintro e w9 ⟨⟨qa, qn, qc, qL, rfl, hown, hgn⟩, hb9⟩;have HKg := zh (show KRdG w9 B (.slice qa qn qc) qL from KRdG.own hown);have HGn := zh hgn;clear hown hgn;go_wp2_with fail;exact ⟨rfl, hb9, fun t ht => by injection ht with ht; subst ht; exact ⟨⟨qa, qn, qc, qL, rfl, HKg.out, HGn.out⟩, fun h => by simp at h⟩⟩
      · intro f w1 hb hd
        obtain ⟨a6, n6, c6, L6, d6, r6, g6⟩ := show ∃ a n c L, f 6 = .tuple #[zhq C.id C.lim C.ro a n c, .int .i64 ce] ∧ KRdG w1 B (.slice a n c) L ∧ gns L = C.gens from hd 6 (by kernel_rfl);clear hd;dsimp only;rw [d6];have HKg := zh r6;have HGn := zh g6;clear r6 g6;go_wp2_with fail;exact ⟨rfl, Below.refl _ _, fun t ht => by injection ht with ht; subst ht; exact ⟨⟨a6, n6, c6, L6, rfl, HKg.out, HGn.out⟩, fun h => by simp at h⟩⟩
      · intro f w1 hb hd
        obtain ⟨a7, n7, c7, L7, d7, r7, g7⟩ := show ∃ a n c L, f 7 = .tuple #[zhq C.id C.lim C.ro a n c, .int .i64 ce] ∧ KRdG w1 B (.slice a n c) L ∧ gns L = C.gens from hd 7 (by kernel_rfl);clear hd;dsimp only;rw [d7];have HKg := zh r7;have HGn := zh g7;clear r7 g7;go_wp2_with fail;exact ⟨rfl, Below.refl _ _, fun t ht => by injection ht with ht; subst ht; exact ⟨⟨a7, n7, c7, L7, rfl, HKg.out, HGn.out⟩, fun h => by simp at h⟩⟩
      · intro f w1 hb hd
        obtain ⟨a7, n7, c7, L7, d7, r7, g7⟩ := show ∃ a n c L, f 7 = .tuple #[zhq C.id C.lim C.ro a n c, .int .i64 ce] ∧ KRdG w1 B (.slice a n c) L ∧ gns L = C.gens from hd 7 (by kernel_rfl);clear hd;dsimp only;rw [d7];clear r7 g7;go_wp2_with fail;exact pS rfl (by simp)
      · intro f w1 hb hd
        have d0 : f 0 = (.pointer (some ⟨b, 0, none⟩)) := hd 0 (by kernel_rfl);clear hd;dsimp only;rw [d0];go_wp2_with fail;exact pS rfl (by simp)
      intro f w1 hb hd;have d10 : f 10 = (.pointer (some ⟨b, 0, none⟩)) := hd 10 (by kernel_rfl);clear hd;dsimp only;rw [d10];go_wp2_with fail;exact pS rfl (by simp)
    · intro f w8 hb hd hff
      clear hff;obtain ⟨a8, n8, c8, L8, d8, r8, g8⟩ := show ∃ a n c L, f 8 = zhq C.id C.lim C.ro a n c ∧ KRdG w8 B (.slice a n c) L ∧ gns L = C.gens from hd 8 (show 8 < 12 by decide);have d11 : f 11 = .pointer (some ⟨b, 0, none⟩) := hd 11 (show 11 < 12 by decide)
      try dsimp only
      rw [d8, d11];clear hd d8 d11;have hP8 := HP.out.below hb;have HO := Oth.pts (T := 145) hlo ⟨_, _, hP8⟩ (zU C.id C.lim C.ro a8 n8 c8);have HPn := zh (show PlB _ b C.id C.lim C.ro a8 n8 c8 P.rot kv nv rv P.bytes from (by have h := BlkE.sets (zU C.id C.lim C.ro a8 n8 c8) hP8; rw [qz] at h; exact h));have HRn := zh (((HR.out.below hb).slot C r8 g8).oth HO);have HDn := zh (show KDat _ B _ _ from KRd.oth (HD.out.below hb) HO (by decide));have HXn := zh ((HX.out.below hb).pts_ne (show b3 ≠ b by omega) (zU C.id C.lim C.ro a8 n8 c8));have HBn := zh ((BelK.of ((HB5.out.trans (hb.mono (Nat.le_trans hz2 HB5.out.size))).mono hz1) (Nat.le_trans hB hz2)).pts hlo (zU C.id C.lim C.ro a8 n8 c8) ⟨_, _, hP8⟩ (by decide));have q0 := hP8.cell (i := 0) rfl;have q1 := hP8.cell (i := 1) rfl;have q2 := hP8.cell (i := 2) rfl;have q3 := hP8.cell (i := 3) rfl;have qf := hP8.frozen;clear r8 g8 hb hP8 HO
      generalize f 0 = zq0, f 1 = zq1, f 2 = zq2, f 3 = zq3, f 4 = zq4, f 5 = zq5, f 6 = zq6, f 7 = zq7, f 9 = zq9, f 10 = zq10;clear f;change wpList _ _ _ (_ :: []) _ _;go_wp2_with fail;go_meet
      case rel => exact ⟨rfl, a8, n8, c8, L8, HPn, HRn, HDn, HXn, HBn⟩
    intro f w8 hb hd hff;clear hff;obtain ⟨a8, n8, c8, L8, d8, r8, g8⟩ := show ∃ a n c L, f 8 = zhq C.id C.lim C.ro a n c ∧ KRdG w8 B (.slice a n c) L ∧ gns L = C.gens from hd 8 (show 8 < 12 by decide) (show 8 ≠ 9 by decide);have d11 : f 11 = .pointer (some ⟨b, 0, none⟩) := hd 11 (show 11 < 12 by decide) (show 11 ≠ 9 by decide);obtain ⟨a7, n7, c7, L7, d7, r7, g7⟩ := show ∃ a n c L, f 7 = .tuple #[zhq C.id C.lim C.ro a n c, .int .i64 ce] ∧ KRdG w8 B (.slice a n c) L ∧ gns L = C.gens from hd 7 (show 7 < 12 by decide) (show 7 ≠ 9 by decide);clear r7 g7
    try dsimp only
    rw [d7, d8, d11];clear hd d7 d8 d11;have hP8 := HP.out.below hb;have HO := Oth.pts (T := 145) hlo ⟨_, _, hP8⟩ (zU C.id C.lim C.ro a8 n8 c8);have HPn := zh (show PlB _ b C.id C.lim C.ro a8 n8 c8 P.rot kv nv rv P.bytes from (by have h := BlkE.sets (zU C.id C.lim C.ro a8 n8 c8) hP8; rw [qz] at h; exact h));have HRn := zh (((HR.out.below hb).slot C r8 g8).oth HO);have HDn := zh (show KDat _ B _ _ from KRd.oth (HD.out.below hb) HO (by decide));have HXn := zh ((HX.out.below hb).pts_ne (show b3 ≠ b by omega) (zU C.id C.lim C.ro a8 n8 c8));have HBn := zh ((BelK.of ((HB5.out.trans (hb.mono (Nat.le_trans hz2 HB5.out.size))).mono hz1) (Nat.le_trans hB hz2)).pts hlo (zU C.id C.lim C.ro a8 n8 c8) ⟨_, _, hP8⟩ (by decide));have q0 := hP8.cell (i := 0) rfl;have q1 := hP8.cell (i := 1) rfl;have q2 := hP8.cell (i := 2) rfl;have q3 := hP8.cell (i := 3) rfl;have qf := hP8.frozen;clear r8 g8 hb hP8 HO
    generalize f 0 = zq0, f 1 = zq1, f 2 = zq2, f 3 = zq3, f 4 = zq4, f 5 = zq5, f 6 = zq6, f 9 = zq9, f 10 = zq10;clear f;change wpList _ _ _ (_ :: _ :: []) _ _;go_wp2_with fail;go_meet
    case rel => exact ⟨rfl, a8, n8, c8, L8, HPn, HRn, HDn, HXn, HBn⟩
  obtain ⟨rfl, ga', gn', gc', L', HP, HR, HD, HX, HB⟩ := hcut;generalize wc = v6 at *;obtain ⟨na, nc, hnv, hn1, hn2, _⟩ := zJ HR.out.n.row;subst hnv;have hB6 : B ≤ v6.heap.size := Nat.le_trans (Nat.le_trans hB hz2) HB.out.size;have hb6 : b < v6.heap.size := HP.out.lt;have h36 : b3 < v6.heap.size := HX.out.lt;have hba := zi ((Below.refl v6.heap.size v6).alloc (Nat.le_refl _) (.cells #[.int .u64 xk, .int .u32 xq, .bool xd, .slice da dn dc] 56));have HPa := zh (HP.out.below hba);have HRa := zh (HR.out.below hba);have HDa := zh (show KDat _ B _ _ from KRd.below HD.out hba);have HXa := zh (HX.out.below hba);have HBa := zh (HB.out.step hba hB6);have HRw := zh HRa.out.n.row
  have HCP := zh (fun W (hg : (World.drew (v6.alloc (.cells #[.int .u64 xk, .int .u32 xq, .bool xd, .slice da dn dc] 56))).grownBy W (Value.slice na es.length nc).ownBlock) => HPa.out.othR (OthR.row HRw.out hg (Nat.le_refl _)) (by decide));have hwX := fun {W : World} (hg : (World.drew (v6.alloc (.cells #[.int .u64 xk, .int .u32 xq, .bool xd, .slice da dn dc] 56))).grownBy W (Value.slice na es.length nc).ownBlock) => (show BlkE W b3 #[.int .u64 xk, .int .u32 xq, .bool xd, .slice da dn dc] 56 from zLn HXa.out HRw.out hg fun e => by have := hnrow _ e; omega)
  have hel1 : es.length + 1 ≤ 1001 := by omega
  clear hba;have q7 := HP.out.cell (i := 7) rfl;have n0 := HX.out.cell (i := 0) rfl;have n1 := HX.out.cell (i := 1) rfl;have n2 := HX.out.cell (i := 2) rfl;have n3 := HX.out.cell (i := 3) rfl;go_upto_region 4 with fail
  go_cut [33] (fun vq wx => vq = .pointer (some ⟨b, 0, none⟩) ∧ ∃ nv', Hid (PlB wx b C.id C.lim C.ro ga' gn' gc' P.rot kv nv' rv P.bytes) ∧ Hid (PlR wx B { P with t := C, needs := P.needs ++ [x] } ga' gn' gc' L' kv ks nv' (es ++ [(x, .slice da dn dc)]) rv) ∧ Hid (BlkE wx b3 #[.int .u64 xk, .int .u32 xq, .bool xd, .slice da dn dc] 56) ∧ Hid (BelK B w wx))
  case first =>
   go_region_law ((refine xV (n := es.length) (m := 1) (by rfl) (.tmp 38) (.tmp 40) 23 (by rfl) zKb B (by rfl) HRw.out (by rfl) (Rd.drew (Rd.newK' v6.heap.size v6 rfl 4 [.int .u64 xk, .int .u32 xq, .bool xd, .slice da dn dc] 56 1 rfl (by decide))) (fun u hu => by simp only [List.mem_cons, List.not_mem_nil, or_false] at hu; rcases hu with h | h | h | h <;> rw [h] <;> rfl) (by unfold maxLen; omega) (by omega) (by simp; omega) ?_; intro v2 w8 hown2 hgr2 hv2; clear hv2; obtain ⟨oa2, oc2, hv2, _, _, _⟩ := zJ hown2; subst hv2; have hp2 := HCP.out _ hgr2; have c7 := hp2.cell (i := 7) rfl; have f7 := hp2.frozen 7))
   all_goals
    have HX9 := zh (show BlkE (w8.setCell ⟨b, 7, none⟩ (.slice oa2 (es.length + 1) oc2)) b3 #[.int .u64 xk, .int .u32 xq, .bool xd, .slice da dn dc] 56 from BlkE.pts_ne (c := b) (by omega) [(7, .slice oa2 (es.length + 1) oc2)] (hwX hgr2));have HO8 : Oth w8 (w8.setCell ⟨b, 7, none⟩ (.slice oa2 (es.length + 1) oc2)) B b 145 := Oth.pts hlo ⟨_, _, hp2⟩ [(7, .slice oa2 (es.length + 1) oc2)];have HR9 := zh ((HRa.out.need x (.slice da dn dc) HDa.out hgr2 (by rw [Hnd.out]; exact hown2)).oth HO8);have HP9 := zh (show PlB (w8.setCell ⟨b, 7, none⟩ (.slice oa2 (es.length + 1) oc2)) b C.id C.lim C.ro ga' gn' gc' P.rot kv (.slice oa2 (es.length + 1) oc2) rv P.bytes from (by have h := hp2.set 7 (.slice oa2 (es.length + 1) oc2); rw [zLQ] at h; exact h))
    have HB9 := zh ((HBa.out.own HRw.out (Nat.le_trans hB6 (by simp)) hgr2 (by decide)).pts hlo [(7, .slice oa2 (es.length + 1) oc2)] ⟨_, _, hp2⟩ (by decide));clear hgr2 hown2 hp2 c7 f7 HO8;go_wp2_with fail;go_meet
    case rel => exact ⟨rfl, _, HP9, HR9, HX9, HB9⟩
  obtain ⟨rfl, nv', HP, HR, HX, HB⟩ := hcut;generalize wc = v7 at *;clear HPa HRa HDa HXa HBa HRw HCP q7 n0 n1 n2 n3 hwX;go_upto_region 5 with fail;have hb7 : b < v7.heap.size := HP.out.lt;have hB7 : B ≤ v7.heap.size := Nat.le_trans (Nat.le_trans hB hz2) HB.out.size;refine yt [eqS (.pointer (some ⟨b, 0, none⟩)), eqS (.pointer (some ⟨b, 0, none⟩)), eqS (.pointer (some ⟨b, 9, none⟩)), eqS (.int .i64 P.bytes), eqS (.pointer (some ⟨b3, 3, none⟩)), eqS (.slice da dn dc), eqS (.int .i64 (dn : Int)), eqS (.int .i64 (szN dn : Int)), eqS (.int .i64 (P.bytes + (szN dn : Int))), eqS (.pointer (some ⟨b, 0, none⟩)), eqS (.pointer (some ⟨b, 9, none⟩))] [] 56 (by kernel_rfl) (by kernel_rfl) (by rfl) (by kernel_rfl) (fun f => by simp [frm, zN, Act.put]; exact rfl) ?_ ?_
  · refine ⟨?_, ?_, ?_, ?_, ?_, ?_, ?_, ?_, ?_, ?_, ?_, trivial⟩
    · intro f w1 hb hd
      clear hd;dsimp only;go_wp2_with fail;exact pS rfl (by simp)
    · intro f w1 hb hd
      have d0 : f 0 = (.pointer (some ⟨b, 0, none⟩)) := hd 0 (by kernel_rfl);clear hd;dsimp only;rw [d0];go_wp2_with fail;exact pS rfl (by simp)
    · intro f w1 hb hd
      have d1 : f 1 = (.pointer (some ⟨b, 0, none⟩)) := hd 1 (by kernel_rfl);clear hd;dsimp only;rw [d1];go_wp2_with fail;exact pS rfl (by simp)
    · intro f w1 hb hd
      have d2 : f 2 = (.pointer (some ⟨b, 9, none⟩)) := hd 2 (by kernel_rfl);clear hd;dsimp only;rw [d2];have q9 := (HP.out.below hb).cell (i := 9) rfl;go_wp2_with fail;exact pS rfl (by simp)
    · intro f w1 hb hd
      clear hd;dsimp only;go_wp2_with fail;exact pS rfl (by simp)
    · intro f w1 hb hd
      have d4 : f 4 = (.pointer (some ⟨b3, 3, none⟩)) := hd 4 (by kernel_rfl);clear hd;dsimp only;rw [d4];have q3 := (HX.out.below hb).cell (i := 3) rfl;go_wp2_with fail;exact pS rfl (by simp)
    · intro f w1 hb hd
      have d5 : f 5 = (.slice da dn dc) := hd 5 (by kernel_rfl);clear hd;dsimp only;rw [d5];go_wp2_with fail;exact pS rfl (by simp)
    · intro f w1 hb hd
      have d6 : f 6 = (.int .i64 (dn : Int)) := hd 6 (by kernel_rfl);clear hd;dsimp only;rw [d6];go_wp2_with fail;refine (HSz.out w1).mono ?_;rintro e w9 ⟨rfl, rfl⟩;go_wp2_with fail;exact pS rfl (by simp)
    · intro f w1 hb hd
      have d3 : f 3 = (.int .i64 P.bytes) := hd 3 (by kernel_rfl);have d7 : f 7 = (.int .i64 (szN dn : Int)) := hd 7 (by kernel_rfl);clear hd;dsimp only;rw [d3];rw [d7];have j0 := hby.1;have j1 := hby.2;have j2 := hszl;go_wp2_with fail;exact pS rfl (by simp)
    · intro f w1 hb hd
      have d0 : f 0 = (.pointer (some ⟨b, 0, none⟩)) := hd 0 (by kernel_rfl);clear hd;dsimp only;rw [d0];go_wp2_with fail;exact pS rfl (by simp)
    intro f w1 hb hd;have d9 : f 9 = (.pointer (some ⟨b, 0, none⟩)) := hd 9 (by kernel_rfl);clear hd;dsimp only;rw [d9];go_wp2_with fail;exact pS rfl (by simp)
  intro f w8 hb hd hff;clear hff;have d8 : f 8 = .int .i64 (P.bytes + (szN dn : Int)) := hd 8 (show 8 < 11 by decide);have d10 : f 10 = .pointer (some ⟨b, 9, none⟩) := hd 10 (show 10 < 11 by decide)
  try dsimp only
  rw [d8, d10];clear hd d8 d10;have hP8 := HP.out.below hb;have HO8 : Oth w8 (w8.setCell ⟨b, 9, none⟩ (.int .i64 (P.bytes + (szN dn : Int)))) B b 145 := Oth.pts hlo ⟨_, _, hP8⟩ [(9, .int .i64 (P.bytes + (szN dn : Int)))];have HR9 := zh ((HR.out.below hb).oth HO8);have HP9 := zh (show PlB (w8.setCell ⟨b, 9, none⟩ (.int .i64 (P.bytes + (szN dn : Int)))) b C.id C.lim C.ro ga' gn' gc' P.rot kv nv' rv (P.bytes + (szN dn : Int)) from (by have h := hP8.set 9 (.int .i64 (P.bytes + (szN dn : Int))); rw [zLK] at h; exact h));have HB9 := zh ((HB.out.step hb hB7).pts hlo [(9, .int .i64 (P.bytes + (szN dn : Int)))] ⟨_, _, hP8⟩ (by decide));have q9 := hP8.cell (i := 9) rfl;have qf := hP8.frozen 9;clear hb hP8 HO8;generalize f 0 = zq0, f 1 = zq1, f 2 = zq2, f 3 = zq3, f 4 = zq4, f 5 = zq5, f 6 = zq6, f 7 = zq7, f 9 = zq9;clear f;go_wp2_with fail;go_end0
  exact ⟨rfl, by rw [HPm.out]; exact ⟨ga', gn', gc', L', kv, ks, nv', _, rv, hlo, by rw [HXl.out]; exact HP9.out, ⟨HR9.out.g, HR9.out.gg, HR9.out.k, HR9.out.kk, HR9.out.n, HR9.out.nn, HR9.out.r⟩⟩, HB9.out⟩
end Go.Proofs.YtcgfilmmokmdjaaGreat
