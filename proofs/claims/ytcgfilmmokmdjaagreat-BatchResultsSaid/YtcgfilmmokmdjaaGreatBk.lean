/- A part of the walk. -/
import Derived.Test.YtcgfilmmokmdjaaGreatQAT
import Derived.Test.YtcgfilmmokmdjaaGreatQAQ
set_option maxRecDepth 100000
set_option maxHeartbeats 32000000
namespace Go.Proofs.YtcgfilmmokmdjaaGreat
open Go.RowKit
theorem zLQ (s : eE) (a : Option Addr) (n c : Nat) (L : List GP) (W : World) (hr : fl W (.slice a n c) L) (hg : dV L = s.dP) (hl : eV 1000 s.dP) (key : Int) :
  Calls Tryz.prog 181 #[zZ s.id s.lim s.ro a n c, .int .u64 key] W fun e w' => ∃ v', e = .returned v' ∧ lr w' W.heap.size v' (zk s key) ∧ Below W.heap.size W w' := by
 have h := zFN s.id s.lim s.ro a n c L W hr (wm (hg ▸ hl) (by decide)) key;obtain ⟨i, l, r, g⟩ := s;dsimp only at hg h ⊢;subst hg;exact h
theorem lr.atB {w : World} {B : Nat} {a : Option Addr} {n cap : Nat} {l : List Int} (h : lr w B (.slice a n cap) l) {j : Nat} (hj : j < n) : ∃ b off, a = some ⟨b, off, none⟩ ∧ w.cell? ⟨b, off + j, none⟩ = some (.int .i64 (oF l j)) := by
 have hr : ik Dw w _ l := kJ h;obtain ⟨a', cap', e, h2, h3, _, h5⟩ := ik.shape hr 0;injection e with e1 e2 e3;subst e1 e2 e3;obtain ⟨b, off, e, hc⟩ := h5 (by omega);exact ⟨b, off, e, hc j hj⟩
noncomputable def yY (P : fg) (key : Int) (l : List Int) (k : Nat) : fg := (l.take k).foldl (xS key) P
theorem ub (P : fg) (key : Int) (l : List Int) (k : Nat) (h : k < l.length) : yY P key l (k + 1) = xS key (yY P key l k) (oF l k) := by
 unfold yY oF;rw [cU, ax, aB h, dg]
 rfl
theorem Zw (s : eE) (g : Gn) : (yb s g).1.dP.length ≤ s.dP.length := by
 by_cases hc : (yb s g).2 = 0
 ·
  rw [Oi hc]; show (uV s.dP g).length ≤ _; rw [zJE]; exact ai _
 have e : (yb s g).1 = xP := by
  unfold yb at hc ⊢
  split
  ·
   rename_i h1;rw [ag h1] at hc
   split
   ·
    rename_i h2;rw [ag h2] at hc
    split
    ·
     rename_i h3; rw [ag h3] at hc; exact absurd rfl hc
    rfl
   rfl
  rfl
 rw [e]; exact au _
theorem SU (s : eE) (num : Int) (keys : List Int) : (yX s num keys).1.dP.length ≤ s.dP.length := by
 unfold yX
 split
 ·
  split
  ·
   exact Zw _ _
  exact au _
 exact au _
theorem Zx {P : fg} {key : Int} {l : List Int} : ∀ k, k ≤ l.length → (yY P key l k).t.dP.length ≤ P.t.dP.length
 | 0, _ => ai _
 | k + 1, h => by
  rw [ub P key l k (by omega)];exact ak (SU _ _ _) (Zx k (by omega))
theorem Zy {P : fg} {key : Int} {l : List Int} {M : Nat} (hl : eV 800 P.t.dP) (hk : nQ M P.ei) (hn : ∀ x ∈ l, 1 ≤ x ∧ x ≤ 8) : ∀ k, k ≤ l.length →
  eV 800 (yY P key l k).t.dP ∧ nQ (M + k) (yY P key l k).ei ∧ (yY P key l k).needs = P.needs ∧ (yY P key l k).bytes = P.bytes ∧ (yY P key l k).ep = P.ep ∧ (yY P key l k).res = P.res
 | 0, _ => ⟨hl, hk, rfl, rfl, rfl, rfl⟩
 | k + 1, h => by
  obtain ⟨h1, h2, h3, h4, h5, h6⟩ := Zy (P := P) (key := key) hl hk hn k (by omega);rw [ub P key l k (by omega)];exact ⟨uu h1, h2.ins (hn _ (PI (by omega))) key, h3, h4, h5, h6⟩
theorem zKk {W : World} {B g n cap k : Nat} {ks : List KP} (h : W.ownsRow B 89 2 (.slice (some ⟨g, 0, none⟩) n cap) ks.length (ks.flatMap jQ)) (hk : k < ks.length) : W.cell? ⟨g, k * 2 + 1, none⟩ = some (jh ks k).2.1 ∧ W.frozen? ⟨g, k * 2 + 1, none⟩ = false := by
 have hn : n = ks.length := by
  rcases h.2 with ⟨e, _⟩ | ⟨_, _, _, e, _⟩
  ·
   cases e
  injection e
 subst hn;have hf := wO h (k * 2 + 1);have hr : rP W (.slice (some ⟨g, 0, none⟩) ks.length cap) ks := ⟨fun x _ => vn x, zr h⟩
 obtain ⟨b, off, e, _, hc⟩ := hr.at hk;injection e with e;injection e with e1 e2;subst e1 e2;rw [aJ] at hc;exact ⟨hc, hf⟩
def zL4 (B : Nat) (l : List Int) : lQ := ⟨fun v w => ∃ a c, v = .slice a l.length c ∧ lr w B (.slice a l.length c) l, fun _ _ _ hb ⟨a, c, h1, h2⟩ => ⟨a, c, h1, zH h2 hb⟩⟩
def zMB (key : Int) : lQ := ⟨fun v w => ∃ j, v = .slice (some ⟨j, 0, none⟩) 1 1 ∧ lU w (.slice (some ⟨j, 0, none⟩) 1 1) [key], fun _ _ _ hb ⟨j, h1, h2⟩ => ⟨j, h1, ik.below h2 hb⟩⟩
def zMD (num key : Int) : lQ := ⟨fun v w => ∃ j, v = .agg #[.int .i64 num, .slice (some ⟨j, 0, none⟩) 1 1] ∧ lU w (.slice (some ⟨j, 0, none⟩) 1 1) [key], fun _ _ _ hb ⟨j, h1, h2⟩ => ⟨j, h1, ik.below h2 hb⟩⟩
theorem zLs (i l : Int) (r : Bool) (ga : Option Addr) (gn gc : Nat) (ep : Bool) (kv nv rv : Value) (l9 : Int) (u : Value) : (tZ i l r ga gn gc ep kv nv rv l9).setIfInBounds 6 u = tZ i l r ga gn gc ep u nv rv l9 := by
 simp only [aP, aQ, aN]
theorem zHb {w : World} {B b : Nat} {P : fg} {ga : Option Addr} {gn gc : Nat} {L : List GP} {kv : Value} {ks : List KP} {nv : Value} {es : List (Nd × Value)} {rv : Value} (hlo : B ≤ b) (hP : oI w b P.t.id P.t.lim P.t.ro ga gn gc P.ep kv nv rv P.bytes) (hR : lD w B P ga gn gc L kv ks nv es rv) (hl : eV 800 P.t.dP) (hB : B ≤ w.heap.size) (hel : es.length ≤ 900) (hby : 0 ≤ P.bytes ∧ P.bytes ≤ 1000000000) (M : Nat) (hM : M ≤ 100000) (hsk : nQ M P.ei) (nF : P.t.dP.length ≤ 1000000) (q : Rq) (tk kind key ck : Int) (da : Option Addr) (dn dc : Nat) (CP : (q.key : Int) = key) (Ep : (q.ck : Int) = ck) :
  Calls Tryz.prog 152 #[.pointer (some ⟨b, 0, none⟩), CN tk kind key ck (.slice da dn dc)] w fun e w' => e = .returned (.tuple #[]) ∧ pW w' B b (yZ P q) ∧ eX B w w' := by
 have fu : b < w.heap.size := hP.lt;have Zz := zh (fun W (hb : Below w.heap.size w W) => zLQ P.t ga gn gc L W (hR.g.rd.below hb) hR.gg (hl.mono (by decide)) key);have D_ := zh (Zy (P := P) (key := key) (l := zk P.t key) (M := M) hl hsk (fun x hx => qk hx));have FW := zh (fun k (h : k < (zk P.t key).length) => ub P key (zk P.t key) k h);have FX := zh (show ∀ k, k < (zk P.t key).length → 1 ≤ oF (zk P.t key) k ∧ oF (zk P.t key) k ≤ 8 from fun k hk => qk (PI hk));have h8 := YX P.t key;have ZA := zh (fun k (h : k ≤ (zk P.t key).length) => ak (Zx (P := P) (key := key) (l := zk P.t key) k h) nF)
 have CA := zh (show yZ P q = if vI (yY P key (zk P.t key) (zk P.t key).length).t key = true then vH (yY P key (zk P.t key) (zk P.t key).length) (Ds q) else yY P key (zk P.t key) (zk P.t key).length by
  have e : yY P key (zk P.t key) (zk P.t key).length = yW P key := by unfold yY yW; rw [aS (ai _)]
  rw [e, ← CP]; rfl)
 have IK := zh (show pW w B b (yY P key (zk P.t key) 0) from ⟨ga, gn, gc, L, kv, ks, nv, es, rv, hlo, hP, hR⟩)
 have Fi := zh (show ∀ (es' : List (Nd × Value)), es'.map (·.1) = P.needs → es'.length ≤ 900 from fun es' h => by
  have h1 := aT List.length (h.trans hR.nn.symm)
  rw [aI, aI] at h1
  omega)
 have Fj := zh hP;have OV := zh CP;have HQc := zh Ep;generalize yZ P q = D at *;clear hR hl hsk CP Ep hel nF
 go_enter Tryz.func152, Tryz.ntmps152
 go_upto_region 1 with fail;change Code.wp _ _ _ _ (w.alloc (.cells #[.int .i64 tk, .int .i64 kind, .int .u64 key, .int .u32 ck, .slice da dn dc] 85));have eC := (aj w.heap.size w).alloc (ai _) (.cells #[.int .i64 tk, .int .i64 kind, .int .u64 key, .int .u32 ck, .slice da dn dc] 85);have HX := zh (dQ.new w #[.int .i64 tk, .int .i64 kind, .int .u64 key, .int .u32 ck, .slice da dn dc] 85);have HB := zh eC;replace IK := zh (IK.out.below eC);replace Fj := zh (Fj.out.below eC);clear eC;generalize w.alloc (.cells #[.int .i64 tk, .int .i64 kind, .int .u64 key, .int .u32 ck, .slice da dn dc] 85) = w1 at *;generalize A3 : w.heap.size = b3 at *;have Sw := zh A3;have mf : w.heap.size ≤ b3 := by omega
 have gV : b3 ≤ w.heap.size := by omega
 clear A3
 go_cut [14, 15, 16] (fun vq vl vi wx => ∃ oa oc, vl = .int .i64 ((zk P.t key).length : Int) ∧ vi = .int .i64 0 ∧ vq = .slice oa (zk P.t key).length oc ∧ Hid (lr wx w1.heap.size (.slice oa (zk P.t key).length oc) (zk P.t key)) ∧ Hid (Below w1.heap.size w1 wx))
 case first =>
  refine zBV [eP (.pointer (some ⟨b, 0, none⟩)), eP (.pointer (some ⟨b, 0, none⟩)), eP (.pointer (some ⟨b, 0, none⟩)), eP (zZ P.t.id P.t.lim P.t.ro ga gn gc), eP (.pointer (some ⟨b3, 2, none⟩)), eP (.int .u64 key), zL4 w1.heap.size (zk P.t key), eP (.int .i64 ((zk P.t key).length : Int)), eP (.int .i64 0)] 95 (by kernel_rfl) (by kernel_rfl) (by kernel_rfl) (by rfl) (by kernel_rfl) (fun f => by simp [fq, zX, Act.put]; exact rfl) ?_ ?_
  ·
   refine ⟨?_, ?_, ?_, ?_, ?_, ?_, ?_, ?_, ?_, trivial⟩
   ·
    intro f w2 hb hd;clear hd;dsimp only;go_wp2_with fail;exact pS rfl (by simp)
   ·
    intro f w2 hb hd;have d0 : f 0 = (.pointer (some ⟨b, 0, none⟩)) := hd 0 (by kernel_rfl);clear hd;dsimp only;rw [d0];go_wp2_with fail;exact pS rfl (by simp)
   ·
    intro f w2 hb hd;have d1 : f 1 = (.pointer (some ⟨b, 0, none⟩)) := hd 1 (by kernel_rfl);clear hd;dsimp only;rw [d1];go_wp2_with fail;exact pS rfl (by simp)
   ·
    intro f w2 hb hd;have d2 : f 2 = (.pointer (some ⟨b, 0, none⟩)) := hd 2 (by kernel_rfl);clear hd;dsimp only;rw [d2];have hx := Fj.out.below hb;have q0 := hx.cell (i := 0) rfl;have q1 := hx.cell (i := 1) rfl;have q2 := hx.cell (i := 2) rfl;have q3 := hx.cell (i := 3) rfl;clear hx;go_wp2_with fail;exact pS rfl (by simp)
   ·
    intro f w2 hb hd;clear hd;dsimp only;go_wp2_with fail;exact pS rfl (by simp)
   ·
    intro f w2 hb hd;have d4 : f 4 = (.pointer (some ⟨b3, 2, none⟩)) := hd 4 (by kernel_rfl);clear hd;dsimp only;rw [d4];have q2 := (HX.out.below hb).cell (i := 2) rfl;go_wp2_with fail;exact pS rfl (by simp)
   ·
    intro f w2 hb hd;have d3 : f 3 = (zZ P.t.id P.t.lim P.t.ro ga gn gc) := hd 3 (by kernel_rfl);have d5 : f 5 = (.int .u64 key) := hd 5 (by kernel_rfl);clear hd;dsimp only;rw [d3];rw [d5];go_wp2_with fail;refine (Zz.out w2 (HB.out.trans (hb.mono (ak gV HB.out.size)))).mono ?_;rintro e w9 ⟨ov, rfl, ho, fP⟩;obtain ⟨qa, qc, rfl, _⟩ := zO ho;have HO := zh (World.ownsRow.mono ho hb.size);clear ho;go_wp2_with fail;exact ⟨rfl, fP, fun t ht => by injection ht with ht; subst ht; exact ⟨⟨qa, qc, rfl, HO.out⟩, fun h => by simp at h⟩⟩
   ·
    intro f w2 hb hd;obtain ⟨a6, c6, d6, r6⟩ := show ∃ a c, f 6 = .slice a (zk P.t key).length c ∧ lr w2 w1.heap.size (.slice a (zk P.t key).length c) (zk P.t key) from hd 6 (by kernel_rfl);clear hd;dsimp only;rw [d6];clear r6;go_wp2_with fail;exact pS rfl (by simp)
   intro f w2 hb hd;clear hd;dsimp only;go_wp2_with fail;exact pS rfl (by simp)
  intro f w8 hb hA;obtain ⟨oa, oc, e6, d6⟩ := show ∃ a c, f 6 = .slice a (zk P.t key).length c ∧ lr w8 w1.heap.size (.slice a (zk P.t key).length c) (zk P.t key) from hA 6 (show 6 < 9 by decide);have d7 : f 7 = .int .i64 ((zk P.t key).length : Int) := hA 7 (show 7 < 9 by decide);have d8 : f 8 = .int .i64 0 := hA 8 (show 8 < 9 by decide);clear hA
  try dsimp only
  rw [e6, d7, d8];clear e6 d7 d8;have HO := zh d6;have ea := zh hb;clear d6 hb;generalize f 0 = Ai, f 1 = sX, f 2 = sY, f 3 = sZ, f 4 = s6, f 5 = s_;clear f;go_wp2_with fail;go_meet
  case rel => exact ⟨oa, oc, rfl, rfl, rfl, HO, ea⟩
 obtain ⟨oa, oc, rfl, rfl, rfl, HO, gI⟩ := fZ;generalize wc = w2 at *;replace HX := zh (HX.out.below gI.out);have mj := zh (show pW w2 B b (yY P key (zk P.t key) 0) from IK.out.below gI.out);have eN := zh (show eX B w w2 from eX.of ((HB.out.trans (gI.out.mono (ak gV HB.out.size))).mono mf) (ak hB gV));have SV : B ≤ w1.heap.size := ak hB (ak gV HB.out.size);have Rx : B ≤ w2.heap.size := ak SV gI.out.size;clear HB IK Fj Zz gI;generalize hOL : zk P.t key = OL at *;clear hOL;generalize ZB : OL.length = oN at *;have CH := zh ZB;clear ZB;generalize Om : w1.heap.size = Bo at *;clear Om;go_wp2_with fail
 go_loopw [16] (fun iv W => ∃ k : Nat, iv = .int .i64 (k : Int) ∧ k ≤ oN ∧ Hid (pW W B b (yY P key OL k)) ∧ Hid (lr W Bo (.slice oa oN oc) OL) ∧ Hid (dQ W b3 #[.int .i64 tk, .int .i64 kind, .int .u64 key, .int .u32 ck, .slice da dn dc] 85) ∧ Hid (eX B w W)) (fun iv _ => oN - (intOf iv).toNat)
 case atStart => exact ⟨0, rfl, au _, mj, HO, HX, eN⟩
 clear mj HO HX eN;obtain ⟨k, rfl, hk, Bg, HO, HX, HB⟩ := eT
 by_cases hlt : k < oN
 ·
  have j1 : (k : Int) < (oN : Int) := by omega
  obtain ⟨J8, OW, OX, OY, SX, JI⟩ := D_.out k hk;have BP := FW.out k hlt;have hnm := FX.out k hlt;have nF := ZA.out k hk;obtain ⟨og, off, e0, hcell⟩ := lr.atB HO.out hlt;subst e0;generalize oF OL k = num at *;have BR := zh BP;clear BP;generalize hQ : yY P key OL k = Q at *;clear hQ;obtain ⟨IL, Gf, IP, L1, Gg, gE, CQ, ji, CT, pd, w_, oK⟩ := Bg.out;have Mm : Gf ≤ 1000000 := by
   obtain ⟨_, _, e, _⟩ := oK.g.rd.shape;injection e with _ e _;have h1 := aT List.length oK.gg;rw [zj] at h1;omega
  have Ck := zh (fun W j (hb : Below wr.heap.size wr W) (hr : lU W (.slice (some ⟨j, 0, none⟩) 1 1) [key]) => Za Q.t IL Gf IP L1 W (oK.g.rd.below hb) oK.gg (J8.mono (by decide)) Mm num (.slice (some ⟨j, 0, none⟩) 1 1) [key] hr (by simp));have OD := zh (show xS key Q num = { Q with t := (yX Q.t num [key]).1, ei := kM Q.ei num key } from rfl);have Cw := zh OW;have pe := zh w_;have h_ := zh oK;generalize yX Q.t num [key] = C at *;obtain ⟨C, ce⟩ := C;dsimp only at OD;clear pd w_ oK Bg J8 OW OX OY SX JI nF Mm;go_upto_region 4 with fail;have DY : B ≤ wr.heap.size := ak (ak hB gV) (ak HB.out.size (ai _))
  go_cut [35] (fun vq wx => vq = .pointer (some ⟨b, 0, none⟩) ∧ ∃ nH nI gc' L', Hid (oI wx b C.id C.lim C.ro nH nI gc' Q.ep Gg CQ CT Q.bytes) ∧ Hid (lD wx B { Q with t := C } nH nI gc' L' Gg gE CQ ji CT) ∧ Hid (lr wx Bo (.slice (some ⟨og, off, none⟩) oN oc) OL) ∧ Hid (dQ wx b3 #[.int .i64 tk, .int .i64 kind, .int .u64 key, .int .u32 ck, .slice da dn dc] 85) ∧ Hid (eX B w wx))
  case first =>
   refine xJ [eP (.pointer (some ⟨b, 0, none⟩)), eP (.pointer (some ⟨b, 0, none⟩)), eP (.pointer (some ⟨b, 0, none⟩)), eP (.pointer (some ⟨b, 0, none⟩)), eP (zZ Q.t.id Q.t.lim Q.t.ro IL Gf IP), eP (.int .i64 num), eP (.pointer (some ⟨b3, 2, none⟩)), eP (.int .u64 key), zMB key, zMD num key, OO B (C, ce), OO B (C, ce), Y3 B C, eP (.int .i64 ce), eP (.pointer (some ⟨b, 0, none⟩)), eP (.pointer (some ⟨b, 0, none⟩))] [] 95 13 (by kernel_rfl) (by kernel_rfl) rfl rfl (by decide) (by rfl) (by kernel_rfl) (fun f => by simp [fq, zX, Act.put]; exact rfl) ?_ ?_ ?_
   ·
    refine ⟨?_, ?_, ?_, ?_, ?_, ?_, ?_, ?_, ?_, ?_, ?_, ?_, ?_, ?_, ?_, ?_, trivial⟩
    ·
     intro f w1 hb hd;clear hd;dsimp only;go_wp2_with fail;exact pS rfl (by simp)
    ·
     intro f w1 hb hd;clear hd;dsimp only;go_wp2_with fail;exact pS rfl (by simp)
    ·
     intro f w1 hb hd;have d1 : f 1 = (.pointer (some ⟨b, 0, none⟩)) := hd 1 (by kernel_rfl);clear hd;dsimp only;rw [d1];go_wp2_with fail;exact pS rfl (by simp)
    ·
     intro f w1 hb hd;have d2 : f 2 = (.pointer (some ⟨b, 0, none⟩)) := hd 2 (by kernel_rfl);clear hd;dsimp only;rw [d2];go_wp2_with fail;exact pS rfl (by simp)
    ·
     intro f w1 hb hd;have d3 : f 3 = (.pointer (some ⟨b, 0, none⟩)) := hd 3 (by kernel_rfl);clear hd;dsimp only;rw [d3];have hx := pe.out.below hb;have q0 := hx.cell (i := 0) rfl;have q1 := hx.cell (i := 1) rfl;have q2 := hx.cell (i := 2) rfl;have q3 := hx.cell (i := 3) rfl;clear hx;go_wp2_with fail;exact pS rfl (by simp)
    ·
     intro f w1 hb hd;clear hd;dsimp only;go_wp2_with fail;exact pS rfl (by simp)
    ·
     intro f w1 hb hd;clear hd;dsimp only;go_wp2_with fail;exact pS rfl (by simp)
    ·
     intro f w1 hb hd;have d6 : f 6 = (.pointer (some ⟨b3, 2, none⟩)) := hd 6 (by kernel_rfl);clear hd;dsimp only;rw [d6];have q2 := (HX.out.below hb).cell (i := 2) rfl;go_wp2_with fail;exact pS rfl (by simp)
    ·
     intro f w1 hb hd;have d7 : f 7 = (.int .u64 key) := hd 7 (by kernel_rfl);clear hd;dsimp only;rw [d7];have Ek : lU (w1.alloc (.cells #[.int .u64 key] 24)) (.slice (some ⟨w1.heap.size, 0, none⟩) 1 1) [key] := Rd.new w1 1 [.int .u64 key] 24 1 rfl (by decide);have DC := zh Ek;have o5 := hb.size;clear Ek;go_wp2_with fail;exact ⟨rfl, (aj _ _).alloc (ai _) _, fun t ht => by injection ht with ht; subst ht; exact ⟨⟨_, rfl, DC.out⟩, fun h => by simp at h⟩⟩
    ·
     intro f w1 hb hd;have d5 : f 5 = (.int .i64 num) := hd 5 (by kernel_rfl);obtain ⟨j8, d8, r8⟩ := show ∃ j, f 8 = .slice (some ⟨j, 0, none⟩) 1 1 ∧ lU w1 (.slice (some ⟨j, 0, none⟩) 1 1) [key] from hd 8 (by kernel_rfl);clear hd;dsimp only;rw [d5];rw [d8];have DC := zh r8;clear r8;go_wp2_with fail;exact ⟨rfl, aj _ _, fun t ht => by injection ht with ht; subst ht; exact ⟨⟨j8, rfl, DC.out⟩, fun h => by simp at h⟩⟩
    ·
     intro f w1 hb hd;have d4 : f 4 = (zZ Q.t.id Q.t.lim Q.t.ro IL Gf IP) := hd 4 (by kernel_rfl);obtain ⟨j9, d9, r9⟩ := show ∃ j, f 9 = .agg #[.int .i64 num, .slice (some ⟨j, 0, none⟩) 1 1] ∧ lU w1 (.slice (some ⟨j, 0, none⟩) 1 1) [key] from hd 9 (by kernel_rfl);clear hd;dsimp only;rw [d4];rw [d9];have DC := zh r9;clear r9;go_wp2_with fail;refine (Ck.out w1 j9 hb DC.out).mono ?_;rintro e w9 ⟨⟨qa, qn, qc, qL, rfl, hown, Em⟩, fP⟩;have Dz := zh (show fV w9 B (.slice qa qn qc) qL from fV.own hown);have jW := zh Em;clear hown Em;go_wp2_with fail;exact ⟨rfl, fP, fun t ht => by injection ht with ht; subst ht; exact ⟨⟨qa, qn, qc, qL, rfl, Dz.out, jW.out⟩, fun h => by simp at h⟩⟩
    ·
     intro f w1 hb hd;obtain ⟨LS, n10, ZC, L10, d10, lK, g10⟩ := show ∃ a n c L, f 10 = .tuple #[zZ C.id C.lim C.ro a n c, .int .i64 ce] ∧ fV w1 B (.slice a n c) L ∧ dV L = C.dP from hd 10 (by kernel_rfl);clear hd;dsimp only;rw [d10];have Dz := zh lK;have jW := zh g10;clear lK g10;go_wp2_with fail;exact ⟨rfl, aj _ _, fun t ht => by injection ht with ht; subst ht; exact ⟨⟨LS, n10, ZC, L10, rfl, Dz.out, jW.out⟩, fun h => by simp at h⟩⟩
    ·
     intro f w1 hb hd;obtain ⟨ZD, n11, ZE, ZF, d11, lq, g11⟩ := show ∃ a n c L, f 11 = .tuple #[zZ C.id C.lim C.ro a n c, .int .i64 ce] ∧ fV w1 B (.slice a n c) L ∧ dV L = C.dP from hd 11 (by kernel_rfl);clear hd;dsimp only;rw [d11];have Dz := zh lq;have jW := zh g11;clear lq g11;go_wp2_with fail;exact ⟨rfl, aj _ _, fun t ht => by injection ht with ht; subst ht; exact ⟨⟨ZD, n11, ZE, ZF, rfl, Dz.out, jW.out⟩, fun h => by simp at h⟩⟩
    ·
     intro f w1 hb hd;obtain ⟨ZD, n11, ZE, ZF, d11, lq, g11⟩ := show ∃ a n c L, f 11 = .tuple #[zZ C.id C.lim C.ro a n c, .int .i64 ce] ∧ fV w1 B (.slice a n c) L ∧ dV L = C.dP from hd 11 (by kernel_rfl);clear hd;dsimp only;rw [d11];clear lq g11;go_wp2_with fail;exact pS rfl (by simp)
    ·
     intro f w1 hb hd;have d0 : f 0 = (.pointer (some ⟨b, 0, none⟩)) := hd 0 (by kernel_rfl);clear hd;dsimp only;rw [d0];go_wp2_with fail;exact pS rfl (by simp)
    intro f w1 hb hd;have d14 : f 14 = (.pointer (some ⟨b, 0, none⟩)) := hd 14 (by kernel_rfl);clear hd;dsimp only;rw [d14];go_wp2_with fail;exact pS rfl (by simp)
   ·
    intro f w8 hb hd jc;clear jc;obtain ⟨a8, n8, c8, L8, d8, r8, g8⟩ := show ∃ a n c L, f 12 = zZ C.id C.lim C.ro a n c ∧ fV w8 B (.slice a n c) L ∧ dV L = C.dP from hd 12 (show 12 < 16 by decide);have d11 : f 15 = .pointer (some ⟨b, 0, none⟩) := hd 15 (show 15 < 16 by decide)
    try dsimp only
    rw [d8, d11];clear hd d8 d11;have iN := pe.out.below hb;have i_ := iI.pts (T := 145) hlo ⟨_, _, iN⟩ (zJ C.id C.lim C.ro a8 n8 c8);have lC := zh (show oI _ b C.id C.lim C.ro a8 n8 c8 Q.ep Gg CQ CT Q.bytes from (by have h := dQ.sets (zJ C.id C.lim C.ro a8 n8 c8) iN; rw [ku] at h; exact h));have jP := zh (((h_.out.below hb).slot C r8 g8).jw i_);have CH := zh (show lr _ Bo _ OL from xh (zH HO.out hb) i_ (by decide));have IC := zh ((HX.out.below hb).ek (show b3 ≠ b by omega) (zJ C.id C.lim C.ro a8 n8 c8));have gI := zh ((HB.out.step hb DY).pts hlo (zJ C.id C.lim C.ro a8 n8 c8) ⟨_, _, iN⟩ (by decide));have q0 := iN.cell (i := 0) rfl;have q1 := iN.cell (i := 1) rfl;have q2 := iN.cell (i := 2) rfl;have q3 := iN.cell (i := 3) rfl;have qf := iN.frozen;clear r8 g8 hb iN i_
    generalize f 0 = Ai, f 1 = sX, f 2 = sY, f 3 = sZ, f 4 = s6, f 5 = s_, f 6 = Aj, f 7 = CO, f 8 = J5, f 9 = El, f 10 = t_, f 11 = Mn, f 13 = SY, f 14 = Mq;clear f;change wpList _ _ _ (_ :: []) _ _;go_wp2_with fail;go_meet
    case rel => exact ⟨rfl, a8, n8, c8, L8, lC, jP, CH, IC, gI⟩
   intro f w8 hb hd jc;clear jc;obtain ⟨a8, n8, c8, L8, d8, r8, g8⟩ := show ∃ a n c L, f 12 = zZ C.id C.lim C.ro a n c ∧ fV w8 B (.slice a n c) L ∧ dV L = C.dP from hd 12 (show 12 < 16 by decide) (show 12 ≠ 13 by decide);have d11 : f 15 = .pointer (some ⟨b, 0, none⟩) := hd 15 (show 15 < 16 by decide) (show 15 ≠ 13 by decide);obtain ⟨a7, n7, c7, L7, d7, r7, g7⟩ := show ∃ a n c L, f 11 = .tuple #[zZ C.id C.lim C.ro a n c, .int .i64 ce] ∧ fV w8 B (.slice a n c) L ∧ dV L = C.dP from hd 11 (show 11 < 16 by decide) (show 11 ≠ 13 by decide);clear r7 g7
   try dsimp only
   rw [d7, d8, d11];clear hd d7 d8 d11;have iN := pe.out.below hb;have i_ := iI.pts (T := 145) hlo ⟨_, _, iN⟩ (zJ C.id C.lim C.ro a8 n8 c8);have lC := zh (show oI _ b C.id C.lim C.ro a8 n8 c8 Q.ep Gg CQ CT Q.bytes from (by have h := dQ.sets (zJ C.id C.lim C.ro a8 n8 c8) iN; rw [ku] at h; exact h));have jP := zh (((h_.out.below hb).slot C r8 g8).jw i_);have CH := zh (show lr _ Bo _ OL from xh (zH HO.out hb) i_ (by decide));have IC := zh ((HX.out.below hb).ek (show b3 ≠ b by omega) (zJ C.id C.lim C.ro a8 n8 c8));have gI := zh ((HB.out.step hb DY).pts hlo (zJ C.id C.lim C.ro a8 n8 c8) ⟨_, _, iN⟩ (by decide));have q0 := iN.cell (i := 0) rfl;have q1 := iN.cell (i := 1) rfl;have q2 := iN.cell (i := 2) rfl;have q3 := iN.cell (i := 3) rfl;have qf := iN.frozen;clear r8 g8 hb iN i_
   generalize f 0 = Ai, f 1 = sX, f 2 = sY, f 3 = sZ, f 4 = s6, f 5 = s_, f 6 = Aj, f 7 = CO, f 8 = J5, f 9 = El, f 10 = t_, f 13 = SY, f 14 = Mq;clear f;change wpList _ _ _ (_ :: _ :: []) _ _;go_wp2_with fail;go_meet
   case rel => exact ⟨rfl, a8, n8, c8, L8, lC, jP, CH, IC, gI⟩
  obtain ⟨rfl, nH, nI, gc', L', pe, h_, HO, HX, HB⟩ := fZ;generalize wc = v1 at *;clear Ck;obtain ⟨ka, kc, SZ, pJ, hk2, _⟩ := zO h_.out.k.row;subst SZ;have q6 := pe.out.cell (i := 6) rfl;have CU : gT gE = Q.ei := h_.out.kk;have S0 : gE.length ≤ 8 := by have h := (show nQ _ Q.ei from Cw.out).le8; rw [← CU, vm] at h; exact h
  have o5 := zJu ka gE.length kc gE num v1 ⟨fun x _ => vn x, zr h_.out.k.row⟩ (by rw [CU]; exact Cw.out.A2) (by rw [CU]; exact Cw.out.num) hnm (by omega);have r_ : fE Q.ei num ≤ gE.length := by have h := Ss Q.ei num; rw [← CU, vm] at h; rw [← CU]; exact h
  have JD : Q.ei.length = gE.length := by rw [← CU, vm]
  rw [CU] at o5;have Mr := zLg (num := num) (key := key) CU rfl;have Ms := zKI (num := num) (key := key) CU rfl;have Gh : ∀ x ∈ gT gE, x.2.length ≤ 200000 := fun x hx => by have := Cw.out.len x (by rw [← CU]; exact hx); omega
  have ZG : (decide (fE Q.ei num < gE.length) && (yH Q.ei (fE Q.ei num)).1 == num) = decide (fE Q.ei num < Q.ei.length ∧ (yH Q.ei (fE Q.ei num)).1 = num) := by
   rw [JD]
   by_cases e1 : fE Q.ei num < gE.length
   ·
    by_cases e2 : (yH Q.ei (fE Q.ei num)).1 = num
    ·
     simp [e1, e2]
    simp [e1, e2]
   simp [e1]
  rw [ZG] at o5;clear ZG JD;have Al := zh o5;have Mt := zh Mr;have Mu := zh Ms;have ZH := zh Gh;have HKK := zh CU;clear o5 Mr Ms Gh CU;generalize hI0 : fE Q.ei num = I at *;clear hI0;obtain ⟨fo, hfo⟩ : ∃ fo, decide (I < Q.ei.length ∧ (yH Q.ei I).1 = num) = fo := ⟨_, rfl⟩
  rw [hfo] at Al;have S1 := zh hfo;clear hfo;go_wp2_with fail;refine Al.out.mono ?_;rintro e v2 ⟨rfl, ez⟩;replace pe := zh (pe.out.below ez);replace h_ := zh (h_.out.below ez);replace HO := zh (zH HO.out ez);replace HX := zh (HX.out.below ez);have iB : B ≤ v1.heap.size := ak hB (ak gV HB.out.size);replace HB := zh (HB.out.step ez iB);clear ez q6 Al;go_upto_if 47 with fail
  go_cut [6] (fun vi wx => vi = .int .i64 (I : Int) ∧ ∃ ZI m' ZJ u_, Hid (oI wx b C.id C.lim C.ro nH nI gc' Q.ep (.slice ZI m' ZJ) CQ CT Q.bytes) ∧ Hid (lD wx B { Q with t := C, ei := gT u_ } nH nI gc' L' (.slice ZI m' ZJ) u_ CQ ji CT) ∧ I < u_.length ∧ u_.length ≤ 9 ∧ (jh u_ I).1 = num ∧ Hid ((gT u_).set I (num, (jh u_ I).2.2 ++ [key]) = kM Q.ei num key) ∧ (jh u_ I).2.2.length ≤ 200000 ∧ Hid (lr wx Bo (.slice (some ⟨og, off, none⟩) oN oc) OL) ∧ Hid (dQ wx b3 #[.int .i64 tk, .int .i64 kind, .int .u64 key, .int .u32 ck, .slice da dn dc] 85) ∧ Hid (eX B w wx))
  case first =>
   cases fo
   rotate_left
   ·
    have hh := a_ S1.out;obtain ⟨g1, g2, g3⟩ := Mt.out hh;have G3 := zh g3;have pK := zh (h_.out.ei h_.out.k);have g4 : (jh gE I).2.2.length ≤ 200000 := ZH.out _ (by have := uQ (l := gT gE) (i := I) (by rw [vm]; exact g1); rw [St] at this; exact this);clear g3 hh;go_wp2_with fail;go_meet
    case rel => exact ⟨rfl, ka, gE.length, kc, gE, pe, pK, g1, by omega, g2, G3, g4, HO, HX, HB⟩
   have hh := cC S1.out;obtain ⟨g1, g2, g3⟩ := Mu.out hh;have G3 := zh g3;have G2 := zh g2;clear g2 g3 hh;have oh : B ≤ v2.heap.size := ak hB (ak gV HB.out.size);have q6a := pe.out.cell (i := 6) rfl;have eC := (aj v2.heap.size v2).alloc (ai _) (.cells #[.int .i64 num, .slice none 0 0] 89);have IQ : ∀ k, (Value.slice ka gE.length kc).ownBlock = some k → k ≠ v2.heap.size := fun k h e => by have := (h_.out.k.row.lt k h).2; omega
   have EZ := zh (zHS (.slice ka gE.length kc) (gE.flatMap jQ) (jQ (num, .slice none 0 0, [])) gE.length I v2.heap.size B (v2.alloc (.cells #[.int .i64 num, .slice none 0 0] 89)) (zH h_.out.k.row eC) (ak oh eC.size) r_ (by omega) (fun u hu => by
    obtain ⟨x, hx, hu⟩ := List.mem_flatMap.1 hu
    simp only [jQ, cA, cB, or_false] at hu
    rcases hu with rfl | rfl
    ·
     rfl
    ·
     obtain ⟨_, _, e, _⟩ := zO (h_.out.k.keys x hx); rw [e]; rfl) (fun u hu => by
    simp only [jQ, cA, cB, or_false] at hu
    rcases hu with rfl | rfl <;> rfl) rfl (cW v2 _) IQ)
   replace pe := zh (pe.out.below eC);replace h_ := zh (h_.out.below eC);replace HO := zh (zH HO.out eC);replace HX := zh (HX.out.below eC);replace HB := zh (HB.out.step eC oh);clear eC;have q6 := pe.out.cell (i := 6) rfl;go_wp2_with fail;refine EZ.out.mono ?_;rintro e v3 ⟨kv3, rfl, d_, eW⟩;obtain ⟨BA, BD, S2, _, _, _⟩ := zO d_;subst S2;have Mv := gC.row h_.out.k.row eW (ai B);have J9 := pe.out.gl Mv (by decide);have S3 : iI v3 (v3.setCell ⟨b, 6, none⟩ (.slice BA (gE.length + 1) BD)) B b 145 := iI.pts hlo ⟨_, _, J9⟩ [(6, .slice BA (gE.length + 1) BD)];have o_ := zh ((h_.out.SP Mv (h_.out.k.ins r_ num d_ eW)).jw S3);have i_ := zh (show lr _ Bo _ OL from xh (wA HO.out Mv (by decide)) S3 (by decide))
   have mJ := zh (show dQ (v3.setCell ⟨b, 6, none⟩ (.slice BA (gE.length + 1) BD)) b3 #[.int .i64 tk, .int .i64 kind, .int .u64 key, .int .u32 ck, .slice da dn dc] 85 from dQ.ek (c := b) (by omega) [(6, .slice BA (gE.length + 1) BD)] (HX.out.gl Mv (by decide)));have sR := zh (show oI (v3.setCell ⟨b, 6, none⟩ (.slice BA (gE.length + 1) BD)) b C.id C.lim C.ro nH nI gc' Q.ep (.slice BA (gE.length + 1) BD) CQ CT Q.bytes from (by have h := J9.set 6 (.slice BA (gE.length + 1) BD); rw [zLs] at h; exact h));have lJ := zh ((HB.out.own h_.out.k.row (ak oh (by simp)) eW (by decide)).pts hlo [(6, .slice BA (gE.length + 1) BD)] ⟨_, _, J9⟩ (by decide));have c6 := J9.cell (i := 6) rfl;have f6 := J9.frozen 6;clear d_ eW Mv S3 J9 EZ pe h_ HO HX HB q6 q6a;go_wp2_with fail;go_meet
   case rel => exact ⟨rfl, BA, gE.length + 1, BD, _, sR, o_, g1, by rw [aA, aY, ay, aK]; omega, by rw [G2.out], (by rw [G2.out]; exact G3), by rw [G2.out]; exact au _, i_, mJ, lJ⟩
  clear Mt Mu ZH HKK S1 pe h_ HO HX HB r_ S0;obtain ⟨rfl, Mw, m2, Mx, S4, pe, h_, hi2, OZ, lI, nL, hkl, HO, HX, HB⟩ := fZ;generalize wc = y2 at *;obtain ⟨g, e1, e2, hgB, nF, ZK⟩ := zK3 h_.out.k hi2;subst e1 e2;have Gi := h_.out.k.keys _ (OM hi2);obtain ⟨wa, wc', ZL, _, _, _⟩ := zO Gi;have eC := zz ((aj y2.heap.size y2).alloc (ai _) (.cells #[.int .u64 key] 24));have S5 : B ≤ y2.heap.size := ak hB (ak gV HB.out.size);have q6 := pe.out.cell (i := 6) rfl;have x2 := HX.out.cell (i := 2) rfl;have DA := zh (pe.out.below eC);have En := zh (h_.out.below eC);have HOa := zh (show lr _ Bo _ OL from zH HO.out eC);have J4 := zh (HX.out.below eC);have B8 := zh (HB.out.step eC S5);have O0 := En.out.k.keys _ (OM hi2);have My := eC.size;have Mz := zh (fun W1 v2 ho hg hat => En.out.put (W1 := W1) hi2 lI (v2 := v2) (l2 := (jh S4 I).2.2 ++ [key]) ho hg hat)
  have S6 := zh (fun W1 (hO : gC _ W1 B 24) => zKk (wA En.out.k.row hO (by decide)) hi2);rw [ZL] at O0 Mz S6 ZK;clear Gi eC;generalize XY : (jh S4 I).2.2 = kl at *;clear XY ZL;have ng := zh O0;have OP := zh (fun W (hg : (World.drew (y2.alloc (.cells #[.int .u64 key] 24))).grownBy W (Value.slice wa kl.length wc').ownBlock) => gC.row O0 hg (ai B));clear O0;have i1 : (I : Int) < (S4.length : Int) := by omega
  have n9 := zh (fun W9 mL mM (eo : World.ownsRow W9 B 24 1 (.slice mL (kl.length + 1) mM) (kl.length + 1) (kl.map Jy ++ [.int .u64 key])) fm AL => show pW (W9.setCell ⟨g, I * 2 + 1, none⟩ (.slice mL (kl.length + 1) mM)) B b (yY P key OL (k + 1)) ∧ lr (W9.setCell ⟨g, I * 2 + 1, none⟩ (.slice mL (kl.length + 1) mM)) Bo (.slice (some ⟨og, off, none⟩) oN oc) OL ∧ dQ (W9.setCell ⟨g, I * 2 + 1, none⟩ (.slice mL (kl.length + 1) mM)) b3 #[.int .i64 tk, .int .i64 kind, .int .u64 key, .int .u32 ck, .slice da dn dc] 85 ∧ eX B w (W9.setCell ⟨g, I * 2 + 1, none⟩ (.slice mL (kl.length + 1) mM)) by
   obtain ⟨r1, r2, r3⟩ := Mz.out W9 (.slice mL (kl.length + 1) mM) (by rw [aA, bW]; exact eo) fm AL
   have r4 : gC W9 (W9.setCell ⟨g, I * 2 + 1, none⟩ (.slice mL (kl.length + 1) mM)) B 89 := .inr ⟨g, r3⟩
   refine ⟨?_, wA (wA HOa.out r2 (by decide)) r4 (by decide), (J4.out.gl r2 (by decide)).gl r4 (by decide), (B8.out.own ng.out (ak S5 My) fm (by decide)).gl r4 (by decide) (zD (B := B) (b := g) hgB [(I * 2 + 1, .slice mL (kl.length + 1) mM)] (zM B8.out.b ng.out (ak S5 My) fm))⟩
   rw [BR.out, OD.out, ← nL.out]
   exact ⟨nH, nI, gc', L', _, _, CQ, ji, CT, hlo, (DA.out.gl r2 (by decide)).gl r4 (by decide), r1⟩)
  have q6w := DA.out.cell (i := 6) rfl;obtain ⟨ckw, fkw⟩ := S6.out _ (.inl (aj _ _));go_upto_region 8 with fail
  go_region_law ((refine WI (n := kl.length) (by rfl) (.tmp 76) (.tmp 79) 87 (by rfl) YJ B (by rfl) ng.out (ad := ⟨y2.heap.size, 0, none⟩) (m := 1) (c := 1) (news := [.int .u64 key]) (by rfl) (by rfl) (zIN y2 key _ rfl) (fun u hu => by simp only [cA, cB, or_false] at hu; rw [hu]; rfl) (by unfold maxLen; omega) (by omega) (by simp; omega) ?_; intro v9 w9 eo fm AL; obtain ⟨mL, mM, oG, _, _, _⟩ := zO eo; subst oG; have oL := OP.out _ fm; have sx := DA.out.gl oL (by decide); have c6 := sx.cell (i := 6) rfl; obtain ⟨c9, f9⟩ := S6.out _ oL; clear sx oL))
  all_goals
   obtain ⟨z1, z2, z3, z4⟩ := n9.out _ _ _ eo fm AL;have Z1 := zh z1;have Z2 := zh z2;have Z3 := zh z3;have Z4 := zh z4;clear z1 z2 z3 z4 eo fm AL c6 c9 f9 q6w ckw fkw q6 x2 ZK n9;go_wp2_with fail;exact ⟨⟨k + 1, by go_num, by omega, Z1, Z2, Z3, Z4⟩, by simp [intOf]; omega⟩
 have j1 : ¬ (k : Int) < (oN : Int) := by omega
 have hkn : k = oN := by omega
 subst hkn;obtain ⟨J8, OW, OX, OY, SX, JI⟩ := D_.out k (ai _);obtain ⟨IL, Gf, IP, L1, Gg, gE, CQ, ji, CT, pd, w_, oK⟩ := Bg.out;have J_ : ji.length ≤ 900 := Fi.out ji (oK.nn.trans OX);have ZM := CA.out;generalize yY P key OL k = Q at *;have Gc := zh (Y1 b Q.t IL Gf IP L1 Q.ep Gg CQ CT Q.bytes key wr w_ oK.g.rd oK.gg (J8.mono (by decide)));have DY : B ≤ wr.heap.size := ak hB (ak gV HB.out.size);have oJ := zh (fun W (hb : Below wr.heap.size wr W) => Y5 hlo (w_.below hb) (oK.below hb) (J8.mono (by decide)) (ak DY hb.size) (Ds q) none 0 0 ⟨⟨rfl, none, 0, rfl, ai _, au _, fun _ => rfl, fun h => (by cases h)⟩, fun g hg => (by cases hg)⟩ rfl (by decide) (by omega) (by rw [OY]; exact hby));have IU := zh (show ((Ds q).key : Int) = key ∧ ((Ds q).ck : Int) = ck ∧ (Ds q).del = true from ⟨OV.out, HQc.out, rfl⟩);have Gb := zh (show pW wr B b Q from Bg.out);obtain ⟨oE, hd2, Cx⟩ := IU.out
 rw [oE, hd2, Cx] at oJ;clear oE hd2 Cx IU J8 OW OX OY SX JI pd w_ oK J_ Bg D_ FW FX ZA;have MA := zh ZM;clear ZM CA;have x2 := HX.out.cell (i := 2) rfl;have x3 := HX.out.cell (i := 3) rfl;generalize vI Q.t key = tb at *;go_wp2_with fail;refine Gc.out.mono ?_;rintro e v5 ⟨rfl, iU⟩;have gj := zh (HB.out.step iU DY);have fh := zh (HX.out.below iU);have HP5 := zh (Gb.out.below iU);have S7 := zh (oJ.out v5 iU);clear iU Gc oJ Gb HX HB x2 x3
 cases tb
 ·
  go_wp2_with fail;go_end0;exact ⟨rfl, by rw [MA.out]; exact HP5.out, gj.out⟩
 have x2 := fh.out.cell (i := 2) rfl;have x3 := fh.out.cell (i := 3) rfl;go_wp2_with fail;refine S7.out.mono ?_;rintro e v6 ⟨rfl, MB, l5⟩;have O1 := zh MB;have jG := zh (gj.out.trans l5);clear MB l5;go_wp2_with fail;go_end0;exact ⟨rfl, by rw [MA.out]; exact O1.out, jG.out⟩
end Go.Proofs.YtcgfilmmokmdjaaGreat
