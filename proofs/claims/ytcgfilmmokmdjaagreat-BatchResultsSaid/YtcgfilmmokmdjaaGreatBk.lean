/- A part of the walk. -/
import Derived.Test.YtcgfilmmokmdjaaGreatQAT
import Derived.Test.YtcgfilmmokmdjaaGreatQAQ
set_option linter.all false
set_option maxRecDepth 100000
set_option maxHeartbeats 32000000
namespace Go.Proofs.YtcgfilmmokmdjaaGreat
open Go.RowKit
theorem zLQ (s : eL) (a : Option Addr) (n c : Nat) (L : List GP) (W : World) (hr : fq W (.slice a n c) L) (hg : dZ L = s.dU) (hl : eV 1000 s.dU) (key : Int) :
  Calls Tryz.prog 181 #[zZ s.id s.lim s.ro a n c, .int .u64 key] W fun e w' => ∃ v', e = .returned v' ∧ lu w' W.heap.size v' (zk s key) ∧ Below W.heap.size W w' := by
 have h := zFN s.id s.lim s.ro a n c L W hr (wm (hg ▸ hl) (by decide)) key;obtain ⟨i, l, r, g⟩ := s;dsimp only at hg h ⊢;subst hg;exact h
theorem lu.atB {w : World} {B : Nat} {a : Option Addr} {n cap : Nat} {l : List Int} (h : lu w B (.slice a n cap) l) {j : Nat} (hj : j < n) : ∃ b off, a = some ⟨b, off, none⟩ ∧ w.cell? ⟨b, off + j, none⟩ = some (.int .i64 (oJ l j)) := by
 have hr : iw Dp w _ l := kJ h;obtain ⟨a', cap', e, h2, h3, _, h5⟩ := iw.shape hr 0;injection e with e1 e2 e3;subst e1 e2 e3;obtain ⟨b, off, e, hc⟩ := h5 (by omega);exact ⟨b, off, e, hc j hj⟩
noncomputable def yY (P : fh) (key : Int) (l : List Int) (k : Nat) : fh := (l.take k).foldl (xS key) P
theorem ub (P : fh) (key : Int) (l : List Int) (k : Nat) (h : k < l.length) : yY P key l (k + 1) = xS key (yY P key l k) (oJ l k) := by
 unfold yY oJ;rw [cV, ax, aB h, dt]
 rfl
theorem Za (s : eL) (g : Gn) : (yb s g).1.dU.length ≤ s.dU.length := by
 by_cases hc : (yb s g).2 = 0
 ·
  rw [NY hc]; show (uV s.dU g).length ≤ _; rw [zJE]; exact ai _
 have e : (yb s g).1 = xP := by
  unfold yb at hc ⊢
  split
  ·
   rename_i h1;rw [ag h1] at hc
   split
   ·
    rename_i h2;rw [ag h2] at hc
    split
    ·
     rename_i h3; rw [ag h3] at hc; exact absurd rfl hc
    rfl
   rfl
  rfl
 rw [e]; exact au _
theorem Sz (s : eL) (num : Int) (keys : List Int) : (yX s num keys).1.dU.length ≤ s.dU.length := by
 unfold yX
 split
 ·
  split
  ·
   exact Za _ _
  exact au _
 exact au _
theorem Zb {P : fh} {key : Int} {l : List Int} : ∀ k, k ≤ l.length → (yY P key l k).t.dU.length ≤ P.t.dU.length
 | 0, _ => ai _
 | k + 1, h => by
  rw [ub P key l k (by omega)];exact ak (Sz _ _ _) (Zb k (by omega))
theorem Zc {P : fh} {key : Int} {l : List Int} {M : Nat} (hl : eV 800 P.t.dU) (hk : nS M P.ep) (hn : ∀ x ∈ l, 1 ≤ x ∧ x ≤ 8) : ∀ k, k ≤ l.length →
  eV 800 (yY P key l k).t.dU ∧ nS (M + k) (yY P key l k).ep ∧ (yY P key l k).needs = P.needs ∧ (yY P key l k).bytes = P.bytes ∧ (yY P key l k).ey = P.ey ∧ (yY P key l k).res = P.res
 | 0, _ => ⟨hl, hk, rfl, rfl, rfl, rfl⟩
 | k + 1, h => by
  obtain ⟨h1, h2, h3, h4, h5, h6⟩ := Zc (P := P) (key := key) hl hk hn k (by omega);rw [ub P key l k (by omega)];exact ⟨uu h1, h2.ins (hn _ (Pj (by omega))) key, h3, h4, h5, h6⟩
theorem zKk {W : World} {B g n cap k : Nat} {ks : List KP} (h : W.ownsRow B 89 2 (.slice (some ⟨g, 0, none⟩) n cap) ks.length (ks.flatMap jQ)) (hk : k < ks.length) : W.cell? ⟨g, k * 2 + 1, none⟩ = some (jh ks k).2.1 ∧ W.frozen? ⟨g, k * 2 + 1, none⟩ = false := by
 have hn : n = ks.length := by
  rcases h.2 with ⟨e, _⟩ | ⟨_, _, _, e, _⟩
  ·
   cases e
  injection e
 subst hn;have hf := wO h (k * 2 + 1);have hr : rO W (.slice (some ⟨g, 0, none⟩) ks.length cap) ks := ⟨fun x _ => vn x, zr h⟩
 obtain ⟨b, off, e, _, hc⟩ := hr.at hk;injection e with e;injection e with e1 e2;subst e1 e2;rw [aJ] at hc;exact ⟨hc, hf⟩
def zL4 (B : Nat) (l : List Int) : lT := ⟨fun v w => ∃ a c, v = .slice a l.length c ∧ lu w B (.slice a l.length c) l, fun _ _ _ hb ⟨a, c, h1, h2⟩ => ⟨a, c, h1, zH h2 hb⟩⟩
def zMB (key : Int) : lT := ⟨fun v w => ∃ j, v = .slice (some ⟨j, 0, none⟩) 1 1 ∧ lX w (.slice (some ⟨j, 0, none⟩) 1 1) [key], fun _ _ _ hb ⟨j, h1, h2⟩ => ⟨j, h1, iw.below h2 hb⟩⟩
def zMD (num key : Int) : lT := ⟨fun v w => ∃ j, v = .agg #[.int .i64 num, .slice (some ⟨j, 0, none⟩) 1 1] ∧ lX w (.slice (some ⟨j, 0, none⟩) 1 1) [key], fun _ _ _ hb ⟨j, h1, h2⟩ => ⟨j, h1, iw.below h2 hb⟩⟩
theorem zLs (i l : Int) (r : Bool) (ga : Option Addr) (gn gc : Nat) (ey : Bool) (kv nv rv : Value) (mf : Int) (u : Value) : (tZ i l r ga gn gc ey kv nv rv mf).setIfInBounds 6 u = tZ i l r ga gn gc ey u nv rv mf := by
 simp only [aP, aQ, aN]
theorem zHb {w : World} {B b : Nat} {P : fh} {ga : Option Addr} {gn gc : Nat} {L : List GP} {kv : Value} {ks : List KP} {nv : Value} {es : List (Nd × Value)} {rv : Value} (hlo : B ≤ b) (hP : oL w b P.t.id P.t.lim P.t.ro ga gn gc P.ey kv nv rv P.bytes) (hR : lF w B P ga gn gc L kv ks nv es rv) (hl : eV 800 P.t.dU) (hB : B ≤ w.heap.size) (hel : es.length ≤ 900) (hby : 0 ≤ P.bytes ∧ P.bytes ≤ 1000000000) (M : Nat) (hM : M ≤ 100000) (hsk : nS M P.ep) (nH : P.t.dU.length ≤ 1000000) (q : Rq) (tk kind key ck : Int) (da : Option Addr) (dn dc : Nat) (CJ : (q.key : Int) = key) (Ek : (q.ck : Int) = ck) :
  Calls Tryz.prog 152 #[.pointer (some ⟨b, 0, none⟩), CG tk kind key ck (.slice da dn dc)] w fun e w' => e = .returned (.tuple #[]) ∧ p_ w' B b (yZ P q) ∧ eX B w w' := by
 have fB : b < w.heap.size := hP.lt;have Zd := zh (fun W (hb : Below w.heap.size w W) => zLQ P.t ga gn gc L W (hR.g.rd.below hb) hR.gg (hl.mono (by decide)) key);have D6 := zh (Zc (P := P) (key := key) (l := zk P.t key) (M := M) hl hsk (fun x hx => qk hx));have FQ := zh (fun k (h : k < (zk P.t key).length) => ub P key (zk P.t key) k h);have FR := zh (show ∀ k, k < (zk P.t key).length → 1 ≤ oJ (zk P.t key) k ∧ oJ (zk P.t key) k ≤ 8 from fun k hk => qk (Pj hk));have h8 := YC P.t key;have Ze := zh (fun k (h : k ≤ (zk P.t key).length) => ak (Zb (P := P) (key := key) (l := zk P.t key) k h) nH)
 have Cv := zh (show yZ P q = if vI (yY P key (zk P.t key) (zk P.t key).length).t key = true then vH (yY P key (zk P.t key) (zk P.t key).length) (Dj q) else yY P key (zk P.t key) (zk P.t key).length by
  have e : yY P key (zk P.t key) (zk P.t key).length = yW P key := by unfold yY yW; rw [aR (ai _)]
  rw [e, ← CJ]; rfl)
 have Ir := zh (show p_ w B b (yY P key (zk P.t key) 0) from ⟨ga, gn, gc, L, kv, ks, nv, es, rv, hlo, hP, hR⟩)
 have Fa := zh (show ∀ (es' : List (Nd × Value)), es'.map (·.1) = P.needs → es'.length ≤ 900 from fun es' h => by
  have h1 := aS List.length (h.trans hR.nn.symm)
  rw [aI, aI] at h1
  omega)
 have Fb := zh hP;have Ow := zh CJ;have HQc := zh Ek;generalize yZ P q = D at *;clear hR hl hsk CJ Ek hel nH
 go_enter Tryz.func152, Tryz.ntmps152
 go_upto_region 1 with fail;change Code.wp _ _ _ _ (w.alloc (.cells #[.int .i64 tk, .int .i64 kind, .int .u64 key, .int .u32 ck, .slice da dn dc] 85));have eG := (aj w.heap.size w).alloc (ai _) (.cells #[.int .i64 tk, .int .i64 kind, .int .u64 key, .int .u32 ck, .slice da dn dc] 85);have HX := zh (dV.new w #[.int .i64 tk, .int .i64 kind, .int .u64 key, .int .u32 ck, .slice da dn dc] 85);have HB := zh eG;replace Ir := zh (Ir.out.below eG);replace Fb := zh (Fb.out.below eG);clear eG;generalize w.alloc (.cells #[.int .i64 tk, .int .i64 kind, .int .u64 key, .int .u32 ck, .slice da dn dc] 85) = w1 at *;generalize A3 : w.heap.size = b3 at *;have R9 := zh A3;have hz1 : w.heap.size ≤ b3 := by omega
 have hz2 : b3 ≤ w.heap.size := by omega
 clear A3
 go_cut [14, 15, 16] (fun vq vl vi wx => ∃ oa oc, vl = .int .i64 ((zk P.t key).length : Int) ∧ vi = .int .i64 0 ∧ vq = .slice oa (zk P.t key).length oc ∧ Hid (lu wx w1.heap.size (.slice oa (zk P.t key).length oc) (zk P.t key)) ∧ Hid (Below w1.heap.size w1 wx))
 case first =>
  refine zBV [eR (.pointer (some ⟨b, 0, none⟩)), eR (.pointer (some ⟨b, 0, none⟩)), eR (.pointer (some ⟨b, 0, none⟩)), eR (zZ P.t.id P.t.lim P.t.ro ga gn gc), eR (.pointer (some ⟨b3, 2, none⟩)), eR (.int .u64 key), zL4 w1.heap.size (zk P.t key), eR (.int .i64 ((zk P.t key).length : Int)), eR (.int .i64 0)] 95 (by kernel_rfl) (by kernel_rfl) (by kernel_rfl) (by rfl) (by kernel_rfl) (fun f => by simp [fA, zX, Act.put]; exact rfl) ?_ ?_
  ·
   refine ⟨?_, ?_, ?_, ?_, ?_, ?_, ?_, ?_, ?_, trivial⟩
   ·
    intro f w2 hb hd;clear hd;dsimp only;go_wp2_with fail;exact pS rfl (by simp)
   ·
    intro f w2 hb hd;have d0 : f 0 = (.pointer (some ⟨b, 0, none⟩)) := hd 0 (by kernel_rfl);clear hd;dsimp only;rw [d0];go_wp2_with fail;exact pS rfl (by simp)
   ·
    intro f w2 hb hd;have d1 : f 1 = (.pointer (some ⟨b, 0, none⟩)) := hd 1 (by kernel_rfl);clear hd;dsimp only;rw [d1];go_wp2_with fail;exact pS rfl (by simp)
   ·
    intro f w2 hb hd;have d2 : f 2 = (.pointer (some ⟨b, 0, none⟩)) := hd 2 (by kernel_rfl);clear hd;dsimp only;rw [d2];have hx := Fb.out.below hb;have q0 := hx.cell (i := 0) rfl;have q1 := hx.cell (i := 1) rfl;have q2 := hx.cell (i := 2) rfl;have q3 := hx.cell (i := 3) rfl;clear hx;go_wp2_with fail;exact pS rfl (by simp)
   ·
    intro f w2 hb hd;clear hd;dsimp only;go_wp2_with fail;exact pS rfl (by simp)
   ·
    intro f w2 hb hd;have d4 : f 4 = (.pointer (some ⟨b3, 2, none⟩)) := hd 4 (by kernel_rfl);clear hd;dsimp only;rw [d4];have q2 := (HX.out.below hb).cell (i := 2) rfl;go_wp2_with fail;exact pS rfl (by simp)
   ·
    intro f w2 hb hd;have d3 : f 3 = (zZ P.t.id P.t.lim P.t.ro ga gn gc) := hd 3 (by kernel_rfl);have d5 : f 5 = (.int .u64 key) := hd 5 (by kernel_rfl);clear hd;dsimp only;rw [d3];rw [d5];go_wp2_with fail;refine (Zd.out w2 (HB.out.trans (hb.mono (ak hz2 HB.out.size)))).mono ?_;rintro e w9 ⟨ov, rfl, ho, fT⟩;obtain ⟨qa, qc, rfl, _⟩ := zO ho;have HO := zh (World.ownsRow.mono ho hb.size);clear ho;go_wp2_with fail;exact ⟨rfl, fT, fun t ht => by injection ht with ht; subst ht; exact ⟨⟨qa, qc, rfl, HO.out⟩, fun h => by simp at h⟩⟩
   ·
    intro f w2 hb hd;obtain ⟨a6, c6, d6, r6⟩ := show ∃ a c, f 6 = .slice a (zk P.t key).length c ∧ lu w2 w1.heap.size (.slice a (zk P.t key).length c) (zk P.t key) from hd 6 (by kernel_rfl);clear hd;dsimp only;rw [d6];clear r6;go_wp2_with fail;exact pS rfl (by simp)
   intro f w2 hb hd;clear hd;dsimp only;go_wp2_with fail;exact pS rfl (by simp)
  intro f w8 hb hA;obtain ⟨oa, oc, e6, d6⟩ := show ∃ a c, f 6 = .slice a (zk P.t key).length c ∧ lu w8 w1.heap.size (.slice a (zk P.t key).length c) (zk P.t key) from hA 6 (show 6 < 9 by decide);have d7 : f 7 = .int .i64 ((zk P.t key).length : Int) := hA 7 (show 7 < 9 by decide);have d8 : f 8 = .int .i64 0 := hA 8 (show 8 < 9 by decide);clear hA
  try dsimp only
  rw [e6, d7, d8];clear e6 d7 d8;have HO := zh d6;have ek := zh hb;clear d6 hb;generalize f 0 = Ag, f 1 = sW, f 2 = sX, f 3 = sY, f 4 = sZ, f 5 = s6;clear f;go_wp2_with fail;go_meet
  case rel => exact ⟨oa, oc, rfl, rfl, rfl, HO, ek⟩
 obtain ⟨oa, oc, rfl, rfl, rfl, HO, gN⟩ := hcut;generalize wc = w2 at *;replace HX := zh (HX.out.below gN.out);have mq := zh (show p_ w2 B b (yY P key (zk P.t key) 0) from Ir.out.below gN.out);have eP := zh (show eX B w w2 from eX.of ((HB.out.trans (gN.out.mono (ak hz2 HB.out.size))).mono hz1) (ak hB hz2));have SA : B ≤ w1.heap.size := ak hB (ak hz2 HB.out.size);have Q9 : B ≤ w2.heap.size := ak SA gN.out.size;clear HB Ir Fb Zd gN;generalize hOL : zk P.t key = OL at *;clear hOL;generalize Zf : OL.length = oN at *;have CA := zh Zf;clear Zf;generalize N1 : w1.heap.size = Bo at *;clear N1;go_wp2_with fail
 go_loopw [16] (fun iv W => ∃ k : Nat, iv = .int .i64 (k : Int) ∧ k ≤ oN ∧ Hid (p_ W B b (yY P key OL k)) ∧ Hid (lu W Bo (.slice oa oN oc) OL) ∧ Hid (dV W b3 #[.int .i64 tk, .int .i64 kind, .int .u64 key, .int .u32 ck, .slice da dn dc] 85) ∧ Hid (eX B w W)) (fun iv _ => oN - (intOf iv).toNat)
 case atStart => exact ⟨0, rfl, au _, mq, HO, HX, eP⟩
 clear mq HO HX eP;obtain ⟨k, rfl, hk, Bf, HO, HX, HB⟩ := hrel
 by_cases hlt : k < oN
 ·
  have j1 : (k : Int) < (oN : Int) := by omega
  obtain ⟨JO, Ox, Oy, Oz, SB, Js⟩ := D6.out k hk;have BP := FQ.out k hlt;have hnm := FR.out k hlt;have nH := Ze.out k hk;obtain ⟨og, off, e0, hcell⟩ := lu.atB HO.out hlt;subst e0;generalize oJ OL k = num at *;have BR := zh BP;clear BP;generalize hQ : yY P key OL k = Q at *;clear hQ;obtain ⟨Iu, F8, Iv, L1, F9, gJ, CL, ji, CM, pq, w_, hR1⟩ := Bf.out;have LS : F8 ≤ 1000000 := by
   obtain ⟨_, _, e, _⟩ := hR1.g.rd.shape;injection e with _ e _;have h1 := aS List.length hR1.gg;rw [zj] at h1;omega
  have Ci := zh (fun W j (hb : Below wr.heap.size wr W) (hr : lX W (.slice (some ⟨j, 0, none⟩) 1 1) [key]) => YQ Q.t Iu F8 Iv L1 W (hR1.g.rd.below hb) hR1.gg (JO.mono (by decide)) LS num (.slice (some ⟨j, 0, none⟩) 1 1) [key] hr (by simp));have Od := zh (show xS key Q num = { Q with t := (yX Q.t num [key]).1, ep := kM Q.ep num key } from rfl);have Cq := zh Ox;have px := zh w_;have ig := zh hR1;generalize yX Q.t num [key] = C at *;obtain ⟨C, ce⟩ := C;dsimp only at Od;clear pq w_ hR1 Bf JO Ox Oy Oz SB Js nH LS;go_upto_region 4 with fail;have DV : B ≤ wr.heap.size := ak (ak hB hz2) (ak HB.out.size (ai _))
  go_cut [35] (fun vq wx => vq = .pointer (some ⟨b, 0, none⟩) ∧ ∃ nJ nK gc' L', Hid (oL wx b C.id C.lim C.ro nJ nK gc' Q.ey F9 CL CM Q.bytes) ∧ Hid (lF wx B { Q with t := C } nJ nK gc' L' F9 gJ CL ji CM) ∧ Hid (lu wx Bo (.slice (some ⟨og, off, none⟩) oN oc) OL) ∧ Hid (dV wx b3 #[.int .i64 tk, .int .i64 kind, .int .u64 key, .int .u32 ck, .slice da dn dc] 85) ∧ Hid (eX B w wx))
  case first =>
   refine xJ [eR (.pointer (some ⟨b, 0, none⟩)), eR (.pointer (some ⟨b, 0, none⟩)), eR (.pointer (some ⟨b, 0, none⟩)), eR (.pointer (some ⟨b, 0, none⟩)), eR (zZ Q.t.id Q.t.lim Q.t.ro Iu F8 Iv), eR (.int .i64 num), eR (.pointer (some ⟨b3, 2, none⟩)), eR (.int .u64 key), zMB key, zMD num key, Om B (C, ce), Om B (C, ce), YI B C, eR (.int .i64 ce), eR (.pointer (some ⟨b, 0, none⟩)), eR (.pointer (some ⟨b, 0, none⟩))] [] 95 13 (by kernel_rfl) (by kernel_rfl) rfl rfl (by decide) (by rfl) (by kernel_rfl) (fun f => by simp [fA, zX, Act.put]; exact rfl) ?_ ?_ ?_
   ·
    refine ⟨?_, ?_, ?_, ?_, ?_, ?_, ?_, ?_, ?_, ?_, ?_, ?_, ?_, ?_, ?_, ?_, trivial⟩
    ·
     intro f w1 hb hd;clear hd;dsimp only;go_wp2_with fail;exact pS rfl (by simp)
    ·
     intro f w1 hb hd;clear hd;dsimp only;go_wp2_with fail;exact pS rfl (by simp)
    ·
     intro f w1 hb hd;have d1 : f 1 = (.pointer (some ⟨b, 0, none⟩)) := hd 1 (by kernel_rfl);clear hd;dsimp only;rw [d1];go_wp2_with fail;exact pS rfl (by simp)
    ·
     intro f w1 hb hd;have d2 : f 2 = (.pointer (some ⟨b, 0, none⟩)) := hd 2 (by kernel_rfl);clear hd;dsimp only;rw [d2];go_wp2_with fail;exact pS rfl (by simp)
    ·
     intro f w1 hb hd;have d3 : f 3 = (.pointer (some ⟨b, 0, none⟩)) := hd 3 (by kernel_rfl);clear hd;dsimp only;rw [d3];have hx := px.out.below hb;have q0 := hx.cell (i := 0) rfl;have q1 := hx.cell (i := 1) rfl;have q2 := hx.cell (i := 2) rfl;have q3 := hx.cell (i := 3) rfl;clear hx;go_wp2_with fail;exact pS rfl (by simp)
    ·
     intro f w1 hb hd;clear hd;dsimp only;go_wp2_with fail;exact pS rfl (by simp)
    ·
     intro f w1 hb hd;clear hd;dsimp only;go_wp2_with fail;exact pS rfl (by simp)
    ·
     intro f w1 hb hd;have d6 : f 6 = (.pointer (some ⟨b3, 2, none⟩)) := hd 6 (by kernel_rfl);clear hd;dsimp only;rw [d6];have q2 := (HX.out.below hb).cell (i := 2) rfl;go_wp2_with fail;exact pS rfl (by simp)
    ·
     intro f w1 hb hd;have d7 : f 7 = (.int .u64 key) := hd 7 (by kernel_rfl);clear hd;dsimp only;rw [d7];have Eg : lX (w1.alloc (.cells #[.int .u64 key] 24)) (.slice (some ⟨w1.heap.size, 0, none⟩) 1 1) [key] := Rd.new w1 1 [.int .u64 key] 24 1 rfl (by decide);have Du := zh Eg;have o8 := hb.size;clear Eg;go_wp2_with fail;exact ⟨rfl, (aj _ _).alloc (ai _) _, fun t ht => by injection ht with ht; subst ht; exact ⟨⟨_, rfl, Du.out⟩, fun h => by simp at h⟩⟩
    ·
     intro f w1 hb hd;have d5 : f 5 = (.int .i64 num) := hd 5 (by kernel_rfl);obtain ⟨j8, d8, r8⟩ := show ∃ j, f 8 = .slice (some ⟨j, 0, none⟩) 1 1 ∧ lX w1 (.slice (some ⟨j, 0, none⟩) 1 1) [key] from hd 8 (by kernel_rfl);clear hd;dsimp only;rw [d5];rw [d8];have Du := zh r8;clear r8;go_wp2_with fail;exact ⟨rfl, aj _ _, fun t ht => by injection ht with ht; subst ht; exact ⟨⟨j8, rfl, Du.out⟩, fun h => by simp at h⟩⟩
    ·
     intro f w1 hb hd;have d4 : f 4 = (zZ Q.t.id Q.t.lim Q.t.ro Iu F8 Iv) := hd 4 (by kernel_rfl);obtain ⟨j9, d9, r9⟩ := show ∃ j, f 9 = .agg #[.int .i64 num, .slice (some ⟨j, 0, none⟩) 1 1] ∧ lX w1 (.slice (some ⟨j, 0, none⟩) 1 1) [key] from hd 9 (by kernel_rfl);clear hd;dsimp only;rw [d4];rw [d9];have Du := zh r9;clear r9;go_wp2_with fail;refine (Ci.out w1 j9 hb Du.out).mono ?_;rintro e w9 ⟨⟨qa, qn, qc, qL, rfl, hown, hgn⟩, fT⟩;have Ds := zh (show f_ w9 B (.slice qa qn qc) qL from f_.own hown);have jW := zh hgn;clear hown hgn;go_wp2_with fail;exact ⟨rfl, fT, fun t ht => by injection ht with ht; subst ht; exact ⟨⟨qa, qn, qc, qL, rfl, Ds.out, jW.out⟩, fun h => by simp at h⟩⟩
    ·
     intro f w1 hb hd;obtain ⟨Ls, n10, c10, L10, d10, lM, g10⟩ := show ∃ a n c L, f 10 = .tuple #[zZ C.id C.lim C.ro a n c, .int .i64 ce] ∧ f_ w1 B (.slice a n c) L ∧ dZ L = C.dU from hd 10 (by kernel_rfl);clear hd;dsimp only;rw [d10];have Ds := zh lM;have jW := zh g10;clear lM g10;go_wp2_with fail;exact ⟨rfl, aj _ _, fun t ht => by injection ht with ht; subst ht; exact ⟨⟨Ls, n10, c10, L10, rfl, Ds.out, jW.out⟩, fun h => by simp at h⟩⟩
    ·
     intro f w1 hb hd;obtain ⟨Zg, n11, c11, Zh, d11, lr, g11⟩ := show ∃ a n c L, f 11 = .tuple #[zZ C.id C.lim C.ro a n c, .int .i64 ce] ∧ f_ w1 B (.slice a n c) L ∧ dZ L = C.dU from hd 11 (by kernel_rfl);clear hd;dsimp only;rw [d11];have Ds := zh lr;have jW := zh g11;clear lr g11;go_wp2_with fail;exact ⟨rfl, aj _ _, fun t ht => by injection ht with ht; subst ht; exact ⟨⟨Zg, n11, c11, Zh, rfl, Ds.out, jW.out⟩, fun h => by simp at h⟩⟩
    ·
     intro f w1 hb hd;obtain ⟨Zg, n11, c11, Zh, d11, lr, g11⟩ := show ∃ a n c L, f 11 = .tuple #[zZ C.id C.lim C.ro a n c, .int .i64 ce] ∧ f_ w1 B (.slice a n c) L ∧ dZ L = C.dU from hd 11 (by kernel_rfl);clear hd;dsimp only;rw [d11];clear lr g11;go_wp2_with fail;exact pS rfl (by simp)
    ·
     intro f w1 hb hd;have d0 : f 0 = (.pointer (some ⟨b, 0, none⟩)) := hd 0 (by kernel_rfl);clear hd;dsimp only;rw [d0];go_wp2_with fail;exact pS rfl (by simp)
    intro f w1 hb hd;have d14 : f 14 = (.pointer (some ⟨b, 0, none⟩)) := hd 14 (by kernel_rfl);clear hd;dsimp only;rw [d14];go_wp2_with fail;exact pS rfl (by simp)
   ·
    intro f w8 hb hd jc;clear jc;obtain ⟨a8, n8, c8, L8, d8, r8, g8⟩ := show ∃ a n c L, f 12 = zZ C.id C.lim C.ro a n c ∧ f_ w8 B (.slice a n c) L ∧ dZ L = C.dU from hd 12 (show 12 < 16 by decide);have d11 : f 15 = .pointer (some ⟨b, 0, none⟩) := hd 15 (show 15 < 16 by decide)
    try dsimp only
    rw [d8, d11];clear hd d8 d11;have iO := px.out.below hb;have i_ := iJ.pts (T := 145) hlo ⟨_, _, iO⟩ (zJ C.id C.lim C.ro a8 n8 c8);have lD := zh (show oL _ b C.id C.lim C.ro a8 n8 c8 Q.ey F9 CL CM Q.bytes from (by have h := dV.sets (zJ C.id C.lim C.ro a8 n8 c8) iO; rw [ku] at h; exact h));have jP := zh (((ig.out.below hb).slot C r8 g8).jw i_);have CA := zh (show lu _ Bo _ OL from xh (zH HO.out hb) i_ (by decide));have Ij := zh ((HX.out.below hb).eu (show b3 ≠ b by omega) (zJ C.id C.lim C.ro a8 n8 c8));have gN := zh ((HB.out.step hb DV).pts hlo (zJ C.id C.lim C.ro a8 n8 c8) ⟨_, _, iO⟩ (by decide));have q0 := iO.cell (i := 0) rfl;have q1 := iO.cell (i := 1) rfl;have q2 := iO.cell (i := 2) rfl;have q3 := iO.cell (i := 3) rfl;have qf := iO.frozen;clear r8 g8 hb iO i_
    generalize f 0 = Ag, f 1 = sW, f 2 = sX, f 3 = sY, f 4 = sZ, f 5 = s6, f 6 = Ah, f 7 = CH, f 8 = JL, f 9 = Eh, f 10 = t_, f 11 = LU, f 13 = SC, f 14 = LW;clear f;change wpList _ _ _ (_ :: []) _ _;go_wp2_with fail;go_meet
    case rel => exact ⟨rfl, a8, n8, c8, L8, lD, jP, CA, Ij, gN⟩
   intro f w8 hb hd jc;clear jc;obtain ⟨a8, n8, c8, L8, d8, r8, g8⟩ := show ∃ a n c L, f 12 = zZ C.id C.lim C.ro a n c ∧ f_ w8 B (.slice a n c) L ∧ dZ L = C.dU from hd 12 (show 12 < 16 by decide) (show 12 ≠ 13 by decide);have d11 : f 15 = .pointer (some ⟨b, 0, none⟩) := hd 15 (show 15 < 16 by decide) (show 15 ≠ 13 by decide);obtain ⟨a7, n7, c7, L7, d7, r7, g7⟩ := show ∃ a n c L, f 11 = .tuple #[zZ C.id C.lim C.ro a n c, .int .i64 ce] ∧ f_ w8 B (.slice a n c) L ∧ dZ L = C.dU from hd 11 (show 11 < 16 by decide) (show 11 ≠ 13 by decide);clear r7 g7
   try dsimp only
   rw [d7, d8, d11];clear hd d7 d8 d11;have iO := px.out.below hb;have i_ := iJ.pts (T := 145) hlo ⟨_, _, iO⟩ (zJ C.id C.lim C.ro a8 n8 c8);have lD := zh (show oL _ b C.id C.lim C.ro a8 n8 c8 Q.ey F9 CL CM Q.bytes from (by have h := dV.sets (zJ C.id C.lim C.ro a8 n8 c8) iO; rw [ku] at h; exact h));have jP := zh (((ig.out.below hb).slot C r8 g8).jw i_);have CA := zh (show lu _ Bo _ OL from xh (zH HO.out hb) i_ (by decide));have Ij := zh ((HX.out.below hb).eu (show b3 ≠ b by omega) (zJ C.id C.lim C.ro a8 n8 c8));have gN := zh ((HB.out.step hb DV).pts hlo (zJ C.id C.lim C.ro a8 n8 c8) ⟨_, _, iO⟩ (by decide));have q0 := iO.cell (i := 0) rfl;have q1 := iO.cell (i := 1) rfl;have q2 := iO.cell (i := 2) rfl;have q3 := iO.cell (i := 3) rfl;have qf := iO.frozen;clear r8 g8 hb iO i_
   generalize f 0 = Ag, f 1 = sW, f 2 = sX, f 3 = sY, f 4 = sZ, f 5 = s6, f 6 = Ah, f 7 = CH, f 8 = JL, f 9 = Eh, f 10 = t_, f 13 = SC, f 14 = LW;clear f;change wpList _ _ _ (_ :: _ :: []) _ _;go_wp2_with fail;go_meet
   case rel => exact ⟨rfl, a8, n8, c8, L8, lD, jP, CA, Ij, gN⟩
  obtain ⟨rfl, nJ, nK, gc', L', px, ig, HO, HX, HB⟩ := hcut;generalize wc = v1 at *;clear Ci;obtain ⟨ka, kc, SD, pO, hk2, _⟩ := zO ig.out.k.row;subst SD;have q6 := px.out.cell (i := 6) rfl;have CN : gX gJ = Q.ep := ig.out.kk;have SE : gJ.length ≤ 8 := by have h := (show nS _ Q.ep from Cq.out).le8; rw [← CN, vm] at h; exact h
  have o8 := zJu ka gJ.length kc gJ num v1 ⟨fun x _ => vn x, zr ig.out.k.row⟩ (by rw [CN]; exact Cq.out.A2) (by rw [CN]; exact Cq.out.num) hnm (by omega);have rY : fH Q.ep num ≤ gJ.length := by have h := R2 Q.ep num; rw [← CN, vm] at h; rw [← CN]; exact h
  have Jn : Q.ep.length = gJ.length := by rw [← CN, vm]
  rw [CN] at o8;have LX := zLg (num := num) (key := key) CN rfl;have LY := zKI (num := num) (key := key) CN rfl;have Ga : ∀ x ∈ gX gJ, x.2.length ≤ 200000 := fun x hx => by have := Cq.out.len x (by rw [← CN]; exact hx); omega
  have Zi : (decide (fH Q.ep num < gJ.length) && (yH Q.ep (fH Q.ep num)).1 == num) = decide (fH Q.ep num < Q.ep.length ∧ (yH Q.ep (fH Q.ep num)).1 = num) := by
   rw [Jn]
   by_cases e1 : fH Q.ep num < gJ.length
   ·
    by_cases e2 : (yH Q.ep (fH Q.ep num)).1 = num
    ·
     simp [e1, e2]
    simp [e1, e2]
   simp [e1]
  rw [Zi] at o8;clear Zi Jn;have Aj := zh o8;have LZ := zh LX;have L0 := zh LY;have Zj := zh Ga;have HKK := zh CN;clear o8 LX LY Ga CN;generalize hI0 : fH Q.ep num = I at *;clear hI0;obtain ⟨fo, hfo⟩ : ∃ fo, decide (I < Q.ep.length ∧ (yH Q.ep I).1 = num) = fo := ⟨_, rfl⟩
  rw [hfo] at Aj;have SG := zh hfo;clear hfo;go_wp2_with fail;refine Aj.out.mono ?_;rintro e v2 ⟨rfl, hb2⟩;replace px := zh (px.out.below hb2);replace ig := zh (ig.out.below hb2);replace HO := zh (zH HO.out hb2);replace HX := zh (HX.out.below hb2);have hB1 : B ≤ v1.heap.size := ak hB (ak hz2 HB.out.size);replace HB := zh (HB.out.step hb2 hB1);clear hb2 q6 Aj;go_upto_if 47 with fail
  go_cut [6] (fun vi wx => vi = .int .i64 (I : Int) ∧ ∃ Zk m' Zl u_, Hid (oL wx b C.id C.lim C.ro nJ nK gc' Q.ey (.slice Zk m' Zl) CL CM Q.bytes) ∧ Hid (lF wx B { Q with t := C, ep := gX u_ } nJ nK gc' L' (.slice Zk m' Zl) u_ CL ji CM) ∧ I < u_.length ∧ u_.length ≤ 9 ∧ (jh u_ I).1 = num ∧ Hid ((gX u_).set I (num, (jh u_ I).2.2 ++ [key]) = kM Q.ep num key) ∧ (jh u_ I).2.2.length ≤ 200000 ∧ Hid (lu wx Bo (.slice (some ⟨og, off, none⟩) oN oc) OL) ∧ Hid (dV wx b3 #[.int .i64 tk, .int .i64 kind, .int .u64 key, .int .u32 ck, .slice da dn dc] 85) ∧ Hid (eX B w wx))
  case first =>
   cases fo
   rotate_left
   ·
    have hh := aY SG.out;obtain ⟨g1, g2, g3⟩ := LZ.out hh;have G3 := zh g3;have pP := zh (ig.out.ep ig.out.k);have g4 : (jh gJ I).2.2.length ≤ 200000 := Zj.out _ (by have := uQ (l := gX gJ) (i := I) (by rw [vm]; exact g1); rw [R3] at this; exact this);clear g3 hh;go_wp2_with fail;go_meet
    case rel => exact ⟨rfl, ka, gJ.length, kc, gJ, px, pP, g1, by omega, g2, G3, g4, HO, HX, HB⟩
   have hh := cD SG.out;obtain ⟨g1, g2, g3⟩ := L0.out hh;have G3 := zh g3;have G2 := zh g2;clear g2 g3 hh;have hB2 : B ≤ v2.heap.size := ak hB (ak hz2 HB.out.size);have q6a := px.out.cell (i := 6) rfl;have eG := (aj v2.heap.size v2).alloc (ai _) (.cells #[.int .i64 num, .slice none 0 0] 89);have Iw : ∀ k, (Value.slice ka gJ.length kc).ownBlock = some k → k ≠ v2.heap.size := fun k h e => by have := (ig.out.k.row.lt k h).2; omega
   have ER := zh (zHS (.slice ka gJ.length kc) (gJ.flatMap jQ) (jQ (num, .slice none 0 0, [])) gJ.length I v2.heap.size B (v2.alloc (.cells #[.int .i64 num, .slice none 0 0] 89)) (zH ig.out.k.row eG) (ak hB2 eG.size) rY (by omega) (fun u hu => by
    obtain ⟨x, hx, hu⟩ := List.mem_flatMap.1 hu
    simp only [jQ, cB, cC, or_false] at hu
    rcases hu with rfl | rfl
    ·
     rfl
    ·
     obtain ⟨_, _, e, _⟩ := zO (ig.out.k.keys x hx); rw [e]; rfl) (fun u hu => by
    simp only [jQ, cB, cC, or_false] at hu
    rcases hu with rfl | rfl <;> rfl) rfl (dg v2 _) Iw)
   replace px := zh (px.out.below eG);replace ig := zh (ig.out.below eG);replace HO := zh (zH HO.out eG);replace HX := zh (HX.out.below eG);replace HB := zh (HB.out.step eG hB2);clear eG;have q6 := px.out.cell (i := 6) rfl;go_wp2_with fail;refine ER.out.mono ?_;rintro e v3 ⟨kv3, rfl, ei, eW⟩;obtain ⟨BD, BF, SH, _, _, _⟩ := zO ei;subst SH;have L9 := gH.row ig.out.k.row eW (ai B);have JQ := px.out.gq L9 (by decide);have SI : iJ v3 (v3.setCell ⟨b, 6, none⟩ (.slice BD (gJ.length + 1) BF)) B b 145 := iJ.pts hlo ⟨_, _, JQ⟩ [(6, .slice BD (gJ.length + 1) BF)];have pj := zh ((ig.out.Ss L9 (ig.out.k.ins rY num ei eW)).jw SI);have i_ := zh (show lu _ Bo _ OL from xh (wA HO.out L9 (by decide)) SI (by decide))
   have mK := zh (show dV (v3.setCell ⟨b, 6, none⟩ (.slice BD (gJ.length + 1) BF)) b3 #[.int .i64 tk, .int .i64 kind, .int .u64 key, .int .u32 ck, .slice da dn dc] 85 from dV.eu (c := b) (by omega) [(6, .slice BD (gJ.length + 1) BF)] (HX.out.gq L9 (by decide)));have sQ := zh (show oL (v3.setCell ⟨b, 6, none⟩ (.slice BD (gJ.length + 1) BF)) b C.id C.lim C.ro nJ nK gc' Q.ey (.slice BD (gJ.length + 1) BF) CL CM Q.bytes from (by have h := JQ.set 6 (.slice BD (gJ.length + 1) BF); rw [zLs] at h; exact h));have lL := zh ((HB.out.own ig.out.k.row (ak hB2 (by simp)) eW (by decide)).pts hlo [(6, .slice BD (gJ.length + 1) BF)] ⟨_, _, JQ⟩ (by decide));have c6 := JQ.cell (i := 6) rfl;have f6 := JQ.frozen 6;clear ei eW L9 SI JQ ER px ig HO HX HB q6 q6a;go_wp2_with fail;go_meet
   case rel => exact ⟨rfl, BD, gJ.length + 1, BF, _, sQ, pj, g1, by rw [aA, aX, ay, aK]; omega, by rw [G2.out], (by rw [G2.out]; exact G3), by rw [G2.out]; exact au _, i_, mK, lL⟩
  clear LZ L0 Zj HKK SG px ig HO HX HB rY SE;obtain ⟨rfl, L_, m2, Ma, SJ, px, ig, hi2, OA, lK, nN, hkl, HO, HX, HB⟩ := hcut;generalize wc = y2 at *;obtain ⟨g, e1, e2, hgB, nH, hcK⟩ := zK3 ig.out.k hi2;subst e1 e2;have Gb := ig.out.k.keys _ (Ol hi2);obtain ⟨wa, wc', Zm, _, _, _⟩ := zO Gb;have eG := zz ((aj y2.heap.size y2).alloc (ai _) (.cells #[.int .u64 key] 24));have SK : B ≤ y2.heap.size := ak hB (ak hz2 HB.out.size);have q6 := px.out.cell (i := 6) rfl;have x2 := HX.out.cell (i := 2) rfl;have Dt := zh (px.out.below eG);have Ei := zh (ig.out.below eG);have HOa := zh (show lu _ Bo _ OL from zH HO.out eG);have JK := zh (HX.out.below eG);have B6 := zh (HB.out.step eG SK);have OB := Ei.out.k.keys _ (Ol hi2);have Mb := eG.size;have Mc := zh (fun W1 v2 ho hg hat => Ei.out.put (W1 := W1) hi2 lK (v2 := v2) (l2 := (jh SJ I).2.2 ++ [key]) ho hg hat)
  have SL := zh (fun W1 (hO : gH _ W1 B 24) => zKk (wA Ei.out.k.row hO (by decide)) hi2);rw [Zm] at OB Mc SL hcK;clear Gb eG;generalize XE : (jh SJ I).2.2 = kl at *;clear XE Zm;have ni := zh OB;have Oo := zh (fun W (hg : (World.drew (y2.alloc (.cells #[.int .u64 key] 24))).grownBy W (Value.slice wa kl.length wc').ownBlock) => gH.row OB hg (ai B));clear OB;have i1 : (I : Int) < (SJ.length : Int) := by omega
  have oh := zh (fun W9 mM mN (ew : World.ownsRow W9 B 24 1 (.slice mM (kl.length + 1) mN) (kl.length + 1) (kl.map Ji ++ [.int .u64 key])) fu AL => show p_ (W9.setCell ⟨g, I * 2 + 1, none⟩ (.slice mM (kl.length + 1) mN)) B b (yY P key OL (k + 1)) ∧ lu (W9.setCell ⟨g, I * 2 + 1, none⟩ (.slice mM (kl.length + 1) mN)) Bo (.slice (some ⟨og, off, none⟩) oN oc) OL ∧ dV (W9.setCell ⟨g, I * 2 + 1, none⟩ (.slice mM (kl.length + 1) mN)) b3 #[.int .i64 tk, .int .i64 kind, .int .u64 key, .int .u32 ck, .slice da dn dc] 85 ∧ eX B w (W9.setCell ⟨g, I * 2 + 1, none⟩ (.slice mM (kl.length + 1) mN)) by
   obtain ⟨r1, r2, r3⟩ := Mc.out W9 (.slice mM (kl.length + 1) mN) (by rw [aA, bV]; exact ew) fu AL
   have r4 : gH W9 (W9.setCell ⟨g, I * 2 + 1, none⟩ (.slice mM (kl.length + 1) mN)) B 89 := .inr ⟨g, r3⟩
   refine ⟨?_, wA (wA HOa.out r2 (by decide)) r4 (by decide), (JK.out.gq r2 (by decide)).gq r4 (by decide), (B6.out.own ni.out (ak SK Mb) fu (by decide)).gq r4 (by decide) (zD (B := B) (b := g) hgB [(I * 2 + 1, .slice mM (kl.length + 1) mN)] (zM B6.out.b ni.out (ak SK Mb) fu))⟩
   rw [BR.out, Od.out, ← nN.out]
   exact ⟨nJ, nK, gc', L', _, _, CL, ji, CM, hlo, (Dt.out.gq r2 (by decide)).gq r4 (by decide), r1⟩)
  have q6w := Dt.out.cell (i := 6) rfl;obtain ⟨ckw, fkw⟩ := SL.out _ (.inl (aj _ _));go_upto_region 8 with fail
  go_region_law ((refine Wq (n := kl.length) (by rfl) (.tmp 76) (.tmp 79) 87 (by rfl) Yo B (by rfl) ni.out (ad := ⟨y2.heap.size, 0, none⟩) (m := 1) (c := 1) (news := [.int .u64 key]) (by rfl) (by rfl) (zIN y2 key _ rfl) (fun u hu => by simp only [cB, cC, or_false] at hu; rw [hu]; rfl) (by unfold maxLen; omega) (by omega) (by simp; omega) ?_; intro v9 w9 ew fu AL; obtain ⟨mM, mN, hv2, _, _, _⟩ := zO ew; subst hv2; have oO := Oo.out _ fu; have sr := Dt.out.gq oO (by decide); have c6 := sr.cell (i := 6) rfl; obtain ⟨c9, f9⟩ := SL.out _ oO; clear sr oO))
  all_goals
   obtain ⟨z1, z2, z3, z4⟩ := oh.out _ _ _ ew fu AL;have Z1 := zh z1;have Z2 := zh z2;have Z3 := zh z3;have Z4 := zh z4;clear z1 z2 z3 z4 ew fu AL c6 c9 f9 q6w ckw fkw q6 x2 hcK oh;go_wp2_with fail;exact ⟨⟨k + 1, by go_num, by omega, Z1, Z2, Z3, Z4⟩, by simp [intOf]; omega⟩
 have j1 : ¬ (k : Int) < (oN : Int) := by omega
 have hkn : k = oN := by omega
 subst hkn;obtain ⟨JO, Ox, Oy, Oz, SB, Js⟩ := D6.out k (ai _);obtain ⟨Iu, F8, Iv, L1, F9, gJ, CL, ji, CM, pq, w_, hR1⟩ := Bf.out;have hes : ji.length ≤ 900 := Fa.out ji (hR1.nn.trans Oy);have hDr := Cv.out;generalize yY P key OL k = Q at *;have F6 := zh (YG b Q.t Iu F8 Iv L1 Q.ey F9 CL CM Q.bytes key wr w_ hR1.g.rd hR1.gg (JO.mono (by decide)));have DV : B ≤ wr.heap.size := ak hB (ak hz2 HB.out.size);have oM := zh (fun W (hb : Below wr.heap.size wr W) => YK hlo (w_.below hb) (hR1.below hb) (JO.mono (by decide)) (ak DV hb.size) (Dj q) none 0 0 ⟨⟨rfl, none, 0, rfl, ai _, au _, fun _ => rfl, fun h => (by cases h)⟩, fun g hg => (by cases hg)⟩ rfl (by decide) (by omega) (by rw [Oz]; exact hby));have Iy := zh (show ((Dj q).key : Int) = key ∧ ((Dj q).ck : Int) = ck ∧ (Dj q).del = true from ⟨Ow.out, HQc.out, rfl⟩);have F5 := zh (show p_ wr B b Q from Bf.out);obtain ⟨oI, hd2, Cr⟩ := Iy.out
 rw [oI, hd2, Cr] at oM;clear oI hd2 Cr Iy JO Ox Oy Oz SB Js pq w_ hR1 hes Bf D6 FQ FR Ze;have Md := zh hDr;clear hDr Cv;have x2 := HX.out.cell (i := 2) rfl;have x3 := HX.out.cell (i := 3) rfl;generalize vI Q.t key = tb at *;go_wp2_with fail;refine F6.out.mono ?_;rintro e v5 ⟨rfl, hb5⟩;have gp := zh (HB.out.step hb5 DV);have fk := zh (HX.out.below hb5);have HP5 := zh (F5.out.below hb5);have SQ := zh (oM.out v5 hb5);clear hb5 F6 oM F5 HX HB x2 x3
 cases tb
 ·
  go_wp2_with fail;go_end0;exact ⟨rfl, by rw [Md.out]; exact HP5.out, gp.out⟩
 have x2 := fk.out.cell (i := 2) rfl;have x3 := fk.out.cell (i := 3) rfl;go_wp2_with fail;refine SQ.out.mono ?_;rintro e v6 ⟨rfl, Me, l6⟩;have OC := zh Me;have jG := zh (gp.out.trans l6);clear Me l6;go_wp2_with fail;go_end0;exact ⟨rfl, by rw [Md.out]; exact OC.out, jG.out⟩
end Go.Proofs.YtcgfilmmokmdjaaGreat
