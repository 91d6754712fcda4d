/- A part of the walk. -/
import Derived.Test.YtcgfilmmokmdjaaGreatQAW
import Derived.Test.YtcgfilmmokmdjaaGreatQAX
import Derived.Test.YtcgfilmmokmdjaaGreatBw
import Derived.Test.YtcgfilmmokmdjaaGreatBab
import Derived.Test.YtcgfilmmokmdjaaGreatQAY
import Derived.Test.YtcgfilmmokmdjaaGreatSle
import Derived.Test.YtcgfilmmokmdjaaGreatBah
import Derived.Test.YtcgfilmmokmdjaaGreatQAA
import Derived.Deep.Slices
import Derived.Deep.SlicePairs
import Derived.ChangeArms
import Derived.Test.YtcgfilmmokmdjaaGreatQAE
import Derived.Test.YtcgfilmmokmdjaaGreatQAI
import Derived.Test.YtcgfilmmokmdjaaGreatQAH
import Derived.Test.YtcgfilmmokmdjaaGreatSkb
set_option linter.all false
set_option maxRecDepth 100000
set_option maxHeartbeats 32000000
namespace Go.Proofs.YtcgfilmmokmdjaaGreat
open Go.RowKit
/-! ### One request of a row -/
theorem oC.one {w : World} {a : Option Addr} {n cap : Nat} {qs : List (Rq × Value)} (h : oC w (.slice a n cap) qs) {i : Nat} (hi : i < n) :
  ∃ a' c', (∀ W kl kh, (Instr.slice 74 (.slice a n cap) (some (.int kl (i : Int))) (some (.int kh ((i : Int) + 1))) none).run Tryz.prog W = .ok (.slice a' 1 c') W) ∧ oC w (.slice a' 1 c') [jX qs i] := by
 have hn : qs.length = n := by
  obtain ⟨_, _, e, _⟩ := h.shape;injection e with _ e _; exact e.symm
 obtain ⟨a', c', h1, h2, _⟩ := zHK (P := Tryz.prog) zIv h.row.2 i (i + 1) (by omega) (by omega);rw [show i + 1 - i = 1 by omega] at h1 h2;refine ⟨a', c', fun W kl kh => by have := h1 W kl kh; rwa [cU] at this, ⟨fun x _ => vC x, ?_⟩, fun p hp => ?_⟩
 ·
  have e : ((qs.flatMap ny).drop (i * 5)).take (1 * 5) = [jX qs i].flatMap ny := by
   rw [← O3 5 ny qs vC i, ← O2 5 ny (qs.drop i) vC 1, cR (by omega)];unfold jX;rw [ax, aB (by omega)]; rfl
  rw [e] at h2; exact h2
 obtain rfl := List.mem_singleton.1 hp;exact h.dat _ (kQ (by omega))
/-! ### Values for the drawn regions -/
structure Fm (w : World) (M : fh) (kv : Value) (ks : List KP) (nv : Value) (es : List (Nd × Value)) (rv : Value) : Prop where
 kr : w.ownsRow 0 89 2 kv ks.length (ks.flatMap jQ)
 ky : ∀ p ∈ ks, w.ownsRow 0 24 1 p.2.1 p.2.2.length (p.2.2.map Ji)
 kk : gX ks = M.ep
 nr : w.ownsRow 0 56 4 nv es.length (wM es)
 nd : ∀ p ∈ es, oH w p.2 p.1.data
 nn : es.map (·.1) = M.needs
 r : w.ownsRow 0 39 1 rv M.res.length (M.res.map Dp)
theorem np.w {W : World} {B : Nat} {P : fh} {kv : Value} {ks : List KP} {nv : Value} {es : List (Nd × Value)} {rv : Value} (h : np W B P kv ks nv es rv) : Fm W P kv ks nv es rv :=
 ⟨Go.Joins.ownsRow_le h.k.row (au _), fun p hp => Go.Joins.ownsRow_le (h.k.keys p hp) (au _), h.kk, Go.Joins.ownsRow_le h.n.row (au _), fun p hp => (h.n.dat p hp).rd, h.nn, Go.Joins.ownsRow_le h.r (au _)⟩
theorem Fm.below {w w' : World} {M : fh} {kv : Value} {ks : List KP} {nv : Value} {es : List (Nd × Value)} {rv : Value} (h : Fm w M kv ks nv es rv) (hb : Below w.heap.size w w') : Fm w' M kv ks nv es rv :=
 ⟨zH h.kr hb, fun p hp => zH (h.ky p hp) hb, h.kk, zH h.nr hb, fun p hp => iw.below (h.nd p hp) hb, h.nn, zH h.r hb⟩
theorem zFl {w : World} {b : Nat} {r0 : Bool} {t0 : Int} {a1 a2 a3 : Option Addr} {n1 n2 n3 c1 c2 c3 : Nat} {t : TypeId} {v : Value} {d : List UInt8} (h : oH w v d) (hb : dV w b (xD r0 t0 (.slice a1 n1 c1) (.slice a2 n2 c2) (.slice a3 n3 c3)) t) (vs : List (Nat × Value)) : oH (pts w b vs) v d := by
 obtain ⟨h1, a', cap, e, h3, h4, h5, h6⟩ := h;refine ⟨h1, a', cap, e, h3, h4, h5, fun hp => ?_⟩;obtain ⟨b', off, e2, hc⟩ := h6 hp;refine ⟨b', off, e2, fun j u hu => ?_⟩;have hne : b' ≠ b := fun e3 => by
  subst e3;obtain ⟨y, hy⟩ : ∃ y : UInt8, (d.map vh)[0]? = some (vh y) := by
   cases d with
   | nil => cases hp
   | cons y r => exact ⟨y, rfl⟩
  have h7 := hc 0 _ hy;rw [bn, dV.rL hb off] at h7
  match off, h7 with
  | 0, h7 => cases h7
  | 1, h7 => cases h7
  | 2, h7 => cases h7
  | 3, h7 => cases h7
  | 4, h7 => cases h7
  | k + 5, h7 => rw [Array.getElem?_eq_none (by show 5 ≤ k + 5; omega)] at h7; cases h7
 exact (zt (p := ⟨b', off + j, none⟩) hne vs w).trans (hc j u hu)
theorem Fm.pts {w : World} {M : fh} {kv : Value} {ks : List KP} {nv : Value} {es : List (Nd × Value)} {rv : Value} (h : Fm w M kv ks nv es rv) {b : Nat} {r0 : Bool} {t0 : Int} {a1 a2 a3 : Option Addr} {n1 n2 n3 c1 c2 c3 : Nat} (hb : dV w b (xD r0 t0 (.slice a1 n1 c1) (.slice a2 n2 c2) (.slice a3 n3 c3)) 71) (vs : List (Nat × Value)) : Fm (Go.Proofs.YtcgfilmmokmdjaaGreat.pts w b vs) M kv ks nv es rv :=
 ⟨wH (uY h.kr hb (by decide)) vs h.kr, fun p hp => wH (uY (h.ky p hp) hb (by decide)) vs (h.ky p hp), h.kk, wH (uY h.nr hb (by decide)) vs h.nr, fun p hp => zFl (h.nd p hp) hb vs, h.nn, wH (uY h.r hb (by decide)) vs h.r⟩
def BK (M : fh) (v : Value) (w : World) : Prop := ∃ ka kc ks na nc es ra rc, v = NR M.ey (M.res.length : Int) (.slice ka ks.length kc) (.slice na es.length nc) (.slice ra M.res.length rc) ∧ Fm w M (.slice ka ks.length kc) ks (.slice na es.length nc) es (.slice ra M.res.length rc)
theorem BK.below {M : fh} {v : Value} {w w' : World} (h : BK M v w) (hb : Below w.heap.size w w') : BK M v w' := by
 obtain ⟨ka, kc, ks, na, nc, es, ra, rc, h1, h2⟩ := h;exact ⟨ka, kc, ks, na, nc, es, ra, rc, h1, h2.below hb⟩
def mkT (M : fh) : lT := ⟨fun v w => ∃ p, v = .tuple #[p, .int .i64 0] ∧ BK M p w, fun _ _ _ hb ⟨p, h1, h2⟩ => ⟨p, h1, h2.below hb⟩⟩
def mkG (M : fh) : lT := ⟨fun v w => BK M v w, fun _ _ _ hb h => h.below hb⟩
def zLk (B : Nat) : lT := ⟨fun v w => ∃ b, v = .pointer (some ⟨b, 0, none⟩) ∧ B ≤ b ∧ dV w b (xD false 0 (.slice none 0 0) (.slice none 0 0) (.slice none 0 0)) 71, fun _ _ _ hb ⟨b, h1, h2, h3⟩ => ⟨b, h1, h2, h3.below hb⟩⟩
def slR (G : List Gn) : lT := ⟨fun v w => ∃ a n c L, v = zZ 1 9000 false a n c ∧ fq w (.slice a n c) L ∧ dZ L = G ∧ n ≤ 1000000, fun _ _ _ hb ⟨a, n, c, L, h1, h2, h3, h4⟩ => ⟨a, n, c, L, h1, h2.below hb, h3, h4⟩⟩
theorem zD2 {S : eL} (hS : eo S) {ga : Option Addr} {gn gc : Nat} {L : List GP} {qa : Option Addr} {qn qc : Nat} {qs : List (Rq × Value)} {w : World} (hr : fq w (.slice ga gn gc) L) (hg : dZ L = S.dU) (hl : eV 700 S.dU) (hq : oC w (.slice qa qn qc) qs) (Jn : qs.length ≤ 1000) (iz : ∀ p ∈ qs, p.1.data.length ≤ 1000000) :
  Calls Tryz.prog 22 #[zZ S.id S.lim S.ro ga gn gc, .slice qa qn qc] w fun e w' => (∃ p, e = .returned (.tuple #[p, .int .i64 0]) ∧ BK (zm S (qs.map (·.1))).1 p w') ∧ Below w.heap.size w w' := by
 have Ns : qs.length = qn := by
  obtain ⟨_, _, e, _⟩ := hq.shape;injection e with _ e _; exact e.symm
 subst Ns;have nH := hS.len;refine (ZS S ga gn gc L qa qc qs w hr hg hl (by omega) hq (by omega) iz).mono ?_;rintro e w' ⟨kv, ks, nv, es, rv, rfl, hp, hb⟩;obtain ⟨ka, kc, rfl, _⟩ := zO hp.k.row;obtain ⟨na, nc, rfl, _⟩ := zO hp.n.row;obtain ⟨ra, rc, rfl, _⟩ := zO hp.r;rw [(ZF hS (qs.map (·.1))).1];exact ⟨⟨_, rfl, ka, kc, ks, na, nc, es, ra, rc, rfl, hp.w⟩, hb⟩
theorem zBA {S : eL} (hS : eo S) (hl : eV 700 S.dU) (K : List Rq) : (∀ x ∈ (zm S K).1.ep, x.2.length ≤ 1000) ∧ (zm S K).1.needs.length ≤ 16 := by
 have hi := Tm (K := 700) (G := S.dU.length) K (yR S) ⟨hl, nS.nil _, ai _, ⟨cT _, cT _⟩, ai _⟩ (au _);have e : (zm S K).1 = wJ K (yR S) := by unfold zm; rw [ag ((zR S).2 hS)]
 rw [e];refine ⟨fun x hx => ?_, ?_⟩
 ·
  have := hi.2.k.len x hx;have := hi.1;omega
 have := hi.2.e;have := hi.1;omega
theorem zCF {S : eL} {ga : Option Addr} {gn gc : Nat} {L : List GP} {p : Value} {M : fh} {w : World} (hr : fq w (.slice ga gn gc) L) (hg : dZ L = S.dU) (hl : eV 700 S.dU) (hn : gn ≤ 1000000) (hp : BK M p w) (hk : ∀ x ∈ M.ep, x.2.length ≤ 1000) (hnd : M.needs.length ≤ 16) :
  Calls Tryz.prog 31 #[zZ S.id S.lim S.ro ga gn gc, p] w (iu w (wg S M.ey M.ep M.needs)) := by
 obtain ⟨ka, kc, ks, na, nc, es, ra, rc, rfl, hw⟩ := hp;have h2 : rQ w (.slice ka ks.length kc) ks := ⟨⟨fun x _ => vn x, zr hw.kr⟩, fun p hp => kJ (hw.ky p hp)⟩
 have h4 : mL w (.slice na es.length nc) es := ⟨zr hw.nr, hw.nd⟩
 have h3 := hw.kk;have h5 := hw.nn
 have h := zFK S ga gn gc L M.ey (M.res.length : Int) (.slice ka ks.length kc) (.slice na es.length nc) (.slice ra M.res.length rc) ks es w hr hg hl hn h2 (fun x hx => by
  have : (x.1, x.2.2) ∈ gX ks := cZ hx
  rw [h3] at this
  exact hk _ this) h4 (by rw [← h5, aI] at hnd; omega) ⟨_, _, _, rfl⟩
 rw [h3, h5] at h;exact h
theorem IP.ap {S : eL} {K : List Rq} (hS : eo S) (h : IP S K) : ∃ G, wg S (zm S K).1.ey (zm S K).1.ep (zm S K).1.needs = (⟨S.id, S.lim, S.ro, G⟩, 0) ∧ ((zm S K).1.ey = false → G = (gY S K (zm S K).1.res.length).t.dU) := by
 cases hr : (zm S K).1.ey
 ·
  have hk := tO hS K (zm S K).1.res.length;rw [h.all hr];generalize (gY S K (zm S K).1.res.length).t = T at *;obtain ⟨a, b, c, d⟩ := T;obtain ⟨_, h1, h2, h3, _, _⟩ := hk;dsimp only at h1 h2 h3;subst h1 h2 h3;exact ⟨d, rfl, fun _ => rfl⟩
 obtain ⟨_, hc⟩ := h.ey hr;rw [SY hS] at hc;refine ⟨S.dU.take (S.dU.length - 1) ++ [{ zS S with mode := 2 }, fresh ((zS S).num + 1)], ?_, fun e => (by cases e)⟩;unfold wg xO;rw [ag ((zR S).2 hS), ag rfl, ag ((zR S).2 hS), ag (aY hc)]
theorem zKw {S : eL} (hS : eo S) (K : List Rq) (i : Nat) : (gY S K i).t = ⟨S.id, S.lim, S.ro, (gY S K i).t.dU⟩ := by
 obtain ⟨_, h1, h2, h3, _, _⟩ := tO hS K i;generalize (gY S K i).t = T at *;obtain ⟨a, b, c, d⟩ := T;dsimp only at h1 h2 h3 ⊢;rw [h1, h2, h3]
theorem zFx {K : Nat} {P : fh} (h : eV K P.t.dU) (q : Rq) : eV (K + 1) (zT P q).2.t.dU := by
 obtain ⟨g, _⟩ : ∃ g, g = P.t.dU.length := ⟨_, rfl⟩
 have hadd : ∀ Q : fh, eV K Q.t.dU → ∀ x, eV (K + 1) (vH Q x).t.dU := fun Q hQ x => k8 (s := Q.t) (g := (yt (uG Q.t).2 [x]).2) (K := K + 1) (hQ.mono (by omega)) (fun i hi => qJ (R7 hQ) i hi)
 have hks : eV K (yW P q.key).t.dU := by
  have key : ∀ (l : List Int) (Q : fh), eV K Q.t.dU → eV K (l.foldl (xS q.key) Q).t.dU := by
   intro l
   induction l with
   | nil => exact fun Q h => h
   | cons x r ih => exact fun Q h => ih (xS q.key Q x) (uu h)
  exact key _ P h
 have hd : eV (K + 1) (yZ P q).t.dU := by
  unfold yZ
  split
  ·
   exact hadd _ hks _
  exact hks.mono (by omega)
 have h1 : eV (K + 1) P.t.dU := h.mono (by omega);unfold zT
 split
 ·
  exact h1
 split
 ·
  split
  ·
   exact h1
  split
  ·
   split
   ·
    exact h1
   exact hadd P h _
  exact h1
 split
 ·
  split
  ·
   split
   ·
    exact h1
   exact hd
  exact h1
 exact h1
theorem zDc {S : eL} {N : Nat} (h : eV N S.dU) (K : List Rq) : ∀ i, eV (N + i) (gY S K i).t.dU
 | 0 => h
 | i + 1 => zFx (zDc h K i) _
theorem zDU (va vl : Value) (ac : List nG) (qs : List (Rq × Value)) (w : World) (ha : Dm w va ac) (hq : oC w vl qs) :
  Calls Tryz.prog 6 #[va, vl] w fun e w' => e = .returned (.bool true) ∧ Below w.heap.size w w' := by
 have HMd := zh (zGl va ac w ha);have HI := zGo ac;have HQ := zh hq;have HAw := zh (fun W => zDj W);obtain ⟨_, _, rfl, _⟩ := hq.shape;obtain ⟨_, _, rfl, _⟩ := ha.shape;clear ha hq;generalize IW ac = S at *;obtain ⟨hv, hid, hlim, hro, hlen, T3⟩ := HI;have nH := hv.len;have HV := zh hv;have HL := zh (show eV 700 S.dU from hlen.mono (by decide));obtain ⟨TN, I2, TP, sg⟩ := S;dsimp only at hid hlim hro nH;subst hid hlim hro;have T4 : eV 600 sg := hlen.mono (by decide);clear hv hlen T3
 go_enter Tryz.func6, Tryz.ntmps6
 go_wp2_with fail;refine HMd.out.mono ?_;rintro e w1 ⟨⟨a, n, c, L, rfl, hr, hg⟩, hb⟩;dsimp only at hg ⊢;subst hg;have fR : L.length = n := by
  obtain ⟨_, _, e, _⟩ := hr.shape;injection e with _ e _; exact e.symm
 rw [zj, fR] at nH;have HR := zh hr;have HB := zh hb;have HLg := zh (show ∀ p ∈ L, ∀ j, j < 8 → (p.1.m.st j).length ≤ 10000 from fun p hp j hj => ak (HL.out p.1 (cZ hp) j hj) (by decide));clear hr hb HMd;go_wp2_with fail;refine (zHF 1 9000 false a n c L w1 HR.out (by omega)).mono ?_;rintro e w2 ⟨⟨a', c', rfl, hr2⟩, hb2⟩;replace HR := zh hr2;replace HB := zh (zA HB.out hb2);clear hr2 hb2;go_upto_region 2 with fail;change Code.wp _ _ _ _ (w2.alloc (.cells (zK 1 9000 false a' n c') 27));have eH := zN w2 1 9000 false a' n c' 27;have HS := zh (dV.new w2 (zK 1 9000 false a' n c') 27);replace HR := zh (HR.out.below eH);replace HB := zh (zA HB.out eH);clear eH;generalize w2.alloc (.cells (zK 1 9000 false a' n c') 27) = w3 at *;generalize w2.heap.size = bS at *;have z_ := zh (zES _ qs 10 false w3 (HQ.out.below HB.out) (by decide));go_wp2_with fail;refine z_.out.mono ?_
 rintro e w4 ⟨v4, q4, rfl, E5, hm4, hb⟩;replace HS := zh (HS.out.below hb);replace HR := zh (HR.out.below hb);replace HB := zh (zA HB.out hb);have OW := zh (show oC w4 v4 q4 from ⟨⟨fun x _ => vC x, zr E5.row⟩, fun p hp => (E5.dat p hp).rd⟩);have akl : q4.length ≤ 10 := by
  have := aS List.length hm4;rw [aI, aI, ay] at this;omega
 have Af := zh (show ∀ p ∈ q4, p.1.data.length ≤ 4106 ∧ p.1.Wf from fun p hp => by
  have h1 : p.1 ∈ q4.map (·.1) := cZ hp
  rw [hm4] at h1
  obtain ⟨y, _, e⟩ := List.mem_map.1 h1
  rw [← e]
  exact ⟨zIt _ _, zLU _ _⟩)
 clear hb z_ E5 hm4 HQ;have HGi := zh (zDf v4 q4 w4 OW.out (by omega));obtain ⟨qa4, qc4, rfl, _⟩ := OW.out.shape;go_wp2_with fail;refine HGi.out.mono ?_;rintro e w5 ⟨v5, rfl, E8, hb⟩;obtain ⟨qa, qc, rfl, _⟩ := zO E8;have Ep := zh (show oC w5 (.slice qa q4.length qc) q4 from ⟨⟨fun x _ => vC x, zr E8⟩, fun p hp => iw.below (OW.out.dat p hp) hb⟩);replace HS := zh (HS.out.below hb);replace HR := zh (HR.out.below hb);replace HB := zh (zA HB.out hb);clear hb HGi E8 OW;have K0 := zh (show eV 600 (dZ L) from T4);have hgn : n ≤ 1000000 := by omega
 have pg := zh (zD2 (S := ⟨1, 9000, false, dZ L⟩) HV.out HR.out rfl HL.out Ep.out (by omega) (fun p hp => ak (Af.out p hp).1 (by decide)));have hRQ := zKc HV.out (q4.map (·.1));obtain ⟨G, Ct, QJ⟩ := hRQ.ap HV.out;obtain ⟨hks, hnd⟩ := zBA HV.out HL.out (q4.map (·.1));have HKv := zh (fun i => tO HV.out (q4.map (·.1)) i);have Ie := zh (fun i => zKw HV.out (q4.map (·.1)) i);have Dk := zh (fun i => zDc (S := ⟨1, 9000, false, dZ L⟩) K0.out (q4.map (·.1)) i);obtain ⟨_, Nb, MW, _, hone⟩ := hRQ;rw [aI] at Nb;generalize (zm ⟨1, 9000, false, dZ L⟩ (q4.map (·.1))).1 = M at *;have HAk := zh hks;have pX := zh Ct;have iG := zh QJ;have jm := zh hone;clear hks Ct QJ hone;obtain ⟨k0, k1, k2, k3⟩ := (dV.g_ HS.out).q;go_wp2_with fail;refine pg.out.mono ?_;rintro e w6 ⟨⟨p, rfl, hpl⟩, hb⟩;clear k0 k1 k2 k3 pg;have OX := zh hpl;obtain ⟨ka, kc, ks, na, nc, es, ra, rc, rfl, IQ⟩ := hpl;have ig := zh (zr IQ.r)
 replace HS := zh (HS.out.below hb);replace HR := zh (HR.out.below hb);replace Ep := zh (Ep.out.below hb);replace HB := zh (zA HB.out hb);clear hb IQ;go_upto_region 4 with fail;change Code.wp _ _ _ _ (w6.alloc (.cells (xD M.ey (M.res.length : Int) (.slice ka ks.length kc) (.slice na es.length nc) (.slice ra M.res.length rc)) 71));have eH := (aj w6.heap.size w6).alloc (ai _) (.cells (xD M.ey (M.res.length : Int) (.slice ka ks.length kc) (.slice na es.length nc) (.slice ra M.res.length rc)) 71);have HP := zh (dV.new w6 (xD M.ey (M.res.length : Int) (.slice ka ks.length kc) (.slice na es.length nc) (.slice ra M.res.length rc)) 71);replace HS := zh (HS.out.below eH);replace HR := zh (HR.out.below eH);replace Ep := zh (Ep.out.below eH);replace OX := zh (OX.out.below eH);replace ig := zh (ig.out.below eH);replace HB := zh (zA HB.out eH);clear eH
 generalize w6.alloc (.cells (xD M.ey (M.res.length : Int) (.slice ka ks.length kc) (.slice na es.length nc) (.slice ra M.res.length rc)) 71) = w7 at *;generalize w6.heap.size = bP at *;have Gc := zh (zCF (S := ⟨1, 9000, false, dZ L⟩) HR.out rfl HL.out hgn OX.out HAk.out hnd);rw [pX.out] at Gc;have p0 : w7.cell? ⟨bP, 0, none⟩ = some (.bool M.ey) := dV.cell HP.out rfl;have p1 : w7.cell? ⟨bP, 1, none⟩ = some (.int .i64 (M.res.length : Int)) := dV.cell HP.out rfl;have p2 : w7.cell? ⟨bP, 2, none⟩ = some (.slice ka ks.length kc) := dV.cell HP.out rfl;have p3 : w7.cell? ⟨bP, 3, none⟩ = some (.slice na es.length nc) := dV.cell HP.out rfl;have p4 : w7.cell? ⟨bP, 4, none⟩ = some (.slice ra M.res.length rc) := dV.cell HP.out rfl;obtain ⟨k0, k1, k2, k3⟩ := (dV.g_ HS.out).q;go_wp2_with fail;refine Gc.out.mono ?_;rintro e w8 ⟨⟨xa, xn, xc, xL, rfl, DI, oF⟩, hb⟩;dsimp only at oF ⊢
 clear k0 k1 k2 k3 p0 p1 p2 p3 p4 Gc pX;have lj := zh DI;have iE := zh oF;replace HS := zh (HS.out.below hb);replace HR := zh (HR.out.below hb);replace Ep := zh (Ep.out.below hb);replace ig := zh (ig.out.below hb);replace HP := zh (HP.out.below hb);replace HB := zh (zA HB.out hb);clear hb DI oF OX;go_upto_region 5 with fail;change Code.wp _ _ _ _ (w8.alloc (.cells (zK 1 9000 false xa xn xc) 27));have eH := zN w8 1 9000 false xa xn xc 27;have mK := zh (dV.new w8 (zK 1 9000 false xa xn xc) 27);replace HS := zh (HS.out.below eH);replace HR := zh (HR.out.below eH);replace lj := zh (lj.out.below eH);replace Ep := zh (Ep.out.below eH);replace ig := zh (ig.out.below eH);replace HP := zh (HP.out.below eH);replace HB := zh (zA HB.out eH);clear eH;generalize w8.alloc (.cells (zK 1 9000 false xa xn xc) 27) = w9 at *;generalize w8.heap.size = b9 at *
 have p0 : w9.cell? ⟨bP, 0, none⟩ = some (.bool M.ey) := dV.cell HP.out rfl;have p1 : w9.cell? ⟨bP, 1, none⟩ = some (.int .i64 (M.res.length : Int)) := dV.cell HP.out rfl;have p2 : w9.cell? ⟨bP, 2, none⟩ = some (.slice ka ks.length kc) := dV.cell HP.out rfl;have p3 : w9.cell? ⟨bP, 3, none⟩ = some (.slice na es.length nc) := dV.cell HP.out rfl;have p4 : w9.cell? ⟨bP, 4, none⟩ = some (.slice ra M.res.length rc) := dV.cell HP.out rfl;have d1 : decide ((q4.length : Int) < (M.res.length : Int)) = false := aD (by omega);have d2 : decide (q4.length < M.res.length) = false := aD (by omega)
 go_cut [55] (fun v wx => v = .bool false ∧ wx = w9)
 case first =>
  go_wp2_with fail;go_meet
  case rel => exact ⟨rfl, rfl⟩
 obtain ⟨rfl, hwc⟩ := hcut;generalize wc = wx9 at *;replace hwc := hwc.symm;subst hwc;clear d1 d2
 cases hro : M.ey
 ·
  rw [hro] at HP p0;have FO := zh (iG.out hro);clear iG MW;obtain ⟨k0, k1, k2, k3⟩ := (dV.g_ HS.out).q;go_upto_region 10 with fail;clear k0 k1 k2 k3 p0 p1 p2 p3 p4;change Code.wp _ _ _ _ (w9.alloc (.cells (zK 1 9000 false a' n c') 27));have eH := zN w9 1 9000 false a' n c' 27;have HO := zh (dV.new w9 (zK 1 9000 false a' n c') 27);have El := zh (HR.out.below eH);have rH := zh eH;clear eH;generalize w9.alloc (.cells (zK 1 9000 false a' n c') 27) = IA at *;generalize Jb : w9.heap.size = JZ at *;have mW := zh (fun V (h : Below JZ w9 V) => show Below w9.heap.size w9 V from Jb ▸ h);have h9b : b9 < JZ := by rw [← Jb]; exact mK.out.lt
  clear Jb;go_wp2_with fail
  go_loopw [12] (fun iv V => ∃ (i : Nat) (a1 : Option Addr) (n1 c1 : Nat) (L1 : List GP), iv = .int .i64 (i : Int) ∧ i ≤ M.res.length ∧ Hid (dV V JZ (zK 1 9000 false a1 n1 c1) 27) ∧ Hid (fq V (.slice a1 n1 c1) L1) ∧ Hid (dZ L1 = (gY ⟨1, 9000, false, dZ L⟩ (q4.map (·.1)) i).t.dU) ∧ Hid (Below JZ w9 V)) (fun iv _ => M.res.length - (intOf iv).toNat)
  case atStart => exact ⟨0, a', n, c', L, rfl, au _, HO, El, zh rfl, rH⟩
  clear HO El rH;obtain ⟨i, a1, n1, c1, L1, rfl, hi, HO, eY, rU, rH⟩ := hrel;have Fc := mW.out _ rH.out;have nM := zh (HP.out.below Fc);have p1 : wr.cell? ⟨bP, 1, none⟩ = some (.int .i64 (M.res.length : Int)) := dV.cell nM.out rfl
  by_cases hlt : i < M.res.length
  ·
   have i1 : (i : Int) < (M.res.length : Int) := by omega
   have i10 : i < 20 := by omega
   have iq : i < q4.length := by omega
   obtain ⟨g0, g1, g2, g3⟩ := jm.out i hlt;have hT : (gY ⟨1, 9000, false, dZ L⟩ (q4.map (·.1)) i).t = ⟨1, 9000, false, dZ L1⟩ := by rw [Ie.out i, rU.out]
   have OY := (HKv.out i).v;have T6 := Dk.out i;rw [hT] at OY T6 g0 g1 g2 g3;rw [zIM] at g0 g1 g2 g3;have HVT := zh OY;have T7 := zh (show eV 700 (dZ L1) from eV.mono T6 (by omega));have Ae : n1 ≤ 1000000 := by
    have h1 := OY.len;dsimp only at h1;obtain ⟨_, _, e, _⟩ := eY.out.shape;injection e with _ e _;rw [zj] at h1; omega
   obtain ⟨aq, cq, hrun, hq1⟩ := oC.one (Ep.out.below Fc) iq;have hdq := (Af.out _ (kQ iq)).1;have pg := zh (fun W (hb : Below wr.heap.size wr W) => zD2 (S := ⟨1, 9000, false, dZ L1⟩) HVT.out (eY.out.below hb) rfl T7.out (hq1.below hb) (by simp) (fun p hp => by obtain rfl := List.mem_singleton.1 hp; exact ak hdq (by decide)));obtain ⟨pO, T8⟩ := zBA HVT.out T7.out [(jX q4 i).1];simp only [List.map_cons, List.map_nil] at pg;generalize (zm ⟨1, 9000, false, dZ L1⟩ [(jX q4 i).1]).1 = M1 at *;have pX := zh g1;have iG := zh g2;have ES := zh g3;have HK1 := zh pO;clear g0 g1 g2 g3 hT OY T6 hq1 hdq pO;go_upto_region 13 with fail;clear p1
   go_cut [13, 14] (fun vb ve wx => ∃ b pF pH gJ pI pJ ji rj oP, vb = .pointer (some ⟨b, 0, none⟩) ∧ ve = .int .i64 0 ∧ wr.heap.size ≤ b ∧ Hid (dV wx b (xD M1.ey (M1.res.length : Int) (.slice pF gJ.length pH) (.slice pI ji.length pJ) (.slice rj M1.res.length oP)) 71) ∧ Hid (Fm wx M1 (.slice pF gJ.length pH) gJ (.slice pI ji.length pJ) ji (.slice rj M1.res.length oP)) ∧ Hid (Below wr.heap.size wr wx))
   case first =>
    refine xJ [eR (zZ 1 9000 false a1 n1 c1), eR (.slice qa q4.length qc), eR (.int .i64 (i : Int)), eR (.int .i64 (i : Int)), eR (.int .i64 ((i : Int) + 1)), eR (.slice aq 1 cq), mkT M1, mkT M1, mkG M1, eR (.int .i64 0), zLk wr.heap.size] [] 125 9 (by kernel_rfl) (by kernel_rfl) rfl rfl (by decide) (by rfl) (by kernel_rfl) (fun f => by simp [fA, zX, Act.put]; exact rfl) ?_ ?_ ?_
    ·
     refine ⟨?_, ?_, ?_, ?_, ?_, ?_, ?_, ?_, ?_, ?_, ?_, trivial⟩
     ·
      intro f w1 hb hd;clear hd;dsimp only;have zo := dV.g_ (HO.out.below hb);obtain ⟨y0, y1, y2, y3⟩ := zo.q;clear zo;go_wp2_with fail;exact pS rfl (by simp)
     ·
      intro f w1 hb hd;clear hd;dsimp only;go_wp2_with fail;exact pS rfl (by simp)
     ·
      intro f w1 hb hd;clear hd;dsimp only;go_wp2_with fail;exact pS rfl (by simp)
     ·
      intro f w1 hb hd;clear hd;dsimp only;go_wp2_with fail;exact pS rfl (by simp)
     ·
      intro f w1 hb hd;have d3 : f 3 = (.int .i64 (i : Int)) := hd 3 (by kernel_rfl);clear hd;dsimp only;rw [d3];go_wp2_with fail;exact pS rfl (by simp)
     ·
      intro f w1 hb hd;have d1 : f 1 = (.slice qa q4.length qc) := hd 1 (by kernel_rfl);have d2 : f 2 = (.int .i64 (i : Int)) := hd 2 (by kernel_rfl);have d4 : f 4 = (.int .i64 ((i : Int) + 1)) := hd 4 (by kernel_rfl);clear hd;dsimp only;rw [d1];rw [d2];rw [d4];go_wp2_with fail;exact pS rfl (by simp)
     ·
      intro f w1 hb hd;have d0 : f 0 = (zZ 1 9000 false a1 n1 c1) := hd 0 (by kernel_rfl);have d5 : f 5 = (.slice aq 1 cq) := hd 5 (by kernel_rfl);clear hd;dsimp only;rw [d0];rw [d5];go_wp2_with fail;refine (pg.out w1 hb).mono ?_;rintro e OZ ⟨⟨p, rfl, hpl⟩, fT⟩;go_wp2_with fail;exact ⟨rfl, fT, fun t ht => by injection ht with ht; subst ht; exact ⟨⟨p, rfl, hpl⟩, fun h => by simp at h⟩⟩
     ·
      intro f w1 hb hd;obtain ⟨p6, d6, r6⟩ := show ∃ p, f 6 = .tuple #[p, .int .i64 0] ∧ BK M1 p w1 from hd 6 (by kernel_rfl);clear hd;dsimp only;rw [d6];go_wp2_with fail;exact ⟨rfl, aj _ _, fun t ht => by injection ht with ht; subst ht; exact ⟨⟨p6, rfl, r6⟩, fun h => by simp at h⟩⟩
     ·
      intro f w1 hb hd;obtain ⟨p7, d7, r7⟩ := show ∃ p, f 7 = .tuple #[p, .int .i64 0] ∧ BK M1 p w1 from hd 7 (by kernel_rfl);clear hd;dsimp only;rw [d7];go_wp2_with fail;exact ⟨rfl, aj _ _, fun t ht => by injection ht with ht; subst ht; exact ⟨r7, fun h => by simp at h⟩⟩
     ·
      intro f w1 hb hd;obtain ⟨p7, d7, r7⟩ := show ∃ p, f 7 = .tuple #[p, .int .i64 0] ∧ BK M1 p w1 from hd 7 (by kernel_rfl);clear hd;dsimp only;rw [d7];go_wp2_with fail;exact pS rfl (by simp)
     intro f w1 hb hd;clear hd;dsimp only;have o8 := hb.size;have hty := dV.new w1 (xD false 0 (.slice none 0 0) (.slice none 0 0) (.slice none 0 0)) 71;have jg := (aj w1.heap.size w1).alloc (ai _) (.cells (xD false 0 (.slice none 0 0) (.slice none 0 0) (.slice none 0 0)) 71);go_wp2_with fail;exact ⟨rfl, jg, fun t ht => by injection ht with ht; subst ht; exact ⟨⟨_, rfl, o8, hty⟩, fun h => by simp at h⟩⟩
    ·
     intro f w5 hb hd jc;clear jc;have T9 : BK M1 (f 8) w5 := hd 8 (show 8 < 11 by decide);have d9 : f 9 = .int .i64 0 := hd 9 (show 9 < 11 by decide);obtain ⟨b7, d10, Jc, rT⟩ := show ∃ b, f 10 = .pointer (some ⟨b, 0, none⟩) ∧ wr.heap.size ≤ b ∧ dV w5 b (xD false 0 (.slice none 0 0) (.slice none 0 0) (.slice none 0 0)) 71 from hd 10 (show 10 < 11 by decide);obtain ⟨pF, pH, gJ, pI, pJ, ji, rj, oP, d8, MX⟩ := T9
     try dsimp only
     rw [d8, d9, d10];clear hd d8 d9 d10;have jg := zh (zD (B := wr.heap.size) (b := b7) Jc (tH M1.ey (M1.res.length : Int) (.slice pF gJ.length pH) (.slice pI ji.length pJ) (.slice rj M1.res.length oP)) hb);have T_ := zh (MX.pts rT (tH M1.ey (M1.res.length : Int) (.slice pF gJ.length pH) (.slice pI ji.length pJ) (.slice rj M1.res.length oP)))
     have fk := zh (show dV (pts w5 b7 (tH M1.ey (M1.res.length : Int) (.slice pF gJ.length pH) (.slice pI ji.length pJ) (.slice rj M1.res.length oP))) b7 (xD M1.ey (M1.res.length : Int) (.slice pF gJ.length pH) (.slice pI ji.length pJ) (.slice rj M1.res.length oP)) 71 from by
      have h1 := dV.sets (tH M1.ey (M1.res.length : Int) (.slice pF gJ.length pH) (.slice pI ji.length pJ) (.slice rj M1.res.length oP)) rT
      simp only [dJ, List.foldl_nil, aP, aQ, aN] at h1
      exact h1)
     have x0 := dV.cell rT (i := 0) rfl;have x1 := dV.cell rT (i := 1) rfl;have x2 := dV.cell rT (i := 2) rfl;have x3 := dV.cell rT (i := 3) rfl;have x4 := dV.cell rT (i := 4) rfl;have xf := dV.frozen rT;have Ua := zh Jc;clear rT hb Jc MX;generalize f 0 = Ag, f 1 = sW, f 2 = sX, f 3 = sY, f 4 = sZ, f 5 = s6, f 6 = Ah, f 7 = CH;clear f;change wpList _ _ _ (_ :: _ :: []) _ _;go_wp2_with fail;go_meet
     case rel => exact ⟨b7, pF, pH, gJ, pI, pJ, ji, rj, oP, rfl, rfl, Ua.out, fk, T_, jg⟩
    intro f w5 hb hd jc;clear jc;have T9 : BK M1 (f 8) w5 := hd 8 (show 8 < 11 by decide) (show 8 ≠ 9 by decide);obtain ⟨p7, d7, r7⟩ := show ∃ p, f 7 = .tuple #[p, .int .i64 0] ∧ BK M1 p w5 from hd 7 (show 7 < 11 by decide) (show 7 ≠ 9 by decide);clear r7;obtain ⟨b7, d10, Jc, rT⟩ := show ∃ b, f 10 = .pointer (some ⟨b, 0, none⟩) ∧ wr.heap.size ≤ b ∧ dV w5 b (xD false 0 (.slice none 0 0) (.slice none 0 0) (.slice none 0 0)) 71 from hd 10 (show 10 < 11 by decide) (show 10 ≠ 9 by decide);obtain ⟨pF, pH, gJ, pI, pJ, ji, rj, oP, d8, MX⟩ := T9
    try dsimp only
    rw [d7, d8, d10];clear hd d7 d8 d10;have jg := zh (zD (B := wr.heap.size) (b := b7) Jc (tH M1.ey (M1.res.length : Int) (.slice pF gJ.length pH) (.slice pI ji.length pJ) (.slice rj M1.res.length oP)) hb);have T_ := zh (MX.pts rT (tH M1.ey (M1.res.length : Int) (.slice pF gJ.length pH) (.slice pI ji.length pJ) (.slice rj M1.res.length oP)))
    have fk := zh (show dV (pts w5 b7 (tH M1.ey (M1.res.length : Int) (.slice pF gJ.length pH) (.slice pI ji.length pJ) (.slice rj M1.res.length oP))) b7 (xD M1.ey (M1.res.length : Int) (.slice pF gJ.length pH) (.slice pI ji.length pJ) (.slice rj M1.res.length oP)) 71 from by
     have h1 := dV.sets (tH M1.ey (M1.res.length : Int) (.slice pF gJ.length pH) (.slice pI ji.length pJ) (.slice rj M1.res.length oP)) rT
     simp only [dJ, List.foldl_nil, aP, aQ, aN] at h1
     exact h1)
    have x0 := dV.cell rT (i := 0) rfl;have x1 := dV.cell rT (i := 1) rfl;have x2 := dV.cell rT (i := 2) rfl;have x3 := dV.cell rT (i := 3) rfl;have x4 := dV.cell rT (i := 4) rfl;have xf := dV.frozen rT;have Ua := zh Jc;clear rT hb Jc MX;generalize f 0 = Ag, f 1 = sW, f 2 = sX, f 3 = sY, f 4 = sZ, f 5 = s6, f 6 = Ah, f 9 = Eh;clear f;change wpList _ _ _ (_ :: _ :: _ :: []) _ _;go_wp2_with fail;go_meet
    case rel => exact ⟨b7, pF, pH, gJ, pI, pJ, ji, rj, oP, rfl, rfl, Ua.out, fk, T_, jg⟩
   obtain ⟨Gg, pF, pH, gJ, pI, pJ, ji, rj, oP, rfl, rfl, ako, Mv, AE, eQ⟩ := hcut;generalize wc = v1 at *;clear pg hrun;have pR : M1.res.length = 1 := by rw [pX.out]; rfl
   have mq := zh (show dV v1 Gg (xD false 1 (.slice pF gJ.length pH) (.slice pI ji.length pJ) (.slice rj 1 oP)) 71 from by have := Mv.out; rw [iG.out, pR] at this; exact this);have Dt := zh (show BK M1 (NR false 1 (.slice pF gJ.length pH) (.slice pI ji.length pJ) (.slice rj 1 oP)) v1 from ⟨pF, pH, gJ, pI, pJ, ji, rj, oP, by rw [iG.out, pR]; rfl, AE.out⟩);have Jd := zr AE.out.r;rw [pX.out] at Jd;obtain ⟨Ub, Uc, rfl, MY⟩ := zLG (res := [uC M.res i]) Jd (i := 0) (by simp);have MZ := zh (show v1.cell? ⟨Ub, Uc, none⟩ = some (.int .i64 (uC M.res i)) from MY);clear Jd MY Mv AE;have akp := HO.out.lt;replace HO := zh (HO.out.below eQ.out);replace eY := zh (eY.out.below eQ.out);have Fo := zh (nM.out.below eQ.out);obtain ⟨br, or_, rfl, hrc⟩ := zLG ((ig.out.below Fc).below eQ.out) hlt;have HRc := zh hrc;clear hrc
   have Je := zh (zCF (S := ⟨1, 9000, false, dZ L1⟩) eY.out rfl T7.out Ae Dt.out HK1.out T8);rw [iG.out, ES.out, Ie.out (i + 1)] at Je;obtain ⟨k0, k1, k2, k3⟩ := (dV.g_ HO.out).q;have x0 : v1.cell? ⟨Gg, 0, none⟩ = some (.bool false) := dV.cell mq.out rfl;have x1 : v1.cell? ⟨Gg, 1, none⟩ = some (.int .i64 1) := dV.cell mq.out rfl;have x2 : v1.cell? ⟨Gg, 2, none⟩ = some (.slice pF gJ.length pH) := dV.cell mq.out rfl;have x3 : v1.cell? ⟨Gg, 3, none⟩ = some (.slice pI ji.length pJ) := dV.cell mq.out rfl;have x4 : v1.cell? ⟨Gg, 4, none⟩ = some (.slice (some ⟨Ub, Uc, none⟩) 1 oP) := dV.cell mq.out rfl;go_wp2_with fail;refine Je.out.mono ?_;rintro e v2 ⟨⟨ya, yn, yc, yL, rfl, hyr, Ud⟩, hb⟩;dsimp only at Ud ⊢;clear k0 k1 k2 k3 x0 x1 x2 x3 x4 Je Dt;have M2 := zh hyr;have NK := zh Ud;have eP := zh (zA eQ.out hb);replace HO := zh (HO.out.below hb);replace Fo := zh (Fo.out.below hb)
   replace mq := zh (mq.out.below hb);have AU := zh (Below.keeps hb _ _ HRc.out);have M5 := zh (Below.keeps hb _ _ MZ.out);clear hb hyr Ud HRc MZ eQ eY;go_upto_region 15 with fail;change Code.wp _ _ _ _ (v2.alloc (.cells (zK 1 9000 false ya yn yc) 27));have eH := zN v2 1 9000 false ya yn yc 27;have HY := zh (dV.new v2 (zK 1 9000 false ya yn yc) 27);replace M2 := zh (M2.out.below eH);replace HO := zh (HO.out.below eH);replace eP := zh (zA eP.out eH);have q1 := zB (show (v2.alloc (.cells (zK 1 9000 false ya yn yc) 27)).cell? ⟨Gg, 1, none⟩ = some (.int .i64 1) from dV.cell (mq.out.below eH) rfl);have q4x := zB (show (v2.alloc (.cells (zK 1 9000 false ya yn yc) 27)).cell? ⟨Gg, 4, none⟩ = some (.slice (some ⟨Ub, Uc, none⟩) 1 oP) from dV.cell (mq.out.below eH) rfl)
   have p4 := zB (show (v2.alloc (.cells (zK 1 9000 false ya yn yc) 27)).cell? ⟨bP, 4, none⟩ = some (.slice (some ⟨br, or_, none⟩) M.res.length rc) from dV.cell (Fo.out.below eH) rfl);have r1 := zB (Below.keeps eH _ _ AU.out);have r2 := zB (Below.keeps eH _ _ M5.out);clear eH AU M5 Fo mq;generalize v2.alloc (.cells (zK 1 9000 false ya yn yc) 27) = v3 at *;generalize v2.heap.size = b15 at *
   go_cut [115] (fun v wx => v = .bool false ∧ Hid (Below v3.heap.size v3 wx))
   case first =>
    refine zC (by kernel_rfl) (by kernel_rfl) ?_
    repeat (go_big_quiet_step (fail))
    refine aC ?_;intro _ hw';obtain ⟨q, hw'⟩ := hw';subst hw';have sM := zh q.h;clear q1 q4x p4 r1 r2;generalize q.w' = wq at *;go_wp2_with fail;go_meet
    case rel => exact ⟨rfl, sM⟩
   obtain ⟨rfl, fB⟩ := hcut;generalize wc = v4 at *;clear q1 q4x p4 r1 r2;replace HY := zh (HY.out.below fB.out);replace M2 := zh (M2.out.below fB.out);replace HO := zh (HO.out.below fB.out);replace eP := zh (zA eP.out fB.out);clear fB;obtain ⟨z0, z1, z2, z3⟩ := (dV.g_ HY.out).q;obtain ⟨k0, k1, k2, k3⟩ := (dV.g_ HO.out).q;have kf := (dV.g_ HO.out).f;have CA := zh (dV.rM HO.out 1 9000 false ya yn yc);have jP := zh (fq.g_ M2.out HO.out (zJ 1 9000 false ya yn yc));have gN := zh (zD (B := JZ) (b := JZ) (ai _) (zJ 1 9000 false ya yn yc) (rH.out.trans (eP.out.mono (by omega))));go_wp2_with fail;exact ⟨⟨i + 1, ya, yn, yc, yL, by go_num, by omega, CA, jP, NK, gN⟩, by simp [intOf]; omega⟩
  obtain rfl : i = M.res.length := by omega
  have i1 : ¬ (M.res.length : Int) < (M.res.length : Int) := by omega
  have fp := zh (mK.out.below Fc);have Ue := zh (lj.out.below Fc);have Uf : xn ≤ 1000000 ∧ n1 ≤ 1000000 := by
   have h1 := ((HKv.out M.res.length).v).len;obtain ⟨_, _, e, _⟩ := lj.out.shape;injection e with _ e _;obtain ⟨_, _, e', _⟩ := eY.out.shape;injection e' with _ e' _;rw [← rU.out, zj] at h1;have h2 : xL.length = L1.length := by rw [← zj, ← zj, iE.out, FO.out, rU.out]
   omega
  obtain ⟨Uf, Ae⟩ := Uf;have HGx := zh (show dZ xL = dZ L1 from by rw [iE.out, FO.out, rU.out]);obtain ⟨GL, Ug⟩ : ∃ GL, dZ L1 = GL := ⟨_, rfl⟩
  rw [Ug] at HGx;have HL9 := zh Ug;clear Ug;go_upto_region 18 with fail;clear p1;refine yO [eR (zZ 1 9000 false xa xn xc), slR GL, eR (zZ 1 9000 false a1 n1 c1), slR GL, eR (.bool true), eR (.bool true), eR (.bool true), eR (.bool true)] [] 125 (by kernel_rfl) (by kernel_rfl) (by rfl) (by kernel_rfl) (fun f => by simp [fA, zX, Act.put]; exact rfl) ?_ ?_
  ·
   refine ⟨?_, ?_, ?_, ?_, ?_, ?_, ?_, ?_, trivial⟩
   ·
    intro f w1 hb hd;clear hd;dsimp only;have zo := dV.g_ (fp.out.below hb);obtain ⟨y0, y1, y2, y3⟩ := zo.q;clear zo;go_wp2_with fail;exact ⟨rfl, Below.refl _ _, fun t ht => by injection ht with ht; subst ht; exact ⟨rfl, fun h => by simp at h⟩⟩
   ·
    intro f w1 hb hd;have d0 : f 0 = (zZ 1 9000 false xa xn xc) := hd 0 (by kernel_rfl);clear hd;dsimp only;rw [d0];go_wp2_with fail;refine (zBt 1 9000 false xa xn xc xL w1 (Ue.out.below hb) (by omega)).mono ?_;rintro e OZ ⟨⟨a9, c9, rfl, Uh⟩, fT⟩;go_wp2_with fail;exact ⟨rfl, fT, fun t ht => by injection ht with ht; subst ht; exact ⟨⟨a9, xn, c9, xL, rfl, Uh, HGx.out, Uf⟩, fun h => by simp at h⟩⟩
   ·
    intro f w1 hb hd;clear hd;dsimp only;have zo := dV.g_ (HO.out.below hb);obtain ⟨y0, y1, y2, y3⟩ := zo.q;clear zo;go_wp2_with fail;exact ⟨rfl, Below.refl _ _, fun t ht => by injection ht with ht; subst ht; exact ⟨rfl, fun h => by simp at h⟩⟩
   ·
    intro f w1 hb hd;have d2 : f 2 = (zZ 1 9000 false a1 n1 c1) := hd 2 (by kernel_rfl);clear hd;dsimp only;rw [d2];go_wp2_with fail;refine (zBt 1 9000 false a1 n1 c1 L1 w1 (eY.out.below hb) (by omega)).mono ?_;rintro e OZ ⟨⟨a9, c9, rfl, Uh⟩, fT⟩;go_wp2_with fail;exact ⟨rfl, fT, fun t ht => by injection ht with ht; subst ht; exact ⟨⟨a9, n1, c9, L1, rfl, Uh, HL9.out, Ae⟩, fun h => by simp at h⟩⟩
   ·
    intro f w1 hb hd;obtain ⟨a1, n1, c1, L1, d1, r1, g1, h1⟩ := show ∃ a n c L, f 1 = zZ 1 9000 false a n c ∧ fq w1 (.slice a n c) L ∧ dZ L = GL ∧ n ≤ 1000000 from hd 1 (by kernel_rfl);obtain ⟨a3, n3, c3, L3, d3, r3, g3, h3⟩ := show ∃ a n c L, f 3 = zZ 1 9000 false a n c ∧ fq w1 (.slice a n c) L ∧ dZ L = GL ∧ n ≤ 1000000 from hd 3 (by kernel_rfl);clear hd;dsimp only;rw [d1];rw [d3];go_wp2_with fail;refine (zGv 1 9000 false a1 a3 n1 n3 c1 c3 L1 L3 w1 r1 r3 (g1.trans g3.symm) h1).mono ?_;rintro e OZ ⟨rfl, fT⟩;go_wp2_with fail;exact pT rfl (by simp) fT
   ·
    intro f w1 hb hd;have d4 : f 4 = (.bool true) := hd 4 (by kernel_rfl);clear hd;dsimp only;rw [d4];go_wp2_with fail;exact ⟨rfl, Below.refl _ _, fun t ht => by injection ht with ht; subst ht; exact ⟨rfl, fun h => by simp at h⟩⟩
   ·
    intro f w1 hb hd;have d5 : f 5 = (.bool true) := hd 5 (by kernel_rfl);clear hd;dsimp only;rw [d5];go_wp2_with fail;refine (HAw.out w1).mono ?_;rintro e OZ ⟨rfl, fT⟩;go_wp2_with fail;exact pT rfl (by simp) fT
   intro f w1 hb hd;have d5 : f 5 = (.bool true) := hd 5 (by kernel_rfl);have d6 : f 6 = (.bool true) := hd 6 (by kernel_rfl);clear hd;dsimp only;rw [d5];rw [d6];go_wp2_with fail;exact ⟨rfl, Below.refl _ _, fun t ht => by injection ht with ht; subst ht; exact ⟨rfl, fun h => by simp at h⟩⟩
  intro f w5 hb hd jc;clear jc;have d7 : f 7 = .bool true := hd 7 (show 7 < 8 by decide)
  try dsimp only
  rw [d7];clear hd d7;generalize f 0 = Ag, f 1 = sW, f 2 = sX, f 3 = sY, f 4 = sZ, f 5 = s6, f 6 = Ah;clear f;have JB := zh (zA HB.out (zA Fc hb));clear hb;change wpList _ _ _ (_ :: []) _ _;go_wp2_with fail;go_ret;exact ⟨rfl, JB.out⟩
 rw [hro] at HP p0;obtain ⟨Es, _⟩ := MW hro;have e0 : ((M.res.length : Int) == 0) = true := by rw [Es]; rfl
 go_wp2_with fail;refine (HAw.out _).mono ?_;rintro e wz ⟨rfl, hb⟩;have JB := zh (zA HB.out hb);go_wp2_with fail;go_ret;exact ⟨rfl, JB.out⟩
end Go.Proofs.YtcgfilmmokmdjaaGreat
namespace Go.Proofs.YtcgfilmmokmdjaaGreat
open Go.RowKit Go.ChangeShapes Go.WideShapes Go.Deep
theorem zAd : Tryz.prog.cellsOf 24 = 1 := by kernel_rfl
theorem zAV : Tryz.prog.cellsOf 47 = 1 := by kernel_rfl
theorem zEm : Tryz.prog.cellsOf 2 = 1 := by kernel_rfl
section
variable {H : Type} {enc : TypeId × Value → H} {w : World}
theorem we {cs : List Value} {i : Nat} {u : Value} (h : (cs.drop i).take 1 = [u]) : cs[i]? = some u := by
 have h1 : ((cs.drop i).take 1)[0]? = some u := by rw [h]; rfl
 rw [cL, ag (by decide), cM, bn] at h1;exact h1
end
end Go.Proofs.YtcgfilmmokmdjaaGreat
namespace Go.Proofs.YtcgfilmmokmdjaaGreat
open Go.RowKit Go.ChangeShapes Go.WideShapes Go.Deep
end Go.Proofs.YtcgfilmmokmdjaaGreat
namespace Go.Proofs.YtcgfilmmokmdjaaGreat
open Go.RowKit Go.ChangeShapes Go.WideShapes Go.Deep
section
variable {H : Type} {enc : TypeId × Value → H} {w : World}
end
end Go.Proofs.YtcgfilmmokmdjaaGreat
namespace Go.Proofs.YtcgfilmmokmdjaaGreat
open Go.RowKit Go.ChangeShapes Go.WideShapes Go.Deep
theorem zIT (w : World) : mL w (.slice none 0 0) [] := ⟨zr (aU w 0 56 4), fun p hp => by cases hp⟩
theorem zKX : ∃ f0 f1 f2 f3, Tryz.prog.underlying 56 = some (.struct #[f0, f1, f2, f3]) ∧ (f0.offset = 0 ∧ f1.offset = 1 ∧ f2.offset = 2 ∧ f3.offset = 3) ∧ f0.type = 24 ∧ f1.type = 47 ∧ f2.type = 4 ∧ f3.type = 54 :=
 ⟨_, _, _, _, Tryz.underlying56, ⟨rfl, rfl, rfl, rfl⟩, rfl, rfl, rfl, rfl⟩
theorem zEr : Tryz.prog.cellsOf 56 = 4 := by kernel_rfl
theorem zDE : Tryz.prog.cellsOf 4 = 1 := by kernel_rfl
theorem qX : Tryz.prog.cellsOf 54 = 1 := by kernel_rfl
section
variable {H : Type} {enc : TypeId × Value → H} {w : World}
theorem zAw {fuel : Nat} {cs : List Value} {x : DataW H × List MemPlace} (h : DataW.trod enc Tryz.prog w 0 (fun _ => true) true fuel 54 cs = some x) : ∃ (v : Value) (l : List UInt8), cs = [v] ∧ oH w v l := by
 rcases open_ints Tryz.underlying54 Tryz.underlying5 (by kernel_rfl) h with ⟨hcs, _⟩ | ⟨x, l, c, zs, hcs, _, hl, hm, hz, _, hcell, Ui⟩
 ·
  exact ⟨_, [], hcs, WA w⟩
 obtain ⟨r, _, hr⟩ := zEI (w := w) (a := some x) (len := l) (cap := c) (zs := zs) (.inr ⟨_, rfl, hl, hm, by simpa using hz, hcell, Ui⟩);exact ⟨_, r, hcs, hr⟩
theorem zHC {fuel : Nat} {cs : List Value} {x : DataW H × List MemPlace} (h : DataW.trod enc Tryz.prog w 0 (fun _ => true) true fuel 56 cs = some x) : ∃ y : Nd × Value, cs = vy y ∧ y.1.Wf ∧ oH w y.2 y.1.data := by
 obtain ⟨f0, f1, f2, f3, hs, ⟨o0, o1, o2, o3⟩, t0, t1, t2, t3⟩ := zKX;obtain ⟨xs, n, _, _, hlen, hxl, hf⟩ := DataW.trod_struct hs h;rw [zEr] at hlen;have hx : xs.length = 4 := by simpa using hxl
 have g : ∀ j (hj : j < 4), xs[j]? = some (xs[j]'(by omega)) := fun j hj => aB (by omega)
 have h0 := (hf 0 f0 rfl).trans (g 0 (by omega));have h1 := (hf 1 f1 rfl).trans (g 1 (by omega));have h2 := (hf 2 f2 rfl).trans (g 2 (by omega));have h3 := (hf 3 f3 rfl).trans (g 3 (by omega));rw [t0, o0, zAd] at h0;rw [t1, o1, zAV] at h1;rw [t2, o2, zDE] at h2;rw [t3, o3, qX] at h3;obtain ⟨k, e0, _, w0⟩ := DataW.trod_int Tryz.underlying24 h0;obtain ⟨c, e1, _, w1⟩ := DataW.trod_int Tryz.underlying47 h1;obtain ⟨d, e2, _⟩ := DataW.trod_bool Tryz.underlying4 h2;obtain ⟨v, l, e3, hr⟩ := zAw h3;have d0 := we e0;have d1 := we e1;have d2 := we e2;have d3 := we e3;have b0 := qS w0;have b1 := qV w1;obtain ⟨k, rfl⟩ := dQ b0.1;obtain ⟨c, rfl⟩ := dQ b1.1;refine ⟨(⟨k, c, d, l⟩, v), ?_, show k < 18446744073709551616 ∧ c < 4294967296 by omega, hr⟩
 match cs, hlen, d0, d1, d2, d3 with
 | [a, b, c', d], _, d0, d1, d2, d3 =>
  simp at d0 d1 d2 d3;subst d0 d1 d2 d3
  rfl
theorem zFy {a : Option Addr} {n cap : Nat} {d : DataW H} {p : List MemPlace} (h : DataW.Trod enc Tryz.prog w 0 (fun _ => true) true 23 (.slice a n cap) d p) :
  ∃ l : List (Nd × Value), mL w (.slice a n cap) l ∧ ∀ x ∈ l, x.1.Wf := by
 obtain ⟨fuel, hf⟩ := h;rcases open_slice Tryz.underlying23 hf with ⟨hcs, _⟩ | ⟨x, len, cap', m, k, D, Pl, hcs, _, hl, hm, hmm, _, hx⟩
 ·
  simp [Value.cells] at hcs;obtain ⟨rfl, rfl, rfl⟩ := hcs;exact ⟨[], zIT w, fun e he => by cases he⟩
 simp [Value.cells] at hcs;obtain ⟨rfl, rfl, rfl⟩ := hcs;simp only [if_true] at hmm;subst hmm;rw [zEr] at hx
 haveI : Inhabited (Nd × Value) := ⟨(Jf, .slice none 0 0)⟩
 have each : ∀ i, i < n → ∃ y : Nd × Value, (∀ j, j < 4 → w.cell? (x.add (i * 4 + j)) = (vy y)[j]?) ∧ y.1.Wf ∧ oH w y.2 y.1.data := fun i hi => by
  obtain ⟨cs', h1, h2⟩ := hx i (by omega);obtain ⟨y, rfl, hy⟩ := zHC h2;obtain ⟨_, _, hc⟩ := World.cells?_some h1;exact ⟨y, fun j hj => by rw [← hc j hj, Go.Deep.add_add], hy⟩
 obtain ⟨E, hE⟩ := choose_lt each;refine ⟨(List.range n).map E, ⟨?_, fun e he => ?_⟩, fun e he => ?_⟩
 ·
  rw [aI, List.length_range];refine ⟨by rw [wh]; simp, some x, m, by simp, by simpa using hl, hm, fun h => by simp at h, fun hp => ?_⟩;have hn : 0 < n := by
   rw [wh] at hp; simp at hp; omega
  obtain ⟨b, off, spot⟩ := x;have hspot : spot = none := by
   have h0 : w.cell? ((⟨b, off, spot⟩ : Addr).add (0 * 4 + 0)) = some (.int .u64 ((E 0).1.key : Int)) := ((hE 0 hn).1 0 (by omega)).trans rfl
   simpa [Addr.add] using World.cell?_spot h0
  subst hspot;refine ⟨b, off, rfl, fun j u hj => ?_⟩;have hjl : j < n * 4 := by
   have := (List.getElem?_eq_some_iff.1 hj).1;rw [wh] at this
   simpa using this
  have hat := ux 4 vy (Jf, .slice none 0 0) ((List.range n).map E) (fun _ _ => rfl) (j / 4) (j % 4) (by simp; omega) (by omega);rw [show j / 4 * 4 + j % 4 = j by omega] at hat;have hg : ((List.range n).map E).getD (j / 4) (Jf, .slice none 0 0) = E (j / 4) := by
   rw [ax, cm, List.getElem?_range (by omega)]; rfl
  rw [hg] at hat;have hc := (hE (j / 4) (by omega)).1 (j % 4) (by omega);rw [show j / 4 * 4 + j % 4 = j by omega, yP] at hc;rw [hc, ← hat]; exact hj
 ·
  obtain ⟨i, hi, rfl⟩ := List.mem_map.1 he;exact (hE i (List.mem_range.1 hi)).2.2
 obtain ⟨i, hi, rfl⟩ := List.mem_map.1 he;exact (hE i (List.mem_range.1 hi)).2.1
end
theorem ud : Tryz.prog.cellsOf 3 = 1 := by kernel_rfl
section
variable {H : Type} {enc : TypeId × Value → H} {w : World}
end
end Go.Proofs.YtcgfilmmokmdjaaGreat
namespace Go.Proofs.YtcgfilmmokmdjaaGreat
open Go.RowKit Go.ChangeShapes Go.WideShapes Go.Deep
theorem zCK {H : Type} {enc : TypeId × Value → H} {w : World} {α : Type} (z : α) {t e : TypeId} {sz : Nat} (f : α → List Value) (Q : α → Prop) (hu : Tryz.prog.underlying t = some (.slice e)) (hc : Tryz.prog.cellsOf e = sz) (hf : ∀ x, (f x).length = sz) (hz : 0 < sz)
  (one : ∀ fuel cs x, DataW.trod enc Tryz.prog w 0 (fun _ => true) true fuel e cs = some x → ∃ y, cs = f y ∧ Q y)
  {a : Option Addr} {n cap : Nat} {d : DataW H} {p : List MemPlace} (h : DataW.Trod enc Tryz.prog w 0 (fun _ => true) true t (.slice a n cap) d p) :
  ∃ l : List α, iy sz f w (.slice a n cap) l ∧ ∀ x ∈ l, Q x := by
 obtain ⟨fuel, hfu⟩ := h;rcases open_slice hu hfu with ⟨hcs, _⟩ | ⟨x, len, cap', m, k, D, Pl, hcs, _, hl, hm, hmm, _, hx⟩
 ·
  simp [Value.cells] at hcs;obtain ⟨rfl, rfl, rfl⟩ := hcs;exact ⟨[], iy.nil sz f w, fun e he => by cases he⟩
 simp [Value.cells] at hcs;obtain ⟨rfl, rfl, rfl⟩ := hcs;simp only [if_true] at hmm;subst hmm;rw [hc] at hx
 haveI : Inhabited α := ⟨z⟩
 have each : ∀ i, i < n → ∃ y : α, (∀ j, j < sz → w.cell? (x.add (i * sz + j)) = (f y)[j]?) ∧ Q y := fun i hi => by
  obtain ⟨cs', h1, h2⟩ := hx i (by omega);obtain ⟨y, rfl, hy⟩ := one _ _ _ h2;obtain ⟨_, _, hc⟩ := World.cells?_some h1;exact ⟨y, fun j hj => by rw [← hc j hj, Go.Deep.add_add], hy⟩
 obtain ⟨E, hE⟩ := choose_lt each;have hfl := yS sz f ((List.range n).map E) (fun x _ => hf x);refine ⟨(List.range n).map E, ⟨fun x _ => hf x, ?_⟩, fun e he => ?_⟩
 ·
  rw [aI, List.length_range];rw [aI, List.length_range] at hfl;refine ⟨hfl, some x, m, by simp, by simpa using hl, hm, fun h => by simp at h, fun hp => ?_⟩;have hn : 0 < n := by
   rw [hfl] at hp; exact Nat.pos_of_mul_pos_right hp
  obtain ⟨b, off, spot⟩ := x;have hspot : spot = none := by
   have h0 := (hE 0 hn).1 0 hz;rw [aB (by rw [hf]; exact hz)] at h0
   simpa [Addr.add] using World.cell?_spot h0
  subst hspot;refine ⟨b, off, rfl, fun j u hj => ?_⟩;have hjl : j < n * sz := by
   have := (List.getElem?_eq_some_iff.1 hj).1;rw [hfl] at this;exact this
  have Uj : j / sz < n := (Nat.div_lt_iff_lt_mul hz).2 hjl;have hjm : j % sz < sz := Nat.mod_lt _ hz;have hat := ux sz f z ((List.range n).map E) (fun x _ => hf x) (j / sz) (j % sz) (by simpa using Uj) hjm;have hjj : j / sz * sz + j % sz = j := by rw [Nat.mul_comm]; exact Nat.div_add_mod j sz
  rw [hjj] at hat;have hg : ((List.range n).map E).getD (j / sz) z = E (j / sz) := by
   rw [ax, cm, List.getElem?_range Uj]; rfl
  rw [hg] at hat;have hc := (hE (j / sz) Uj).1 (j % sz) hjm;rw [hjj, yP] at hc;rw [hc, ← hat]; exact hj
 obtain ⟨i, hi, rfl⟩ := List.mem_map.1 he;exact (hE i (List.mem_range.1 hi)).2
end Go.Proofs.YtcgfilmmokmdjaaGreat
namespace Go.Proofs.YtcgfilmmokmdjaaGreat
open Go.RowKit Go.ChangeShapes Go.WideShapes Go.Deep
theorem zB9 : Tryz.prog.cellsOf 23 = 1 := by kernel_rfl
theorem zCr : Tryz.prog.cellsOf 87 = 1 := by kernel_rfl
structure SlQ where
 id : Int
 lim : Int
 ro : Bool
 a : Option Addr
 n : Nat
 c : Nat
 L : List GP
section
variable {H : Type} {enc : TypeId × Value → H} {w : World}
theorem zEg {fuel : Nat} {cs : List Value} {x : DataW H × List MemPlace} (h : DataW.trod enc Tryz.prog w 0 (fun _ => true) true fuel 23 cs = some x) : ∃ (v : Value) (l : List (Nd × Value)), cs = [v] ∧ mL w v l ∧ ∀ x ∈ l, x.1.Wf := by
 have key : ∀ a n c, cs = [.slice a n c] → ∃ (v : Value) (l : List (Nd × Value)), cs = [v] ∧ mL w v l ∧ ∀ x ∈ l, x.1.Wf := fun a n c e => by
  subst e;obtain ⟨l, h1, h2⟩ := zFy (a := a) (n := n) (cap := c) (d := x.1) (p := x.2) ⟨fuel, h⟩;exact ⟨_, l, rfl, h1, h2⟩
 rcases DataW.trod_slice Tryz.underlying23 h with ⟨e, _⟩ | ⟨a, len, cap, _, _, _, _, e, _⟩
 ·
  exact key _ _ _ e
 exact key _ _ _ e
theorem zFe {fuel : Nat} {cs : List Value} {x : DataW H × List MemPlace} (h : DataW.trod enc Tryz.prog w 0 (fun _ => true) true fuel 87 cs = some x) : ∃ (v : Value) (l : List Int), cs = [v] ∧ lX w v l := by
 rcases open_ints Tryz.underlying87 Tryz.underlying24 (by kernel_rfl) h with ⟨hcs, _⟩ | ⟨x, l, c, zs, hcs, _, hl, hm, hz, _, hcell, Ui⟩
 ·
  exact ⟨_, [], hcs, kJ (aU w 0 24 1)⟩
 obtain ⟨g1, g2⟩ := Un (k := .u64) (w := w) (a := some x) (len := l) (cap := c) (zs := zs) (.inr ⟨_, rfl, hl, hm, by simpa using hz, hcell, Ui⟩);exact ⟨_, zs.take l, hcs, by unfold lX iw; rw [g1]; exact g2⟩
end
end Go.Proofs.YtcgfilmmokmdjaaGreat
