/- A part of the walk. -/
import Derived.Test.YtcgfilmmokmdjaaGreatQAW
import Derived.Test.YtcgfilmmokmdjaaGreatQAX
import Derived.Test.YtcgfilmmokmdjaaGreatBw
import Derived.Test.YtcgfilmmokmdjaaGreatBab
import Derived.Test.YtcgfilmmokmdjaaGreatQAY
import Derived.Test.YtcgfilmmokmdjaaGreatSle
import Derived.Test.YtcgfilmmokmdjaaGreatBah
import Derived.Test.YtcgfilmmokmdjaaGreatQAA
import Derived.Deep.Slices
import Derived.Deep.SlicePairs
import Derived.ChangeArms
import Derived.Test.YtcgfilmmokmdjaaGreatQAE
import Derived.Test.YtcgfilmmokmdjaaGreatQAI
import Derived.Test.YtcgfilmmokmdjaaGreatQAH
import Derived.Test.YtcgfilmmokmdjaaGreatSkb
set_option maxRecDepth 100000
set_option maxHeartbeats 32000000
namespace Go.Proofs.YtcgfilmmokmdjaaGreat
open Go.RowKit
/-! ### One request of a row -/
theorem oz.one {w : World} {a : Option Addr} {n cap : Nat} {qs : List (Rq × Value)} (h : oz w (.slice a n cap) qs) {i : Nat} (hi : i < n) :
  ∃ a' c', (∀ W kl kh, (Instr.slice 74 (.slice a n cap) (some (.int kl (i : Int))) (some (.int kh ((i : Int) + 1))) none).run Tryz.prog W = .ok (.slice a' 1 c') W) ∧ oz w (.slice a' 1 c') [jX qs i] := by
 have hn : qs.length = n := by
  obtain ⟨_, _, e, _⟩ := h.shape;injection e with _ e _; exact e.symm
 obtain ⟨a', c', h1, h2, _⟩ := zHK (P := Tryz.prog) zIv h.row.2 i (i + 1) (by omega) (by omega);rw [show i + 1 - i = 1 by omega] at h1 h2;refine ⟨a', c', fun W kl kh => by have := h1 W kl kh; rwa [cT] at this, ⟨fun x _ => vC x, ?_⟩, fun p hp => ?_⟩
 ·
  have e : ((qs.flatMap nu).drop (i * 5)).take (1 * 5) = [jX qs i].flatMap nu := by
   rw [← Pp 5 nu qs vC i, ← Po 5 nu (qs.drop i) vC 1, cQ (by omega)];unfold jX;rw [ax, aB (by omega)]; rfl
  rw [e] at h2; exact h2
 obtain rfl := List.mem_singleton.1 hp;exact h.dat _ (kQ (by omega))
/-! ### Values for the drawn regions -/
structure Fw (w : World) (M : fg) (kv : Value) (ks : List KP) (nv : Value) (es : List (Nd × Value)) (rv : Value) : Prop where
 kr : w.ownsRow 0 89 2 kv ks.length (ks.flatMap jQ)
 ky : ∀ p ∈ ks, w.ownsRow 0 24 1 p.2.1 p.2.2.length (p.2.2.map Jy)
 kk : gT ks = M.ei
 nr : w.ownsRow 0 56 4 nv es.length (wM es)
 nd : ∀ p ∈ es, oD w p.2 p.1.data
 nn : es.map (·.1) = M.needs
 r : w.ownsRow 0 39 1 rv M.res.length (M.res.map Dw)
theorem nj.w {W : World} {B : Nat} {P : fg} {kv : Value} {ks : List KP} {nv : Value} {es : List (Nd × Value)} {rv : Value} (h : nj W B P kv ks nv es rv) : Fw W P kv ks nv es rv :=
 ⟨Go.Joins.ownsRow_le h.k.row (au _), fun p hp => Go.Joins.ownsRow_le (h.k.keys p hp) (au _), h.kk, Go.Joins.ownsRow_le h.n.row (au _), fun p hp => (h.n.dat p hp).rd, h.nn, Go.Joins.ownsRow_le h.r (au _)⟩
theorem Fw.below {w w' : World} {M : fg} {kv : Value} {ks : List KP} {nv : Value} {es : List (Nd × Value)} {rv : Value} (h : Fw w M kv ks nv es rv) (hb : Below w.heap.size w w') : Fw w' M kv ks nv es rv :=
 ⟨zH h.kr hb, fun p hp => zH (h.ky p hp) hb, h.kk, zH h.nr hb, fun p hp => ik.below (h.nd p hp) hb, h.nn, zH h.r hb⟩
theorem zFl {w : World} {b : Nat} {r0 : Bool} {t0 : Int} {a1 a2 a3 : Option Addr} {n1 n2 n3 c1 c2 c3 : Nat} {t : TypeId} {v : Value} {d : List UInt8} (h : oD w v d) (hb : dQ w b (xD r0 t0 (.slice a1 n1 c1) (.slice a2 n2 c2) (.slice a3 n3 c3)) t) (vs : List (Nat × Value)) : oD (pts w b vs) v d := by
 obtain ⟨h1, a', cap, e, h3, h4, h5, h6⟩ := h;refine ⟨h1, a', cap, e, h3, h4, h5, fun hp => ?_⟩;obtain ⟨b', off, e2, hc⟩ := h6 hp;refine ⟨b', off, e2, fun j u hu => ?_⟩;have hne : b' ≠ b := fun e3 => by
  subst e3;obtain ⟨y, hy⟩ : ∃ y : UInt8, (d.map vh)[0]? = some (vh y) := by
   cases d with
   | nil => cases hp
   | cons y r => exact ⟨y, rfl⟩
  have h7 := hc 0 _ hy;rw [bp, dQ.rM hb off] at h7
  match off, h7 with
  | 0, h7 => cases h7
  | 1, h7 => cases h7
  | 2, h7 => cases h7
  | 3, h7 => cases h7
  | 4, h7 => cases h7
  | k + 5, h7 => rw [Array.getElem?_eq_none (by show 5 ≤ k + 5; omega)] at h7; cases h7
 exact (zt (p := ⟨b', off + j, none⟩) hne vs w).trans (hc j u hu)
theorem Fw.pts {w : World} {M : fg} {kv : Value} {ks : List KP} {nv : Value} {es : List (Nd × Value)} {rv : Value} (h : Fw w M kv ks nv es rv) {b : Nat} {r0 : Bool} {t0 : Int} {a1 a2 a3 : Option Addr} {n1 n2 n3 c1 c2 c3 : Nat} (hb : dQ w b (xD r0 t0 (.slice a1 n1 c1) (.slice a2 n2 c2) (.slice a3 n3 c3)) 71) (vs : List (Nat × Value)) : Fw (Go.Proofs.YtcgfilmmokmdjaaGreat.pts w b vs) M kv ks nv es rv :=
 ⟨wH (uY h.kr hb (by decide)) vs h.kr, fun p hp => wH (uY (h.ky p hp) hb (by decide)) vs (h.ky p hp), h.kk, wH (uY h.nr hb (by decide)) vs h.nr, fun p hp => zFl (h.nd p hp) hb vs, h.nn, wH (uY h.r hb (by decide)) vs h.r⟩
def BJ (M : fg) (v : Value) (w : World) : Prop := ∃ ka kc ks na nc es ra rc, v = Ob M.ep (M.res.length : Int) (.slice ka ks.length kc) (.slice na es.length nc) (.slice ra M.res.length rc) ∧ Fw w M (.slice ka ks.length kc) ks (.slice na es.length nc) es (.slice ra M.res.length rc)
theorem BJ.below {M : fg} {v : Value} {w w' : World} (h : BJ M v w) (hb : Below w.heap.size w w') : BJ M v w' := by
 obtain ⟨ka, kc, ks, na, nc, es, ra, rc, h1, h2⟩ := h;exact ⟨ka, kc, ks, na, nc, es, ra, rc, h1, h2.below hb⟩
def mkT (M : fg) : lQ := ⟨fun v w => ∃ p, v = .tuple #[p, .int .i64 0] ∧ BJ M p w, fun _ _ _ hb ⟨p, h1, h2⟩ => ⟨p, h1, h2.below hb⟩⟩
def mkG (M : fg) : lQ := ⟨fun v w => BJ M v w, fun _ _ _ hb h => h.below hb⟩
def zLk (B : Nat) : lQ := ⟨fun v w => ∃ b, v = .pointer (some ⟨b, 0, none⟩) ∧ B ≤ b ∧ dQ w b (xD false 0 (.slice none 0 0) (.slice none 0 0) (.slice none 0 0)) 71, fun _ _ _ hb ⟨b, h1, h2, h3⟩ => ⟨b, h1, h2, h3.below hb⟩⟩
def slR (G : List Gn) : lQ := ⟨fun v w => ∃ a n c L, v = zZ 1 9000 false a n c ∧ fl w (.slice a n c) L ∧ dV L = G ∧ n ≤ 1000000, fun _ _ _ hb ⟨a, n, c, L, h1, h2, h3, h4⟩ => ⟨a, n, c, L, h1, h2.below hb, h3, h4⟩⟩
theorem zD2 {S : eE} (hS : ec S) {ga : Option Addr} {gn gc : Nat} {L : List GP} {qa : Option Addr} {qn qc : Nat} {qs : List (Rq × Value)} {w : World} (hr : fl w (.slice ga gn gc) L) (hg : dV L = S.dP) (hl : eV 700 S.dP) (hq : oz w (.slice qa qn qc) qs) (JD : qs.length ≤ 1000) (iw : ∀ p ∈ qs, p.1.data.length ≤ 1000000) :
  Calls Tryz.prog 22 #[zZ S.id S.lim S.ro ga gn gc, .slice qa qn qc] w fun e w' => (∃ p, e = .returned (.tuple #[p, .int .i64 0]) ∧ BJ (zm S (qs.map (·.1))).1 p w') ∧ Below w.heap.size w w' := by
 have NP : qs.length = qn := by
  obtain ⟨_, _, e, _⟩ := hq.shape;injection e with _ e _; exact e.symm
 subst NP;have nF := hS.len;refine (zCU S ga gn gc L qa qc qs w hr hg hl (by omega) hq (by omega) iw).mono ?_;rintro e w' ⟨kv, ks, nv, es, rv, rfl, hp, hb⟩;obtain ⟨ka, kc, rfl, _⟩ := zO hp.k.row;obtain ⟨na, nc, rfl, _⟩ := zO hp.n.row;obtain ⟨ra, rc, rfl, _⟩ := zO hp.r;rw [(Z_ hS (qs.map (·.1))).1];exact ⟨⟨_, rfl, ka, kc, ks, na, nc, es, ra, rc, rfl, hp.w⟩, hb⟩
theorem zBA {S : eE} (hS : ec S) (hl : eV 700 S.dP) (K : List Rq) : (∀ x ∈ (zm S K).1.ei, x.2.length ≤ 1000) ∧ (zm S K).1.needs.length ≤ 16 := by
 have hi := TD (K := 700) (G := S.dP.length) K (yR S) ⟨hl, nQ.nil _, ai _, ⟨cS _, cS _⟩, ai _⟩ (au _);have e : (zm S K).1 = wJ K (yR S) := by unfold zm; rw [ag ((zR S).2 hS)]
 rw [e];refine ⟨fun x hx => ?_, ?_⟩
 ·
  have := hi.2.k.len x hx;have := hi.1;omega
 have := hi.2.e;have := hi.1;omega
theorem zCF {S : eE} {ga : Option Addr} {gn gc : Nat} {L : List GP} {p : Value} {M : fg} {w : World} (hr : fl w (.slice ga gn gc) L) (hg : dV L = S.dP) (hl : eV 700 S.dP) (hn : gn ≤ 1000000) (hp : BJ M p w) (hk : ∀ x ∈ M.ei, x.2.length ≤ 1000) (hnd : M.needs.length ≤ 16) :
  Calls Tryz.prog 31 #[zZ S.id S.lim S.ro ga gn gc, p] w (ig w (wg S M.ep M.ei M.needs)) := by
 obtain ⟨ka, kc, ks, na, nc, es, ra, rc, rfl, hw⟩ := hp;have h2 : rR w (.slice ka ks.length kc) ks := ⟨⟨fun x _ => vn x, zr hw.kr⟩, fun p hp => kJ (hw.ky p hp)⟩
 have h4 : mK w (.slice na es.length nc) es := ⟨zr hw.nr, hw.nd⟩
 have h3 := hw.kk;have h5 := hw.nn
 have h := zFK S ga gn gc L M.ep (M.res.length : Int) (.slice ka ks.length kc) (.slice na es.length nc) (.slice ra M.res.length rc) ks es w hr hg hl hn h2 (fun x hx => by
  have : (x.1, x.2.2) ∈ gT ks := cV hx
  rw [h3] at this
  exact hk _ this) h4 (by rw [← h5, aI] at hnd; omega) ⟨_, _, _, rfl⟩
 rw [h3, h5] at h;exact h
theorem I7.ap {S : eE} {K : List Rq} (hS : ec S) (h : I7 S K) : ∃ G, wg S (zm S K).1.ep (zm S K).1.ei (zm S K).1.needs = (⟨S.id, S.lim, S.ro, G⟩, 0) ∧ ((zm S K).1.ep = false → G = (gU S K (zm S K).1.res.length).t.dP) := by
 cases hr : (zm S K).1.ep
 ·
  have hk := tO hS K (zm S K).1.res.length;rw [h.all hr];generalize (gU S K (zm S K).1.res.length).t = T at *;obtain ⟨a, b, c, d⟩ := T;obtain ⟨_, h1, h2, h3, _, _⟩ := hk;dsimp only at h1 h2 h3;subst h1 h2 h3;exact ⟨d, rfl, fun _ => rfl⟩
 obtain ⟨_, hc⟩ := h.ep hr;rw [Tc hS] at hc;refine ⟨S.dP.take (S.dP.length - 1) ++ [{ zS S with mode := 2 }, fresh ((zS S).num + 1)], ?_, fun e => (by cases e)⟩;unfold wg xO;rw [ag ((zR S).2 hS), ag rfl, ag ((zR S).2 hS), ag (a_ hc)]
theorem zKw {S : eE} (hS : ec S) (K : List Rq) (i : Nat) : (gU S K i).t = ⟨S.id, S.lim, S.ro, (gU S K i).t.dP⟩ := by
 obtain ⟨_, h1, h2, h3, _, _⟩ := tO hS K i;generalize (gU S K i).t = T at *;obtain ⟨a, b, c, d⟩ := T;dsimp only at h1 h2 h3 ⊢;rw [h1, h2, h3]
theorem zFx {K : Nat} {P : fg} (h : eV K P.t.dP) (q : Rq) : eV (K + 1) (zT P q).2.t.dP := by
 obtain ⟨g, _⟩ : ∃ g, g = P.t.dP.length := ⟨_, rfl⟩
 have lZ : ∀ Q : fg, eV K Q.t.dP → ∀ x, eV (K + 1) (vH Q x).t.dP := fun Q hQ x => k8 (s := Q.t) (g := (yt (uG Q.t).2 [x]).2) (K := K + 1) (hQ.mono (by omega)) (fun i hi => qJ (Sv hQ) i hi)
 have hks : eV K (yW P q.key).t.dP := by
  have key : ∀ (l : List Int) (Q : fg), eV K Q.t.dP → eV K (l.foldl (xS q.key) Q).t.dP := by
   intro l
   induction l with
   | nil => exact fun Q h => h
   | cons x r ih => exact fun Q h => ih (xS q.key Q x) (uu h)
  exact key _ P h
 have hd : eV (K + 1) (yZ P q).t.dP := by
  unfold yZ
  split
  ·
   exact lZ _ hks _
  exact hks.mono (by omega)
 have h1 : eV (K + 1) P.t.dP := h.mono (by omega);unfold zT
 split
 ·
  exact h1
 split
 ·
  split
  ·
   exact h1
  split
  ·
   split
   ·
    exact h1
   exact lZ P h _
  exact h1
 split
 ·
  split
  ·
   split
   ·
    exact h1
   exact hd
  exact h1
 exact h1
theorem zDc {S : eE} {N : Nat} (h : eV N S.dP) (K : List Rq) : ∀ i, eV (N + i) (gU S K i).t.dP
 | 0 => h
 | i + 1 => zFx (zDc h K i) _
theorem zDU (va vl : Value) (ac : List nE) (qs : List (Rq × Value)) (w : World) (ha : Dv w va ac) (hq : oz w vl qs) :
  Calls Tryz.prog 6 #[va, vl] w fun e w' => e = .returned (.bool true) ∧ Below w.heap.size w w' := by
 have HMd := zh (zGl va ac w ha);have HI := zGo ac;have HQ := zh hq;have HAw := zh (fun W => zDj W);obtain ⟨_, _, rfl, _⟩ := hq.shape;obtain ⟨_, _, rfl, _⟩ := ha.shape;clear ha hq;generalize Ja ac = S at *;obtain ⟨hv, hid, hlim, hro, hlen, Ui⟩ := HI;have nF := hv.len;have HV := zh hv;have HL := zh (show eV 700 S.dP from hlen.mono (by decide));obtain ⟨T6, Jf, T7, sg⟩ := S;dsimp only at hid hlim hro nF;subst hid hlim hro;have Uj : eV 600 sg := hlen.mono (by decide);clear hv hlen Ui
 go_enter Tryz.func6, Tryz.ntmps6
 go_wp2_with fail;refine HMd.out.mono ?_;rintro e w1 ⟨⟨a, n, c, L, rfl, hr, hg⟩, hb⟩;dsimp only at hg ⊢;subst hg;have fN : L.length = n := by
  obtain ⟨_, _, e, _⟩ := hr.shape;injection e with _ e _; exact e.symm
 rw [zj, fN] at nF;have HR := zh hr;have HB := zh hb;have HLg := zh (show ∀ p ∈ L, ∀ j, j < 8 → (p.1.m.st j).length ≤ 10000 from fun p hp j hj => ak (HL.out p.1 (cV hp) j hj) (by decide));clear hr hb HMd;go_wp2_with fail;refine (zHF 1 9000 false a n c L w1 HR.out (by omega)).mono ?_;rintro e w2 ⟨⟨a', c', rfl, rV⟩, ez⟩;replace HR := zh rV;replace HB := zh (zA HB.out ez);clear rV ez;go_upto_region 2 with fail;change Code.wp _ _ _ _ (w2.alloc (.cells (zK 1 9000 false a' n c') 27));have eD := zN w2 1 9000 false a' n c' 27;have HS := zh (dQ.new w2 (zK 1 9000 false a' n c') 27);replace HR := zh (HR.out.below eD);replace HB := zh (zA HB.out eD);clear eD;generalize w2.alloc (.cells (zK 1 9000 false a' n c') 27) = w3 at *;generalize w2.heap.size = bS at *;have Aa := zh (zES _ qs 10 false w3 (HQ.out.below HB.out) (by decide));go_wp2_with fail;refine Aa.out.mono ?_
 rintro e w4 ⟨v4, q4, rfl, Fb, Uk, hb⟩;replace HS := zh (HS.out.below hb);replace HR := zh (HR.out.below hb);replace HB := zh (zA HB.out hb);have Pg := zh (show oz w4 v4 q4 from ⟨⟨fun x _ => vC x, zr Fb.row⟩, fun p hp => (Fb.dat p hp).rd⟩);have akQ : q4.length ≤ 10 := by
  have := aT List.length Uk;rw [aI, aI, ay] at this;omega
 have Ah := zh (show ∀ p ∈ q4, p.1.data.length ≤ 4106 ∧ p.1.Wf from fun p hp => by
  have h1 : p.1 ∈ q4.map (·.1) := cV hp
  rw [Uk] at h1
  obtain ⟨y, _, e⟩ := List.mem_map.1 h1
  rw [← e]
  exact ⟨zIt _ _, zLU _ _⟩)
 clear hb Aa Fb Uk HQ;have HGi := zh (zDf v4 q4 w4 Pg.out (by omega));obtain ⟨qa4, qc4, rfl, _⟩ := Pg.out.shape;go_wp2_with fail;refine HGi.out.mono ?_;rintro e w5 ⟨v5, rfl, Ff, hb⟩;obtain ⟨qa, qc, rfl, _⟩ := zO Ff;have Ev := zh (show oz w5 (.slice qa q4.length qc) q4 from ⟨⟨fun x _ => vC x, zr Ff⟩, fun p hp => ik.below (Pg.out.dat p hp) hb⟩);replace HS := zh (HS.out.below hb);replace HR := zh (HR.out.below hb);replace HB := zh (zA HB.out hb);clear hb HGi Ff Pg;have Ll := zh (show eV 600 (dV L) from Uj);have Em : n ≤ 1000000 := by omega
 have o9 := zh (zD2 (S := ⟨1, 9000, false, dV L⟩) HV.out HR.out rfl HL.out Ev.out (by omega) (fun p hp => ak (Ah.out p hp).1 (by decide)));have hRQ := zKc HV.out (q4.map (·.1));obtain ⟨G, Cy, Q9⟩ := hRQ.ap HV.out;obtain ⟨hks, hnd⟩ := zBA HV.out HL.out (q4.map (·.1));have HKv := zh (fun i => tO HV.out (q4.map (·.1)) i);have Iy := zh (fun i => zKw HV.out (q4.map (·.1)) i);have Dt := zh (fun i => zDc (S := ⟨1, 9000, false, dV L⟩) Ll.out (q4.map (·.1)) i);obtain ⟨_, Nz, Nl, _, hone⟩ := hRQ;rw [aI] at Nz;generalize (zm ⟨1, 9000, false, dV L⟩ (q4.map (·.1))).1 = M at *;have HAk := zh hks;have pR := zh Cy;have iE := zh Q9;have jm := zh hone;clear hks Cy Q9 hone;obtain ⟨k0, k1, k2, k3⟩ := (dQ.gX HS.out).q;go_wp2_with fail;refine o9.out.mono ?_;rintro e w6 ⟨⟨p, rfl, Ft⟩, hb⟩;clear k0 k1 k2 k3 o9;have Ph := zh Ft;obtain ⟨ka, kc, ks, na, nc, es, ra, rc, rfl, I8⟩ := Ft;have h_ := zh (zr I8.r)
 replace HS := zh (HS.out.below hb);replace HR := zh (HR.out.below hb);replace Ev := zh (Ev.out.below hb);replace HB := zh (zA HB.out hb);clear hb I8;go_upto_region 4 with fail;change Code.wp _ _ _ _ (w6.alloc (.cells (xD M.ep (M.res.length : Int) (.slice ka ks.length kc) (.slice na es.length nc) (.slice ra M.res.length rc)) 71));have eD := (aj w6.heap.size w6).alloc (ai _) (.cells (xD M.ep (M.res.length : Int) (.slice ka ks.length kc) (.slice na es.length nc) (.slice ra M.res.length rc)) 71);have HP := zh (dQ.new w6 (xD M.ep (M.res.length : Int) (.slice ka ks.length kc) (.slice na es.length nc) (.slice ra M.res.length rc)) 71);replace HS := zh (HS.out.below eD);replace HR := zh (HR.out.below eD);replace Ev := zh (Ev.out.below eD);replace Ph := zh (Ph.out.below eD);replace h_ := zh (h_.out.below eD);replace HB := zh (zA HB.out eD);clear eD
 generalize w6.alloc (.cells (xD M.ep (M.res.length : Int) (.slice ka ks.length kc) (.slice na es.length nc) (.slice ra M.res.length rc)) 71) = w7 at *;generalize w6.heap.size = bP at *;have Gk := zh (zCF (S := ⟨1, 9000, false, dV L⟩) HR.out rfl HL.out Em Ph.out HAk.out hnd);rw [pR.out] at Gk;have p0 : w7.cell? ⟨bP, 0, none⟩ = some (.bool M.ep) := dQ.cell HP.out rfl;have p1 : w7.cell? ⟨bP, 1, none⟩ = some (.int .i64 (M.res.length : Int)) := dQ.cell HP.out rfl;have p2 : w7.cell? ⟨bP, 2, none⟩ = some (.slice ka ks.length kc) := dQ.cell HP.out rfl;have p3 : w7.cell? ⟨bP, 3, none⟩ = some (.slice na es.length nc) := dQ.cell HP.out rfl;have p4 : w7.cell? ⟨bP, 4, none⟩ = some (.slice ra M.res.length rc) := dQ.cell HP.out rfl;obtain ⟨k0, k1, k2, k3⟩ := (dQ.gX HS.out).q;go_wp2_with fail;refine Gk.out.mono ?_;rintro e w8 ⟨⟨xa, xn, xc, xL, rfl, DM, oB⟩, hb⟩;dsimp only at oB ⊢
 clear k0 k1 k2 k3 p0 p1 p2 p3 p4 Gk pR;have lj := zh DM;have iC := zh oB;replace HS := zh (HS.out.below hb);replace HR := zh (HR.out.below hb);replace Ev := zh (Ev.out.below hb);replace h_ := zh (h_.out.below hb);replace HP := zh (HP.out.below hb);replace HB := zh (zA HB.out hb);clear hb DM oB Ph;go_upto_region 5 with fail;change Code.wp _ _ _ _ (w8.alloc (.cells (zK 1 9000 false xa xn xc) 27));have eD := zN w8 1 9000 false xa xn xc 27;have mJ := zh (dQ.new w8 (zK 1 9000 false xa xn xc) 27);replace HS := zh (HS.out.below eD);replace HR := zh (HR.out.below eD);replace lj := zh (lj.out.below eD);replace Ev := zh (Ev.out.below eD);replace h_ := zh (h_.out.below eD);replace HP := zh (HP.out.below eD);replace HB := zh (zA HB.out eD);clear eD;generalize w8.alloc (.cells (zK 1 9000 false xa xn xc) 27) = w9 at *;generalize w8.heap.size = b9 at *
 have p0 : w9.cell? ⟨bP, 0, none⟩ = some (.bool M.ep) := dQ.cell HP.out rfl;have p1 : w9.cell? ⟨bP, 1, none⟩ = some (.int .i64 (M.res.length : Int)) := dQ.cell HP.out rfl;have p2 : w9.cell? ⟨bP, 2, none⟩ = some (.slice ka ks.length kc) := dQ.cell HP.out rfl;have p3 : w9.cell? ⟨bP, 3, none⟩ = some (.slice na es.length nc) := dQ.cell HP.out rfl;have p4 : w9.cell? ⟨bP, 4, none⟩ = some (.slice ra M.res.length rc) := dQ.cell HP.out rfl;have d1 : decide ((q4.length : Int) < (M.res.length : Int)) = false := aD (by omega);have d2 : decide (q4.length < M.res.length) = false := aD (by omega)
 go_cut [55] (fun v wx => v = .bool false ∧ wx = w9)
 case first =>
  go_wp2_with fail;go_meet
  case rel => exact ⟨rfl, rfl⟩
 obtain ⟨rfl, y_⟩ := fZ;generalize wc = wx9 at *;replace y_ := y_.symm;subst y_;clear d1 d2
 cases hro : M.ep
 ·
  rw [hro] at HP p0;have FU := zh (iE.out hro);clear iE Nl;obtain ⟨k0, k1, k2, k3⟩ := (dQ.gX HS.out).q;go_upto_region 10 with fail;clear k0 k1 k2 k3 p0 p1 p2 p3 p4;change Code.wp _ _ _ _ (w9.alloc (.cells (zK 1 9000 false a' n c') 27));have eD := zN w9 1 9000 false a' n c' 27;have HO := zh (dQ.new w9 (zK 1 9000 false a' n c') 27);have Er := zh (HR.out.below eD);have rG := zh eD;clear eD;generalize w9.alloc (.cells (zK 1 9000 false a' n c') 27) = IW at *;generalize Jp : w9.heap.size = Kj at *;have mU := zh (fun V (h : Below Kj w9 V) => show Below w9.heap.size w9 V from Jp ▸ h);have h9b : b9 < Kj := by rw [← Jp]; exact mJ.out.lt
  clear Jp;go_wp2_with fail
  go_loopw [12] (fun iv V => ∃ (i : Nat) (a1 : Option Addr) (n1 c1 : Nat) (L1 : List GP), iv = .int .i64 (i : Int) ∧ i ≤ M.res.length ∧ Hid (dQ V Kj (zK 1 9000 false a1 n1 c1) 27) ∧ Hid (fl V (.slice a1 n1 c1) L1) ∧ Hid (dV L1 = (gU ⟨1, 9000, false, dV L⟩ (q4.map (·.1)) i).t.dP) ∧ Hid (Below Kj w9 V)) (fun iv _ => M.res.length - (intOf iv).toNat)
  case atStart => exact ⟨0, a', n, c', L, rfl, au _, HO, Er, zh rfl, rG⟩
  clear HO Er rG;obtain ⟨i, a1, n1, c1, L1, rfl, hi, HO, eY, rW, rG⟩ := eT;have Fk := mU.out _ rG.out;have nK := zh (HP.out.below Fk);have p1 : wr.cell? ⟨bP, 1, none⟩ = some (.int .i64 (M.res.length : Int)) := dQ.cell nK.out rfl
  by_cases hlt : i < M.res.length
  ·
   have i1 : (i : Int) < (M.res.length : Int) := by omega
   have i10 : i < 20 := by omega
   have iq : i < q4.length := by omega
   obtain ⟨g0, g1, g2, g3⟩ := jm.out i hlt;have hT : (gU ⟨1, 9000, false, dV L⟩ (q4.map (·.1)) i).t = ⟨1, 9000, false, dV L1⟩ := by rw [Iy.out i, rW.out]
   have Pj := (HKv.out i).v;have Ul := Dt.out i;rw [hT] at Pj Ul g0 g1 g2 g3;rw [zIM] at g0 g1 g2 g3;have HVT := zh Pj;have Um := zh (show eV 700 (dV L1) from eV.mono Ul (by omega));have Ag : n1 ≤ 1000000 := by
    have h1 := Pj.len;dsimp only at h1;obtain ⟨_, _, e, _⟩ := eY.out.shape;injection e with _ e _;rw [zj] at h1; omega
   obtain ⟨aq, cq, hrun, hq1⟩ := oz.one (Ev.out.below Fk) iq;have hdq := (Ah.out _ (kQ iq)).1;have o9 := zh (fun W (hb : Below wr.heap.size wr W) => zD2 (S := ⟨1, 9000, false, dV L1⟩) HVT.out (eY.out.below hb) rfl Um.out (hq1.below hb) (by simp) (fun p hp => by obtain rfl := List.mem_singleton.1 hp; exact ak hdq (by decide)));obtain ⟨pJ, Un⟩ := zBA HVT.out Um.out [(jX q4 i).1];simp only [List.map_cons, List.map_nil] at o9;generalize (zm ⟨1, 9000, false, dV L1⟩ [(jX q4 i).1]).1 = M1 at *;have pR := zh g1;have iE := zh g2;have E2 := zh g3;have HK1 := zh pJ;clear g0 g1 g2 g3 hT Pj Ul hq1 hdq pJ;go_upto_region 13 with fail;clear p1
   go_cut [13, 14] (fun vb ve wx => ∃ b ph pj gE pq px ji pZ oM, vb = .pointer (some ⟨b, 0, none⟩) ∧ ve = .int .i64 0 ∧ wr.heap.size ≤ b ∧ Hid (dQ wx b (xD M1.ep (M1.res.length : Int) (.slice ph gE.length pj) (.slice pq ji.length px) (.slice pZ M1.res.length oM)) 71) ∧ Hid (Fw wx M1 (.slice ph gE.length pj) gE (.slice pq ji.length px) ji (.slice pZ M1.res.length oM)) ∧ Hid (Below wr.heap.size wr wx))
   case first =>
    refine xJ [eP (zZ 1 9000 false a1 n1 c1), eP (.slice qa q4.length qc), eP (.int .i64 (i : Int)), eP (.int .i64 (i : Int)), eP (.int .i64 ((i : Int) + 1)), eP (.slice aq 1 cq), mkT M1, mkT M1, mkG M1, eP (.int .i64 0), zLk wr.heap.size] [] 125 9 (by kernel_rfl) (by kernel_rfl) rfl rfl (by decide) (by rfl) (by kernel_rfl) (fun f => by simp [fq, zX, Act.put]; exact rfl) ?_ ?_ ?_
    ·
     refine ⟨?_, ?_, ?_, ?_, ?_, ?_, ?_, ?_, ?_, ?_, ?_, trivial⟩
     ·
      intro f w1 hb hd;clear hd;dsimp only;have zo := dQ.gX (HO.out.below hb);obtain ⟨y0, y1, y2, y3⟩ := zo.q;clear zo;go_wp2_with fail;exact pS rfl (by simp)
     ·
      intro f w1 hb hd;clear hd;dsimp only;go_wp2_with fail;exact pS rfl (by simp)
     ·
      intro f w1 hb hd;clear hd;dsimp only;go_wp2_with fail;exact pS rfl (by simp)
     ·
      intro f w1 hb hd;clear hd;dsimp only;go_wp2_with fail;exact pS rfl (by simp)
     ·
      intro f w1 hb hd;have d3 : f 3 = (.int .i64 (i : Int)) := hd 3 (by kernel_rfl);clear hd;dsimp only;rw [d3];go_wp2_with fail;exact pS rfl (by simp)
     ·
      intro f w1 hb hd;have d1 : f 1 = (.slice qa q4.length qc) := hd 1 (by kernel_rfl);have d2 : f 2 = (.int .i64 (i : Int)) := hd 2 (by kernel_rfl);have d4 : f 4 = (.int .i64 ((i : Int) + 1)) := hd 4 (by kernel_rfl);clear hd;dsimp only;rw [d1];rw [d2];rw [d4];go_wp2_with fail;exact pS rfl (by simp)
     ·
      intro f w1 hb hd;have d0 : f 0 = (zZ 1 9000 false a1 n1 c1) := hd 0 (by kernel_rfl);have d5 : f 5 = (.slice aq 1 cq) := hd 5 (by kernel_rfl);clear hd;dsimp only;rw [d0];rw [d5];go_wp2_with fail;refine (o9.out w1 hb).mono ?_;rintro e Pk ⟨⟨p, rfl, Ft⟩, fP⟩;go_wp2_with fail;exact ⟨rfl, fP, fun t ht => by injection ht with ht; subst ht; exact ⟨⟨p, rfl, Ft⟩, fun h => by simp at h⟩⟩
     ·
      intro f w1 hb hd;obtain ⟨p6, d6, r6⟩ := show ∃ p, f 6 = .tuple #[p, .int .i64 0] ∧ BJ M1 p w1 from hd 6 (by kernel_rfl);clear hd;dsimp only;rw [d6];go_wp2_with fail;exact ⟨rfl, aj _ _, fun t ht => by injection ht with ht; subst ht; exact ⟨⟨p6, rfl, r6⟩, fun h => by simp at h⟩⟩
     ·
      intro f w1 hb hd;obtain ⟨p7, d7, r7⟩ := show ∃ p, f 7 = .tuple #[p, .int .i64 0] ∧ BJ M1 p w1 from hd 7 (by kernel_rfl);clear hd;dsimp only;rw [d7];go_wp2_with fail;exact ⟨rfl, aj _ _, fun t ht => by injection ht with ht; subst ht; exact ⟨r7, fun h => by simp at h⟩⟩
     ·
      intro f w1 hb hd;obtain ⟨p7, d7, r7⟩ := show ∃ p, f 7 = .tuple #[p, .int .i64 0] ∧ BJ M1 p w1 from hd 7 (by kernel_rfl);clear hd;dsimp only;rw [d7];go_wp2_with fail;exact pS rfl (by simp)
     intro f w1 hb hd;clear hd;dsimp only;have o5 := hb.size;have hty := dQ.new w1 (xD false 0 (.slice none 0 0) (.slice none 0 0) (.slice none 0 0)) 71;have jg := (aj w1.heap.size w1).alloc (ai _) (.cells (xD false 0 (.slice none 0 0) (.slice none 0 0) (.slice none 0 0)) 71);go_wp2_with fail;exact ⟨rfl, jg, fun t ht => by injection ht with ht; subst ht; exact ⟨⟨_, rfl, o5, hty⟩, fun h => by simp at h⟩⟩
    ·
     intro f w5 hb hd jc;clear jc;have Uo : BJ M1 (f 8) w5 := hd 8 (show 8 < 11 by decide);have d9 : f 9 = .int .i64 0 := hd 9 (show 9 < 11 by decide);obtain ⟨b7, d10, Jq, rU⟩ := show ∃ b, f 10 = .pointer (some ⟨b, 0, none⟩) ∧ wr.heap.size ≤ b ∧ dQ w5 b (xD false 0 (.slice none 0 0) (.slice none 0 0) (.slice none 0 0)) 71 from hd 10 (show 10 < 11 by decide);obtain ⟨ph, pj, gE, pq, px, ji, pZ, oM, d8, Nn⟩ := Uo
     try dsimp only
     rw [d8, d9, d10];clear hd d8 d9 d10;have jg := zh (zD (B := wr.heap.size) (b := b7) Jq (tH M1.ep (M1.res.length : Int) (.slice ph gE.length pj) (.slice pq ji.length px) (.slice pZ M1.res.length oM)) hb);have Up := zh (Nn.pts rU (tH M1.ep (M1.res.length : Int) (.slice ph gE.length pj) (.slice pq ji.length px) (.slice pZ M1.res.length oM)))
     have fh := zh (show dQ (pts w5 b7 (tH M1.ep (M1.res.length : Int) (.slice ph gE.length pj) (.slice pq ji.length px) (.slice pZ M1.res.length oM))) b7 (xD M1.ep (M1.res.length : Int) (.slice ph gE.length pj) (.slice pq ji.length px) (.slice pZ M1.res.length oM)) 71 from by
      have h1 := dQ.sets (tH M1.ep (M1.res.length : Int) (.slice ph gE.length pj) (.slice pq ji.length px) (.slice pZ M1.res.length oM)) rU
      simp only [dD, List.foldl_nil, aP, aQ, aN] at h1
      exact h1)
     have x0 := dQ.cell rU (i := 0) rfl;have x1 := dQ.cell rU (i := 1) rfl;have x2 := dQ.cell rU (i := 2) rfl;have x3 := dQ.cell rU (i := 3) rfl;have x4 := dQ.cell rU (i := 4) rfl;have xf := dQ.frozen rU;have Uq := zh Jq;clear rU hb Jq Nn;generalize f 0 = Ai, f 1 = sX, f 2 = sY, f 3 = sZ, f 4 = s6, f 5 = s_, f 6 = Aj, f 7 = CO;clear f;change wpList _ _ _ (_ :: _ :: []) _ _;go_wp2_with fail;go_meet
     case rel => exact ⟨b7, ph, pj, gE, pq, px, ji, pZ, oM, rfl, rfl, Uq.out, fh, Up, jg⟩
    intro f w5 hb hd jc;clear jc;have Uo : BJ M1 (f 8) w5 := hd 8 (show 8 < 11 by decide) (show 8 ≠ 9 by decide);obtain ⟨p7, d7, r7⟩ := show ∃ p, f 7 = .tuple #[p, .int .i64 0] ∧ BJ M1 p w5 from hd 7 (show 7 < 11 by decide) (show 7 ≠ 9 by decide);clear r7;obtain ⟨b7, d10, Jq, rU⟩ := show ∃ b, f 10 = .pointer (some ⟨b, 0, none⟩) ∧ wr.heap.size ≤ b ∧ dQ w5 b (xD false 0 (.slice none 0 0) (.slice none 0 0) (.slice none 0 0)) 71 from hd 10 (show 10 < 11 by decide) (show 10 ≠ 9 by decide);obtain ⟨ph, pj, gE, pq, px, ji, pZ, oM, d8, Nn⟩ := Uo
    try dsimp only
    rw [d7, d8, d10];clear hd d7 d8 d10;have jg := zh (zD (B := wr.heap.size) (b := b7) Jq (tH M1.ep (M1.res.length : Int) (.slice ph gE.length pj) (.slice pq ji.length px) (.slice pZ M1.res.length oM)) hb);have Up := zh (Nn.pts rU (tH M1.ep (M1.res.length : Int) (.slice ph gE.length pj) (.slice pq ji.length px) (.slice pZ M1.res.length oM)))
    have fh := zh (show dQ (pts w5 b7 (tH M1.ep (M1.res.length : Int) (.slice ph gE.length pj) (.slice pq ji.length px) (.slice pZ M1.res.length oM))) b7 (xD M1.ep (M1.res.length : Int) (.slice ph gE.length pj) (.slice pq ji.length px) (.slice pZ M1.res.length oM)) 71 from by
     have h1 := dQ.sets (tH M1.ep (M1.res.length : Int) (.slice ph gE.length pj) (.slice pq ji.length px) (.slice pZ M1.res.length oM)) rU
     simp only [dD, List.foldl_nil, aP, aQ, aN] at h1
     exact h1)
    have x0 := dQ.cell rU (i := 0) rfl;have x1 := dQ.cell rU (i := 1) rfl;have x2 := dQ.cell rU (i := 2) rfl;have x3 := dQ.cell rU (i := 3) rfl;have x4 := dQ.cell rU (i := 4) rfl;have xf := dQ.frozen rU;have Uq := zh Jq;clear rU hb Jq Nn;generalize f 0 = Ai, f 1 = sX, f 2 = sY, f 3 = sZ, f 4 = s6, f 5 = s_, f 6 = Aj, f 9 = El;clear f;change wpList _ _ _ (_ :: _ :: _ :: []) _ _;go_wp2_with fail;go_meet
    case rel => exact ⟨b7, ph, pj, gE, pq, px, ji, pZ, oM, rfl, rfl, Uq.out, fh, Up, jg⟩
   obtain ⟨Gr, ph, pj, gE, pq, px, ji, pZ, oM, rfl, rfl, akT, MP, AH, eO⟩ := fZ;generalize wc = v1 at *;clear o9 hrun;have pN : M1.res.length = 1 := by rw [pR.out]; rfl
   have mj := zh (show dQ v1 Gr (xD false 1 (.slice ph gE.length pj) (.slice pq ji.length px) (.slice pZ 1 oM)) 71 from by have := MP.out; rw [iE.out, pN] at this; exact this);have DA := zh (show BJ M1 (Ob false 1 (.slice ph gE.length pj) (.slice pq ji.length px) (.slice pZ 1 oM)) v1 from ⟨ph, pj, gE, pq, px, ji, pZ, oM, by rw [iE.out, pN]; rfl, AH.out⟩);have Jr := zr AH.out.r;rw [pR.out] at Jr;obtain ⟨Ur, Us, rfl, Np⟩ := zLG (res := [uC M.res i]) Jr (i := 0) (by simp);have Nq := zh (show v1.cell? ⟨Ur, Us, none⟩ = some (.int .i64 (uC M.res i)) from Np);clear Jr Np MP AH;have akU := HO.out.lt;replace HO := zh (HO.out.below eO.out);replace eY := zh (eY.out.below eO.out);have Fy := zh (nK.out.below eO.out);obtain ⟨br, or_, rfl, hrc⟩ := zLG ((h_.out.below Fk).below eO.out) hlt;have HRc := zh hrc;clear hrc
   have Js := zh (zCF (S := ⟨1, 9000, false, dV L1⟩) eY.out rfl Um.out Ag DA.out HK1.out Un);rw [iE.out, E2.out, Iy.out (i + 1)] at Js;obtain ⟨k0, k1, k2, k3⟩ := (dQ.gX HO.out).q;have x0 : v1.cell? ⟨Gr, 0, none⟩ = some (.bool false) := dQ.cell mj.out rfl;have x1 : v1.cell? ⟨Gr, 1, none⟩ = some (.int .i64 1) := dQ.cell mj.out rfl;have x2 : v1.cell? ⟨Gr, 2, none⟩ = some (.slice ph gE.length pj) := dQ.cell mj.out rfl;have x3 : v1.cell? ⟨Gr, 3, none⟩ = some (.slice pq ji.length px) := dQ.cell mj.out rfl;have x4 : v1.cell? ⟨Gr, 4, none⟩ = some (.slice (some ⟨Ur, Us, none⟩) 1 oM) := dQ.cell mj.out rfl;go_wp2_with fail;refine Js.out.mono ?_;rintro e v2 ⟨⟨ya, yn, yc, yL, rfl, hyr, Ut⟩, hb⟩;dsimp only at Ut ⊢;clear k0 k1 k2 k3 x0 x1 x2 x3 x4 Js DA;have Nr := zh hyr;have N6 := zh Ut;have eN := zh (zA eO.out hb);replace HO := zh (HO.out.below hb);replace Fy := zh (Fy.out.below hb)
   replace mj := zh (mj.out.below hb);have AU := zh (Below.keeps hb _ _ HRc.out);have Ns := zh (Below.keeps hb _ _ Nq.out);clear hb hyr Ut HRc Nq eO eY;go_upto_region 15 with fail;change Code.wp _ _ _ _ (v2.alloc (.cells (zK 1 9000 false ya yn yc) 27));have eD := zN v2 1 9000 false ya yn yc 27;have HY := zh (dQ.new v2 (zK 1 9000 false ya yn yc) 27);replace Nr := zh (Nr.out.below eD);replace HO := zh (HO.out.below eD);replace eN := zh (zA eN.out eD);have q1 := zB (show (v2.alloc (.cells (zK 1 9000 false ya yn yc) 27)).cell? ⟨Gr, 1, none⟩ = some (.int .i64 1) from dQ.cell (mj.out.below eD) rfl);have q4x := zB (show (v2.alloc (.cells (zK 1 9000 false ya yn yc) 27)).cell? ⟨Gr, 4, none⟩ = some (.slice (some ⟨Ur, Us, none⟩) 1 oM) from dQ.cell (mj.out.below eD) rfl)
   have p4 := zB (show (v2.alloc (.cells (zK 1 9000 false ya yn yc) 27)).cell? ⟨bP, 4, none⟩ = some (.slice (some ⟨br, or_, none⟩) M.res.length rc) from dQ.cell (Fy.out.below eD) rfl);have r1 := zB (Below.keeps eD _ _ AU.out);have r2 := zB (Below.keeps eD _ _ Ns.out);clear eD AU Ns Fy mj;generalize v2.alloc (.cells (zK 1 9000 false ya yn yc) 27) = v3 at *;generalize v2.heap.size = b15 at *
   go_cut [115] (fun v wx => v = .bool false ∧ Hid (Below v3.heap.size v3 wx))
   case first =>
    refine zC (by kernel_rfl) (by kernel_rfl) ?_
    repeat (go_big_quiet_step (fail))
    refine aC ?_;intro _ dY;obtain ⟨q, dY⟩ := dY;subst dY;have sM := zh q.h;clear q1 q4x p4 r1 r2;generalize q.w' = wq at *;go_wp2_with fail;go_meet
    case rel => exact ⟨rfl, sM⟩
   obtain ⟨rfl, fu⟩ := fZ;generalize wc = v4 at *;clear q1 q4x p4 r1 r2;replace HY := zh (HY.out.below fu.out);replace Nr := zh (Nr.out.below fu.out);replace HO := zh (HO.out.below fu.out);replace eN := zh (zA eN.out fu.out);clear fu;obtain ⟨z0, z1, z2, z3⟩ := (dQ.gX HY.out).q;obtain ⟨k0, k1, k2, k3⟩ := (dQ.gX HO.out).q;have kf := (dQ.gX HO.out).f;have CH := zh (dQ.rN HO.out 1 9000 false ya yn yc);have jP := zh (fl.gX Nr.out HO.out (zJ 1 9000 false ya yn yc));have gI := zh (zD (B := Kj) (b := Kj) (ai _) (zJ 1 9000 false ya yn yc) (rG.out.trans (eN.out.mono (by omega))));go_wp2_with fail;exact ⟨⟨i + 1, ya, yn, yc, yL, by go_num, by omega, CH, jP, N6, gI⟩, by simp [intOf]; omega⟩
  obtain rfl : i = M.res.length := by omega
  have i1 : ¬ (M.res.length : Int) < (M.res.length : Int) := by omega
  have fk := zh (mJ.out.below Fk);have Uu := zh (lj.out.below Fk);have Uv : xn ≤ 1000000 ∧ n1 ≤ 1000000 := by
   have h1 := ((HKv.out M.res.length).v).len;obtain ⟨_, _, e, _⟩ := lj.out.shape;injection e with _ e _;obtain ⟨_, _, e', _⟩ := eY.out.shape;injection e' with _ e' _;rw [← rW.out, zj] at h1;have h2 : xL.length = L1.length := by rw [← zj, ← zj, iC.out, FU.out, rW.out]
   omega
  obtain ⟨Uv, Ag⟩ := Uv;have HGx := zh (show dV xL = dV L1 from by rw [iC.out, FU.out, rW.out]);obtain ⟨GL, Uw⟩ : ∃ GL, dV L1 = GL := ⟨_, rfl⟩
  rw [Uw] at HGx;have HL9 := zh Uw;clear Uw;go_upto_region 18 with fail;clear p1;refine yO [eP (zZ 1 9000 false xa xn xc), slR GL, eP (zZ 1 9000 false a1 n1 c1), slR GL, eP (.bool true), eP (.bool true), eP (.bool true), eP (.bool true)] [] 125 (by kernel_rfl) (by kernel_rfl) (by rfl) (by kernel_rfl) (fun f => by simp [fq, zX, Act.put]; exact rfl) ?_ ?_
  ·
   refine ⟨?_, ?_, ?_, ?_, ?_, ?_, ?_, ?_, trivial⟩
   ·
    intro f w1 hb hd;clear hd;dsimp only;have zo := dQ.gX (fk.out.below hb);obtain ⟨y0, y1, y2, y3⟩ := zo.q;clear zo;go_wp2_with fail;exact pS rfl (by simp)
   ·
    intro f w1 hb hd;have d0 : f 0 = (zZ 1 9000 false xa xn xc) := hd 0 (by kernel_rfl);clear hd;dsimp only;rw [d0];go_wp2_with fail;refine (zBt 1 9000 false xa xn xc xL w1 (Uu.out.below hb) (by omega)).mono ?_;rintro e Pk ⟨⟨a9, c9, rfl, Ux⟩, fP⟩;go_wp2_with fail;exact ⟨rfl, fP, fun t ht => by injection ht with ht; subst ht; exact ⟨⟨a9, xn, c9, xL, rfl, Ux, HGx.out, Uv⟩, fun h => by simp at h⟩⟩
   ·
    intro f w1 hb hd;clear hd;dsimp only;have zo := dQ.gX (HO.out.below hb);obtain ⟨y0, y1, y2, y3⟩ := zo.q;clear zo;go_wp2_with fail;exact pS rfl (by simp)
   ·
    intro f w1 hb hd;have d2 : f 2 = (zZ 1 9000 false a1 n1 c1) := hd 2 (by kernel_rfl);clear hd;dsimp only;rw [d2];go_wp2_with fail;refine (zBt 1 9000 false a1 n1 c1 L1 w1 (eY.out.below hb) (by omega)).mono ?_;rintro e Pk ⟨⟨a9, c9, rfl, Ux⟩, fP⟩;go_wp2_with fail;exact ⟨rfl, fP, fun t ht => by injection ht with ht; subst ht; exact ⟨⟨a9, n1, c9, L1, rfl, Ux, HL9.out, Ag⟩, fun h => by simp at h⟩⟩
   ·
    intro f w1 hb hd;obtain ⟨a1, n1, c1, L1, d1, r1, g1, h1⟩ := show ∃ a n c L, f 1 = zZ 1 9000 false a n c ∧ fl w1 (.slice a n c) L ∧ dV L = GL ∧ n ≤ 1000000 from hd 1 (by kernel_rfl);obtain ⟨a3, n3, c3, L3, d3, r3, g3, h3⟩ := show ∃ a n c L, f 3 = zZ 1 9000 false a n c ∧ fl w1 (.slice a n c) L ∧ dV L = GL ∧ n ≤ 1000000 from hd 3 (by kernel_rfl);clear hd;dsimp only;rw [d1];rw [d3];go_wp2_with fail;refine (zGv 1 9000 false a1 a3 n1 n3 c1 c3 L1 L3 w1 r1 r3 (g1.trans g3.symm) h1).mono ?_;rintro e Pk ⟨rfl, fP⟩;go_wp2_with fail;exact pT rfl (by simp) fP
   ·
    intro f w1 hb hd;have d4 : f 4 = (.bool true) := hd 4 (by kernel_rfl);clear hd;dsimp only;rw [d4];go_wp2_with fail;exact pS rfl (by simp)
   ·
    intro f w1 hb hd;have d5 : f 5 = (.bool true) := hd 5 (by kernel_rfl);clear hd;dsimp only;rw [d5];go_wp2_with fail;refine (HAw.out w1).mono ?_;rintro e Pk ⟨rfl, fP⟩;go_wp2_with fail;exact pT rfl (by simp) fP
   intro f w1 hb hd;have d5 : f 5 = (.bool true) := hd 5 (by kernel_rfl);have d6 : f 6 = (.bool true) := hd 6 (by kernel_rfl);clear hd;dsimp only;rw [d5];rw [d6];go_wp2_with fail;exact pS rfl (by simp)
  intro f w5 hb hd jc;clear jc;have d7 : f 7 = .bool true := hd 7 (show 7 < 8 by decide)
  try dsimp only
  rw [d7];clear hd d7;generalize f 0 = Ai, f 1 = sX, f 2 = sY, f 3 = sZ, f 4 = s6, f 5 = s_, f 6 = Aj;clear f;have JU := zh (zA HB.out (zA Fk hb));clear hb;change wpList _ _ _ (_ :: []) _ _;go_wp2_with fail;go_ret;exact ⟨rfl, JU.out⟩
 rw [hro] at HP p0;obtain ⟨Ex, _⟩ := Nl hro;have e0 : ((M.res.length : Int) == 0) = true := by rw [Ex]; rfl
 go_wp2_with fail;refine (HAw.out _).mono ?_;rintro e wz ⟨rfl, hb⟩;have JU := zh (zA HB.out hb);go_wp2_with fail;go_ret;exact ⟨rfl, JU.out⟩
end Go.Proofs.YtcgfilmmokmdjaaGreat
namespace Go.Proofs.YtcgfilmmokmdjaaGreat
open Go.RowKit Go.ChangeShapes Go.WideShapes Go.Deep
theorem zAd : Tryz.prog.cellsOf 24 = 1 := by kernel_rfl
theorem zAV : Tryz.prog.cellsOf 47 = 1 := by kernel_rfl
theorem zEm : Tryz.prog.cellsOf 2 = 1 := by kernel_rfl
section
variable {H : Type} {enc : TypeId × Value → H} {w : World}
theorem we {cs : List Value} {i : Nat} {u : Value} (h : (cs.drop i).take 1 = [u]) : cs[i]? = some u := by
 have h1 : ((cs.drop i).take 1)[0]? = some u := by rw [h]; rfl
 rw [cI, ag (by decide), cL, bp] at h1;exact h1
end
end Go.Proofs.YtcgfilmmokmdjaaGreat
namespace Go.Proofs.YtcgfilmmokmdjaaGreat
open Go.RowKit Go.ChangeShapes Go.WideShapes Go.Deep
end Go.Proofs.YtcgfilmmokmdjaaGreat
namespace Go.Proofs.YtcgfilmmokmdjaaGreat
open Go.RowKit Go.ChangeShapes Go.WideShapes Go.Deep
section
variable {H : Type} {enc : TypeId × Value → H} {w : World}
end
end Go.Proofs.YtcgfilmmokmdjaaGreat
namespace Go.Proofs.YtcgfilmmokmdjaaGreat
open Go.RowKit Go.ChangeShapes Go.WideShapes Go.Deep
theorem zIT (w : World) : mK w (.slice none 0 0) [] := ⟨zr (aV w 0 56 4), fun p hp => by cases hp⟩
theorem zKX : ∃ f0 f1 f2 f3, Tryz.prog.underlying 56 = some (.struct #[f0, f1, f2, f3]) ∧ (f0.offset = 0 ∧ f1.offset = 1 ∧ f2.offset = 2 ∧ f3.offset = 3) ∧ f0.type = 24 ∧ f1.type = 47 ∧ f2.type = 4 ∧ f3.type = 54 :=
 ⟨_, _, _, _, Tryz.underlying56, ⟨rfl, rfl, rfl, rfl⟩, rfl, rfl, rfl, rfl⟩
theorem zEr : Tryz.prog.cellsOf 56 = 4 := by kernel_rfl
theorem zDE : Tryz.prog.cellsOf 4 = 1 := by kernel_rfl
theorem qX : Tryz.prog.cellsOf 54 = 1 := by kernel_rfl
section
variable {H : Type} {enc : TypeId × Value → H} {w : World}
theorem zAw {fuel : Nat} {cs : List Value} {x : DataW H × List MemPlace} (h : DataW.trod enc Tryz.prog w 0 (fun _ => true) true fuel 54 cs = some x) : ∃ (v : Value) (l : List UInt8), cs = [v] ∧ oD w v l := by
 rcases open_ints Tryz.underlying54 Tryz.underlying5 (by kernel_rfl) h with ⟨hcs, _⟩ | ⟨x, l, c, zs, hcs, _, hl, hm, hz, _, hcell, Uy⟩
 ·
  exact ⟨_, [], hcs, WS w⟩
 obtain ⟨r, _, hr⟩ := zEI (w := w) (a := some x) (len := l) (cap := c) (zs := zs) (.inr ⟨_, rfl, hl, hm, by simpa using hz, hcell, Uy⟩);exact ⟨_, r, hcs, hr⟩
theorem zHC {fuel : Nat} {cs : List Value} {x : DataW H × List MemPlace} (h : DataW.trod enc Tryz.prog w 0 (fun _ => true) true fuel 56 cs = some x) : ∃ y : Nd × Value, cs = vy y ∧ y.1.Wf ∧ oD w y.2 y.1.data := by
 obtain ⟨f0, f1, f2, f3, hs, ⟨o0, o1, o2, o3⟩, t0, t1, t2, t3⟩ := zKX;obtain ⟨xs, n, _, _, hlen, hxl, hf⟩ := DataW.trod_struct hs h;rw [zEr] at hlen;have hx : xs.length = 4 := by simpa using hxl
 have g : ∀ j (hj : j < 4), xs[j]? = some (xs[j]'(by omega)) := fun j hj => aB (by omega)
 have h0 := (hf 0 f0 rfl).trans (g 0 (by omega));have h1 := (hf 1 f1 rfl).trans (g 1 (by omega));have h2 := (hf 2 f2 rfl).trans (g 2 (by omega));have h3 := (hf 3 f3 rfl).trans (g 3 (by omega));rw [t0, o0, zAd] at h0;rw [t1, o1, zAV] at h1;rw [t2, o2, zDE] at h2;rw [t3, o3, qX] at h3;obtain ⟨k, e0, _, w0⟩ := DataW.trod_int Tryz.underlying24 h0;obtain ⟨c, e1, _, w1⟩ := DataW.trod_int Tryz.underlying47 h1;obtain ⟨d, e2, _⟩ := DataW.trod_bool Tryz.underlying4 h2;obtain ⟨v, l, e3, hr⟩ := zAw h3;have d0 := we e0;have d1 := we e1;have d2 := we e2;have d3 := we e3;have b0 := qS w0;have b1 := qV w1;obtain ⟨k, rfl⟩ := dM b0.1;obtain ⟨c, rfl⟩ := dM b1.1;refine ⟨(⟨k, c, d, l⟩, v), ?_, show k < 18446744073709551616 ∧ c < 4294967296 by omega, hr⟩
 match cs, hlen, d0, d1, d2, d3 with
 | [a, b, c', d], _, d0, d1, d2, d3 =>
  simp at d0 d1 d2 d3;subst d0 d1 d2 d3
  rfl
theorem zFy {a : Option Addr} {n cap : Nat} {d : DataW H} {p : List MemPlace} (h : DataW.Trod enc Tryz.prog w 0 (fun _ => true) true 23 (.slice a n cap) d p) :
  ∃ l : List (Nd × Value), mK w (.slice a n cap) l ∧ ∀ x ∈ l, x.1.Wf := by
 obtain ⟨fuel, hf⟩ := h;rcases open_slice Tryz.underlying23 hf with ⟨hcs, _⟩ | ⟨x, len, cap', m, k, D, Pl, hcs, _, hl, hm, hmm, _, hx⟩
 ·
  simp [Value.cells] at hcs;obtain ⟨rfl, rfl, rfl⟩ := hcs;exact ⟨[], zIT w, fun e he => by cases he⟩
 simp [Value.cells] at hcs;obtain ⟨rfl, rfl, rfl⟩ := hcs;simp only [if_true] at hmm;subst hmm;rw [zEr] at hx
 haveI : Inhabited (Nd × Value) := ⟨(Jt, .slice none 0 0)⟩
 have each : ∀ i, i < n → ∃ y : Nd × Value, (∀ j, j < 4 → w.cell? (x.add (i * 4 + j)) = (vy y)[j]?) ∧ y.1.Wf ∧ oD w y.2 y.1.data := fun i hi => by
  obtain ⟨cs', h1, h2⟩ := hx i (by omega);obtain ⟨y, rfl, hy⟩ := zHC h2;obtain ⟨_, _, hc⟩ := World.cells?_some h1;exact ⟨y, fun j hj => by rw [← hc j hj, Go.Deep.add_add], hy⟩
 obtain ⟨E, hE⟩ := choose_lt each;refine ⟨(List.range n).map E, ⟨?_, fun e he => ?_⟩, fun e he => ?_⟩
 ·
  rw [aI, List.length_range];refine ⟨by rw [wh]; simp, some x, m, by simp, by simpa using hl, hm, fun h => by simp at h, fun hp => ?_⟩;have hn : 0 < n := by
   rw [wh] at hp; simp at hp; omega
  obtain ⟨b, off, spot⟩ := x;have DW : spot = none := by
   have h0 : w.cell? ((⟨b, off, spot⟩ : Addr).add (0 * 4 + 0)) = some (.int .u64 ((E 0).1.key : Int)) := ((hE 0 hn).1 0 (by omega)).trans rfl
   simpa [Addr.add] using World.cell?_spot h0
  subst DW;refine ⟨b, off, rfl, fun j u hj => ?_⟩;have hjl : j < n * 4 := by
   have := (List.getElem?_eq_some_iff.1 hj).1;rw [wh] at this
   simpa using this
  have hat := ux 4 vy (Jt, .slice none 0 0) ((List.range n).map E) (fun _ _ => rfl) (j / 4) (j % 4) (by simp; omega) (by omega);rw [show j / 4 * 4 + j % 4 = j by omega] at hat;have hg : ((List.range n).map E).getD (j / 4) (Jt, .slice none 0 0) = E (j / 4) := by
   rw [ax, b8, List.getElem?_range (by omega)]; rfl
  rw [hg] at hat;have hc := (hE (j / 4) (by omega)).1 (j % 4) (by omega);rw [show j / 4 * 4 + j % 4 = j by omega, yP] at hc;rw [hc, ← hat]; exact hj
 ·
  obtain ⟨i, hi, rfl⟩ := List.mem_map.1 he;exact (hE i (List.mem_range.1 hi)).2.2
 obtain ⟨i, hi, rfl⟩ := List.mem_map.1 he;exact (hE i (List.mem_range.1 hi)).2.1
end
theorem ud : Tryz.prog.cellsOf 3 = 1 := by kernel_rfl
section
variable {H : Type} {enc : TypeId × Value → H} {w : World}
structure zMU (g : Gn) : Prop where
 num : -9223372036854775808 ≤ g.num ∧ g.num ≤ 9223372036854775807
 rev : -9223372036854775808 ≤ g.rev ∧ g.rev ≤ 9223372036854775807
 mode : -9223372036854775808 ≤ g.mode ∧ g.mode ≤ 9223372036854775807
 size : -9223372036854775808 ≤ g.size ∧ g.size ≤ 9223372036854775807
 live : -9223372036854775808 ≤ g.m.live ∧ g.m.live ≤ 9223372036854775807
 dR : -9223372036854775808 ≤ g.m.dR ∧ g.m.dR ≤ 9223372036854775807
 its : ∀ i, i < 8 → ∀ x ∈ g.m.st i, x.Wf
end
end Go.Proofs.YtcgfilmmokmdjaaGreat
namespace Go.Proofs.YtcgfilmmokmdjaaGreat
open Go.RowKit Go.ChangeShapes Go.WideShapes Go.Deep
theorem zCK {H : Type} {enc : TypeId × Value → H} {w : World} {α : Type} (z : α) {t e : TypeId} {sz : Nat} (f : α → List Value) (Q : α → Prop) (hu : Tryz.prog.underlying t = some (.slice e)) (hc : Tryz.prog.cellsOf e = sz) (hf : ∀ x, (f x).length = sz) (hz : 0 < sz)
  (one : ∀ fuel cs x, DataW.trod enc Tryz.prog w 0 (fun _ => true) true fuel e cs = some x → ∃ y, cs = f y ∧ Q y)
  {a : Option Addr} {n cap : Nat} {d : DataW H} {p : List MemPlace} (h : DataW.Trod enc Tryz.prog w 0 (fun _ => true) true t (.slice a n cap) d p) :
  ∃ l : List α, iu sz f w (.slice a n cap) l ∧ ∀ x ∈ l, Q x := by
 obtain ⟨fuel, hfu⟩ := h;rcases open_slice hu hfu with ⟨hcs, _⟩ | ⟨x, len, cap', m, k, D, Pl, hcs, _, hl, hm, hmm, _, hx⟩
 ·
  simp [Value.cells] at hcs;obtain ⟨rfl, rfl, rfl⟩ := hcs;exact ⟨[], iu.nil sz f w, fun e he => by cases he⟩
 simp [Value.cells] at hcs;obtain ⟨rfl, rfl, rfl⟩ := hcs;simp only [if_true] at hmm;subst hmm;rw [hc] at hx
 haveI : Inhabited α := ⟨z⟩
 have each : ∀ i, i < n → ∃ y : α, (∀ j, j < sz → w.cell? (x.add (i * sz + j)) = (f y)[j]?) ∧ Q y := fun i hi => by
  obtain ⟨cs', h1, h2⟩ := hx i (by omega);obtain ⟨y, rfl, hy⟩ := one _ _ _ h2;obtain ⟨_, _, hc⟩ := World.cells?_some h1;exact ⟨y, fun j hj => by rw [← hc j hj, Go.Deep.add_add], hy⟩
 obtain ⟨E, hE⟩ := choose_lt each;have hfl := yS sz f ((List.range n).map E) (fun x _ => hf x);refine ⟨(List.range n).map E, ⟨fun x _ => hf x, ?_⟩, fun e he => ?_⟩
 ·
  rw [aI, List.length_range];rw [aI, List.length_range] at hfl;refine ⟨hfl, some x, m, by simp, by simpa using hl, hm, fun h => by simp at h, fun hp => ?_⟩;have hn : 0 < n := by
   rw [hfl] at hp; exact Nat.pos_of_mul_pos_right hp
  obtain ⟨b, off, spot⟩ := x;have DW : spot = none := by
   have h0 := (hE 0 hn).1 0 hz;rw [aB (by rw [hf]; exact hz)] at h0
   simpa [Addr.add] using World.cell?_spot h0
  subst DW;refine ⟨b, off, rfl, fun j u hj => ?_⟩;have hjl : j < n * sz := by
   have := (List.getElem?_eq_some_iff.1 hj).1;rw [hfl] at this;exact this
  have Uz : j / sz < n := (Nat.div_lt_iff_lt_mul hz).2 hjl;have hjm : j % sz < sz := Nat.mod_lt _ hz;have hat := ux sz f z ((List.range n).map E) (fun x _ => hf x) (j / sz) (j % sz) (by simpa using Uz) hjm;have hjj : j / sz * sz + j % sz = j := by rw [Nat.mul_comm]; exact Nat.div_add_mod j sz
  rw [hjj] at hat;have hg : ((List.range n).map E).getD (j / sz) z = E (j / sz) := by
   rw [ax, b8, List.getElem?_range Uz]; rfl
  rw [hg] at hat;have hc := (hE (j / sz) Uz).1 (j % sz) hjm;rw [hjj, yP] at hc;rw [hc, ← hat]; exact hj
 obtain ⟨i, hi, rfl⟩ := List.mem_map.1 he;exact (hE i (List.mem_range.1 hi)).2
end Go.Proofs.YtcgfilmmokmdjaaGreat
namespace Go.Proofs.YtcgfilmmokmdjaaGreat
open Go.RowKit Go.ChangeShapes Go.WideShapes Go.Deep
theorem zB9 : Tryz.prog.cellsOf 23 = 1 := by kernel_rfl
theorem zCr : Tryz.prog.cellsOf 87 = 1 := by kernel_rfl
structure SlQ where
 id : Int
 lim : Int
 ro : Bool
 a : Option Addr
 n : Nat
 c : Nat
 L : List GP
section
variable {H : Type} {enc : TypeId × Value → H} {w : World}
theorem zEg {fuel : Nat} {cs : List Value} {x : DataW H × List MemPlace} (h : DataW.trod enc Tryz.prog w 0 (fun _ => true) true fuel 23 cs = some x) : ∃ (v : Value) (l : List (Nd × Value)), cs = [v] ∧ mK w v l ∧ ∀ x ∈ l, x.1.Wf := by
 have key : ∀ a n c, cs = [.slice a n c] → ∃ (v : Value) (l : List (Nd × Value)), cs = [v] ∧ mK w v l ∧ ∀ x ∈ l, x.1.Wf := fun a n c e => by
  subst e;obtain ⟨l, h1, h2⟩ := zFy (a := a) (n := n) (cap := c) (d := x.1) (p := x.2) ⟨fuel, h⟩;exact ⟨_, l, rfl, h1, h2⟩
 rcases DataW.trod_slice Tryz.underlying23 h with ⟨e, _⟩ | ⟨a, len, cap, _, _, _, _, e, _⟩
 ·
  exact key _ _ _ e
 exact key _ _ _ e
theorem zFe {fuel : Nat} {cs : List Value} {x : DataW H × List MemPlace} (h : DataW.trod enc Tryz.prog w 0 (fun _ => true) true fuel 87 cs = some x) : ∃ (v : Value) (l : List Int), cs = [v] ∧ lU w v l := by
 rcases open_ints Tryz.underlying87 Tryz.underlying24 (by kernel_rfl) h with ⟨hcs, _⟩ | ⟨x, l, c, zs, hcs, _, hl, hm, hz, _, hcell, Uy⟩
 ·
  exact ⟨_, [], hcs, kJ (aV w 0 24 1)⟩
 obtain ⟨g1, g2⟩ := UE (k := .u64) (w := w) (a := some x) (len := l) (cap := c) (zs := zs) (.inr ⟨_, rfl, hl, hm, by simpa using hz, hcell, Uy⟩);exact ⟨_, zs.take l, hcs, by unfold lU ik; rw [g1]; exact g2⟩
end
end Go.Proofs.YtcgfilmmokmdjaaGreat
