/- A part of the walk. -/
import Derived.Test.YtcgfilmmokmdjaaGreatQAY
import Derived.Test.YtcgfilmmokmdjaaGreatSkb
import Derived.Test.YtcgfilmmokmdjaaGreatQAL
set_option maxRecDepth 100000
set_option maxHeartbeats 32000000
namespace Go.Proofs.YtcgfilmmokmdjaaGreat
open Go.RowKit
theorem fO.rd {W : World} {B : Nat} {v : Value} {es : List (Nd × Value)} (h : fO W B v es) : mK W v es := ⟨zr h.row, fun p hp => (h.dat p hp).rd⟩
theorem zG6 {K : Nat} {g : Gn} {m : Int} (h : ∀ i, i < 8 → (g.m.st i).length ≤ K) (i : Nat) (hi : i < 8) : ((xK g m).2.m.st i).length ≤ K := by
 unfold xK
 split
 ·
  split
  ·
   exact h i hi
  exact au _
 exact au _
theorem zLT {b : Nat} {v1 v2 V : World} (hs : v1.heap.size = b) (h : Below b v1 v2) (h2 : Below v2.heap.size v2 V) : Below b v1 V := h.trans (h2.mono (by rw [← hs]; exact h.size))
def AcB (W : World) (b : Nat) (kind : Int) (l : Value) (g : Int) (k : Value) : Prop := dQ W b #[.int .i64 kind, l, .int .i64 g, k] 141
theorem zGl (v : Value) (ac : List nE) (w : World) (h : Dv w v ac) : Calls Tryz.prog 20 #[v] w (SlR w (Ja ac)) := by
 obtain ⟨va, vc, rfl, ry, oG⟩ := h.shape;have HA := zh h;have D_ := zh (fun k (hk : k ≤ ac.length) => tF ac k hk);have Ib := zh (fun k (hk : k < ac.length) => ke ac k hk)
 have Fl := zh (show ∀ k, (k = 8 ∨ (k = ac.length ∧ k ≤ 8)) → Ja ac = wE B9 (ac.take k) from fun k hk => by
  unfold Ja
  rcases hk with rfl | ⟨rfl, hk⟩
  ·
   rfl
  rw [aS hk, aS (ai _)])
 have hcap : ac.length ≤ 9223372036854775807 := ak ry oG;have DC := zh (fun W => zGr 1 9000 (by decide) W);clear h ry oG;generalize hn : ac.length = n at *;clear hn
 go_enter Tryz.func20, Tryz.ntmps20
 go_upto_region 1 with fail;change Code.wp _ _ _ _ (w.alloc (.cells (zK 0 0 false none 0 0) 31));have HZ := zh (dQ.new w (zK 0 0 false none 0 0) 31);have HB := zh (zN w 0 0 false none 0 0 31);generalize w.alloc (.cells (zK 0 0 false none 0 0) 31) = w0 at *;go_wp2_with fail;refine (DC.out w0).mono ?_;rintro e w1 ⟨b, rfl, jN, hg, hb⟩;have HR := zh (Og hg);replace HZ := zh (HZ.out.below hb);replace HB := zh (zA HB.out hb);clear hg hb jN DC;have hbS := HZ.out.lt;go_upto_region 2 with fail;change Code.wp _ _ _ _ (w1.alloc (.cells (zK 1 9000 false (some ⟨b, 0, none⟩) 1 1) 31));have eD := zN w1 1 9000 false (some ⟨b, 0, none⟩) 1 1 31;have HS := zh (dQ.new w1 (zK 1 9000 false (some ⟨b, 0, none⟩) 1 1) 31);replace HZ := zh (HZ.out.below eD);replace HB := zh (zA HB.out eD);replace HR := zh (HR.out.below eD);clear eD;generalize w1.alloc (.cells (zK 1 9000 false (some ⟨b, 0, none⟩) 1 1) 31) = w2 at *
 generalize w1.heap.size = bS at *;go_wp2_with fail
 go_loopw [5] (fun iv V => ∃ (k : Nat) (a : Option Addr) (m c : Nat) (L : List GP), iv = .int .i64 (k : Int) ∧ k ≤ n ∧ k ≤ 8 ∧ Hid (dQ V bS (zK 1 9000 false a m c) 31) ∧ Hid (fl V (.slice a m c) L) ∧ Hid (dV L = (wE B9 (ac.take k)).dP) ∧ Hid (dQ V w.heap.size (zK 0 0 false none 0 0) 31) ∧ Hid (Below w.heap.size w V)) (fun iv _ => n - (intOf iv).toNat)
 case atStart => exact ⟨0, _, _, _, B7, rfl, au _, au _, HS, HR, zh rfl, HZ, HB⟩
 clear HS HR HZ HB;obtain ⟨k, a, m, c, L, rfl, hk, jJ, HS, HR, HE, HZ, HB⟩ := eT
 by_cases hlt : k < n
 ·
  have i1 : (k : Int) < (n : Int) := by omega
  by_cases akt : k < 8
  ·
   have i2 : (k : Int) < 8 := by omega
   obtain ⟨bq, oq, rfl, c0, c1, c2, c3, hN, hWf, hU⟩ := (HA.out.below HB.out).at hlt;have HI := D_.out k hk;have hst := Ib.out k hlt;unfold TX at hst;generalize kB ac k = x at *;obtain ⟨kind, lv, nl, gen, kv, keys⟩ := x;dsimp only at *;obtain ⟨la, lc, rfl, pN, GG⟩ := hN.shape;obtain ⟨ka, kc, rfl, pJ, hk2⟩ := hU.gq;have Aa := zh (fun W (hb : Below wr.heap.size wr W) => zE3 (.slice la nl.length lc) nl 6 W (hN.below hb) (by decide));have HU := zh hU;have SC := TW 6 (nl.map (·.1));have hsd := zEh 6 (nl.map (·.1));clear hN hWf hU pN GG;generalize nl.map (·.1) = ND at *;generalize nl.length = nn at *;obtain ⟨hIv, Gl, r_, Gm, hIn, hIz⟩ := HI;generalize wE B9 (ac.take k) = sk at *;have jS := zh (D_.out (k + 1) (by omega));generalize Nf : wE B9 (ac.take (k + 1)) = Ki at *;have Je := zh Nf;clear Nf;obtain ⟨T6, Jf, T7, sg⟩ := sk;dsimp only at Gl r_ Gm hIn hIz HE;subst Gl r_ Gm
   obtain rfl : sg = dV L := HE.out.symm;have jI := zh hst;clear hst HE;have hlen := hIv.len;have T8 : L.length = m := by
    obtain ⟨_, _, e, _⟩ := HR.out.shape;injection e with _ e _; exact e.symm
   dsimp only at hlen;rw [zj, T8] at hlen;obtain ⟨j, rfl⟩ : ∃ j, m = j + 1 := ⟨m - 1, by omega⟩
   have hj7 : j ≤ 7 := by omega
   have BI := zh (show ∀ p ∈ L, ∀ i, i < 8 → (p.1.m.st i).length ≤ 48 from fun p hp i hi => ak (hIn p.1 (cV hp) i hi) (by omega));have Ng := zh T8;clear hIv hIn hIz hlen T8;go_upto_region 6 with fail;clear c0 c1 c2 c3;change Code.wp _ _ _ _ (wr.alloc (.cells #[.int .i64 kind, .slice la nn lc, .int .i64 gen, .slice ka keys.length kc] 141));have eD := (aj wr.heap.size wr).alloc (ai _) (.cells #[.int .i64 kind, .slice la nn lc, .int .i64 gen, .slice ka keys.length kc] 141);have Eu := zh (show AcB (wr.alloc (.cells #[.int .i64 kind, .slice la nn lc, .int .i64 gen, .slice ka keys.length kc] 141)) wr.heap.size kind (.slice la nn lc) gen (.slice ka keys.length kc) from dQ.new _ _ _);replace HS := zh (HS.out.below eD);replace HR := zh (HR.out.below eD);replace HZ := zh (HZ.out.below eD);replace HB := zh (zA HB.out eD);replace HU := zh (ik.below HU.out eD)
   replace Aa := zh (fun W (hb : Below _ _ W) => Aa.out W (zA eD hb));clear eD;generalize wr.alloc (.cells #[.int .i64 kind, .slice la nn lc, .int .i64 gen, .slice ka keys.length kc] 141) = v0 at *;generalize wr.heap.size = bA at *;have hlp : 0 < j + 1 := by omega
   obtain ⟨t, kk, e1, e2, e3, e4, e5, e6, e7⟩ := zKW gen (j + 1) hlp;simp only [cT, Int.natCast_one] at e1 e2 e3 e4 e5;have q2 := zB (show v0.cell? ⟨bA, 2, none⟩ = some (.int .i64 gen) from dQ.cell Eu.out rfl);have k3 := zB (dQ.gX HS.out).c3;refine zC (by kernel_rfl) (by kernel_rfl) ?_
   repeat (go_big_quiet_step (fail))
   refine aC ?_;intro _ dY;obtain ⟨q, dY⟩ := dY;subst dY;replace HS := zh (HS.out.below q.h);replace HR := zh (HR.out.below q.h);replace HZ := zh (HZ.out.below q.h);replace HB := zh (zA HB.out q.h);replace HU := zh (ik.below HU.out q.h);replace Eu := zh (show AcB q.w' bA kind (.slice la nn lc) gen (.slice ka keys.length kc) from dQ.below Eu.out q.h);replace Aa := zh (fun W (hb : Below _ _ W) => Aa.out W (zA q.h hb));clear q2 k3;generalize q.w' = v1 at *;clear q e1 e2 e3 e4 e5;have fR := yd (l := L) (i := kk) (by have := Ng.out; omega);have l8 := zh (HR.out.m _ fR);have Bw := zh (BI.out _ fR);obtain ⟨bg, og, rfl, _⟩ := HR.out.at e6;have HG := zh (HR.out.LI e6);have Gq := zh (show eH (dV L) (gen % ((dV L).length : Int)).toNat = (pat L kk).1 from by rw [zj, Ng.out]; simp only [cT, Int.natCast_one]; rw [show gen % ((j : Int) + 1) = (kk : Int) from by simpa using e7, Int.toNat_natCast, yu])
   clear fR e7;generalize pat L kk = p at *;obtain ⟨⟨num, rev, md, sz, ⟨fs, LV, GA⟩⟩, s⟩ := p;dsimp only at l8 Bw Gq;have k3 := (dQ.gX HS.out).c3;have i3 : (kk : Int) < (j : Int) + 1 := by omega
   have i4 : (kk : Int) < ((j + 1 : Nat) : Int) := by omega
   obtain ⟨g0, g1, g2, g3, g4, g5, g6, g7, g8, g9, g10, g11, g12, g13⟩ := HG.out.q;dsimp only at g0 g1 g2 g3 g4 g5 g6 g7 g8 g9 g10 g11 g12 g13;go_upto_region 7 with fail
   go_cut [8, 9] (fun vb ve wx => vb = .pointer (some ⟨v1.heap.size, 0, none⟩) ∧ ve = .int .i64 1 ∧ wx = v1.alloc (.cells (zW num rev md sz s LV GA) 113))
   case first =>
    go_wp2_with fail;go_meet
    case rel => exact ⟨rfl, rfl, rfl⟩
   case rest =>
   clear k3;clear g0 g1 g2 g3 g4 g5 g6 g7 g8 g9 g10 g11 g12 g13;obtain ⟨rfl, rfl, rfl⟩ := fZ
   have eN := zh (zQ v1 num rev md sz s LV GA 113);have XG := zh (dQ.new v1 (zW num rev md sz s LV GA) 113);have CW := zh (l8.out.below eN.out);generalize v1.alloc (.cells (zW num rev md sz s LV GA) 113) = v2 at *;generalize MV : v1.heap.size = bG at *;have mU := zh (fun V (h : Below bG v1 V) => show Below v1.heap.size v1 V from MV ▸ h);have Al := zh (fun V (h : Below v2.heap.size v2 V) => show Below bG v1 V from zLT MV eN.out h);have hSG : bS < bG := by rw [← MV]; exact HS.out.lt
   clear MV;have iM := zh (show ∀ p ∈ L, ∀ j, j < 8 → (p.1.m.st j).length ≤ 10000 from fun p hp i hi => ak (BI.out p hp i hi) (by decide));go_step;go_step
   go_cut [9] (fun ve wx => ∃ (er an ar am az aL aG : Int) (sG : Sl) (af : Nat → List It) (a' : Option Addr) (m' c' : Nat) (L' : List GP), ve = .int .i64 er ∧ Hid (dQ wx bG (zW an ar am az sG aL aG) 113) ∧ Hid (fp wx sG af) ∧ Hid (∀ i, i < 8 → (af i).length ≤ 10000) ∧ Hid (dQ wx bS (zK 1 9000 false a' m' c') 31) ∧ Hid (fl wx (.slice a' m' c') L') ∧ Hid (∀ p ∈ L', ∀ j, j < 8 → (p.1.m.st j).length ≤ 10000) ∧ Hid (Ki.dP = (vV ⟨1, 9000, false, dV L'⟩ (er, ⟨an, ar, am, az, ⟨af, aL, aG⟩⟩)).dP) ∧ Hid (dQ wx w.heap.size (zK 0 0 false none 0 0) 31) ∧ Hid (Below w.heap.size w wx))
   case first =>
    have q0 : v2.cell? ⟨bA, 0, none⟩ = some (.int .i64 kind) := dQ.cell (dQ.below Eu.out (mU.out _ eN.out)) rfl;obtain ⟨kd, JB, Nh⟩ : ∃ kd, bits .and .i64 kind 7 = kd ∧ 0 ≤ kd ∧ kd < 8 := ⟨_, rfl, by rw [XK]; omega⟩
    rw [← XK kind, JB] at jI;have nw := zh Nh;clear Nh;go_upto_if 55 with fail;clear JB q0
    go_cut [55] (fun v wx => v = .bool (decide (kd < 4)) ∧ wx = v2)
    case first =>
     rcases (show kd = 0 ∨ kd = 1 ∨ kd = 2 ∨ kd = 3 ∨ (4 ≤ kd ∧ kd < 8) from by have := nw.out; omega) with rfl | rfl | rfl | rfl | ⟨h4, h8⟩
     ·
      go_wp2_with fail;go_meet
      case rel => exact ⟨rfl, rfl⟩
     ·
      go_wp2_with fail;go_meet
      case rel => exact ⟨rfl, rfl⟩
     ·
      go_wp2_with fail;go_meet
      case rel => exact ⟨rfl, rfl⟩
     ·
      go_wp2_with fail;go_meet
      case rel => exact ⟨rfl, rfl⟩
     have e0 : (kd == 0) = false := beq_eq_false_iff_ne.2 (by omega);have e1 : (kd == 1) = false := beq_eq_false_iff_ne.2 (by omega);have e2 : (kd == 2) = false := beq_eq_false_iff_ne.2 (by omega);have e3 : (kd == 3) = false := beq_eq_false_iff_ne.2 (by omega);have e4 : decide (kd < 4) = false := aD (by omega);go_wp2_with fail;go_meet
     case rel => exact ⟨by rw [e4], rfl⟩
    obtain ⟨rfl, y_⟩ := fZ;generalize wc = w5 at *;replace y_ := y_.symm;subst y_
    by_cases h4 : kd < 4
    ·
     have Ni : decide (kd < 4) = true := aF h4;rw [Ni]
     have FW := zh (jI.out.trans (show uo ⟨1, 9000, false, dV L⟩ kd ND gen keys = vV ⟨1, 9000, false, dV L⟩ (yt (zS ⟨1, 9000, false, dV L⟩) (CV 6 ND)) from by
      unfold uo; rw [ah (by omega), ah (by omega), ah (by omega)]))
     clear Ni h4 nw jI;go_upto_region 13 with fail;have T9 := yd (l := L) (i := j) (by have := Ng.out; omega);have sI := zh (HR.out.m _ T9);have C6 := zh (BI.out _ T9);have iE := zh (HR.out.LI (show j < j + 1 by omega));have jR := zh (show Ki = vV ⟨1, 9000, false, dV L⟩ (yt (pat L j).1 (CV 6 ND)) from by rw [← vP (i := 1) (l := 9000) (r := false) Ng.out]; exact FW.out);clear T9 FW Gq l8 Bw HG CW HU;generalize pat L j = p at *;obtain ⟨⟨n2, r2, m2, z2, ⟨f2, L2, G2⟩⟩, s2⟩ := p;dsimp only at sI C6 jR;generalize CV 6 ND = SN at *
     have oJ := zh (show ∀ lv es W, Below v2.heap.size v2 W → mK W lv es → es.map (·.1) = SN → Calls Tryz.prog 43 #[za n2 r2 m2 z2 s2 L2 G2, lv] W fun e w' => (∃ s', e = .returned (.tuple #[za (yt ⟨n2, r2, m2, z2, ⟨f2, L2, G2⟩⟩ SN).2.num (yt ⟨n2, r2, m2, z2, ⟨f2, L2, G2⟩⟩ SN).2.rev (yt ⟨n2, r2, m2, z2, ⟨f2, L2, G2⟩⟩ SN).2.mode (yt ⟨n2, r2, m2, z2, ⟨f2, L2, G2⟩⟩ SN).2.size s' (yt ⟨n2, r2, m2, z2, ⟨f2, L2, G2⟩⟩ SN).2.m.live (yt ⟨n2, r2, m2, z2, ⟨f2, L2, G2⟩⟩ SN).2.m.dR, .int .i64 (yt ⟨n2, r2, m2, z2, ⟨f2, L2, G2⟩⟩ SN).1]) ∧ fp w' s' (yt ⟨n2, r2, m2, z2, ⟨f2, L2, G2⟩⟩ SN).2.m.st) ∧ Below W.heap.size W w' from fun lv es W hb h2 h3 => by
      have dW : Below v1.heap.size v1 W := mU.out _ (Al.out _ hb)
      have hle : es.length ≤ 6 := by have := aT List.length h3; rw [aI] at this; omega
      have h9 := zIp ⟨n2, r2, m2, z2, ⟨f2, L2, G2⟩⟩ s2 lv es 48 W (sI.out.below dW) C6.out h2 (by omega) (fun p hp => by have := hsd p.1 (h3 ▸ cV hp); omega)
      rw [h3] at h9
      exact h9.mono fun e w' hq => ⟨hq.1.imp fun s' hs' => ⟨hs'.1, hs'.2.rd (sI.out.below dW) hq.2⟩, hq.2⟩)
     have CX := zh (show ∀ i, i < 8 → ((yt ⟨n2, r2, m2, z2, ⟨f2, L2, G2⟩⟩ SN).2.m.st i).length ≤ 10000 from fun i hi => ak (zH9 (K := 48) ⟨n2, r2, m2, z2, ⟨f2, L2, G2⟩⟩ SN C6.out i hi) (by omega));clear sI C6 hsd;generalize yt ⟨n2, r2, m2, z2, ⟨f2, L2, G2⟩⟩ SN = TG at *;obtain ⟨er, ⟨an, ar, am, az, ⟨af, aL, aG⟩⟩⟩ := TG;dsimp only at oJ CX jR;have j3 : IntKind.i64.wrap (j : Int) = (j : Int) := aH _ (by omega);have j5 : (j : Int) < ((j + 1 : Nat) : Int) := by omega
     refine xJ [eP (.pointer (some ⟨bS, 3, none⟩)), eP (.slice (some ⟨bg, og, none⟩) (j + 1) c), eP (.pointer (some ⟨bS, 3, none⟩)), eP (.slice (some ⟨bg, og, none⟩) (j + 1) c), eP (.int .i64 ((j : Int) + 1)), eP (.int .i64 (j : Int)), eP (.pointer (some ⟨bg, og + j * 14, none⟩)), eP (za n2 r2 m2 z2 s2 L2 G2), eP (.pointer (some ⟨bA, 1, none⟩)), eP (.slice la nn lc), zLv SN, YA er an ar am az af aL aG, YA er an ar am az af aL aG, zL3 an ar am az af aL aG, eP (.int .i64 er)] [] 122 14 (by kernel_rfl) (by kernel_rfl) rfl rfl (by decide) (by rfl) (by kernel_rfl) (fun f => by simp [fq, zX, Act.put]; exact rfl) ?_ ?_ ?_
     ·
      refine ⟨?_, ?_, ?_, ?_, ?_, ?_, ?_, ?_, ?_, ?_, ?_, ?_, ?_, ?_, ?_, trivial⟩
      ·
       intro f w1 hb hd;clear hd;dsimp only;go_wp2_with fail;exact pS rfl (by simp)
      ·
       intro f w1 hb hd;have d0 : f 0 = (.pointer (some ⟨bS, 3, none⟩)) := hd 0 (by kernel_rfl);clear hd;dsimp only;rw [d0];have dW := mU.out _ (Al.out _ hb);have q3 := (dQ.gX (HS.out.below dW)).c3;go_wp2_with fail;exact pS rfl (by simp)
      ·
       intro f w1 hb hd;clear hd;dsimp only;go_wp2_with fail;exact pS rfl (by simp)
      ·
       intro f w1 hb hd;have d2 : f 2 = (.pointer (some ⟨bS, 3, none⟩)) := hd 2 (by kernel_rfl);clear hd;dsimp only;rw [d2];have dW := mU.out _ (Al.out _ hb);have q3 := (dQ.gX (HS.out.below dW)).c3;go_wp2_with fail;exact pS rfl (by simp)
      ·
       intro f w1 hb hd;have d3 : f 3 = (.slice (some ⟨bg, og, none⟩) (j + 1) c) := hd 3 (by kernel_rfl);clear hd;dsimp only;rw [d3];go_wp2_with fail;exact pS rfl (by simp)
      ·
       intro f w1 hb hd;have d4 : f 4 = (.int .i64 ((j : Int) + 1)) := hd 4 (by kernel_rfl);clear hd;dsimp only;rw [d4];go_wp2_with fail;exact pS rfl (by simp)
      ·
       intro f w1 hb hd;have d1 : f 1 = (.slice (some ⟨bg, og, none⟩) (j + 1) c) := hd 1 (by kernel_rfl);have d5 : f 5 = (.int .i64 (j : Int)) := hd 5 (by kernel_rfl);clear hd;dsimp only;rw [d1];rw [d5];go_wp2_with fail;exact pS rfl (by simp)
      ·
       intro f w1 hb hd;have d6 : f 6 = (.pointer (some ⟨bg, og + j * 14, none⟩)) := hd 6 (by kernel_rfl);clear hd;dsimp only;rw [d6];have dW := mU.out _ (Al.out _ hb);have zo := iE.out.below dW;obtain ⟨q0, q1, q2, q3, q4, q5, q6, q7, q8, q9, AY, AZ, A0, A1⟩ := zo.q;clear zo;dsimp only at q0 q1 q2 q3 q4 q5 q6 q7 q8 q9 AY AZ A0 A1;go_wp2_with fail;exact pS rfl (by simp)
      ·
       intro f w1 hb hd;clear hd;dsimp only;go_wp2_with fail;exact pS rfl (by simp)
      ·
       intro f w1 hb hd;have d8 : f 8 = (.pointer (some ⟨bA, 1, none⟩)) := hd 8 (by kernel_rfl);clear hd;dsimp only;rw [d8];have dW := mU.out _ (Al.out _ hb);have q1 : w1.cell? ⟨bA, 1, none⟩ = some (.slice la nn lc) := dQ.cell (dQ.below Eu.out dW) rfl;go_wp2_with fail;exact pS rfl (by simp)
      ·
       intro f w1 hb hd;have d9 : f 9 = (.slice la nn lc) := hd 9 (by kernel_rfl);clear hd;dsimp only;rw [d9];go_wp2_with fail;refine (Aa.out w1 (Al.out _ hb)).mono ?_;rintro e w9 ⟨qv, es, rfl, AQ, J_, fP⟩;obtain ⟨qa, qc, rfl, _⟩ := AQ.rd.shape;go_wp2_with fail;exact ⟨rfl, fP, fun t ht => by injection ht with ht; subst ht; exact ⟨⟨qa, es.length, qc, es, rfl, AQ.rd, J_⟩, fun h => by simp at h⟩⟩
      ·
       intro f w1 hb hd;have d7 : f 7 = (za n2 r2 m2 z2 s2 L2 G2) := hd 7 (by kernel_rfl);obtain ⟨LS, n10, ZC, rH, d10, lK, m10⟩ := show ∃ a n c es, f 10 = .slice a n c ∧ mK w1 (.slice a n c) es ∧ es.map (·.1) = SN from hd 10 (by kernel_rfl);clear hd;dsimp only;rw [d7];rw [d10];go_wp2_with fail;refine (oJ.out _ rH w1 hb lK m10).mono ?_;rintro e w9 ⟨⟨s9, rfl, AQ⟩, fP⟩;go_wp2_with fail;exact ⟨rfl, fP, fun t ht => by injection ht with ht; subst ht; exact ⟨⟨s9, rfl, AQ⟩, fun h => by simp at h⟩⟩
      ·
       intro f w1 hb hd;obtain ⟨s11, d11, lq⟩ := show ∃ s, f 11 = .tuple #[za an ar am az s aL aG, .int .i64 er] ∧ fp w1 s af from hd 11 (by kernel_rfl);clear hd;dsimp only;rw [d11];go_wp2_with fail;exact ⟨rfl, aj _ _, fun t ht => by injection ht with ht; subst ht; exact ⟨⟨s11, rfl, lq⟩, fun h => by simp at h⟩⟩
      ·
       intro f w1 hb hd;obtain ⟨RD, d12, l6⟩ := show ∃ s, f 12 = .tuple #[za an ar am az s aL aG, .int .i64 er] ∧ fp w1 s af from hd 12 (by kernel_rfl);clear hd;dsimp only;rw [d12];go_wp2_with fail;exact ⟨rfl, aj _ _, fun t ht => by injection ht with ht; subst ht; exact ⟨⟨RD, rfl, l6⟩, fun h => by simp at h⟩⟩
      intro f w1 hb hd;obtain ⟨RD, d12, l6⟩ := show ∃ s, f 12 = .tuple #[za an ar am az s aL aG, .int .i64 er] ∧ fp w1 s af from hd 12 (by kernel_rfl);clear hd;dsimp only;rw [d12];go_wp2_with fail;exact pS rfl (by simp)
     ·
      intro f w5 hb hd jc;clear jc;obtain ⟨sb, d5, r5⟩ := show ∃ s, f 13 = za an ar am az s aL aG ∧ fp w5 s af from hd 13 (show 13 < 15 by decide);have d6 : f 14 = .int .i64 er := hd 14 (show 14 < 15 by decide)
      try dsimp only
      rw [d5, d6];clear hd d5 d6;have Fu := zh (dQ.below XG.out hb);have r5 := zh r5;generalize f 0 = Ai, f 1 = sX, f 2 = sY, f 3 = sZ, f 4 = s6, f 5 = s_, f 6 = Aj, f 7 = CO, f 8 = J5, f 9 = El, f 10 = t_, f 11 = Mn, f 12 = akw;clear f;have jg := zh (mU.out _ (zD (B := bG) (b := bG) (ai _) (zL an ar am az sb aL aG) (Al.out _ hb)));have Jg := zh (dQ.nh Fu.out an ar am az sb aL aG);have jV := zh (fp.gen r5.out Fu.out (zL an ar am az sb aL aG));have xf := (dQ.gen Fu.out).f;obtain ⟨x0, x1, x2, x3, x4, x5, x6, x7, x8, x9, fI, fJ, fG, fH⟩ := (dQ.gen Fu.out).q;clear hb;change wpList _ _ _ (_ :: _ :: []) _ _;go_wp2_with fail;go_meet
      case rel => exact ⟨er, an, ar, am, az, aL, aG, sb, af, _, _, _, L, rfl, Jg, jV, CX, HS.out.below jg.out |> zh, zh (HR.out.below jg.out), iM, zh (by rw [jR.out]), zh (HZ.out.below jg.out), zh (zA HB.out jg.out)⟩
     intro f w5 hb hd jc;clear jc;obtain ⟨sb, d5, r5⟩ := show ∃ s, f 13 = za an ar am az s aL aG ∧ fp w5 s af from hd 13 (show 13 < 15 by decide) (show 13 ≠ 14 by decide);obtain ⟨s4, d4, r4⟩ := show ∃ s, f 12 = .tuple #[za an ar am az s aL aG, .int .i64 er] ∧ fp w5 s af from hd 12 (show 12 < 15 by decide) (show 12 ≠ 14 by decide);clear r4
     try dsimp only
     rw [d4, d5];clear hd d4 d5;have Fu := zh (dQ.below XG.out hb);have r5 := zh r5;generalize f 0 = Ai, f 1 = sX, f 2 = sY, f 3 = sZ, f 4 = s6, f 5 = s_, f 6 = Aj, f 7 = CO, f 8 = J5, f 9 = El, f 10 = t_, f 11 = Mn, f 14 = Mq;clear f;have jg := zh (mU.out _ (zD (B := bG) (b := bG) (ai _) (zL an ar am az sb aL aG) (Al.out _ hb)));have Jg := zh (dQ.nh Fu.out an ar am az sb aL aG);have jV := zh (fp.gen r5.out Fu.out (zL an ar am az sb aL aG));have xf := (dQ.gen Fu.out).f;obtain ⟨x0, x1, x2, x3, x4, x5, x6, x7, x8, x9, fI, fJ, fG, fH⟩ := (dQ.gen Fu.out).q;clear hb;change wpList _ _ _ (_ :: _ :: _ :: []) _ _;go_wp2_with fail;go_meet
     case rel => exact ⟨er, an, ar, am, az, aL, aG, sb, af, _, _, _, L, rfl, Jg, jV, CX, HS.out.below jg.out |> zh, zh (HR.out.below jg.out), iM, zh (by rw [jR.out]), zh (HZ.out.below jg.out), zh (zA HB.out jg.out)⟩
    have Ni : decide (kd < 4) = false := aD h4;rw [Ni];clear Ni;rcases (show (kd = 4 ∨ kd = 5) ∨ kd = 6 ∨ kd = 7 from by have := nw.out; omega) with h45 | rfl | rfl
    ·
     clear h4 nw;go_upto_if 75 with fail
     go_cut [75] (fun v wx => v = .bool true ∧ wx = v2)
     case first =>
      rcases h45 with rfl | rfl
      ·
       go_wp2_with fail;go_meet
       case rel => exact ⟨rfl, rfl⟩
      go_wp2_with fail;go_meet
      case rel => exact ⟨rfl, rfl⟩
     obtain ⟨rfl, y_⟩ := fZ;generalize wc = w5 at *;replace y_ := y_.symm;subst y_
     as_aux_lemma =>
     have L9 := zh (show ∀ i, i < 8 → (fs i).length ≤ 10000 from fun i hi => ak (Bw.out i hi) (by decide));have gp := zh (HS.out.below (mU.out _ eN.out));have Ak := zh (zEl 1 9000 false (some ⟨bg, og, none⟩) (j + 1) c L v2 (HR.out.below (mU.out _ eN.out)) iM.out);have pQ := zh (fun h => XR (s := ⟨1, 9000, false, dV L⟩) h);have su := zh (jI.out.trans (show uo ⟨1, 9000, false, dV L⟩ kd ND gen keys = if (xO ⟨1, 9000, false, dV L⟩).2 = 0 then (xO ⟨1, 9000, false, dV L⟩).1 else ⟨1, 9000, false, dV L⟩ from by unfold uo; rw [ag h45]));clear Aa HU Eu HG jI Gq l8 Bw;generalize xO ⟨1, 9000, false, dV L⟩ = CS at *;obtain ⟨⟨DU, oC, DV, cg⟩, fe⟩ := CS;obtain ⟨k0, k1, k2, k3⟩ := (dQ.gX gp.out).q;go_wp2_with fail;refine Ak.out.mono ?_;rintro e w9 ⟨⟨xa, xn, xc, xL, rfl, DM, oB⟩, hb⟩;dsimp only at oB pQ su ⊢;clear k0 k1 k2 k3 gp;have fP := mU.out _ (Al.out _ hb);replace HS := zh (HS.out.below fP)
     replace HR := zh (HR.out.below fP);replace HZ := zh (HZ.out.below fP);replace HB := zh (zA HB.out fP);replace XG := zh (dQ.below XG.out hb);replace CW := zh (CW.out.below hb);have lj := zh DM;have iC := zh oB;clear DM oB hb fP Ak;go_upto_region 17 with fail;change Code.wp _ _ _ _ (w9.alloc (.cells (zK DU oC DV xa xn xc) 31));have eD := zN w9 DU oC DV xa xn xc 31;have HX := zh (dQ.new w9 (zK DU oC DV xa xn xc) 31);replace lj := zh (lj.out.below eD);replace XG := zh (dQ.below XG.out eD);replace CW := zh (CW.out.below eD);replace HS := zh (HS.out.below eD);replace HR := zh (HR.out.below eD);replace HZ := zh (HZ.out.below eD);replace HB := zh (zA HB.out eD);clear eD;generalize w9.alloc (.cells (zK DU oC DV xa xn xc) 31) = IW at *;generalize w9.heap.size = bX at *
     by_cases CJ : fe = 0
     ·
      subst CJ;obtain ⟨rfl, rfl, rfl⟩ : DU = 1 ∧ oC = 9000 ∧ DV = false := by
       have h9 := pQ.out rfl;injection h9 with h1 h2 h3 h4;exact ⟨h1, h2, h3⟩
      obtain ⟨z0, z1, z2, z3⟩ := (dQ.gX HX.out).q;obtain ⟨y0, y1, y2, y3⟩ := (dQ.gX HS.out).q;have yf := (dQ.gX HS.out).f;have Jh := zh (dQ.rN HS.out 1 9000 false xa xn xc);have jP := zh (fl.gX lj.out HS.out (zJ 1 9000 false xa xn xc));have T_ := zh (dQ.ek (c := bS) (by omega) (zJ 1 9000 false xa xn xc) HZ.out);have jW := zh (dQ.ek (c := bS) (by omega) (zJ 1 9000 false xa xn xc) XG.out);have Mb := zh (fp.gX CW.out HS.out (zJ 1 9000 false xa xn xc));have gI := zh (zD (B := w.heap.size) (b := bS) (by omega) (zJ 1 9000 false xa xn xc) HB.out);have jR := zh (show Ki.dP = dV xL from by rw [su.out, ag rfl]; exact iC.out.symm);have NW := zh (show ∀ p ∈ xL, ∀ j, j < 8 → (p.1.m.st j).length ≤ 10000 from fun p hp i hi => ak (jS.out.len _ (by rw [jR.out]; exact cV hp) i hi) (by omega));go_wp2_with fail;go_meet
      case rel => exact ⟨1, num, rev, md, sz, LV, GA, s, fs, xa, xn, xc, xL, rfl, jW, Mb, L9, Jh, jP, NW, zh (by rw [jR.out]; rfl), T_, gI⟩
     have hz : (fe == 0) = false := beq_eq_false_iff_ne.2 CJ;have jR := zh (show Ki.dP = dV L from by rw [su.out, ah CJ]);go_wp2_with fail;go_meet
     case rel => exact ⟨1, num, rev, md, sz, LV, GA, s, fs, _, _, _, L, rfl, XG, CW, L9, HS, HR, iM, zh (by rw [jR.out]; rfl), HZ, HB⟩
    ·
     clear h4 nw
     have jR := zh (show Ki = vV ⟨1, 9000, false, dV L⟩ (ye ⟨num, rev, md, sz, ⟨fs, LV, GA⟩⟩ (keys.take 8)) from by
      rw [jI.out]; unfold uo; rw [ah (by decide), ag rfl]; dsimp only; rw [Gq.out])
     clear jI Gq Aa HG l8;have q3 : v2.cell? ⟨bA, 3, none⟩ = some (.slice ka keys.length kc) := dQ.cell (dQ.below Eu.out (mU.out _ eN.out)) rfl;replace HU := zh (ik.below HU.out (mU.out _ eN.out));go_upto_if 92 with fail
     go_cut [12] (fun kv wx => (∃ m', kv = .slice ka m' kc ∧ Hid (lU v2 (.slice ka m' kc) (keys.take 8))) ∧ wx = v2)
     case first =>
      by_cases jJ : 8 < keys.length
      ·
       have hd : decide ((8 : Int) < (keys.length : Int)) = true := by simp; omega
       obtain ⟨bk, ok, rfl, _⟩ := lU.at HU.out (show 0 < keys.length by omega);have Dd := yq (P := Tryz.prog) YJ (a := some ⟨bk, ok, none⟩) (n := keys.length) (cap := kc) (fun x hx => ⟨bk, ok, by injection hx with hx; exact hx.symm⟩) 8 (by omega);rw [show ((8 : Nat) : Int) = 8 from rfl] at Dd;have HT := zh (show lU v2 (.slice (some ⟨bk, ok, none⟩) 8 kc) (keys.take 8) from ik.take HU.out 8 (by omega));go_wp2_with fail;go_meet
       case rel => exact ⟨⟨_, rfl, HT⟩, rfl⟩
      have hd : decide ((8 : Int) < (keys.length : Int)) = false := by simp; omega
      have HT := zh (show lU v2 (.slice ka keys.length kc) (keys.take 8) from by rw [aS (by omega)]; exact HU.out);go_wp2_with fail;go_meet
      case rel => exact ⟨⟨_, rfl, HT⟩, rfl⟩
     obtain ⟨⟨m', rfl, HT⟩, y_⟩ := fZ;generalize wc = w5 at *;replace y_ := y_.symm;subst y_;clear q3 Eu HU;have Ck := zh (zHy ⟨num, rev, md, sz, ⟨fs, LV, GA⟩⟩ s (.slice ka m' kc) (keys.take 8) v2 CW.out (fun i hi => ak (Bw.out i hi) (by decide)) HT.out (by rw [ay]; omega));have CX := zh (show ∀ i, i < 8 → ((ye ⟨num, rev, md, sz, ⟨fs, LV, GA⟩⟩ (keys.take 8)).2.m.st i).length ≤ 10000 from fun i hi => ak (zGz (K := 48) ⟨num, rev, md, sz, ⟨fs, LV, GA⟩⟩ _ Bw.out i hi) (by decide));dsimp only at Ck;generalize ye ⟨num, rev, md, sz, ⟨fs, LV, GA⟩⟩ (keys.take 8) = TG at *;obtain ⟨er, ⟨an, ar, am, az, ⟨af, aL, aG⟩⟩⟩ := TG;dsimp only at CX jR;have Nj := XG;have Ua := CW;have Ub := zh (aj v2.heap.size v2);obtain ⟨y0, y1, y2, y3, y4, y5, y6, y7, y8, y9, FY, FZ, F0, F2⟩ := (dQ.gen Nj.out).q;go_wp2_with fail;refine Ck.out.mono ?_;rintro e w6 ⟨⟨sb, rfl, ho⟩, hb⟩;dsimp only at ho ⊢
     clear y0 y1 y2 y3 y4 y5 y6 y7 y8 y9 FY FZ F0 F2;have RG := zh (ho.rd Ua.out hb);have Fv := zh (dQ.below Nj.out hb);have jG := zh (zA Ub.out hb);clear ho hb Ck Bw HT;have jg := zh (mU.out _ (zD (B := bG) (b := bG) (ai _) (zL an ar am az sb aL aG) (Al.out _ jG.out)));have Jg := zh (dQ.nh Fv.out an ar am az sb aL aG);have jV := zh (fp.gen RG.out Fv.out (zL an ar am az sb aL aG));have xf := (dQ.gen Fv.out).f;obtain ⟨x0, x1, x2, x3, x4, x5, x6, x7, x8, x9, fI, fJ, fG, fH⟩ := (dQ.gen Fv.out).q;go_wp2_with fail;go_meet
     case rel => exact ⟨er, an, ar, am, az, aL, aG, sb, af, _, _, _, L, rfl, Jg, jV, CX, HS.out.below jg.out |> zh, zh (HR.out.below jg.out), iM, zh (by rw [jR.out]), zh (HZ.out.below jg.out), zh (zA HB.out jg.out)⟩
    clear h4 nw
    have jR := zh (show Ki = vV ⟨1, 9000, false, dV L⟩ (xK ⟨num, rev, md, sz, ⟨fs, LV, GA⟩⟩ 2) from by
     rw [jI.out]; unfold uo; rw [ah (by decide), ah (by decide), ag rfl]; dsimp only; rw [Gq.out])
    clear jI Gq Aa HG l8 HU Eu;have Ck := zh (zHZ ⟨num, rev, md, sz, ⟨fs, LV, GA⟩⟩ s v2 CW.out (fun i hi => ak (Bw.out i hi) (by decide)));have CX := zh (show ∀ i, i < 8 → ((xK ⟨num, rev, md, sz, ⟨fs, LV, GA⟩⟩ 2).2.m.st i).length ≤ 10000 from fun i hi => ak (zG6 (K := 48) Bw.out i hi) (by decide));dsimp only at Ck;generalize xK ⟨num, rev, md, sz, ⟨fs, LV, GA⟩⟩ 2 = TG at *;obtain ⟨er, ⟨an, ar, am, az, ⟨af, aL, aG⟩⟩⟩ := TG;dsimp only at CX jR;have Nj := XG;have Ua := CW;have Ub := zh (aj v2.heap.size v2);obtain ⟨y0, y1, y2, y3, y4, y5, y6, y7, y8, y9, FY, FZ, F0, F2⟩ := (dQ.gen Nj.out).q;go_wp2_with fail;refine Ck.out.mono ?_;rintro e w6 ⟨⟨sb, rfl, ho⟩, hb⟩;dsimp only at ho ⊢;clear y0 y1 y2 y3 y4 y5 y6 y7 y8 y9 FY FZ F0 F2;have RG := zh (ho.rd Ua.out hb);have Fv := zh (dQ.below Nj.out hb);have jG := zh (zA Ub.out hb);clear ho hb Ck Bw
    have jg := zh (mU.out _ (zD (B := bG) (b := bG) (ai _) (zL an ar am az sb aL aG) (Al.out _ jG.out)));have Jg := zh (dQ.nh Fv.out an ar am az sb aL aG);have jV := zh (fp.gen RG.out Fv.out (zL an ar am az sb aL aG));have xf := (dQ.gen Fv.out).f;obtain ⟨x0, x1, x2, x3, x4, x5, x6, x7, x8, x9, fI, fJ, fG, fH⟩ := (dQ.gen Fv.out).q;go_wp2_with fail;go_meet
    case rel => exact ⟨er, an, ar, am, az, aL, aG, sb, af, _, _, _, L, rfl, Jg, jV, CX, HS.out.below jg.out |> zh, zh (HR.out.below jg.out), iM, zh (by rw [jR.out]), zh (HZ.out.below jg.out), zh (zA HB.out jg.out)⟩
   as_aux_lemma =>
   clear HS HR HZ HB XG CW iM Bw l8 HG jI Gq Aa HU Eu mU Al BI eN Ng jS;obtain ⟨er, an, ar, am, az, aL, aG, sb, af, a', m', c', L', rfl, XG, RG, CX, HS, HR, iM, jR, HZ, HB⟩ := fZ;generalize wc = w8 at *;obtain ⟨g0, g1, g2, g3, g4, g5, g6, g7, g8, g9, g10, g11, g12, g13⟩ := (dQ.gen XG.out).q;obtain ⟨k0, k1, k2, k3⟩ := (dQ.gX HS.out).q;have Ak := zh (zJQ 1 9000 false a' m' c' L' w8 HR.out iM.out (⟨an, ar, am, az, ⟨af, aL, aG⟩⟩, sb) RG.out CX.out);have pQ := zh (fun h => Oi (s := ⟨1, 9000, false, dV L'⟩) (g := ⟨an, ar, am, az, ⟨af, aL, aG⟩⟩) h);have su := zh (jR.out.trans (show (vV ⟨1, 9000, false, dV L'⟩ (er, ⟨an, ar, am, az, ⟨af, aL, aG⟩⟩)).dP = (if er = 0 ∧ (yb ⟨1, 9000, false, dV L'⟩ ⟨an, ar, am, az, ⟨af, aL, aG⟩⟩).2 = 0 then (yb ⟨1, 9000, false, dV L'⟩ ⟨an, ar, am, az, ⟨af, aL, aG⟩⟩).1 else ⟨1, 9000, false, dV L'⟩).dP from rfl));clear jR;dsimp only at Ak
   generalize yb ⟨1, 9000, false, dV L'⟩ ⟨an, ar, am, az, ⟨af, aL, aG⟩⟩ = CS at *;obtain ⟨⟨DU, oC, DV, cg⟩, fe⟩ := CS;go_wp2_with fail;refine Ak.out.mono ?_;rintro e w9 ⟨⟨xa, xn, xc, xL, rfl, DM, oB⟩, hb⟩;dsimp only at oB pQ su ⊢;clear k0 k1 k2 k3;clear g0 g1 g2 g3 g4 g5 g6 g7 g8 g9 g10 g11 g12 g13;replace HS := zh (HS.out.below hb);replace HR := zh (HR.out.below hb);replace HZ := zh (HZ.out.below hb);replace HB := zh (zA HB.out hb);have lj := zh DM;have iC := zh oB;clear DM oB hb Ak XG RG CX;go_upto_region 27 with fail;change Code.wp _ _ _ _ (w9.alloc (.cells (zK DU oC DV xa xn xc) 31));have eD := zN w9 DU oC DV xa xn xc 31;have HX := zh (dQ.new w9 (zK DU oC DV xa xn xc) 31);replace lj := zh (lj.out.below eD);replace HS := zh (HS.out.below eD);replace HR := zh (HR.out.below eD);replace HZ := zh (HZ.out.below eD);replace HB := zh (zA HB.out eD);clear eD
   generalize w9.alloc (.cells (zK DU oC DV xa xn xc) 31) = IW at *;generalize w9.heap.size = bX at *
   by_cases Uc : er = 0
   ·
    subst Uc
    by_cases CJ : fe = 0
    ·
     subst CJ;obtain ⟨rfl, rfl, rfl⟩ : DU = 1 ∧ oC = 9000 ∧ DV = false := by
      have h9 := pQ.out rfl;injection h9 with h1 h2 h3 h4;exact ⟨h1, h2, h3⟩
     obtain ⟨z0, z1, z2, z3⟩ := (dQ.gX HX.out).q;obtain ⟨y0, y1, y2, y3⟩ := (dQ.gX HS.out).q;have yf := (dQ.gX HS.out).f;have Jh := zh (dQ.rN HS.out 1 9000 false xa xn xc);have jP := zh (fl.gX lj.out HS.out (zJ 1 9000 false xa xn xc));have T_ := zh (dQ.ek (c := bS) (by omega) (zJ 1 9000 false xa xn xc) HZ.out);have gI := zh (zD (B := w.heap.size) (b := bS) (by omega) (zJ 1 9000 false xa xn xc) HB.out);have jW := zh (show dV xL = (wE B9 (ac.take (k + 1))).dP from by rw [Je.out, su.out, ag ⟨rfl, rfl⟩]; exact iC.out);go_wp2_with fail;exact ⟨⟨k + 1, xa, xn, xc, xL, by go_num, by omega, by omega, Jh, jP, jW, T_, gI⟩, by simp [intOf]; omega⟩
    have hz : (fe == 0) = false := beq_eq_false_iff_ne.2 CJ;have jW := zh (show dV L' = (wE B9 (ac.take (k + 1))).dP from by rw [Je.out, su.out, ah (fun h => CJ h.2)]);go_wp2_with fail;exact ⟨⟨k + 1, _, _, _, L', by go_num, by omega, by omega, HS, HR, jW, HZ, HB⟩, by simp [intOf]; omega⟩
   have hz : (er == 0) = false := beq_eq_false_iff_ne.2 Uc;have jW := zh (show dV L' = (wE B9 (ac.take (k + 1))).dP from by rw [Je.out, su.out, ah (fun h => Uc h.1)]);go_wp2_with fail;exact ⟨⟨k + 1, _, _, _, L', by go_num, by omega, by omega, HS, HR, jW, HZ, HB⟩, by simp [intOf]; omega⟩
  have i2 : ¬ (k : Int) < 8 := by omega
  have hE := zh (Fl.out k (.inl (by omega)));have HI := D_.out k hk;rw [← hE.out] at HE HI;generalize Ja ac = MS at *;obtain ⟨T6, Jf, T7, sg⟩ := MS;obtain ⟨_, Gl, r_, Gm, _, _⟩ := HI;dsimp only at Gl r_ Gm HE;subst Gl r_ Gm;have Ee := zh (dQ.gX HZ.out);obtain ⟨k0, k1, k2, k3⟩ := (dQ.gX HS.out).q;obtain ⟨z0, z1, z2, z3⟩ := Ee.out.q;have zf := Ee.out.f;go_wp2_with fail;change bodyPost _ _ _ _ _ (pts wr w.heap.size (zJ 1 9000 false a m c));have sq := zh (fl.gX HR.out HZ.out (zJ 1 9000 false a m c));have hby := Ee.out.all 1 9000 false a m c;have ea := zh (zD (B := w.heap.size) (b := w.heap.size) (by omega) (zJ 1 9000 false a m c) HB.out);generalize pts wr w.heap.size (zJ 1 9000 false a m c) = V at *;exact aw (v := zZ 1 9000 false a m c) (by simp [results, Tryz.results20, go_sem, hby.c0, hby.c1, hby.c2, hby.c3]) rfl (⟨⟨a, m, c, L, rfl, sq.out, HE.out⟩, ea.out⟩)
 have i1 : ¬ (k : Int) < (n : Int) := by omega
 have hE := zh (Fl.out k (.inr ⟨by omega, jJ⟩));have HI := D_.out k hk;rw [← hE.out] at HE HI;generalize Ja ac = MS at *;obtain ⟨T6, Jf, T7, sg⟩ := MS;obtain ⟨_, Gl, r_, Gm, _, _⟩ := HI;dsimp only at Gl r_ Gm HE;subst Gl r_ Gm;have Ee := zh (dQ.gX HZ.out);obtain ⟨k0, k1, k2, k3⟩ := (dQ.gX HS.out).q;obtain ⟨z0, z1, z2, z3⟩ := Ee.out.q;have zf := Ee.out.f;go_wp2_with fail;change bodyPost _ _ _ _ _ (pts wr w.heap.size (zJ 1 9000 false a m c));have sq := zh (fl.gX HR.out HZ.out (zJ 1 9000 false a m c));have hby := Ee.out.all 1 9000 false a m c;have ea := zh (zD (B := w.heap.size) (b := w.heap.size) (by omega) (zJ 1 9000 false a m c) HB.out);generalize pts wr w.heap.size (zJ 1 9000 false a m c) = V at *;exact aw (v := zZ 1 9000 false a m c) (by simp [results, Tryz.results20, go_sem, hby.c0, hby.c1, hby.c2, hby.c3]) rfl (⟨⟨a, m, c, L, rfl, sq.out, HE.out⟩, ea.out⟩)
end Go.Proofs.YtcgfilmmokmdjaaGreat
