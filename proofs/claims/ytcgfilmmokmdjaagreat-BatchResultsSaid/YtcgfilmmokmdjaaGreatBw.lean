/- A part of the walk. -/
import Derived.Test.YtcgfilmmokmdjaaGreatQAY
import Derived.Test.YtcgfilmmokmdjaaGreatSkb
import Derived.Test.YtcgfilmmokmdjaaGreatQAL
set_option linter.all false
set_option maxRecDepth 100000
set_option maxHeartbeats 32000000
namespace Go.Proofs.YtcgfilmmokmdjaaGreat
open Go.RowKit
theorem fS.rd {W : World} {B : Nat} {v : Value} {es : List (Nd × Value)} (h : fS W B v es) : mL W v es := ⟨zr h.row, fun p hp => (h.dat p hp).rd⟩
theorem zG6 {K : Nat} {g : Gn} {m : Int} (h : ∀ i, i < 8 → (g.m.st i).length ≤ K) (i : Nat) (hi : i < 8) : ((xK g m).2.m.st i).length ≤ K := by
 unfold xK
 split
 ·
  split
  ·
   exact h i hi
  exact au _
 exact au _
theorem zLT {b : Nat} {v1 v2 V : World} (hs : v1.heap.size = b) (h : Below b v1 v2) (h2 : Below v2.heap.size v2 V) : Below b v1 V := h.trans (h2.mono (by rw [← hs]; exact h.size))
def AcB (W : World) (b : Nat) (kind : Int) (l : Value) (g : Int) (k : Value) : Prop := dV W b #[.int .i64 kind, l, .int .i64 g, k] 141
theorem zGl (v : Value) (ac : List nG) (w : World) (h : Dm w v ac) : Calls Tryz.prog 20 #[v] w (SlR w (IW ac)) := by
 obtain ⟨va, vc, rfl, rB, hv2⟩ := h.shape;have HA := zh h;have D6 := zh (fun k (hk : k ≤ ac.length) => tF ac k hk);have Hs := zh (fun k (hk : k < ac.length) => ke ac k hk)
 have Fe := zh (show ∀ k, (k = 8 ∨ (k = ac.length ∧ k ≤ 8)) → IW ac = wE B7 (ac.take k) from fun k hk => by
  unfold IW
  rcases hk with rfl | ⟨rfl, hk⟩
  ·
   rfl
  rw [aR hk, aR (ai _)])
 have hcap : ac.length ≤ 9223372036854775807 := ak rB hv2;have Du := zh (fun W => zGr 1 9000 (by decide) W);clear h rB hv2;generalize hn : ac.length = n at *;clear hn
 go_enter Tryz.func20, Tryz.ntmps20
 go_upto_region 1 with fail;change Code.wp _ _ _ _ (w.alloc (.cells (zK 0 0 false none 0 0) 31));have HZ := zh (dV.new w (zK 0 0 false none 0 0) 31);have HB := zh (zN w 0 0 false none 0 0 31);generalize w.alloc (.cells (zK 0 0 false none 0 0) 31) = w0 at *;go_wp2_with fail;refine (Du.out w0).mono ?_;rintro e w1 ⟨b, rfl, jN, hg, hb⟩;have HR := zh (NV hg);replace HZ := zh (HZ.out.below hb);replace HB := zh (zA HB.out hb);clear hg hb jN Du;have hbS := HZ.out.lt;go_upto_region 2 with fail;change Code.wp _ _ _ _ (w1.alloc (.cells (zK 1 9000 false (some ⟨b, 0, none⟩) 1 1) 31));have eH := zN w1 1 9000 false (some ⟨b, 0, none⟩) 1 1 31;have HS := zh (dV.new w1 (zK 1 9000 false (some ⟨b, 0, none⟩) 1 1) 31);replace HZ := zh (HZ.out.below eH);replace HB := zh (zA HB.out eH);replace HR := zh (HR.out.below eH);clear eH;generalize w1.alloc (.cells (zK 1 9000 false (some ⟨b, 0, none⟩) 1 1) 31) = w2 at *
 generalize w1.heap.size = bS at *;go_wp2_with fail
 go_loopw [5] (fun iv V => ∃ (k : Nat) (a : Option Addr) (m c : Nat) (L : List GP), iv = .int .i64 (k : Int) ∧ k ≤ n ∧ k ≤ 8 ∧ Hid (dV V bS (zK 1 9000 false a m c) 31) ∧ Hid (fq V (.slice a m c) L) ∧ Hid (dZ L = (wE B7 (ac.take k)).dU) ∧ Hid (dV V w.heap.size (zK 0 0 false none 0 0) 31) ∧ Hid (Below w.heap.size w V)) (fun iv _ => n - (intOf iv).toNat)
 case atStart => exact ⟨0, _, _, _, B5, rfl, au _, au _, HS, HR, zh rfl, HZ, HB⟩
 clear HS HR HZ HB;obtain ⟨k, a, m, c, L, rfl, hk, jJ, HS, HR, HE, HZ, HB⟩ := hrel
 by_cases hlt : k < n
 ·
  have i1 : (k : Int) < (n : Int) := by omega
  by_cases ajX : k < 8
  ·
   have i2 : (k : Int) < 8 := by omega
   obtain ⟨bq, oq, rfl, c0, c1, c2, c3, hN, hWf, hU⟩ := (HA.out.below HB.out).at hlt;have HI := D6.out k hk;have hst := Hs.out k hlt;unfold TF at hst;generalize kB ac k = x at *;obtain ⟨kind, lv, nl, gen, kv, keys⟩ := x;dsimp only at *;obtain ⟨la, lc, rfl, pR, hl2⟩ := hN.shape;obtain ⟨ka, kc, rfl, pO, hk2⟩ := hU.gw;have z_ := zh (fun W (hb : Below wr.heap.size wr W) => zE3 (.slice la nl.length lc) nl 6 W (hN.below hb) (by decide));have HU := zh hU;have Sg := TE 6 (nl.map (·.1));have hsd := zEh 6 (nl.map (·.1));clear hN hWf hU pR hl2;generalize nl.map (·.1) = ND at *;generalize nl.length = nn at *;obtain ⟨hIv, Gd, rY, Ge, hIn, hIz⟩ := HI;generalize wE B7 (ac.take k) = sk at *;have jS := zh (D6.out (k + 1) (by omega));generalize MQ : wE B7 (ac.take (k + 1)) = JY at *;have I1 := zh MQ;clear MQ;obtain ⟨TN, I2, TP, sg⟩ := sk;dsimp only at Gd rY Ge hIn hIz HE;subst Gd rY Ge
   obtain rfl : sg = dZ L := HE.out.symm;have jI := zh hst;clear hst HE;have hlen := hIv.len;have TQ : L.length = m := by
    obtain ⟨_, _, e, _⟩ := HR.out.shape;injection e with _ e _; exact e.symm
   dsimp only at hlen;rw [zj, TQ] at hlen;obtain ⟨j, rfl⟩ : ∃ j, m = j + 1 := ⟨m - 1, by omega⟩
   have hj7 : j ≤ 7 := by omega
   have BJ := zh (show ∀ p ∈ L, ∀ i, i < 8 → (p.1.m.st i).length ≤ 48 from fun p hp i hi => ak (hIn p.1 (cZ hp) i hi) (by omega));have MR := zh TQ;clear hIv hIn hIz hlen TQ;go_upto_region 6 with fail;clear c0 c1 c2 c3;change Code.wp _ _ _ _ (wr.alloc (.cells #[.int .i64 kind, .slice la nn lc, .int .i64 gen, .slice ka keys.length kc] 141));have eH := (aj wr.heap.size wr).alloc (ai _) (.cells #[.int .i64 kind, .slice la nn lc, .int .i64 gen, .slice ka keys.length kc] 141);have Eo := zh (show AcB (wr.alloc (.cells #[.int .i64 kind, .slice la nn lc, .int .i64 gen, .slice ka keys.length kc] 141)) wr.heap.size kind (.slice la nn lc) gen (.slice ka keys.length kc) from dV.new _ _ _);replace HS := zh (HS.out.below eH);replace HR := zh (HR.out.below eH);replace HZ := zh (HZ.out.below eH);replace HB := zh (zA HB.out eH);replace HU := zh (iw.below HU.out eH)
   replace z_ := zh (fun W (hb : Below _ _ W) => z_.out W (zA eH hb));clear eH;generalize wr.alloc (.cells #[.int .i64 kind, .slice la nn lc, .int .i64 gen, .slice ka keys.length kc] 141) = v0 at *;generalize wr.heap.size = bA at *;have hlp : 0 < j + 1 := by omega
   obtain ⟨t, kk, e1, e2, e3, e4, e5, e6, e7⟩ := zKW gen (j + 1) hlp;simp only [cU, Int.natCast_one] at e1 e2 e3 e4 e5;have q2 := zB (show v0.cell? ⟨bA, 2, none⟩ = some (.int .i64 gen) from dV.cell Eo.out rfl);have k3 := zB (dV.g_ HS.out).c3;refine zC (by kernel_rfl) (by kernel_rfl) ?_
   repeat (go_big_quiet_step (fail))
   refine aC ?_;intro _ hw';obtain ⟨q, hw'⟩ := hw';subst hw';replace HS := zh (HS.out.below q.h);replace HR := zh (HR.out.below q.h);replace HZ := zh (HZ.out.below q.h);replace HB := zh (zA HB.out q.h);replace HU := zh (iw.below HU.out q.h);replace Eo := zh (show AcB q.w' bA kind (.slice la nn lc) gen (.slice ka keys.length kc) from dV.below Eo.out q.h);replace z_ := zh (fun W (hb : Below _ _ W) => z_.out W (zA q.h hb));clear q2 k3;generalize q.w' = v1 at *;clear q e1 e2 e3 e4 e5;have hmem := yd (l := L) (i := kk) (by have := MR.out; omega);have l9 := zh (HR.out.m _ hmem);have By := zh (BJ.out _ hmem);obtain ⟨bg, og, rfl, _⟩ := HR.out.at e6;have HG := zh (HR.out.Lj e6)
   have Gf := zh (show eN (dZ L) (gen % ((dZ L).length : Int)).toNat = (pat L kk).1 from by rw [zj, MR.out]; simp only [cU, Int.natCast_one]; rw [show gen % ((j : Int) + 1) = (kk : Int) from by simpa using e7, Int.toNat_natCast, yu]);clear hmem e7;generalize pat L kk = p at *;obtain ⟨⟨num, rev, md, sz, ⟨fs, LV, GA⟩⟩, s⟩ := p;dsimp only at l9 By Gf;have k3 := (dV.g_ HS.out).c3;have i3 : (kk : Int) < (j : Int) + 1 := by omega
   have i4 : (kk : Int) < ((j + 1 : Nat) : Int) := by omega
   obtain ⟨g0, g1, g2, g3, g4, g5, g6, g7, g8, g9, g10, g11, g12, g13⟩ := HG.out.q;dsimp only at g0 g1 g2 g3 g4 g5 g6 g7 g8 g9 g10 g11 g12 g13;go_upto_region 7 with fail
   go_cut [8, 9] (fun vb ve wx => vb = .pointer (some ⟨v1.heap.size, 0, none⟩) ∧ ve = .int .i64 1 ∧ wx = v1.alloc (.cells (zW num rev md sz s LV GA) 113))
   case first =>
    go_wp2_with fail;go_meet
    case rel => exact ⟨rfl, rfl, rfl⟩
   case rest =>
   clear k3;clear g0 g1 g2 g3 g4 g5 g6 g7 g8 g9 g10 g11 g12 g13;obtain ⟨rfl, rfl, rfl⟩ := hcut
   have eP := zh (zQ v1 num rev md sz s LV GA 113);have XG := zh (dV.new v1 (zW num rev md sz s LV GA) 113);have CP := zh (l9.out.below eP.out);generalize v1.alloc (.cells (zW num rev md sz s LV GA) 113) = v2 at *;generalize MA : v1.heap.size = bG at *;have mW := zh (fun V (h : Below bG v1 V) => show Below v1.heap.size v1 V from MA ▸ h);have Aj := zh (fun V (h : Below v2.heap.size v2 V) => show Below bG v1 V from zLT MA eP.out h);have hSG : bS < bG := by rw [← MA]; exact HS.out.lt
   clear MA;have iN := zh (show ∀ p ∈ L, ∀ j, j < 8 → (p.1.m.st j).length ≤ 10000 from fun p hp i hi => ak (BJ.out p hp i hi) (by decide));go_step;go_step
   go_cut [9] (fun ve wx => ∃ (er an ar am az aL aG : Int) (sG : Sl) (af : Nat → List It) (a' : Option Addr) (m' c' : Nat) (L' : List GP), ve = .int .i64 er ∧ Hid (dV wx bG (zW an ar am az sG aL aG) 113) ∧ Hid (fw wx sG af) ∧ Hid (∀ i, i < 8 → (af i).length ≤ 10000) ∧ Hid (dV wx bS (zK 1 9000 false a' m' c') 31) ∧ Hid (fq wx (.slice a' m' c') L') ∧ Hid (∀ p ∈ L', ∀ j, j < 8 → (p.1.m.st j).length ≤ 10000) ∧ Hid (JY.dU = (vV ⟨1, 9000, false, dZ L'⟩ (er, ⟨an, ar, am, az, ⟨af, aL, aG⟩⟩)).dU) ∧ Hid (dV wx w.heap.size (zK 0 0 false none 0 0) 31) ∧ Hid (Below w.heap.size w wx))
   case first =>
    have q0 : v2.cell? ⟨bA, 0, none⟩ = some (.int .i64 kind) := dV.cell (dV.below Eo.out (mW.out _ eP.out)) rfl;obtain ⟨kd, Jl, MT⟩ : ∃ kd, bits .and .i64 kind 7 = kd ∧ 0 ≤ kd ∧ kd < 8 := ⟨_, rfl, by rw [Xr]; omega⟩
    rw [← Xr kind, Jl] at jI;have nz := zh MT;clear MT;go_upto_if 55 with fail;clear Jl q0
    go_cut [55] (fun v wx => v = .bool (decide (kd < 4)) ∧ wx = v2)
    case first =>
     rcases (show kd = 0 ∨ kd = 1 ∨ kd = 2 ∨ kd = 3 ∨ (4 ≤ kd ∧ kd < 8) from by have := nz.out; omega) with rfl | rfl | rfl | rfl | ⟨h4, h8⟩
     ·
      go_wp2_with fail;go_meet
      case rel => exact ⟨rfl, rfl⟩
     ·
      go_wp2_with fail;go_meet
      case rel => exact ⟨rfl, rfl⟩
     ·
      go_wp2_with fail;go_meet
      case rel => exact ⟨rfl, rfl⟩
     ·
      go_wp2_with fail;go_meet
      case rel => exact ⟨rfl, rfl⟩
     have e0 : (kd == 0) = false := beq_eq_false_iff_ne.2 (by omega);have e1 : (kd == 1) = false := beq_eq_false_iff_ne.2 (by omega);have e2 : (kd == 2) = false := beq_eq_false_iff_ne.2 (by omega);have e3 : (kd == 3) = false := beq_eq_false_iff_ne.2 (by omega);have e4 : decide (kd < 4) = false := aD (by omega);go_wp2_with fail;go_meet
     case rel => exact ⟨by rw [e4], rfl⟩
    obtain ⟨rfl, hwc⟩ := hcut;generalize wc = w5 at *;replace hwc := hwc.symm;subst hwc
    by_cases h4 : kd < 4
    ·
     have hk4 : decide (kd < 4) = true := aF h4;rw [hk4]
     have FQ := zh (jI.out.trans (show uo ⟨1, 9000, false, dZ L⟩ kd ND gen keys = vV ⟨1, 9000, false, dZ L⟩ (yt (zS ⟨1, 9000, false, dZ L⟩) (CO 6 ND)) from by
      unfold uo; rw [ah (by omega), ah (by omega), ah (by omega)]))
     clear hk4 h4 nz jI;go_upto_region 13 with fail;have TR := yd (l := L) (i := j) (by have := MR.out; omega);have sI := zh (HR.out.m _ TR);have CZ := zh (BJ.out _ TR);have iG := zh (HR.out.Lj (show j < j + 1 by omega));have jR := zh (show JY = vV ⟨1, 9000, false, dZ L⟩ (yt (pat L j).1 (CO 6 ND)) from by rw [← vP (i := 1) (l := 9000) (r := false) MR.out]; exact FQ.out);clear TR FQ Gf l9 By HG CP HU;generalize pat L j = p at *;obtain ⟨⟨n2, r2, m2, z2, ⟨f2, L2, G2⟩⟩, s2⟩ := p;dsimp only at sI CZ jR;generalize CO 6 ND = SN at *
     have oM := zh (show ∀ lv es W, Below v2.heap.size v2 W → mL W lv es → es.map (·.1) = SN → Calls Tryz.prog 43 #[za n2 r2 m2 z2 s2 L2 G2, lv] W fun e w' => (∃ s', e = .returned (.tuple #[za (yt ⟨n2, r2, m2, z2, ⟨f2, L2, G2⟩⟩ SN).2.num (yt ⟨n2, r2, m2, z2, ⟨f2, L2, G2⟩⟩ SN).2.rev (yt ⟨n2, r2, m2, z2, ⟨f2, L2, G2⟩⟩ SN).2.mode (yt ⟨n2, r2, m2, z2, ⟨f2, L2, G2⟩⟩ SN).2.size s' (yt ⟨n2, r2, m2, z2, ⟨f2, L2, G2⟩⟩ SN).2.m.live (yt ⟨n2, r2, m2, z2, ⟨f2, L2, G2⟩⟩ SN).2.m.dW, .int .i64 (yt ⟨n2, r2, m2, z2, ⟨f2, L2, G2⟩⟩ SN).1]) ∧ fw w' s' (yt ⟨n2, r2, m2, z2, ⟨f2, L2, G2⟩⟩ SN).2.m.st) ∧ Below W.heap.size W w' from fun lv es W hb h2 h3 => by
      have hb1 : Below v1.heap.size v1 W := mW.out _ (Aj.out _ hb)
      have hle : es.length ≤ 6 := by have := aS List.length h3; rw [aI] at this; omega
      have h9 := zIp ⟨n2, r2, m2, z2, ⟨f2, L2, G2⟩⟩ s2 lv es 48 W (sI.out.below hb1) CZ.out h2 (by omega) (fun p hp => by have := hsd p.1 (h3 ▸ cZ hp); omega)
      rw [h3] at h9
      exact h9.mono fun e w' hq => ⟨hq.1.imp fun s' hs' => ⟨hs'.1, hs'.2.rd (sI.out.below hb1) hq.2⟩, hq.2⟩)
     have CQ := zh (show ∀ i, i < 8 → ((yt ⟨n2, r2, m2, z2, ⟨f2, L2, G2⟩⟩ SN).2.m.st i).length ≤ 10000 from fun i hi => ak (zH9 (K := 48) ⟨n2, r2, m2, z2, ⟨f2, L2, G2⟩⟩ SN CZ.out i hi) (by omega));clear sI CZ hsd;generalize yt ⟨n2, r2, m2, z2, ⟨f2, L2, G2⟩⟩ SN = TG at *;obtain ⟨er, ⟨an, ar, am, az, ⟨af, aL, aG⟩⟩⟩ := TG;dsimp only at oM CQ jR;have j3 : IntKind.i64.wrap (j : Int) = (j : Int) := aH _ (by omega);have j5 : (j : Int) < ((j + 1 : Nat) : Int) := by omega
     refine xJ [eR (.pointer (some ⟨bS, 3, none⟩)), eR (.slice (some ⟨bg, og, none⟩) (j + 1) c), eR (.pointer (some ⟨bS, 3, none⟩)), eR (.slice (some ⟨bg, og, none⟩) (j + 1) c), eR (.int .i64 ((j : Int) + 1)), eR (.int .i64 (j : Int)), eR (.pointer (some ⟨bg, og + j * 14, none⟩)), eR (za n2 r2 m2 z2 s2 L2 G2), eR (.pointer (some ⟨bA, 1, none⟩)), eR (.slice la nn lc), zLv SN, Yf er an ar am az af aL aG, Yf er an ar am az af aL aG, zL3 an ar am az af aL aG, eR (.int .i64 er)] [] 122 14 (by kernel_rfl) (by kernel_rfl) rfl rfl (by decide) (by rfl) (by kernel_rfl) (fun f => by simp [fA, zX, Act.put]; exact rfl) ?_ ?_ ?_
     ·
      refine ⟨?_, ?_, ?_, ?_, ?_, ?_, ?_, ?_, ?_, ?_, ?_, ?_, ?_, ?_, ?_, trivial⟩
      ·
       intro f w1 hb hd;clear hd;dsimp only;go_wp2_with fail;exact pS rfl (by simp)
      ·
       intro f w1 hb hd;have d0 : f 0 = (.pointer (some ⟨bS, 3, none⟩)) := hd 0 (by kernel_rfl);clear hd;dsimp only;rw [d0];have hb1 := mW.out _ (Aj.out _ hb);have q3 := (dV.g_ (HS.out.below hb1)).c3;go_wp2_with fail;exact pS rfl (by simp)
      ·
       intro f w1 hb hd;clear hd;dsimp only;go_wp2_with fail;exact pS rfl (by simp)
      ·
       intro f w1 hb hd;have d2 : f 2 = (.pointer (some ⟨bS, 3, none⟩)) := hd 2 (by kernel_rfl);clear hd;dsimp only;rw [d2];have hb1 := mW.out _ (Aj.out _ hb);have q3 := (dV.g_ (HS.out.below hb1)).c3;go_wp2_with fail;exact pS rfl (by simp)
      ·
       intro f w1 hb hd;have d3 : f 3 = (.slice (some ⟨bg, og, none⟩) (j + 1) c) := hd 3 (by kernel_rfl);clear hd;dsimp only;rw [d3];go_wp2_with fail;exact pS rfl (by simp)
      ·
       intro f w1 hb hd;have d4 : f 4 = (.int .i64 ((j : Int) + 1)) := hd 4 (by kernel_rfl);clear hd;dsimp only;rw [d4];go_wp2_with fail;exact pS rfl (by simp)
      ·
       intro f w1 hb hd;have d1 : f 1 = (.slice (some ⟨bg, og, none⟩) (j + 1) c) := hd 1 (by kernel_rfl);have d5 : f 5 = (.int .i64 (j : Int)) := hd 5 (by kernel_rfl);clear hd;dsimp only;rw [d1];rw [d5];go_wp2_with fail;exact pS rfl (by simp)
      ·
       intro f w1 hb hd;have d6 : f 6 = (.pointer (some ⟨bg, og + j * 14, none⟩)) := hd 6 (by kernel_rfl);clear hd;dsimp only;rw [d6];have hb1 := mW.out _ (Aj.out _ hb);have zo := iG.out.below hb1;obtain ⟨q0, q1, q2, q3, q4, q5, q6, q7, q8, q9, AY, AZ, A0, A1⟩ := zo.q;clear zo;dsimp only at q0 q1 q2 q3 q4 q5 q6 q7 q8 q9 AY AZ A0 A1;go_wp2_with fail;exact pS rfl (by simp)
      ·
       intro f w1 hb hd;clear hd;dsimp only;go_wp2_with fail;exact pS rfl (by simp)
      ·
       intro f w1 hb hd;have d8 : f 8 = (.pointer (some ⟨bA, 1, none⟩)) := hd 8 (by kernel_rfl);clear hd;dsimp only;rw [d8];have hb1 := mW.out _ (Aj.out _ hb);have q1 : w1.cell? ⟨bA, 1, none⟩ = some (.slice la nn lc) := dV.cell (dV.below Eo.out hb1) rfl;go_wp2_with fail;exact pS rfl (by simp)
      ·
       intro f w1 hb hd;have d9 : f 9 = (.slice la nn lc) := hd 9 (by kernel_rfl);clear hd;dsimp only;rw [d9];go_wp2_with fail;refine (z_.out w1 (Aj.out _ hb)).mono ?_;rintro e w9 ⟨qv, es, rfl, AQ, hes, fT⟩;obtain ⟨qa, qc, rfl, _⟩ := AQ.rd.shape;go_wp2_with fail;exact ⟨rfl, fT, fun t ht => by injection ht with ht; subst ht; exact ⟨⟨qa, es.length, qc, es, rfl, AQ.rd, hes⟩, fun h => by simp at h⟩⟩
      ·
       intro f w1 hb hd;have d7 : f 7 = (za n2 r2 m2 z2 s2 L2 G2) := hd 7 (by kernel_rfl);obtain ⟨Ls, n10, c10, rI, d10, lM, m10⟩ := show ∃ a n c es, f 10 = .slice a n c ∧ mL w1 (.slice a n c) es ∧ es.map (·.1) = SN from hd 10 (by kernel_rfl);clear hd;dsimp only;rw [d7];rw [d10];go_wp2_with fail;refine (oM.out _ rI w1 hb lM m10).mono ?_;rintro e w9 ⟨⟨s9, rfl, AQ⟩, fT⟩;go_wp2_with fail;exact ⟨rfl, fT, fun t ht => by injection ht with ht; subst ht; exact ⟨⟨s9, rfl, AQ⟩, fun h => by simp at h⟩⟩
      ·
       intro f w1 hb hd;obtain ⟨s11, d11, lr⟩ := show ∃ s, f 11 = .tuple #[za an ar am az s aL aG, .int .i64 er] ∧ fw w1 s af from hd 11 (by kernel_rfl);clear hd;dsimp only;rw [d11];go_wp2_with fail;exact ⟨rfl, aj _ _, fun t ht => by injection ht with ht; subst ht; exact ⟨⟨s11, rfl, lr⟩, fun h => by simp at h⟩⟩
      ·
       intro f w1 hb hd;obtain ⟨Rf, d12, l7⟩ := show ∃ s, f 12 = .tuple #[za an ar am az s aL aG, .int .i64 er] ∧ fw w1 s af from hd 12 (by kernel_rfl);clear hd;dsimp only;rw [d12];go_wp2_with fail;exact ⟨rfl, aj _ _, fun t ht => by injection ht with ht; subst ht; exact ⟨⟨Rf, rfl, l7⟩, fun h => by simp at h⟩⟩
      intro f w1 hb hd;obtain ⟨Rf, d12, l7⟩ := show ∃ s, f 12 = .tuple #[za an ar am az s aL aG, .int .i64 er] ∧ fw w1 s af from hd 12 (by kernel_rfl);clear hd;dsimp only;rw [d12];go_wp2_with fail;exact pS rfl (by simp)
     ·
      intro f w5 hb hd jc;clear jc;obtain ⟨sb, d5, r5⟩ := show ∃ s, f 13 = za an ar am az s aL aG ∧ fw w5 s af from hd 13 (show 13 < 15 by decide);have d6 : f 14 = .int .i64 er := hd 14 (show 14 < 15 by decide)
      try dsimp only
      rw [d5, d6];clear hd d5 d6;have Fk := zh (dV.below XG.out hb);have r5 := zh r5;generalize f 0 = Ag, f 1 = sW, f 2 = sX, f 3 = sY, f 4 = sZ, f 5 = s6, f 6 = Ah, f 7 = CH, f 8 = JL, f 9 = Eh, f 10 = t_, f 11 = LU, f 12 = aj0;clear f;have jg := zh (mW.out _ (zD (B := bG) (b := bG) (ai _) (zL an ar am az sb aL aG) (Aj.out _ hb)));have I3 := zh (dV.nj Fk.out an ar am az sb aL aG);have jV := zh (fw.gen r5.out Fk.out (zL an ar am az sb aL aG));have xf := (dV.gen Fk.out).f;obtain ⟨x0, x1, x2, x3, x4, x5, x6, x7, x8, x9, fM, fN, fK, fL⟩ := (dV.gen Fk.out).q;clear hb;change wpList _ _ _ (_ :: _ :: []) _ _;go_wp2_with fail;go_meet
      case rel => exact ⟨er, an, ar, am, az, aL, aG, sb, af, _, _, _, L, rfl, I3, jV, CQ, HS.out.below jg.out |> zh, zh (HR.out.below jg.out), iN, zh (by rw [jR.out]), zh (HZ.out.below jg.out), zh (zA HB.out jg.out)⟩
     intro f w5 hb hd jc;clear jc;obtain ⟨sb, d5, r5⟩ := show ∃ s, f 13 = za an ar am az s aL aG ∧ fw w5 s af from hd 13 (show 13 < 15 by decide) (show 13 ≠ 14 by decide);obtain ⟨s4, d4, r4⟩ := show ∃ s, f 12 = .tuple #[za an ar am az s aL aG, .int .i64 er] ∧ fw w5 s af from hd 12 (show 12 < 15 by decide) (show 12 ≠ 14 by decide);clear r4
     try dsimp only
     rw [d4, d5];clear hd d4 d5;have Fk := zh (dV.below XG.out hb);have r5 := zh r5;generalize f 0 = Ag, f 1 = sW, f 2 = sX, f 3 = sY, f 4 = sZ, f 5 = s6, f 6 = Ah, f 7 = CH, f 8 = JL, f 9 = Eh, f 10 = t_, f 11 = LU, f 14 = LW;clear f;have jg := zh (mW.out _ (zD (B := bG) (b := bG) (ai _) (zL an ar am az sb aL aG) (Aj.out _ hb)));have I3 := zh (dV.nj Fk.out an ar am az sb aL aG);have jV := zh (fw.gen r5.out Fk.out (zL an ar am az sb aL aG));have xf := (dV.gen Fk.out).f;obtain ⟨x0, x1, x2, x3, x4, x5, x6, x7, x8, x9, fM, fN, fK, fL⟩ := (dV.gen Fk.out).q;clear hb;change wpList _ _ _ (_ :: _ :: _ :: []) _ _;go_wp2_with fail;go_meet
     case rel => exact ⟨er, an, ar, am, az, aL, aG, sb, af, _, _, _, L, rfl, I3, jV, CQ, HS.out.below jg.out |> zh, zh (HR.out.below jg.out), iN, zh (by rw [jR.out]), zh (HZ.out.below jg.out), zh (zA HB.out jg.out)⟩
    have hk4 : decide (kd < 4) = false := aD h4;rw [hk4];clear hk4;rcases (show (kd = 4 ∨ kd = 5) ∨ kd = 6 ∨ kd = 7 from by have := nz.out; omega) with h45 | rfl | rfl
    ·
     clear h4 nz;go_upto_if 75 with fail
     go_cut [75] (fun v wx => v = .bool true ∧ wx = v2)
     case first =>
      rcases h45 with rfl | rfl
      ·
       go_wp2_with fail;go_meet
       case rel => exact ⟨rfl, rfl⟩
      go_wp2_with fail;go_meet
      case rel => exact ⟨rfl, rfl⟩
     obtain ⟨rfl, hwc⟩ := hcut;generalize wc = w5 at *;replace hwc := hwc.symm;subst hwc
     as_aux_lemma =>
     have LD := zh (show ∀ i, i < 8 → (fs i).length ≤ 10000 from fun i hi => ak (By.out i hi) (by decide));have gu := zh (HS.out.below (mW.out _ eP.out));have Ai := zh (zEl 1 9000 false (some ⟨bg, og, none⟩) (j + 1) c L v2 (HR.out.below (mW.out _ eP.out)) iN.out);have pW := zh (fun h => Xx (s := ⟨1, 9000, false, dZ L⟩) h);have sj := zh (jI.out.trans (show uo ⟨1, 9000, false, dZ L⟩ kd ND gen keys = if (xO ⟨1, 9000, false, dZ L⟩).2 = 0 then (xO ⟨1, 9000, false, dZ L⟩).1 else ⟨1, 9000, false, dZ L⟩ from by unfold uo; rw [ag h45]));clear z_ HU Eo HG jI Gf l9 By;generalize xO ⟨1, 9000, false, dZ L⟩ = CS at *;obtain ⟨⟨DS, oG, DT, cg⟩, fe⟩ := CS;obtain ⟨k0, k1, k2, k3⟩ := (dV.g_ gu.out).q;go_wp2_with fail;refine Ai.out.mono ?_;rintro e w9 ⟨⟨xa, xn, xc, xL, rfl, DI, oF⟩, hb⟩;dsimp only at oF pW sj ⊢;clear k0 k1 k2 k3 gu;have fT := mW.out _ (Aj.out _ hb);replace HS := zh (HS.out.below fT)
     replace HR := zh (HR.out.below fT);replace HZ := zh (HZ.out.below fT);replace HB := zh (zA HB.out fT);replace XG := zh (dV.below XG.out hb);replace CP := zh (CP.out.below hb);have lj := zh DI;have iE := zh oF;clear DI oF hb fT Ai;go_upto_region 17 with fail;change Code.wp _ _ _ _ (w9.alloc (.cells (zK DS oG DT xa xn xc) 31));have eH := zN w9 DS oG DT xa xn xc 31;have HX := zh (dV.new w9 (zK DS oG DT xa xn xc) 31);replace lj := zh (lj.out.below eH);replace XG := zh (dV.below XG.out eH);replace CP := zh (CP.out.below eH);replace HS := zh (HS.out.below eH);replace HR := zh (HR.out.below eH);replace HZ := zh (HZ.out.below eH);replace HB := zh (zA HB.out eH);clear eH;generalize w9.alloc (.cells (zK DS oG DT xa xn xc) 31) = IA at *;generalize w9.heap.size = bX at *
     by_cases hf0 : fe = 0
     ·
      subst hf0;obtain ⟨rfl, rfl, rfl⟩ : DS = 1 ∧ oG = 9000 ∧ DT = false := by
       have h9 := pW.out rfl;injection h9 with h1 h2 h3 h4;exact ⟨h1, h2, h3⟩
      obtain ⟨z0, z1, z2, z3⟩ := (dV.g_ HX.out).q;obtain ⟨y0, y1, y2, y3⟩ := (dV.g_ HS.out).q;have yf := (dV.g_ HS.out).f;have I4 := zh (dV.rM HS.out 1 9000 false xa xn xc);have jP := zh (fq.g_ lj.out HS.out (zJ 1 9000 false xa xn xc));have TS := zh (dV.eu (c := bS) (by omega) (zJ 1 9000 false xa xn xc) HZ.out);have jW := zh (dV.eu (c := bS) (by omega) (zJ 1 9000 false xa xn xc) XG.out);have LI := zh (fw.g_ CP.out HS.out (zJ 1 9000 false xa xn xc));have gN := zh (zD (B := w.heap.size) (b := bS) (by omega) (zJ 1 9000 false xa xn xc) HB.out);have jR := zh (show JY.dU = dZ xL from by rw [sj.out, ag rfl]; exact iE.out.symm);have Nz := zh (show ∀ p ∈ xL, ∀ j, j < 8 → (p.1.m.st j).length ≤ 10000 from fun p hp i hi => ak (jS.out.len _ (by rw [jR.out]; exact cZ hp) i hi) (by omega));go_wp2_with fail;go_meet
      case rel => exact ⟨1, num, rev, md, sz, LV, GA, s, fs, xa, xn, xc, xL, rfl, jW, LI, LD, I4, jP, Nz, zh (by rw [jR.out]; rfl), TS, gN⟩
     have hz : (fe == 0) = false := beq_eq_false_iff_ne.2 hf0;have jR := zh (show JY.dU = dZ L from by rw [sj.out, ah hf0]);go_wp2_with fail;go_meet
     case rel => exact ⟨1, num, rev, md, sz, LV, GA, s, fs, _, _, _, L, rfl, XG, CP, LD, HS, HR, iN, zh (by rw [jR.out]; rfl), HZ, HB⟩
    ·
     clear h4 nz
     have jR := zh (show JY = vV ⟨1, 9000, false, dZ L⟩ (ye ⟨num, rev, md, sz, ⟨fs, LV, GA⟩⟩ (keys.take 8)) from by
      rw [jI.out]; unfold uo; rw [ah (by decide), ag rfl]; dsimp only; rw [Gf.out])
     clear jI Gf z_ HG l9;have q3 : v2.cell? ⟨bA, 3, none⟩ = some (.slice ka keys.length kc) := dV.cell (dV.below Eo.out (mW.out _ eP.out)) rfl;replace HU := zh (iw.below HU.out (mW.out _ eP.out));go_upto_if 92 with fail
     go_cut [12] (fun kv wx => (∃ m', kv = .slice ka m' kc ∧ Hid (lX v2 (.slice ka m' kc) (keys.take 8))) ∧ wx = v2)
     case first =>
      by_cases jJ : 8 < keys.length
      ·
       have hd : decide ((8 : Int) < (keys.length : Int)) = true := by simp; omega
       obtain ⟨bk, ok, rfl, _⟩ := lX.at HU.out (show 0 < keys.length by omega);have C8 := yq (P := Tryz.prog) Yo (a := some ⟨bk, ok, none⟩) (n := keys.length) (cap := kc) (fun x hx => ⟨bk, ok, by injection hx with hx; exact hx.symm⟩) 8 (by omega);rw [show ((8 : Nat) : Int) = 8 from rfl] at C8;have HT := zh (show lX v2 (.slice (some ⟨bk, ok, none⟩) 8 kc) (keys.take 8) from iw.take HU.out 8 (by omega));go_wp2_with fail;go_meet
       case rel => exact ⟨⟨_, rfl, HT⟩, rfl⟩
      have hd : decide ((8 : Int) < (keys.length : Int)) = false := by simp; omega
      have HT := zh (show lX v2 (.slice ka keys.length kc) (keys.take 8) from by rw [aR (by omega)]; exact HU.out);go_wp2_with fail;go_meet
      case rel => exact ⟨⟨_, rfl, HT⟩, rfl⟩
     obtain ⟨⟨m', rfl, HT⟩, hwc⟩ := hcut;generalize wc = w5 at *;replace hwc := hwc.symm;subst hwc;clear q3 Eo HU;have Ci := zh (zHy ⟨num, rev, md, sz, ⟨fs, LV, GA⟩⟩ s (.slice ka m' kc) (keys.take 8) v2 CP.out (fun i hi => ak (By.out i hi) (by decide)) HT.out (by rw [ay]; omega));have CQ := zh (show ∀ i, i < 8 → ((ye ⟨num, rev, md, sz, ⟨fs, LV, GA⟩⟩ (keys.take 8)).2.m.st i).length ≤ 10000 from fun i hi => ak (zGz (K := 48) ⟨num, rev, md, sz, ⟨fs, LV, GA⟩⟩ _ By.out i hi) (by decide));dsimp only at Ci;generalize ye ⟨num, rev, md, sz, ⟨fs, LV, GA⟩⟩ (keys.take 8) = TG at *;obtain ⟨er, ⟨an, ar, am, az, ⟨af, aL, aG⟩⟩⟩ := TG;dsimp only at CQ jR;have MU := XG;have TU := CP;have TV := zh (aj v2.heap.size v2);obtain ⟨y0, y1, y2, y3, y4, y5, y6, y7, y8, y9, FT, FU, FV, FW⟩ := (dV.gen MU.out).q;go_wp2_with fail;refine Ci.out.mono ?_;rintro e w6 ⟨⟨sb, rfl, ho⟩, hb⟩;dsimp only at ho ⊢
     clear y0 y1 y2 y3 y4 y5 y6 y7 y8 y9 FT FU FV FW;have RG := zh (ho.rd TU.out hb);have Fl := zh (dV.below MU.out hb);have jG := zh (zA TV.out hb);clear ho hb Ci By HT;have jg := zh (mW.out _ (zD (B := bG) (b := bG) (ai _) (zL an ar am az sb aL aG) (Aj.out _ jG.out)));have I3 := zh (dV.nj Fl.out an ar am az sb aL aG);have jV := zh (fw.gen RG.out Fl.out (zL an ar am az sb aL aG));have xf := (dV.gen Fl.out).f;obtain ⟨x0, x1, x2, x3, x4, x5, x6, x7, x8, x9, fM, fN, fK, fL⟩ := (dV.gen Fl.out).q;go_wp2_with fail;go_meet
     case rel => exact ⟨er, an, ar, am, az, aL, aG, sb, af, _, _, _, L, rfl, I3, jV, CQ, HS.out.below jg.out |> zh, zh (HR.out.below jg.out), iN, zh (by rw [jR.out]), zh (HZ.out.below jg.out), zh (zA HB.out jg.out)⟩
    clear h4 nz
    have jR := zh (show JY = vV ⟨1, 9000, false, dZ L⟩ (xK ⟨num, rev, md, sz, ⟨fs, LV, GA⟩⟩ 2) from by
     rw [jI.out]; unfold uo; rw [ah (by decide), ah (by decide), ag rfl]; dsimp only; rw [Gf.out])
    clear jI Gf z_ HG l9 HU Eo;have Ci := zh (zHZ ⟨num, rev, md, sz, ⟨fs, LV, GA⟩⟩ s v2 CP.out (fun i hi => ak (By.out i hi) (by decide)));have CQ := zh (show ∀ i, i < 8 → ((xK ⟨num, rev, md, sz, ⟨fs, LV, GA⟩⟩ 2).2.m.st i).length ≤ 10000 from fun i hi => ak (zG6 (K := 48) By.out i hi) (by decide));dsimp only at Ci;generalize xK ⟨num, rev, md, sz, ⟨fs, LV, GA⟩⟩ 2 = TG at *;obtain ⟨er, ⟨an, ar, am, az, ⟨af, aL, aG⟩⟩⟩ := TG;dsimp only at CQ jR;have MU := XG;have TU := CP;have TV := zh (aj v2.heap.size v2);obtain ⟨y0, y1, y2, y3, y4, y5, y6, y7, y8, y9, FT, FU, FV, FW⟩ := (dV.gen MU.out).q;go_wp2_with fail;refine Ci.out.mono ?_;rintro e w6 ⟨⟨sb, rfl, ho⟩, hb⟩;dsimp only at ho ⊢;clear y0 y1 y2 y3 y4 y5 y6 y7 y8 y9 FT FU FV FW;have RG := zh (ho.rd TU.out hb);have Fl := zh (dV.below MU.out hb);have jG := zh (zA TV.out hb);clear ho hb Ci By
    have jg := zh (mW.out _ (zD (B := bG) (b := bG) (ai _) (zL an ar am az sb aL aG) (Aj.out _ jG.out)));have I3 := zh (dV.nj Fl.out an ar am az sb aL aG);have jV := zh (fw.gen RG.out Fl.out (zL an ar am az sb aL aG));have xf := (dV.gen Fl.out).f;obtain ⟨x0, x1, x2, x3, x4, x5, x6, x7, x8, x9, fM, fN, fK, fL⟩ := (dV.gen Fl.out).q;go_wp2_with fail;go_meet
    case rel => exact ⟨er, an, ar, am, az, aL, aG, sb, af, _, _, _, L, rfl, I3, jV, CQ, HS.out.below jg.out |> zh, zh (HR.out.below jg.out), iN, zh (by rw [jR.out]), zh (HZ.out.below jg.out), zh (zA HB.out jg.out)⟩
   as_aux_lemma =>
   clear HS HR HZ HB XG CP iN By l9 HG jI Gf z_ HU Eo mW Aj BJ eP MR jS;obtain ⟨er, an, ar, am, az, aL, aG, sb, af, a', m', c', L', rfl, XG, RG, CQ, HS, HR, iN, jR, HZ, HB⟩ := hcut;generalize wc = w8 at *;obtain ⟨g0, g1, g2, g3, g4, g5, g6, g7, g8, g9, g10, g11, g12, g13⟩ := (dV.gen XG.out).q;obtain ⟨k0, k1, k2, k3⟩ := (dV.g_ HS.out).q;have Ai := zh (zJQ 1 9000 false a' m' c' L' w8 HR.out iN.out (⟨an, ar, am, az, ⟨af, aL, aG⟩⟩, sb) RG.out CQ.out);have pW := zh (fun h => NY (s := ⟨1, 9000, false, dZ L'⟩) (g := ⟨an, ar, am, az, ⟨af, aL, aG⟩⟩) h);have sj := zh (jR.out.trans (show (vV ⟨1, 9000, false, dZ L'⟩ (er, ⟨an, ar, am, az, ⟨af, aL, aG⟩⟩)).dU = (if er = 0 ∧ (yb ⟨1, 9000, false, dZ L'⟩ ⟨an, ar, am, az, ⟨af, aL, aG⟩⟩).2 = 0 then (yb ⟨1, 9000, false, dZ L'⟩ ⟨an, ar, am, az, ⟨af, aL, aG⟩⟩).1 else ⟨1, 9000, false, dZ L'⟩).dU from rfl));clear jR;dsimp only at Ai
   generalize yb ⟨1, 9000, false, dZ L'⟩ ⟨an, ar, am, az, ⟨af, aL, aG⟩⟩ = CS at *;obtain ⟨⟨DS, oG, DT, cg⟩, fe⟩ := CS;go_wp2_with fail;refine Ai.out.mono ?_;rintro e w9 ⟨⟨xa, xn, xc, xL, rfl, DI, oF⟩, hb⟩;dsimp only at oF pW sj ⊢;clear k0 k1 k2 k3;clear g0 g1 g2 g3 g4 g5 g6 g7 g8 g9 g10 g11 g12 g13;replace HS := zh (HS.out.below hb);replace HR := zh (HR.out.below hb);replace HZ := zh (HZ.out.below hb);replace HB := zh (zA HB.out hb);have lj := zh DI;have iE := zh oF;clear DI oF hb Ai XG RG CQ;go_upto_region 27 with fail;change Code.wp _ _ _ _ (w9.alloc (.cells (zK DS oG DT xa xn xc) 31));have eH := zN w9 DS oG DT xa xn xc 31;have HX := zh (dV.new w9 (zK DS oG DT xa xn xc) 31);replace lj := zh (lj.out.below eH);replace HS := zh (HS.out.below eH);replace HR := zh (HR.out.below eH);replace HZ := zh (HZ.out.below eH);replace HB := zh (zA HB.out eH);clear eH
   generalize w9.alloc (.cells (zK DS oG DT xa xn xc) 31) = IA at *;generalize w9.heap.size = bX at *
   by_cases TW : er = 0
   ·
    subst TW
    by_cases hf0 : fe = 0
    ·
     subst hf0;obtain ⟨rfl, rfl, rfl⟩ : DS = 1 ∧ oG = 9000 ∧ DT = false := by
      have h9 := pW.out rfl;injection h9 with h1 h2 h3 h4;exact ⟨h1, h2, h3⟩
     obtain ⟨z0, z1, z2, z3⟩ := (dV.g_ HX.out).q;obtain ⟨y0, y1, y2, y3⟩ := (dV.g_ HS.out).q;have yf := (dV.g_ HS.out).f;have I4 := zh (dV.rM HS.out 1 9000 false xa xn xc);have jP := zh (fq.g_ lj.out HS.out (zJ 1 9000 false xa xn xc));have TS := zh (dV.eu (c := bS) (by omega) (zJ 1 9000 false xa xn xc) HZ.out);have gN := zh (zD (B := w.heap.size) (b := bS) (by omega) (zJ 1 9000 false xa xn xc) HB.out);have jW := zh (show dZ xL = (wE B7 (ac.take (k + 1))).dU from by rw [I1.out, sj.out, ag ⟨rfl, rfl⟩]; exact iE.out);go_wp2_with fail;exact ⟨⟨k + 1, xa, xn, xc, xL, by go_num, by omega, by omega, I4, jP, jW, TS, gN⟩, by simp [intOf]; omega⟩
    have hz : (fe == 0) = false := beq_eq_false_iff_ne.2 hf0;have jW := zh (show dZ L' = (wE B7 (ac.take (k + 1))).dU from by rw [I1.out, sj.out, ah (fun h => hf0 h.2)]);go_wp2_with fail;exact ⟨⟨k + 1, _, _, _, L', by go_num, by omega, by omega, HS, HR, jW, HZ, HB⟩, by simp [intOf]; omega⟩
   have hz : (er == 0) = false := beq_eq_false_iff_ne.2 TW;have jW := zh (show dZ L' = (wE B7 (ac.take (k + 1))).dU from by rw [I1.out, sj.out, ah (fun h => TW h.1)]);go_wp2_with fail;exact ⟨⟨k + 1, _, _, _, L', by go_num, by omega, by omega, HS, HR, jW, HZ, HB⟩, by simp [intOf]; omega⟩
  have i2 : ¬ (k : Int) < 8 := by omega
  have hE := zh (Fe.out k (.inl (by omega)));have HI := D6.out k hk;rw [← hE.out] at HE HI;generalize IW ac = MS at *;obtain ⟨TN, I2, TP, sg⟩ := MS;obtain ⟨_, Gd, rY, Ge, _, _⟩ := HI;dsimp only at Gd rY Ge HE;subst Gd rY Ge;have Ea := zh (dV.g_ HZ.out);obtain ⟨k0, k1, k2, k3⟩ := (dV.g_ HS.out).q;obtain ⟨z0, z1, z2, z3⟩ := Ea.out.q;have zf := Ea.out.f;go_wp2_with fail;change bodyPost _ _ _ _ _ (pts wr w.heap.size (zJ 1 9000 false a m c));have rZ := zh (fq.g_ HR.out HZ.out (zJ 1 9000 false a m c));have hby := Ea.out.all 1 9000 false a m c;have ek := zh (zD (B := w.heap.size) (b := w.heap.size) (by omega) (zJ 1 9000 false a m c) HB.out);generalize pts wr w.heap.size (zJ 1 9000 false a m c) = V at *;exact aw (v := zZ 1 9000 false a m c) (by simp [results, Tryz.results20, go_sem, hby.c0, hby.c1, hby.c2, hby.c3]) rfl (⟨⟨a, m, c, L, rfl, rZ.out, HE.out⟩, ek.out⟩)
 have i1 : ¬ (k : Int) < (n : Int) := by omega
 have hE := zh (Fe.out k (.inr ⟨by omega, jJ⟩));have HI := D6.out k hk;rw [← hE.out] at HE HI;generalize IW ac = MS at *;obtain ⟨TN, I2, TP, sg⟩ := MS;obtain ⟨_, Gd, rY, Ge, _, _⟩ := HI;dsimp only at Gd rY Ge HE;subst Gd rY Ge;have Ea := zh (dV.g_ HZ.out);obtain ⟨k0, k1, k2, k3⟩ := (dV.g_ HS.out).q;obtain ⟨z0, z1, z2, z3⟩ := Ea.out.q;have zf := Ea.out.f;go_wp2_with fail;change bodyPost _ _ _ _ _ (pts wr w.heap.size (zJ 1 9000 false a m c));have rZ := zh (fq.g_ HR.out HZ.out (zJ 1 9000 false a m c));have hby := Ea.out.all 1 9000 false a m c;have ek := zh (zD (B := w.heap.size) (b := w.heap.size) (by omega) (zJ 1 9000 false a m c) HB.out);generalize pts wr w.heap.size (zJ 1 9000 false a m c) = V at *;exact aw (v := zZ 1 9000 false a m c) (by simp [results, Tryz.results20, go_sem, hby.c0, hby.c1, hby.c2, hby.c3]) rfl (⟨⟨a, m, c, L, rfl, rZ.out, HE.out⟩, ek.out⟩)
end Go.Proofs.YtcgfilmmokmdjaaGreat
