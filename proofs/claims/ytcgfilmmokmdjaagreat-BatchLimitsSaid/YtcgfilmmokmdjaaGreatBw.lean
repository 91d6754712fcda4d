/- A part of the walk. -/
import Derived.Test.YtcgfilmmokmdjaaGreatQAY
import Derived.Test.YtcgfilmmokmdjaaGreatSkb
import Derived.Test.YtcgfilmmokmdjaaGreatQAN
set_option linter.all false
set_option maxRecDepth 100000
set_option maxHeartbeats 32000000
namespace Go.Proofs.YtcgfilmmokmdjaaGreat
open Go.RowKit
theorem OwnNk.rd {W : World} {B : Nat} {v : Value} {es : List (Nd × Value)} (h : OwnNk W B v es) : RdN W v es := ⟨zv h.row, fun p hp => (h.dat p hp).rd⟩
theorem zGU {K : Nat} {g : Gn} {m : Int} (h : ∀ i, i < 8 → (g.m.st i).length ≤ K) (i : Nat) (hi : i < 8) : ((wO g m).2.m.st i).length ≤ K := by
 unfold wO
 split
 ·
  split
  ·
   exact h i hi
  exact Nat.zero_le _
 exact Nat.zero_le _
theorem zKx {b : Nat} {v1 v2 V : World} (hs : v1.heap.size = b) (h : Below b v1 v2) (h2 : Below v2.heap.size v2 V) : Below b v1 V := h.trans (h2.mono (by rw [← hs]; exact h.size))
def AcB (W : World) (b : Nat) (kind : Int) (l : Value) (g : Int) (k : Value) : Prop := BlkE W b #[.int .i64 kind, l, .int .i64 g, k] 141
theorem zGB (v : Value) (ac : List AcP) (w : World) (h : RdA w v ac) : Calls Tryz.prog 20 #[v] w (SlR w (zBA ac)) := by
 obtain ⟨va, vc, rfl, hv1, hv2⟩ := h.shape;have HA := zh h;have HIn := zh (fun k (hk : k ≤ ac.length) => ul ac k hk);have HSn := zh (fun k (hk : k < ac.length) => qt ac k hk)
 have HEnd := zh (show ∀ k, (k = 8 ∨ (k = ac.length ∧ k ≤ 8)) → zBA ac = xo sl0 (ac.take k) from fun k hk => by
  unfold zBA
  rcases hk with rfl | ⟨rfl, hk⟩
  ·
   rfl
  rw [List.take_of_length_le hk, List.take_of_length_le (Nat.le_refl _)])
 have hcap : ac.length ≤ 9223372036854775807 := Nat.le_trans hv1 hv2;have HNw := zh (fun W => zGH 1 9000 (by decide) W);clear h hv1 hv2;generalize hn : ac.length = n at *;clear hn
 go_enter Tryz.func20, Tryz.ntmps20
 go_upto_region 1 with fail;change Code.wp _ _ _ _ (w.alloc (.cells (zS 0 0 false none 0 0) 31));have HZ := zh (BlkE.new w (zS 0 0 false none 0 0) 31);have HB := zh (zP w 0 0 false none 0 0 31);generalize w.alloc (.cells (zS 0 0 false none 0 0) 31) = w0 at *;go_wp2_with fail;refine (HNw.out w0).mono ?_;rintro e w1 ⟨b, rfl, hbb, hg, hb⟩;have HR := zh (zAM hg);replace HZ := zh (HZ.out.below hb);replace HB := zh (zA HB.out hb);clear hg hb hbb HNw;have hbS := HZ.out.lt;go_upto_region 2 with fail;change Code.wp _ _ _ _ (w1.alloc (.cells (zS 1 9000 false (some ⟨b, 0, none⟩) 1 1) 31));have hbq := zP w1 1 9000 false (some ⟨b, 0, none⟩) 1 1 31;have HS := zh (BlkE.new w1 (zS 1 9000 false (some ⟨b, 0, none⟩) 1 1) 31);replace HZ := zh (HZ.out.below hbq);replace HB := zh (zA HB.out hbq);replace HR := zh (HR.out.below hbq);clear hbq
 generalize w1.alloc (.cells (zS 1 9000 false (some ⟨b, 0, none⟩) 1 1) 31) = w2 at *;generalize w1.heap.size = bS at *;go_wp2_with fail
 go_loopw [5] (fun iv V => ∃ (k : Nat) (a : Option Addr) (m c : Nat) (L : List GP), iv = .int .i64 (k : Int) ∧ k ≤ n ∧ k ≤ 8 ∧ Hid (BlkE V bS (zS 1 9000 false a m c) 31) ∧ Hid (RdG V (.slice a m c) L) ∧ Hid (gns L = (xo sl0 (ac.take k)).gens) ∧ Hid (BlkE V w.heap.size (zS 0 0 false none 0 0) 31) ∧ Hid (Below w.heap.size w V)) (fun iv _ => n - (intOf iv).toNat)
 case atStart => exact ⟨0, _, _, _, kJ, rfl, Nat.zero_le _, Nat.zero_le _, HS, HR, zh rfl, HZ, HB⟩
 clear HS HR HZ HB;obtain ⟨k, a, m, c, L, rfl, hk, hk8, HS, HR, HE, HZ, HB⟩ := hrel
 by_cases hlt : k < n
 ·
  have i1 : (k : Int) < (n : Int) := by omega
  by_cases hlt8 : k < 8
  ·
   have i2 : (k : Int) < 8 := by omega
   obtain ⟨bq, oq, rfl, c0, c1, c2, c3, hN, hWf, hU⟩ := (HA.out.below HB.out).at hlt;have HI := HIn.out k hk;have hst := HSn.out k hlt;unfold zEc at hst;generalize qS ac k = x at *;obtain ⟨kind, lv, nl, gen, kv, keys⟩ := x;dsimp only at *;obtain ⟨la, lc, rfl, hl1, hl2⟩ := hN.shape;obtain ⟨ka, kc, rfl, hk1, hk2⟩ := hU.shape0;have HSm := zh (fun W (hb : Below wr.heap.size wr W) => zEW (.slice la nl.length lc) nl 6 W (hN.below hb) (by decide));have HU := zh hU;have hsn := zC4 6 (nl.map (·.1));have hsd := zEE 6 (nl.map (·.1));clear hN hWf hU hl1 hl2;generalize nl.map (·.1) = ND at *;generalize nl.length = nn at *;obtain ⟨hIv, hIi, hIl, hIr, hIn, hIz⟩ := HI;generalize xo sl0 (ac.take k) = sk at *;have HI1 := zh (HIn.out (k + 1) (by omega));generalize hk1s : xo sl0 (ac.take (k + 1)) = sk1 at *;have Hk1s := zh hk1s;clear hk1s;obtain ⟨sid, slim, sro, sg⟩ := sk
   dsimp only at hIi hIl hIr hIn hIz HE;subst hIi hIl hIr;obtain rfl : sg = gns L := HE.out.symm;have HSt := zh hst;clear hst HE;have hlen := hIv.len;have hLm : L.length = m := by
    obtain ⟨_, _, e, _⟩ := HR.out.shape;injection e with _ e _; exact e.symm
   dsimp only at hlen;rw [zz, hLm] at hlen;obtain ⟨j, rfl⟩ : ∃ j, m = j + 1 := ⟨m - 1, by omega⟩
   have hj7 : j ≤ 7 := by omega
   have HLn48 := zh (show ∀ p ∈ L, ∀ i, i < 8 → (p.1.m.st i).length ≤ 48 from fun p hp i hi => Nat.le_trans (hIn p.1 (List.mem_map_of_mem hp) i hi) (by omega));have HLm := zh hLm;clear hIv hIn hIz hlen hLm;go_upto_region 6 with fail;clear c0 c1 c2 c3;change Code.wp _ _ _ _ (wr.alloc (.cells #[.int .i64 kind, .slice la nn lc, .int .i64 gen, .slice ka keys.length kc] 141));have hbq := (Below.refl wr.heap.size wr).alloc (Nat.le_refl _) (.cells #[.int .i64 kind, .slice la nn lc, .int .i64 gen, .slice ka keys.length kc] 141);have HAc := zh (show AcB (wr.alloc (.cells #[.int .i64 kind, .slice la nn lc, .int .i64 gen, .slice ka keys.length kc] 141)) wr.heap.size kind (.slice la nn lc) gen (.slice ka keys.length kc) from BlkE.new _ _ _);replace HS := zh (HS.out.below hbq);replace HR := zh (HR.out.below hbq);replace HZ := zh (HZ.out.below hbq);replace HB := zh (zA HB.out hbq)
   replace HU := zh (RdL.below HU.out hbq);replace HSm := zh (fun W (hb : Below _ _ W) => HSm.out W (zA hbq hb));clear hbq;generalize wr.alloc (.cells #[.int .i64 kind, .slice la nn lc, .int .i64 gen, .slice ka keys.length kc] 141) = v0 at *;generalize wr.heap.size = bA at *;have hlp : 0 < j + 1 := by omega
   obtain ⟨t, kk, e1, e2, e3, e4, e5, e6, e7⟩ := zJy gen (j + 1) hlp;simp only [Int.natCast_add, Int.natCast_one] at e1 e2 e3 e4 e5;have q2 := zC (show v0.cell? ⟨bA, 2, none⟩ = some (.int .i64 gen) from BlkE.cell HAc.out rfl);have k3 := zC (BlkE.slo HS.out).c3;refine zB (by kernel_rfl) (by kernel_rfl) ?_
   repeat (go_big_quiet_step (fail))
   refine wpQuiet_nil ?_;intro _ hw';obtain ⟨q, hw'⟩ := hw';subst hw';replace HS := zh (HS.out.below q.h);replace HR := zh (HR.out.below q.h);replace HZ := zh (HZ.out.below q.h);replace HB := zh (zA HB.out q.h);replace HU := zh (RdL.below HU.out q.h);replace HAc := zh (show AcB q.w' bA kind (.slice la nn lc) gen (.slice ka keys.length kc) from BlkE.below HAc.out q.h);replace HSm := zh (fun W (hb : Below _ _ W) => HSm.out W (zA q.h hb));clear q2 k3;generalize q.w' = v1 at *;clear q e1 e2 e3 e4 e5;have hmem := xI (l := L) (i := kk) (by have := HLm.out; omega);have HMp := zh (HR.out.m _ hmem);have HLp := zh (HLn48.out _ hmem);obtain ⟨bg, og, rfl, _⟩ := HR.out.at e6;have HG := zh (HR.out.at2 e6)
   have HpE := zh (show gat (gns L) (gen % ((gns L).length : Int)).toNat = (pat L kk).1 from by rw [zz, HLm.out]; simp only [Int.natCast_add, Int.natCast_one]; rw [show gen % ((j : Int) + 1) = (kk : Int) from by simpa using e7, Int.toNat_natCast, xD]);clear hmem e7;generalize pat L kk = p at *;obtain ⟨⟨num, rev, md, sz, ⟨fs, LV, GA⟩⟩, s⟩ := p;dsimp only at HMp HLp HpE;have k3 := (BlkE.slo HS.out).c3;have i3 : (kk : Int) < (j : Int) + 1 := by omega
   have i4 : (kk : Int) < ((j + 1 : Nat) : Int) := by omega
   obtain ⟨g0, g1, g2, g3, g4, g5, g6, g7, g8, g9, g10, g11, g12, g13⟩ := HG.out.q;dsimp only at g0 g1 g2 g3 g4 g5 g6 g7 g8 g9 g10 g11 g12 g13;go_upto_region 7 with fail
   go_cut [8, 9] (fun vb ve wx => vb = .pointer (some ⟨v1.heap.size, 0, none⟩) ∧ ve = .int .i64 1 ∧ wx = v1.alloc (.cells (zX num rev md sz s LV GA) 113))
   case first =>
    go_wp2_with fail;go_meet
    case rel => exact ⟨rfl, rfl, rfl⟩
   case rest =>
   clear k3;clear g0 g1 g2 g3 g4 g5 g6 g7 g8 g9 g10 g11 g12 g13;obtain ⟨rfl, rfl, rfl⟩ := hcut
   have HB2 := zh (zZ v1 num rev md sz s LV GA 113);have XG := zh (BlkE.new v1 (zX num rev md sz s LV GA) 113);have HXM := zh (HMp.out.below HB2.out);generalize v1.alloc (.cells (zX num rev md sz s LV GA) 113) = v2 at *;generalize hbG : v1.heap.size = bG at *;have HBv := zh (fun V (h : Below bG v1 V) => show Below v1.heap.size v1 V from hbG ▸ h);have HBs := zh (fun V (h : Below v2.heap.size v2 V) => show Below bG v1 V from zKx hbG HB2.out h);have hSG : bS < bG := by rw [← hbG]; exact HS.out.lt
   clear hbG;have HLn := zh (show ∀ p ∈ L, ∀ j, j < 8 → (p.1.m.st j).length ≤ 10000 from fun p hp i hi => Nat.le_trans (HLn48.out p hp i hi) (by decide));go_step;go_step
   go_cut [9] (fun ve wx => ∃ (er an ar am az aL aG : Int) (sG : Sl) (af : Nat → List It) (a' : Option Addr) (m' c' : Nat) (L' : List GP), ve = .int .i64 er ∧ Hid (BlkE wx bG (zX an ar am az sG aL aG) 113) ∧ Hid (RdM wx sG af) ∧ Hid (∀ i, i < 8 → (af i).length ≤ 10000) ∧ Hid (BlkE wx bS (zS 1 9000 false a' m' c') 31) ∧ Hid (RdG wx (.slice a' m' c') L') ∧ Hid (∀ p ∈ L', ∀ j, j < 8 → (p.1.m.st j).length ≤ 10000) ∧ Hid (sk1.gens = (vN ⟨1, 9000, false, gns L'⟩ (er, ⟨an, ar, am, az, ⟨af, aL, aG⟩⟩)).gens) ∧ Hid (BlkE wx w.heap.size (zS 0 0 false none 0 0) 31) ∧ Hid (Below w.heap.size w wx))
   case first =>
    have q0 : v2.cell? ⟨bA, 0, none⟩ = some (.int .i64 kind) := BlkE.cell (BlkE.below HAc.out (HBv.out _ HB2.out)) rfl;obtain ⟨kd, hkd, hkd4⟩ : ∃ kd, bits .and .i64 kind 7 = kd ∧ 0 ≤ kd ∧ kd < 8 := ⟨_, rfl, by rw [zDh]; omega⟩
    rw [← zDh kind, hkd] at HSt;have HS4 := zh hkd4;clear hkd4;go_upto_if 55 with fail;clear hkd q0
    go_cut [55] (fun v wx => v = .bool (decide (kd < 4)) ∧ wx = v2)
    case first =>
     rcases (show kd = 0 ∨ kd = 1 ∨ kd = 2 ∨ kd = 3 ∨ (4 ≤ kd ∧ kd < 8) from by have := HS4.out; omega) with rfl | rfl | rfl | rfl | ⟨h4, h8⟩
     ·
      go_wp2_with fail;go_meet
      case rel => exact ⟨rfl, rfl⟩
     ·
      go_wp2_with fail;go_meet
      case rel => exact ⟨rfl, rfl⟩
     ·
      go_wp2_with fail;go_meet
      case rel => exact ⟨rfl, rfl⟩
     ·
      go_wp2_with fail;go_meet
      case rel => exact ⟨rfl, rfl⟩
     have e0 : (kd == 0) = false := beq_eq_false_iff_ne.2 (by omega);have e1 : (kd == 1) = false := beq_eq_false_iff_ne.2 (by omega);have e2 : (kd == 2) = false := beq_eq_false_iff_ne.2 (by omega);have e3 : (kd == 3) = false := beq_eq_false_iff_ne.2 (by omega);have e4 : decide (kd < 4) = false := decide_eq_false (by omega);go_wp2_with fail;go_meet
     case rel => exact ⟨by rw [e4], rfl⟩
    obtain ⟨rfl, hwc⟩ := hcut;generalize wc = w5 at *;replace hwc := hwc.symm;subst hwc
    by_cases h4 : kd < 4
    ·
     have hk4 : decide (kd < 4) = true := decide_eq_true h4;rw [hk4]
     have HSu := zh (HSt.out.trans (show uS ⟨1, 9000, false, gns L⟩ kd ND gen keys = vN ⟨1, 9000, false, gns L⟩ (xM (zY ⟨1, 9000, false, gns L⟩) (sbL 6 ND)) from by
      unfold uS; rw [if_neg (by omega), if_neg (by omega), if_neg (by omega)]))
     clear hk4 h4 HS4 HSt;go_upto_region 13 with fail;have hmj := xI (l := L) (i := j) (by have := HLm.out; omega);have HM2 := zh (HR.out.m _ hmj);have HL2 := zh (HLn48.out _ hmj);have HG2 := zh (HR.out.at2 (show j < j + 1 by omega));have HSt2 := zh (show sk1 = vN ⟨1, 9000, false, gns L⟩ (xM (pat L j).1 (sbL 6 ND)) from by rw [← vz (i := 1) (l := 9000) (r := false) HLm.out]; exact HSu.out);clear hmj HSu HpE HMp HLp HG HXM HU;generalize pat L j = p at *;obtain ⟨⟨n2, r2, m2, z2, ⟨f2, L2, G2⟩⟩, s2⟩ := p;dsimp only at HM2 HL2 HSt2;generalize sbL 6 ND = SN at *
     have HAd := zh (show ∀ lv es W, Below v2.heap.size v2 W → RdN W lv es → es.map (·.1) = SN → Calls Tryz.prog 43 #[ze n2 r2 m2 z2 s2 L2 G2, lv] W fun e w' => (∃ s', e = .returned (.tuple #[ze (xM ⟨n2, r2, m2, z2, ⟨f2, L2, G2⟩⟩ SN).2.num (xM ⟨n2, r2, m2, z2, ⟨f2, L2, G2⟩⟩ SN).2.rev (xM ⟨n2, r2, m2, z2, ⟨f2, L2, G2⟩⟩ SN).2.mode (xM ⟨n2, r2, m2, z2, ⟨f2, L2, G2⟩⟩ SN).2.size s' (xM ⟨n2, r2, m2, z2, ⟨f2, L2, G2⟩⟩ SN).2.m.live (xM ⟨n2, r2, m2, z2, ⟨f2, L2, G2⟩⟩ SN).2.m.garb, .int .i64 (xM ⟨n2, r2, m2, z2, ⟨f2, L2, G2⟩⟩ SN).1]) ∧ RdM w' s' (xM ⟨n2, r2, m2, z2, ⟨f2, L2, G2⟩⟩ SN).2.m.st) ∧ Below W.heap.size W w' from fun lv es W hb h2 h3 => by
      have hb1 : Below v1.heap.size v1 W := HBv.out _ (HBs.out _ hb)
      have hle : es.length ≤ 6 := by have := congrArg List.length h3; rw [List.length_map] at this; omega
      have h9 := zII ⟨n2, r2, m2, z2, ⟨f2, L2, G2⟩⟩ s2 lv es 48 W (HM2.out.below hb1) HL2.out h2 (by omega) (fun p hp => by have := hsd p.1 (h3 ▸ List.mem_map_of_mem hp); omega)
      rw [h3] at h9
      exact h9.mono fun e w' hq => ⟨hq.1.imp fun s' hs' => ⟨hs'.1, hs'.2.rd (HM2.out.below hb1) hq.2⟩, hq.2⟩)
     have HLa := zh (show ∀ i, i < 8 → ((xM ⟨n2, r2, m2, z2, ⟨f2, L2, G2⟩⟩ SN).2.m.st i).length ≤ 10000 from fun i hi => Nat.le_trans (zHa (K := 48) ⟨n2, r2, m2, z2, ⟨f2, L2, G2⟩⟩ SN HL2.out i hi) (by omega));clear HM2 HL2 hsd;generalize xM ⟨n2, r2, m2, z2, ⟨f2, L2, G2⟩⟩ SN = TG at *;obtain ⟨er, ⟨an, ar, am, az, ⟨af, aL, aG⟩⟩⟩ := TG;dsimp only at HAd HLa HSt2;have j3 : IntKind.i64.wrap (j : Int) = (j : Int) := IntWalk.i64_in _ (by omega);have j5 : (j : Int) < ((j + 1 : Nat) : Int) := by omega
     refine xQ [eqS (.pointer (some ⟨bS, 3, none⟩)), eqS (.slice (some ⟨bg, og, none⟩) (j + 1) c), eqS (.pointer (some ⟨bS, 3, none⟩)), eqS (.slice (some ⟨bg, og, none⟩) (j + 1) c), eqS (.int .i64 ((j : Int) + 1)), eqS (.int .i64 (j : Int)), eqS (.pointer (some ⟨bg, og + j * 14, none⟩)), eqS (ze n2 r2 m2 z2 s2 L2 G2), eqS (.pointer (some ⟨bA, 1, none⟩)), eqS (.slice la nn lc), zLO SN, zLW er an ar am az af aL aG, zLW er an ar am az af aL aG, zLX an ar am az af aL aG, eqS (.int .i64 er)] [] 122 14 (by kernel_rfl) (by kernel_rfl) rfl rfl (by decide) (by rfl) (by kernel_rfl) (fun f => by simp [frm, zN, Act.put]; exact rfl) ?_ ?_ ?_
     ·
      refine ⟨?_, ?_, ?_, ?_, ?_, ?_, ?_, ?_, ?_, ?_, ?_, ?_, ?_, ?_, ?_, trivial⟩
      ·
       intro f w1 hb hd;clear hd;dsimp only;go_wp2_with fail;exact pS rfl (by simp)
      ·
       intro f w1 hb hd;have d0 : f 0 = (.pointer (some ⟨bS, 3, none⟩)) := hd 0 (by kernel_rfl);clear hd;dsimp only;rw [d0];have hb1 := HBv.out _ (HBs.out _ hb);have q3 := (BlkE.slo (HS.out.below hb1)).c3;go_wp2_with fail;exact pS rfl (by simp)
      ·
       intro f w1 hb hd;clear hd;dsimp only;go_wp2_with fail;exact pS rfl (by simp)
      ·
       intro f w1 hb hd;have d2 : f 2 = (.pointer (some ⟨bS, 3, none⟩)) := hd 2 (by kernel_rfl);clear hd;dsimp only;rw [d2];have hb1 := HBv.out _ (HBs.out _ hb);have q3 := (BlkE.slo (HS.out.below hb1)).c3;go_wp2_with fail;exact pS rfl (by simp)
      ·
       intro f w1 hb hd;have d3 : f 3 = (.slice (some ⟨bg, og, none⟩) (j + 1) c) := hd 3 (by kernel_rfl);clear hd;dsimp only;rw [d3];go_wp2_with fail;exact pS rfl (by simp)
      ·
       intro f w1 hb hd;have d4 : f 4 = (.int .i64 ((j : Int) + 1)) := hd 4 (by kernel_rfl);clear hd;dsimp only;rw [d4];go_wp2_with fail;exact pS rfl (by simp)
      ·
       intro f w1 hb hd;have d1 : f 1 = (.slice (some ⟨bg, og, none⟩) (j + 1) c) := hd 1 (by kernel_rfl);have d5 : f 5 = (.int .i64 (j : Int)) := hd 5 (by kernel_rfl);clear hd;dsimp only;rw [d1];rw [d5];go_wp2_with fail;exact pS rfl (by simp)
      ·
       intro f w1 hb hd;have d6 : f 6 = (.pointer (some ⟨bg, og + j * 14, none⟩)) := hd 6 (by kernel_rfl);clear hd;dsimp only;rw [d6];have hb1 := HBv.out _ (HBs.out _ hb);have zo := HG2.out.below hb1;obtain ⟨q0, q1, q2, q3, q4, q5, q6, q7, q8, q9, q10, q11, q12, q13⟩ := zo.q;clear zo;dsimp only at q0 q1 q2 q3 q4 q5 q6 q7 q8 q9 q10 q11 q12 q13;go_wp2_with fail;exact pS rfl (by simp)
      ·
       intro f w1 hb hd;clear hd;dsimp only;go_wp2_with fail;exact pS rfl (by simp)
      ·
       intro f w1 hb hd;have d8 : f 8 = (.pointer (some ⟨bA, 1, none⟩)) := hd 8 (by kernel_rfl);clear hd;dsimp only;rw [d8];have hb1 := HBv.out _ (HBs.out _ hb);have q1 : w1.cell? ⟨bA, 1, none⟩ = some (.slice la nn lc) := BlkE.cell (BlkE.below HAc.out hb1) rfl;go_wp2_with fail;exact pS rfl (by simp)
      ·
       intro f w1 hb hd;have d9 : f 9 = (.slice la nn lc) := hd 9 (by kernel_rfl);clear hd;dsimp only;rw [d9];go_wp2_with fail;refine (HSm.out w1 (HBs.out _ hb)).mono ?_;rintro e w9 ⟨qv, es, rfl, ho9, hes, hb9⟩;obtain ⟨qa, qc, rfl, _⟩ := ho9.rd.shape;go_wp2_with fail;exact ⟨rfl, hb9, fun t ht => by injection ht with ht; subst ht; exact ⟨⟨qa, es.length, qc, es, rfl, ho9.rd, hes⟩, fun h => by simp at h⟩⟩
      ·
       intro f w1 hb hd;have d7 : f 7 = (ze n2 r2 m2 z2 s2 L2 G2) := hd 7 (by kernel_rfl);obtain ⟨a10, n10, c10, e10, d10, r10, m10⟩ := show ∃ a n c es, f 10 = .slice a n c ∧ RdN w1 (.slice a n c) es ∧ es.map (·.1) = SN from hd 10 (by kernel_rfl);clear hd;dsimp only;rw [d7];rw [d10];go_wp2_with fail;refine (HAd.out _ e10 w1 hb r10 m10).mono ?_;rintro e w9 ⟨⟨s9, rfl, ho9⟩, hb9⟩;go_wp2_with fail;exact ⟨rfl, hb9, fun t ht => by injection ht with ht; subst ht; exact ⟨⟨s9, rfl, ho9⟩, fun h => by simp at h⟩⟩
      ·
       intro f w1 hb hd;obtain ⟨s11, d11, r11⟩ := show ∃ s, f 11 = .tuple #[ze an ar am az s aL aG, .int .i64 er] ∧ RdM w1 s af from hd 11 (by kernel_rfl);clear hd;dsimp only;rw [d11];go_wp2_with fail;exact ⟨rfl, Below.refl _ _, fun t ht => by injection ht with ht; subst ht; exact ⟨⟨s11, rfl, r11⟩, fun h => by simp at h⟩⟩
      ·
       intro f w1 hb hd;obtain ⟨s12, d12, r12⟩ := show ∃ s, f 12 = .tuple #[ze an ar am az s aL aG, .int .i64 er] ∧ RdM w1 s af from hd 12 (by kernel_rfl);clear hd;dsimp only;rw [d12];go_wp2_with fail;exact ⟨rfl, Below.refl _ _, fun t ht => by injection ht with ht; subst ht; exact ⟨⟨s12, rfl, r12⟩, fun h => by simp at h⟩⟩
      intro f w1 hb hd;obtain ⟨s12, d12, r12⟩ := show ∃ s, f 12 = .tuple #[ze an ar am az s aL aG, .int .i64 er] ∧ RdM w1 s af from hd 12 (by kernel_rfl);clear hd;dsimp only;rw [d12];go_wp2_with fail;exact pS rfl (by simp)
     ·
      intro f w5 hb hd hff;clear hff;obtain ⟨sb, d5, r5⟩ := show ∃ s, f 13 = ze an ar am az s aL aG ∧ RdM w5 s af from hd 13 (show 13 < 15 by decide);have d6 : f 14 = .int .i64 er := hd 14 (show 14 < 15 by decide)
      try dsimp only
      rw [d5, d6];clear hd d5 d6;have XG5 := zh (BlkE.below XG.out hb);have r5 := zh r5;generalize f 0 = zq0, f 1 = zq1, f 2 = zq2, f 3 = zq3, f 4 = zq4, f 5 = zq5, f 6 = zq6, f 7 = zq7, f 8 = zq8, f 9 = zq9, f 10 = zq10, f 11 = zq11, f 12 = zq12;clear f;have hbn := zh (HBv.out _ (zD (B := bG) (b := bG) (Nat.le_refl _) (zO an ar am az sb aL aG) (HBs.out _ hb)));have HN5 := zh (BlkE.genAll XG5.out an ar am az sb aL aG);have HR5 := zh (RdM.gen r5.out XG5.out (zO an ar am az sb aL aG));have xf := (BlkE.gen XG5.out).f;obtain ⟨x0, x1, x2, x3, x4, x5, x6, x7, x8, x9, x10, x11, x12, x13⟩ := (BlkE.gen XG5.out).q;clear hb;change wpList _ _ _ (_ :: _ :: []) _ _;go_wp2_with fail;go_meet
      case rel => exact ⟨er, an, ar, am, az, aL, aG, sb, af, _, _, _, L, rfl, HN5, HR5, HLa, HS.out.below hbn.out |> zh, zh (HR.out.below hbn.out), HLn, zh (by rw [HSt2.out]), zh (HZ.out.below hbn.out), zh (zA HB.out hbn.out)⟩
     intro f w5 hb hd hff;clear hff;obtain ⟨sb, d5, r5⟩ := show ∃ s, f 13 = ze an ar am az s aL aG ∧ RdM w5 s af from hd 13 (show 13 < 15 by decide) (show 13 ≠ 14 by decide);obtain ⟨s4, d4, r4⟩ := show ∃ s, f 12 = .tuple #[ze an ar am az s aL aG, .int .i64 er] ∧ RdM w5 s af from hd 12 (show 12 < 15 by decide) (show 12 ≠ 14 by decide);clear r4
     try dsimp only
     rw [d4, d5];clear hd d4 d5;have XG5 := zh (BlkE.below XG.out hb);have r5 := zh r5;generalize f 0 = zq0, f 1 = zq1, f 2 = zq2, f 3 = zq3, f 4 = zq4, f 5 = zq5, f 6 = zq6, f 7 = zq7, f 8 = zq8, f 9 = zq9, f 10 = zq10, f 11 = zq11, f 14 = zq14;clear f;have hbn := zh (HBv.out _ (zD (B := bG) (b := bG) (Nat.le_refl _) (zO an ar am az sb aL aG) (HBs.out _ hb)));have HN5 := zh (BlkE.genAll XG5.out an ar am az sb aL aG);have HR5 := zh (RdM.gen r5.out XG5.out (zO an ar am az sb aL aG));have xf := (BlkE.gen XG5.out).f;obtain ⟨x0, x1, x2, x3, x4, x5, x6, x7, x8, x9, x10, x11, x12, x13⟩ := (BlkE.gen XG5.out).q;clear hb;change wpList _ _ _ (_ :: _ :: _ :: []) _ _;go_wp2_with fail;go_meet
     case rel => exact ⟨er, an, ar, am, az, aL, aG, sb, af, _, _, _, L, rfl, HN5, HR5, HLa, HS.out.below hbn.out |> zh, zh (HR.out.below hbn.out), HLn, zh (by rw [HSt2.out]), zh (HZ.out.below hbn.out), zh (zA HB.out hbn.out)⟩
    have hk4 : decide (kd < 4) = false := decide_eq_false h4;rw [hk4];clear hk4;rcases (show (kd = 4 ∨ kd = 5) ∨ kd = 6 ∨ kd = 7 from by have := HS4.out; omega) with h45 | rfl | rfl
    ·
     clear h4 HS4;go_upto_if 75 with fail
     go_cut [75] (fun v wx => v = .bool true ∧ wx = v2)
     case first =>
      rcases h45 with rfl | rfl
      ·
       go_wp2_with fail;go_meet
       case rel => exact ⟨rfl, rfl⟩
      go_wp2_with fail;go_meet
      case rel => exact ⟨rfl, rfl⟩
     obtain ⟨rfl, hwc⟩ := hcut;generalize wc = w5 at *;replace hwc := hwc.symm;subst hwc
     as_aux_lemma =>
     have HLk := zh (show ∀ i, i < 8 → (fs i).length ≤ 10000 from fun i hi => Nat.le_trans (HLp.out i hi) (by decide));have HSv := zh (HS.out.below (HBv.out _ HB2.out));have HCh := zh (zEG 1 9000 false (some ⟨bg, og, none⟩) (j + 1) c L v2 (HR.out.below (HBv.out _ HB2.out)) HLn.out);have HOk := zh (fun h => zC2 (s := ⟨1, 9000, false, gns L⟩) h);have HS3 := zh (HSt.out.trans (show uS ⟨1, 9000, false, gns L⟩ kd ND gen keys = if (wm ⟨1, 9000, false, gns L⟩).2 = 0 then (wm ⟨1, 9000, false, gns L⟩).1 else ⟨1, 9000, false, gns L⟩ from by unfold uS; rw [if_pos h45]));clear HSm HU HAc HG HSt HpE HMp HLp;generalize wm ⟨1, 9000, false, gns L⟩ = CS at *;obtain ⟨⟨cid, clim, cro, cg⟩, fe⟩ := CS;obtain ⟨k0, k1, k2, k3⟩ := (BlkE.slo HSv.out).q;go_wp2_with fail;refine HCh.out.mono ?_;rintro e w9 ⟨⟨xa, xn, xc, xL, rfl, hxr, hxg⟩, hb⟩;dsimp only at hxg HOk HS3 ⊢;clear k0 k1 k2 k3 HSv
     have hb9 := HBv.out _ (HBs.out _ hb);replace HS := zh (HS.out.below hb9);replace HR := zh (HR.out.below hb9);replace HZ := zh (HZ.out.below hb9);replace HB := zh (zA HB.out hb9);replace XG := zh (BlkE.below XG.out hb);replace HXM := zh (HXM.out.below hb);have HXr := zh hxr;have HXg := zh hxg;clear hxr hxg hb hb9 HCh;go_upto_region 17 with fail;change Code.wp _ _ _ _ (w9.alloc (.cells (zS cid clim cro xa xn xc) 31));have hbq := zP w9 cid clim cro xa xn xc 31;have HX := zh (BlkE.new w9 (zS cid clim cro xa xn xc) 31);replace HXr := zh (HXr.out.below hbq);replace XG := zh (BlkE.below XG.out hbq);replace HXM := zh (HXM.out.below hbq);replace HS := zh (HS.out.below hbq);replace HR := zh (HR.out.below hbq);replace HZ := zh (HZ.out.below hbq);replace HB := zh (zA HB.out hbq);clear hbq;generalize w9.alloc (.cells (zS cid clim cro xa xn xc) 31) = w10 at *;generalize w9.heap.size = bX at *
     by_cases hf0 : fe = 0
     ·
      subst hf0;obtain ⟨rfl, rfl, rfl⟩ : cid = 1 ∧ clim = 9000 ∧ cro = false := by
       have h9 := HOk.out rfl;injection h9 with h1 h2 h3 h4;exact ⟨h1, h2, h3⟩
      obtain ⟨z0, z1, z2, z3⟩ := (BlkE.slo HX.out).q;obtain ⟨y0, y1, y2, y3⟩ := (BlkE.slo HS.out).q;have yf := (BlkE.slo HS.out).f;have HSn2 := zh (BlkE.sloAll HS.out 1 9000 false xa xn xc);have HRn := zh (RdG.slo HXr.out HS.out (zU 1 9000 false xa xn xc));have HZn := zh (BlkE.pts_ne (c := bS) (by omega) (zU 1 9000 false xa xn xc) HZ.out);have HGn := zh (BlkE.pts_ne (c := bS) (by omega) (zU 1 9000 false xa xn xc) XG.out);have HMn := zh (RdM.slo HXM.out HS.out (zU 1 9000 false xa xn xc));have HBn := zh (zD (B := w.heap.size) (b := bS) (by omega) (zU 1 9000 false xa xn xc) HB.out);have HSt2 := zh (show sk1.gens = gns xL from by rw [HS3.out, if_pos rfl]; exact HXg.out.symm);have HLx := zh (show ∀ p ∈ xL, ∀ j, j < 8 → (p.1.m.st j).length ≤ 10000 from fun p hp i hi => Nat.le_trans (HI1.out.len _ (by rw [HSt2.out]; exact List.mem_map_of_mem hp) i hi) (by omega));go_wp2_with fail;go_meet
      case rel => exact ⟨1, num, rev, md, sz, LV, GA, s, fs, xa, xn, xc, xL, rfl, HGn, HMn, HLk, HSn2, HRn, HLx, zh (by rw [HSt2.out]; rfl), HZn, HBn⟩
     have hz : (fe == 0) = false := beq_eq_false_iff_ne.2 hf0;have HSt2 := zh (show sk1.gens = gns L from by rw [HS3.out, if_neg hf0]);go_wp2_with fail;go_meet
     case rel => exact ⟨1, num, rev, md, sz, LV, GA, s, fs, _, _, _, L, rfl, XG, HXM, HLk, HS, HR, HLn, zh (by rw [HSt2.out]; rfl), HZ, HB⟩
    ·
     clear h4 HS4
     have HSt2 := zh (show sk1 = vN ⟨1, 9000, false, gns L⟩ (yW ⟨num, rev, md, sz, ⟨fs, LV, GA⟩⟩ (keys.take 8)) from by
      rw [HSt.out]; unfold uS; rw [if_neg (by decide), if_pos rfl]; dsimp only; rw [HpE.out])
     clear HSt HpE HSm HG HMp;have q3 : v2.cell? ⟨bA, 3, none⟩ = some (.slice ka keys.length kc) := BlkE.cell (BlkE.below HAc.out (HBv.out _ HB2.out)) rfl;replace HU := zh (RdL.below HU.out (HBv.out _ HB2.out));go_upto_if 92 with fail
     go_cut [12] (fun kv wx => (∃ m', kv = .slice ka m' kc ∧ Hid (RdU v2 (.slice ka m' kc) (keys.take 8))) ∧ wx = v2)
     case first =>
      by_cases hk8 : 8 < keys.length
      ·
       have hd : decide ((8 : Int) < (keys.length : Int)) = true := by simp; omega
       obtain ⟨bk, ok, rfl, _⟩ := RdU.at HU.out (show 0 < keys.length by omega);have gto := yU (P := Tryz.prog) zKe (a := some ⟨bk, ok, none⟩) (n := keys.length) (cap := kc) (fun x hx => ⟨bk, ok, by injection hx with hx; exact hx.symm⟩) 8 (by omega);rw [show ((8 : Nat) : Int) = 8 from rfl] at gto;have HT := zh (show RdU v2 (.slice (some ⟨bk, ok, none⟩) 8 kc) (keys.take 8) from RdL.take HU.out 8 (by omega));go_wp2_with fail;go_meet
       case rel => exact ⟨⟨_, rfl, HT⟩, rfl⟩
      have hd : decide ((8 : Int) < (keys.length : Int)) = false := by simp; omega
      have HT := zh (show RdU v2 (.slice ka keys.length kc) (keys.take 8) from by rw [List.take_of_length_le (by omega)]; exact HU.out);go_wp2_with fail;go_meet
      case rel => exact ⟨⟨_, rfl, HT⟩, rfl⟩
     obtain ⟨⟨m', rfl, HT⟩, hwc⟩ := hcut;generalize wc = w5 at *;replace hwc := hwc.symm;subst hwc;clear q3 HAc HU;have HKi := zh (zHQ ⟨num, rev, md, sz, ⟨fs, LV, GA⟩⟩ s (.slice ka m' kc) (keys.take 8) v2 HXM.out (fun i hi => Nat.le_trans (HLp.out i hi) (by decide)) HT.out (by rw [List.length_take]; omega));have HLa := zh (show ∀ i, i < 8 → ((yW ⟨num, rev, md, sz, ⟨fs, LV, GA⟩⟩ (keys.take 8)).2.m.st i).length ≤ 10000 from fun i hi => Nat.le_trans (zGO (K := 48) ⟨num, rev, md, sz, ⟨fs, LV, GA⟩⟩ _ HLp.out i hi) (by decide));dsimp only at HKi;generalize yW ⟨num, rev, md, sz, ⟨fs, LV, GA⟩⟩ (keys.take 8) = TG at *;obtain ⟨er, ⟨an, ar, am, az, ⟨af, aL, aG⟩⟩⟩ := TG;dsimp only at HLa HSt2;have XGQ := XG;have HXQ := HXM;have HBQ := zh (Below.refl v2.heap.size v2);obtain ⟨y0, y1, y2, y3, y4, y5, y6, y7, y8, y9, y10, y11, y12, y13⟩ := (BlkE.gen XGQ.out).q;go_wp2_with fail;refine HKi.out.mono ?_
     rintro e w6 ⟨⟨sb, rfl, ho⟩, hb⟩;dsimp only at ho ⊢;clear y0 y1 y2 y3 y4 y5 y6 y7 y8 y9 y10 y11 y12 y13;have RG := zh (ho.rd HXQ.out hb);have XG6 := zh (BlkE.below XGQ.out hb);have HB6 := zh (zA HBQ.out hb);clear ho hb HKi HLp HT;have hbn := zh (HBv.out _ (zD (B := bG) (b := bG) (Nat.le_refl _) (zO an ar am az sb aL aG) (HBs.out _ HB6.out)));have HN5 := zh (BlkE.genAll XG6.out an ar am az sb aL aG);have HR5 := zh (RdM.gen RG.out XG6.out (zO an ar am az sb aL aG));have xf := (BlkE.gen XG6.out).f;obtain ⟨x0, x1, x2, x3, x4, x5, x6, x7, x8, x9, x10, x11, x12, x13⟩ := (BlkE.gen XG6.out).q;go_wp2_with fail;go_meet
     case rel => exact ⟨er, an, ar, am, az, aL, aG, sb, af, _, _, _, L, rfl, HN5, HR5, HLa, HS.out.below hbn.out |> zh, zh (HR.out.below hbn.out), HLn, zh (by rw [HSt2.out]), zh (HZ.out.below hbn.out), zh (zA HB.out hbn.out)⟩
    clear h4 HS4
    have HSt2 := zh (show sk1 = vN ⟨1, 9000, false, gns L⟩ (wO ⟨num, rev, md, sz, ⟨fs, LV, GA⟩⟩ 2) from by
     rw [HSt.out]; unfold uS; rw [if_neg (by decide), if_neg (by decide), if_pos rfl]; dsimp only; rw [HpE.out])
    clear HSt HpE HSm HG HMp HU HAc;have HKi := zh (zGy ⟨num, rev, md, sz, ⟨fs, LV, GA⟩⟩ s v2 HXM.out (fun i hi => Nat.le_trans (HLp.out i hi) (by decide)));have HLa := zh (show ∀ i, i < 8 → ((wO ⟨num, rev, md, sz, ⟨fs, LV, GA⟩⟩ 2).2.m.st i).length ≤ 10000 from fun i hi => Nat.le_trans (zGU (K := 48) HLp.out i hi) (by decide));dsimp only at HKi;generalize wO ⟨num, rev, md, sz, ⟨fs, LV, GA⟩⟩ 2 = TG at *;obtain ⟨er, ⟨an, ar, am, az, ⟨af, aL, aG⟩⟩⟩ := TG;dsimp only at HLa HSt2;have XGQ := XG;have HXQ := HXM;have HBQ := zh (Below.refl v2.heap.size v2);obtain ⟨y0, y1, y2, y3, y4, y5, y6, y7, y8, y9, y10, y11, y12, y13⟩ := (BlkE.gen XGQ.out).q;go_wp2_with fail;refine HKi.out.mono ?_;rintro e w6 ⟨⟨sb, rfl, ho⟩, hb⟩;dsimp only at ho ⊢;clear y0 y1 y2 y3 y4 y5 y6 y7 y8 y9 y10 y11 y12 y13;have RG := zh (ho.rd HXQ.out hb);have XG6 := zh (BlkE.below XGQ.out hb);have HB6 := zh (zA HBQ.out hb)
    clear ho hb HKi HLp;have hbn := zh (HBv.out _ (zD (B := bG) (b := bG) (Nat.le_refl _) (zO an ar am az sb aL aG) (HBs.out _ HB6.out)));have HN5 := zh (BlkE.genAll XG6.out an ar am az sb aL aG);have HR5 := zh (RdM.gen RG.out XG6.out (zO an ar am az sb aL aG));have xf := (BlkE.gen XG6.out).f;obtain ⟨x0, x1, x2, x3, x4, x5, x6, x7, x8, x9, x10, x11, x12, x13⟩ := (BlkE.gen XG6.out).q;go_wp2_with fail;go_meet
    case rel => exact ⟨er, an, ar, am, az, aL, aG, sb, af, _, _, _, L, rfl, HN5, HR5, HLa, HS.out.below hbn.out |> zh, zh (HR.out.below hbn.out), HLn, zh (by rw [HSt2.out]), zh (HZ.out.below hbn.out), zh (zA HB.out hbn.out)⟩
   as_aux_lemma =>
   clear HS HR HZ HB XG HXM HLn HLp HMp HG HSt HpE HSm HU HAc HBv HBs HLn48 HB2 HLm HI1;obtain ⟨er, an, ar, am, az, aL, aG, sb, af, a', m', c', L', rfl, XG, RG, HLa, HS, HR, HLn, HSt2, HZ, HB⟩ := hcut;generalize wc = w8 at *;obtain ⟨g0, g1, g2, g3, g4, g5, g6, g7, g8, g9, g10, g11, g12, g13⟩ := (BlkE.gen XG.out).q;obtain ⟨k0, k1, k2, k3⟩ := (BlkE.slo HS.out).q;have HCh := zh (zIs 1 9000 false a' m' c' L' w8 HR.out HLn.out (⟨an, ar, am, az, ⟨af, aL, aG⟩⟩, sb) RG.out HLa.out);have HOk := zh (fun h => zAR (s := ⟨1, 9000, false, gns L'⟩) (g := ⟨an, ar, am, az, ⟨af, aL, aG⟩⟩) h);have HS3 := zh (HSt2.out.trans (show (vN ⟨1, 9000, false, gns L'⟩ (er, ⟨an, ar, am, az, ⟨af, aL, aG⟩⟩)).gens = (if er = 0 ∧ (yb ⟨1, 9000, false, gns L'⟩ ⟨an, ar, am, az, ⟨af, aL, aG⟩⟩).2 = 0 then (yb ⟨1, 9000, false, gns L'⟩ ⟨an, ar, am, az, ⟨af, aL, aG⟩⟩).1 else ⟨1, 9000, false, gns L'⟩).gens from rfl));clear HSt2
   dsimp only at HCh;generalize yb ⟨1, 9000, false, gns L'⟩ ⟨an, ar, am, az, ⟨af, aL, aG⟩⟩ = CS at *;obtain ⟨⟨cid, clim, cro, cg⟩, fe⟩ := CS;go_wp2_with fail;refine HCh.out.mono ?_;rintro e w9 ⟨⟨xa, xn, xc, xL, rfl, hxr, hxg⟩, hb⟩;dsimp only at hxg HOk HS3 ⊢;clear k0 k1 k2 k3;clear g0 g1 g2 g3 g4 g5 g6 g7 g8 g9 g10 g11 g12 g13;replace HS := zh (HS.out.below hb);replace HR := zh (HR.out.below hb);replace HZ := zh (HZ.out.below hb);replace HB := zh (zA HB.out hb);have HXr := zh hxr;have HXg := zh hxg;clear hxr hxg hb HCh XG RG HLa;go_upto_region 27 with fail;change Code.wp _ _ _ _ (w9.alloc (.cells (zS cid clim cro xa xn xc) 31));have hbq := zP w9 cid clim cro xa xn xc 31;have HX := zh (BlkE.new w9 (zS cid clim cro xa xn xc) 31);replace HXr := zh (HXr.out.below hbq);replace HS := zh (HS.out.below hbq);replace HR := zh (HR.out.below hbq);replace HZ := zh (HZ.out.below hbq)
   replace HB := zh (zA HB.out hbq);clear hbq;generalize w9.alloc (.cells (zS cid clim cro xa xn xc) 31) = w10 at *;generalize w9.heap.size = bX at *
   by_cases he0 : er = 0
   ·
    subst he0
    by_cases hf0 : fe = 0
    ·
     subst hf0;obtain ⟨rfl, rfl, rfl⟩ : cid = 1 ∧ clim = 9000 ∧ cro = false := by
      have h9 := HOk.out rfl;injection h9 with h1 h2 h3 h4;exact ⟨h1, h2, h3⟩
     obtain ⟨z0, z1, z2, z3⟩ := (BlkE.slo HX.out).q;obtain ⟨y0, y1, y2, y3⟩ := (BlkE.slo HS.out).q;have yf := (BlkE.slo HS.out).f;have HSn2 := zh (BlkE.sloAll HS.out 1 9000 false xa xn xc);have HRn := zh (RdG.slo HXr.out HS.out (zU 1 9000 false xa xn xc));have HZn := zh (BlkE.pts_ne (c := bS) (by omega) (zU 1 9000 false xa xn xc) HZ.out);have HBn := zh (zD (B := w.heap.size) (b := bS) (by omega) (zU 1 9000 false xa xn xc) HB.out);have HGn := zh (show gns xL = (xo sl0 (ac.take (k + 1))).gens from by rw [Hk1s.out, HS3.out, if_pos ⟨rfl, rfl⟩]; exact HXg.out);go_wp2_with fail;exact ⟨⟨k + 1, xa, xn, xc, xL, by go_num, by omega, by omega, HSn2, HRn, HGn, HZn, HBn⟩, by simp [intOf]; omega⟩
    have hz : (fe == 0) = false := beq_eq_false_iff_ne.2 hf0;have HGn := zh (show gns L' = (xo sl0 (ac.take (k + 1))).gens from by rw [Hk1s.out, HS3.out, if_neg (fun h => hf0 h.2)]);go_wp2_with fail;exact ⟨⟨k + 1, _, _, _, L', by go_num, by omega, by omega, HS, HR, HGn, HZ, HB⟩, by simp [intOf]; omega⟩
   have hz : (er == 0) = false := beq_eq_false_iff_ne.2 he0;have HGn := zh (show gns L' = (xo sl0 (ac.take (k + 1))).gens from by rw [Hk1s.out, HS3.out, if_neg (fun h => he0 h.1)]);go_wp2_with fail;exact ⟨⟨k + 1, _, _, _, L', by go_num, by omega, by omega, HS, HR, HGn, HZ, HB⟩, by simp [intOf]; omega⟩
  have i2 : ¬ (k : Int) < 8 := by omega
  have hE := zh (HEnd.out k (.inl (by omega)));have HI := HIn.out k hk;rw [← hE.out] at HE HI;generalize zBA ac = MS at *;obtain ⟨sid, slim, sro, sg⟩ := MS;obtain ⟨_, hIi, hIl, hIr, _, _⟩ := HI;dsimp only at hIi hIl hIr HE;subst hIi hIl hIr;have HZ2 := zh (BlkE.slo HZ.out);obtain ⟨k0, k1, k2, k3⟩ := (BlkE.slo HS.out).q;obtain ⟨z0, z1, z2, z3⟩ := HZ2.out.q;have zf := HZ2.out.f;go_wp2_with fail;change bodyPost _ _ _ _ _ (pts wr w.heap.size (zU 1 9000 false a m c));have HRz := zh (RdG.slo HR.out HZ.out (zU 1 9000 false a m c));have hby := HZ2.out.all 1 9000 false a m c;have HBz := zh (zD (B := w.heap.size) (b := w.heap.size) (by omega) (zU 1 9000 false a m c) HB.out);generalize pts wr w.heap.size (zU 1 9000 false a m c) = V at *
  exact bodyPost_ret (v := zhq 1 9000 false a m c) (by simp [results, Tryz.results20, go_sem, hby.c0, hby.c1, hby.c2, hby.c3]) rfl (⟨⟨a, m, c, L, rfl, HRz.out, HE.out⟩, HBz.out⟩)
 have i1 : ¬ (k : Int) < (n : Int) := by omega
 have hE := zh (HEnd.out k (.inr ⟨by omega, hk8⟩));have HI := HIn.out k hk;rw [← hE.out] at HE HI;generalize zBA ac = MS at *;obtain ⟨sid, slim, sro, sg⟩ := MS;obtain ⟨_, hIi, hIl, hIr, _, _⟩ := HI;dsimp only at hIi hIl hIr HE;subst hIi hIl hIr;have HZ2 := zh (BlkE.slo HZ.out);obtain ⟨k0, k1, k2, k3⟩ := (BlkE.slo HS.out).q;obtain ⟨z0, z1, z2, z3⟩ := HZ2.out.q;have zf := HZ2.out.f;go_wp2_with fail;change bodyPost _ _ _ _ _ (pts wr w.heap.size (zU 1 9000 false a m c));have HRz := zh (RdG.slo HR.out HZ.out (zU 1 9000 false a m c));have hby := HZ2.out.all 1 9000 false a m c;have HBz := zh (zD (B := w.heap.size) (b := w.heap.size) (by omega) (zU 1 9000 false a m c) HB.out);generalize pts wr w.heap.size (zU 1 9000 false a m c) = V at *
 exact bodyPost_ret (v := zhq 1 9000 false a m c) (by simp [results, Tryz.results20, go_sem, hby.c0, hby.c1, hby.c2, hby.c3]) rfl (⟨⟨a, m, c, L, rfl, HRz.out, HE.out⟩, HBz.out⟩)
end Go.Proofs.YtcgfilmmokmdjaaGreat
