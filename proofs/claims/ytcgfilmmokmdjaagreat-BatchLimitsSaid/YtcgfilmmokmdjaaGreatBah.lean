/- A part of the walk. -/
import Derived.Test.YtcgfilmmokmdjaaGreatQAX
import Derived.Test.YtcgfilmmokmdjaaGreatBw
import Derived.Test.YtcgfilmmokmdjaaGreatBab
import Derived.Test.YtcgfilmmokmdjaaGreatQAY
set_option linter.all false
set_option maxRecDepth 100000
set_option maxHeartbeats 32000000
namespace Go.Proofs.YtcgfilmmokmdjaaGreat
open Go.RowKit
/-! ### Plain -/
theorem zHk {P : Pst} {q : Rq} (hq : q.Wf) (h : ∀ x ∈ P.needs, x.Wf) : ∀ x ∈ (zd P q).2.needs, x.Wf := by
 have hadd : ∀ (Q : Pst) (y : Nd), Q.needs = P.needs → y.Wf → ∀ x ∈ (vp Q y).needs, x.Wf := fun Q y hQ hy x hx => by
  rcases List.mem_append.1 (show x ∈ Q.needs ++ [y] from hx) with hx | hx
  ·
   exact h x (hQ ▸ hx)
  obtain rfl := List.mem_singleton.1 hx; exact hy
 have hd : ∀ x ∈ (xR P q).needs, x.Wf := by
  have h2 := (yu P q.key).2.1;unfold xR
  split
  ·
   exact hadd _ _ h2 hq
  rw [h2]; exact h
 unfold zd
 split
 ·
  exact h
 split
 ·
  split
  ·
   exact h
  split
  ·
   split
   ·
    exact h
   exact hadd P _ rfl hq
  exact h
 split
 ·
  split
  ·
   split
   ·
    exact h
   exact hd
  exact h
 exact h
theorem zFo : ∀ (l : List Rq) (P : Pst), (∀ q ∈ l, q.Wf) → (∀ x ∈ P.needs, x.Wf) → ∀ x ∈ (tp l P).needs, x.Wf
 | [], _, _, h => h
 | q :: r, P, hl, h => by
  have h2 := zHk (hl q (by simp)) h
  cases e : (zd P q).1
  ·
   rw [kI e]; exact h2
  rw [vC e]; exact zFo r _ (fun y hy => hl y (by simp [hy])) h2
theorem zKy (much : Bool) (q : Rq) : (smR much q).Wf := ⟨by show q.key % 8 < _; omega, by show q.ck % 2 < _; omega⟩
theorem zIL (much : Bool) (q : Rq) : (smR much q).data.length ≤ 4106 := by
 unfold smR;dsimp only;rw [List.length_append, List.length_take]
 split
 ·
  rw [List.length_replicate]; omega
 rw [List.length_nil]; omega
structure zLu (S : Slt) (K : List Rq) (P : Pst) : Prop where
 r16 : P.res.length ≤ 16
 rk : P.res.length ≤ K.length
 n16 : P.needs.length ≤ 16
 b : wF P.needs = (0, wN P.needs)
 bl : (wN P.needs).length ≤ 16384 ∨ P.needs.length ≤ 1
 t : 0 < K.length → P.res.length = 0 → P.rot = true ∧ wZ S = true ∧ (wy K 0).kind = 1 ∧ wH S ((wy K 0).data.length : Int) = false
 r : ∀ i, i < P.res.length → (vn P.res i = 9 → wZ S = false) ∧ (vn P.res i = 8 → 4096 < (wy K i).data.length)
theorem zHd {l : List Nd} (h : ∀ x ∈ l, x.ok) : zIe l = szL l := by
 induction l with
 | nil => rfl
 | cons x r ih =>
  rw [kO, wG, kQ (h x (by simp)).1, ih fun y hy => h y (by simp [hy])]
theorem zJu {S : Slt} (hS : VldSl S) (hl : LenS 700 S.gens) (K : List Rq) : (yT S K).2 = 0 ∧ zLu S K (yT S K).1 := by
 obtain ⟨h0, h⟩ := zHv hS K;refine ⟨h0, h.m, h.n, ?_, kM h.b.ok, ?_, h.t, h.r⟩
 ·
  have hi := zAi (K := 700) (G := S.gens.length) K (wl S) ⟨hl, SmK.nil _, Nat.le_refl _, ⟨Int.le_refl _, Int.le_refl _⟩, Nat.le_refl _⟩ (Nat.zero_le _);have e : (yT S K).1 = tp K (wl S) := by unfold yT; rw [if_pos ((zT S).2 hS)]
  rw [e];have := hi.2.e;omega
 rw [uK, zHd h.b.ok];exact h.b.m.symm
theorem zJj {S : Slt} (hS : VldSl S) {K : List Rq} (hK : ∀ q ∈ K, q.Wf) : ∀ x ∈ (yT S K).1.needs, x.Wf := by
 unfold yT;rw [if_pos ((zT S).2 hS)];exact zFo K _ hK fun x hx => by cases hx
theorem zDL (q : List (Rq × Value)) (i : Nat) : wy (q.map (·.1)) i = (qat q i).1 := by
 unfold wy qat;rw [List.getD_eq_getElem?_getD, List.getD_eq_getElem?_getD, List.getElem?_map]
 cases q[i]? <;> rfl
theorem zLc {W : World} {ra : Option Addr} {rc : Nat} {res : List Int} (h : Rd W 1 (.slice ra res.length rc) res.length (res.map zBc)) {i : Nat} (hi : i < res.length) :
  ∃ b o, ra = some ⟨b, o, none⟩ ∧ W.cell? ⟨b, o + i, none⟩ = some (.int .i64 (vn res i)) := by
 obtain ⟨_, _, _, e, _, _, _, hc⟩ := h;injection e with e _ _;obtain ⟨b, o, e2, hc⟩ := hc (by rw [List.length_map]; omega);refine ⟨b, o, e.trans e2, ?_⟩
 have := hc i (.int .i64 (vn res i)) (by
  rw [List.getElem?_map, List.getElem?_eq_getElem hi]
  unfold vn
  rw [List.getD_eq_getElem?_getD, List.getElem?_eq_getElem hi]; rfl)
 exact this
/-! ### The walk -/
theorem zDc (va vl : Value) (ac : List AcP) (qs : List (Rq × Value)) (w : World) (ha : RdA w va ac) (hq : RdQ w vl qs) :
  Calls Tryz.prog 7 #[va, vl] w fun e w' => e = .returned (.bool true) ∧ Below w.heap.size w w' := by
 have HMd := zh (zGB va ac w ha);have HI := zGE ac;have HQ := zh hq;have HAw := zh (fun W => zDE W);obtain ⟨_, _, rfl, _⟩ := hq.shape;obtain ⟨_, _, rfl, _⟩ := ha.shape;clear ha hq;generalize zBA ac = S at *;obtain ⟨hv, hid, hlim, hro, hlen, hsiz⟩ := HI;have hgl := hv.len;have HV := zh hv;have HL := zh (show LenS 700 S.gens from hlen.mono (by decide));obtain ⟨sid, slim, sro, sg⟩ := S;dsimp only at hid hlim hro hgl;subst hid hlim hro;clear hv hlen hsiz
 go_enter Tryz.func7, Tryz.ntmps7
 go_wp2_with fail;refine HMd.out.mono ?_;rintro e w1 ⟨⟨a, n, c, L, rfl, hr, hg⟩, hb⟩;dsimp only at hg ⊢;subst hg;have hLn : L.length = n := by
  obtain ⟨_, _, e, _⟩ := hr.shape;injection e with _ e _; exact e.symm
 rw [zz, hLn] at hgl;have HR := zh hr;have HB := zh hb;have HLg := zh (show ∀ p ∈ L, ∀ j, j < 8 → (p.1.m.st j).length ≤ 10000 from fun p hp j hj => Nat.le_trans (HL.out p.1 (List.mem_map_of_mem hp) j hj) (by decide));clear hr hb HMd;go_wp2_with fail;refine (zGc 1 9000 false a n c L w1 HR.out (by omega)).mono ?_;rintro e w2 ⟨⟨a', c', rfl, hr2⟩, hb2⟩;replace HR := zh hr2;replace HB := zh (zA HB.out hb2);clear hr2 hb2;go_upto_region 2 with fail;change Code.wp _ _ _ _ (w2.alloc (.cells (zS 1 9000 false a' n c') 27));have hbq := zP w2 1 9000 false a' n c' 27;have HS := zh (BlkE.new w2 (zS 1 9000 false a' n c') 27);replace HR := zh (HR.out.below hbq);replace HB := zh (zA HB.out hbq);clear hbq;generalize w2.alloc (.cells (zS 1 9000 false a' n c') 27) = w3 at *;generalize w2.heap.size = bS at *;have HSm := zh (zDz _ qs 20 true w3 (HQ.out.below HB.out) (by decide));go_wp2_with fail
 refine HSm.out.mono ?_;rintro e w4 ⟨v4, q4, rfl, ho4, hm4, hb⟩;replace HS := zh (HS.out.below hb);replace HR := zh (HR.out.below hb);replace HB := zh (zA HB.out hb);have HQ4 := zh (show RdQ w4 v4 q4 from ⟨⟨fun x _ => tE x, zv ho4.row⟩, fun p hp => (ho4.dat p hp).rd⟩);have hq20 : q4.length ≤ 20 := by
  have := congrArg List.length hm4;rw [List.length_map, List.length_map, List.length_take] at this;omega
 have HQd := zh (show ∀ p ∈ q4, p.1.data.length ≤ 4106 ∧ p.1.Wf from fun p hp => by
  have h1 : p.1 ∈ q4.map (·.1) := List.mem_map_of_mem hp
  rw [hm4] at h1
  obtain ⟨y, _, e⟩ := List.mem_map.1 h1
  rw [← e]
  exact ⟨zIL _ _, zKy _ _⟩)
 clear hb HSm ho4 hm4 HQ;have HGi := zh (zDA v4 q4 w4 HQ4.out (by omega));obtain ⟨qa4, qc4, rfl, _⟩ := HQ4.out.shape;go_wp2_with fail;refine HGi.out.mono ?_;rintro e w5 ⟨v5, rfl, ho5, hb⟩;obtain ⟨qa, qc, rfl, _⟩ := zJ ho5;have HQ5 := zh (show RdQ w5 (.slice qa q4.length qc) q4 from ⟨⟨fun x _ => tE x, zv ho5⟩, fun p hp => RdL.below (HQ4.out.dat p hp) hb⟩);replace HS := zh (HS.out.below hb);replace HR := zh (HR.out.below hb);replace HB := zh (zA HB.out hb);clear hb HGi ho5 HQ4;have HMk := zh (zBx ⟨1, 9000, false, gns L⟩ a' n c' L qa qc q4 w5 HR.out rfl HL.out (by rw [zz, hLn]; omega) HQ5.out (by omega) (fun p hp => Nat.le_trans (HQd.out p hp).1 (by decide)));obtain ⟨hm0, hLQ⟩ := zJu HV.out HL.out (q4.map (·.1))
 have HWf := zh (zJj HV.out (K := q4.map (·.1)) (fun q hq => by
  obtain ⟨p, hp, rfl⟩ := List.mem_map.1 hq
  exact (HQd.out p hp).2))
 rw [hm0] at HMk;generalize (yT ⟨1, 9000, false, gns L⟩ (q4.map (·.1))).1 = P at *;clear hm0;obtain ⟨k0, k1, k2, k3⟩ := (BlkE.slo HS.out).q;go_wp2_with fail;refine HMk.out.mono ?_;rintro e w6 ⟨kv, ks, nv, es, rv, rfl, hp, hb⟩;clear k0 k1 k2 k3 HMk;obtain ⟨ka, kc, rfl, _⟩ := zJ hp.k.row;obtain ⟨na, nc, rfl, _⟩ := zJ hp.n.row;have hrr := zv hp.r;obtain ⟨ra, rc, rfl, _⟩ := zJ hp.r;have HNd := zh (OwnNk.rd hp.n);have HNn := zh hp.nn;have HNl := zh (show es.length = P.needs.length by rw [← hp.nn, List.length_map]);rw [HNl.out] at HNd ⊢;have HRr := zh hrr;replace HS := zh (HS.out.below hb);replace HR := zh (HR.out.below hb);replace HQ5 := zh (HQ5.out.below hb);replace HB := zh (zA HB.out hb);clear hb hrr hp;generalize hrot : P.rot = rot at *;go_upto_region 4 with fail
 change Code.wp _ _ _ _ (w6.alloc (.cells (wX rot (P.res.length : Int) (.slice ka ks.length kc) (.slice na P.needs.length nc) (.slice ra P.res.length rc)) 71));have hbq := (Below.refl w6.heap.size w6).alloc (Nat.le_refl _) (.cells (wX rot (P.res.length : Int) (.slice ka ks.length kc) (.slice na P.needs.length nc) (.slice ra P.res.length rc)) 71);have HP := zh (BlkE.new w6 (wX rot (P.res.length : Int) (.slice ka ks.length kc) (.slice na P.needs.length nc) (.slice ra P.res.length rc)) 71);replace HS := zh (HS.out.below hbq);replace HR := zh (HR.out.below hbq);replace HQ5 := zh (HQ5.out.below hbq);replace HNd := zh (HNd.out.below hbq);replace HRr := zh (HRr.out.below hbq);replace HB := zh (zA HB.out hbq);clear hbq;generalize w6.alloc (.cells (wX rot (P.res.length : Int) (.slice ka ks.length kc) (.slice na P.needs.length nc) (.slice ra P.res.length rc)) 71) = w7 at *
 generalize w6.heap.size = bP at *;have HBy := zh (zEo rot (P.res.length : Int) (.slice ka ks.length kc) (.slice na P.needs.length nc) (.slice ra P.res.length rc) es w7 ⟨_, _, _, rfl⟩ ⟨_, _, _, rfl⟩ HNd.out (fun p hp => HWf.out _ (HNn.out ▸ List.mem_map_of_mem hp)) (by rw [HNl.out]; have := hLQ.n16; omega));rw [HNn.out, hLQ.b] at HBy;dsimp only at HBy;have p0 : w7.cell? ⟨bP, 0, none⟩ = some (.bool rot) := BlkE.cell HP.out rfl;have p1 : w7.cell? ⟨bP, 1, none⟩ = some (.int .i64 (P.res.length : Int)) := BlkE.cell HP.out rfl;have p2 : w7.cell? ⟨bP, 2, none⟩ = some (.slice ka ks.length kc) := BlkE.cell HP.out rfl;have p3 : w7.cell? ⟨bP, 3, none⟩ = some (.slice na P.needs.length nc) := BlkE.cell HP.out rfl;have p4 : w7.cell? ⟨bP, 4, none⟩ = some (.slice ra P.res.length rc) := BlkE.cell HP.out rfl;go_wp2_with fail;refine HBy.out.mono ?_;rintro e w8 ⟨⟨bv, rfl, hob⟩, hb⟩
 obtain ⟨ba, bc, rfl, _⟩ := zJ hob;replace HS := zh (HS.out.below hb);replace HR := zh (HR.out.below hb);replace HQ5 := zh (HQ5.out.below hb);replace HRr := zh (HRr.out.below hb);replace HP := zh (HP.out.below hb);replace HB := zh (zA HB.out hb);clear hb hob p0 p1 p2 p3 p4 HBy HNd HNn HWf;obtain ⟨h16, hrk, hn16, _, hbl, ht, hres⟩ := hLQ;rw [hrot] at ht;clear hrot;rw [List.length_map] at hrk ht;generalize (wN P.needs).length = bl at *;generalize P.needs.length = N at *;have HT := zh ht;have HRs := zh hres;clear hn16 HNl ht hres;generalize P.res = res at *;have p0 : w8.cell? ⟨bP, 0, none⟩ = some (.bool rot) := BlkE.cell HP.out rfl;have p1 : w8.cell? ⟨bP, 1, none⟩ = some (.int .i64 (res.length : Int)) := BlkE.cell HP.out rfl;have p3 : w8.cell? ⟨bP, 3, none⟩ = some (.slice na N nc) := BlkE.cell HP.out rfl
 have p4 : w8.cell? ⟨bP, 4, none⟩ = some (.slice ra res.length rc) := BlkE.cell HP.out rfl;have d1 : decide ((16 : Int) < (res.length : Int)) = false := by simp; omega
 go_upto_region 5 with fail
 go_cut [58] (fun v wx => v = .bool false ∧ wx = w8)
 case first =>
  by_cases hbig : 16384 < bl
  ·
   have d3 : decide ((16384 : Int) < (bl : Int)) = true := by simp; omega
   have d4 : decide ((1 : Int) < (N : Int)) = false := by simp; omega
   go_wp2_with fail;go_meet
   case rel => exact ⟨rfl, rfl⟩
  have d3 : decide ((16384 : Int) < (bl : Int)) = false := by simp; omega
  go_wp2_with fail;go_meet
  case rel => exact ⟨rfl, rfl⟩
 obtain ⟨rfl, hwc⟩ := hcut;generalize wc = w5x at *;replace hwc := hwc.symm;subst hwc;clear d1 hbl;go_upto_region 7 with fail;obtain ⟨k0, k1, k2, k3⟩ := (BlkE.slo HS.out).q;have HCan := zh (fun W (hb : Below w8.heap.size w8 W) => zCh ⟨1, 9000, false, gns L⟩ a' n c' L W (HR.out.below hb) rfl (HL.out.mono (by decide)));have HFit := zh (fun W (hb : Below w8.heap.size w8 W) m => zBr 1 9000 false a' n c' L W (HR.out.below hb) HLg.out m)
 go_cut [92] (fun v wx => v = .bool false ∧ Hid (Below w8.heap.size w8 wx))
 case first =>
  clear p3 p4;replace p0 := zC p0;replace p1 := zC p1;replace k0 := zC k0;replace k1 := zC k1;replace k2 := zC k2;replace k3 := zC k3
  by_cases h0 : 0 < q4.length
  ·
   have e1 : decide ((0 : Int) < (q4.length : Int)) = true := by simp; omega
   by_cases hr0 : res.length = 0
   ·
    obtain ⟨rfl, hcs, hkd, hft⟩ := HT.out h0 hr0;rw [hcs] at HCan;rw [zDL] at hkd hft;have e2 : ((res.length : Int) == 0) = true := by rw [hr0]; rfl
    obtain ⟨bq, oq, rfl, hx, _, c1, _, _, c4⟩ := HQ5.out.at h0;obtain ⟨da, dc, hdv, _, _⟩ := hx.shape0;rw [hkd] at c1;rw [hdv] at c4;replace HFit := zh (fun W hb => HFit.out W hb ((qat q4 0).1.data.length : Int));rw [hft] at HFit;clear hx hdv hkd hft hcs;have hdn := (HQd.out _ (zAO h0)).1;generalize (qat q4 0).1.data.length = dn at *;simp only [Nat.zero_mul, Nat.add_zero] at c1 c4;replace c1 := zC c1;replace c4 := zC c4;have i0 : (0 : Int) < (q4.length : Int) := by omega
    refine zB (by kernel_rfl) (by kernel_rfl) ?_
    repeat (go_big_quiet_step (first | exact zI (HCan.out _ (BelowBy.h _)) | exact zI (HFit.out _ (BelowBy.h _))))
    refine wpQuiet_nil ?_;intro _ hw';obtain ⟨q, hw'⟩ := hw';subst hw';have HBq := zh q.h;clear c1 c4 p0 p1 k0 k1 k2 k3;generalize q.w' = wq at *;go_wp2_with fail;go_meet
    case rel => exact ⟨rfl, HBq⟩
   have e2 : ((res.length : Int) == 0) = false := beq_eq_false_iff_ne.2 (by omega);refine zB (by kernel_rfl) (by kernel_rfl) ?_
   repeat (go_big_quiet_step (fail))
   refine wpQuiet_nil ?_;intro _ hw';obtain ⟨q, hw'⟩ := hw';subst hw';have HBq := zh q.h;clear p0 p1 k0 k1 k2 k3;generalize q.w' = wq at *;go_wp2_with fail;go_meet
   case rel => exact ⟨rfl, HBq⟩
  have e1 : decide ((0 : Int) < (q4.length : Int)) = false := decide_eq_false (by omega);refine zB (by kernel_rfl) (by kernel_rfl) ?_
  repeat (go_big_quiet_step (fail))
  refine wpQuiet_nil ?_;intro _ hw';obtain ⟨q, hw'⟩ := hw';subst hw';have HBq := zh q.h;clear p0 p1 k0 k1 k2 k3;generalize q.w' = wq at *;go_wp2_with fail;go_meet
  case rel => exact ⟨rfl, HBq⟩
 obtain ⟨rfl, hbw⟩ := hcut;generalize wc = w9 at *;clear p0 p1 p3 p4 k0 k1 k2 k3 HCan HFit;replace HS := zh (HS.out.below hbw.out);replace HR := zh (HR.out.below hbw.out);replace HQ5 := zh (HQ5.out.below hbw.out);replace HRr := zh (HRr.out.below hbw.out);replace HP := zh (HP.out.below hbw.out);replace HB := zh (zA HB.out hbw.out);clear hbw HT;have p4 : w9.cell? ⟨bP, 4, none⟩ = some (.slice ra res.length rc) := BlkE.cell HP.out rfl;go_wp2_with fail;have hrk2 : res.length ≤ 20 := by omega
 go_loopw [96] (fun iv V => ∃ i : Nat, iv = .int .i64 (i : Int) ∧ i ≤ res.length ∧ Hid (Below w9.heap.size w9 V)) (fun iv _ => res.length - (intOf iv).toNat)
 case atStart => exact ⟨0, rfl, Nat.zero_le _, zh (Below.refl _ _)⟩
 clear p4;obtain ⟨i, rfl, hi, HBv⟩ := hrel;have HS := zh (HS.out.below HBv.out);have HR := zh (HR.out.below HBv.out);have HQ5 := zh (HQ5.out.below HBv.out);have HRr := zh (HRr.out.below HBv.out);have HP := zh (HP.out.below HBv.out)
 by_cases hlt : i < res.length
 ·
  have i1 : (i : Int) < (res.length : Int) := by omega
  have i2 : (i : Int) < (q4.length : Int) := by omega
  obtain ⟨hs9, hs8⟩ := HRs.out i hlt;obtain ⟨br, or_, rfl, hrc⟩ := zLc HRr.out hlt;have p4 : wr.cell? ⟨bP, 4, none⟩ = some (.slice (some ⟨br, or_, none⟩) res.length rc) := BlkE.cell HP.out rfl
  by_cases h9 : vn res i = 9
  ·
   rw [h9] at hrc
   have HCn := zh (show Calls Tryz.prog 35 #[zhq 1 9000 false a' n c'] wr fun e w' => e = .returned (.bool false) ∧ Below wr.heap.size wr w' from by
    have := zCh ⟨1, 9000, false, gns L⟩ a' n c' L wr HR.out rfl (HL.out.mono (by decide))
    rw [hs9 h9] at this
    exact this)
   obtain ⟨k0, k1, k2, k3⟩ := (BlkE.slo HS.out).q;go_wp2_with fail;refine HCn.out.mono ?_;rintro e wz ⟨rfl, hb⟩;have p5 : wz.cell? ⟨bP, 4, none⟩ = some (.slice (some ⟨br, or_, none⟩) res.length rc) := BlkE.cell (HP.out.below hb) rfl;have hrc5 := Below.keeps hb _ _ hrc;have HBz := zh (zA HBv.out hb);clear p4 hrc k0 k1 k2 k3 hb;go_wp2_with fail;exact ⟨⟨i + 1, by go_num, by omega, HBz⟩, by simp [intOf]; omega⟩
  have e9 : (vn res i == 9) = false := beq_eq_false_iff_ne.2 h9
  by_cases h8 : vn res i = 8
  ·
   have hdl := hs8 h8;rw [zDL] at hdl;rw [h8] at hrc e9;obtain ⟨bq, oq, rfl, hx, _, _, _, _, c4⟩ := HQ5.out.at (show i < q4.length by omega);obtain ⟨da, dc, hdv, _, _⟩ := hx.shape0;rw [hdv] at c4;clear hx hdv;generalize (qat q4 i).1.data.length = dn at *;have d1 : decide ((dn : Int) ≤ 4096) = false := decide_eq_false (by omega);go_wp2_with fail;exact ⟨⟨i + 1, by go_num, by omega, HBv⟩, by simp [intOf]; omega⟩
  have e8 : (vn res i == 8) = false := beq_eq_false_iff_ne.2 h8;go_wp2_with fail;exact ⟨⟨i + 1, by go_num, by omega, HBv⟩, by simp [intOf]; omega⟩
 obtain rfl : i = res.length := by omega
 have HBz := zh (zA HB.out HBv.out);go_wp2_with fail;refine (HAw.out _).mono ?_;rintro e wz ⟨rfl, hb⟩;have HBe := zh (zA HBz.out hb);go_wp2_with fail;go_ret;exact ⟨rfl, HBe.out⟩
end Go.Proofs.YtcgfilmmokmdjaaGreat
