/- A part of the walk. -/
import Derived.Test.YtcgfilmmokmdjaaGreatSy
set_option linter.all false
set_option maxRecDepth 100000
set_option maxHeartbeats 32000000
namespace Go.Proofs.YtcgfilmmokmdjaaGreat
open Go.RowKit
theorem zLm (g n cap a m b B : Nat) (d : List It) (w : World) (hown : w.ownsRow B 49 4 (.slice (some ⟨g, 0, none⟩) n cap) n (zU d)) (hn : d.length = n) (hs : n ≤ 1000000) (h1 : a + 1 < m) (h2 : m + 1 < b) (h3 : b ≤ n) (na : iM d a m) (nb : iM d m b) (IH : ∀ (a' m' b' : Nat) (d' : List It) (w' : World), b' - a' < b - a → w'.ownsRow B 49 4 (.slice (some ⟨g, 0, none⟩) n cap) n (zU d') → d'.length = n → a' < m' → m' < b' → b' ≤ n → iM d' a' m' → iM d' m' b' → Calls Tryz.prog 209 #[.slice (some ⟨g, 0, none⟩) n cap, .int .i64 (a' : Int), .int .i64 (m' : Int), .int .i64 (b' : Int), .func (.func 174) #[] #[]] w' fun e w'' => e = .returned (.tuple #[]) ∧ Left w' g n cap a' b' B d' w'') :
  Calls Tryz.prog 209 #[.slice (some ⟨g, 0, none⟩) n cap, .int .i64 (a : Int), .int .i64 (m : Int), .int .i64 (b : Int), .func (.func 174) #[] #[]] w fun e w' => e = .returned (.tuple #[]) ∧ Left w g n cap a b B d w' := by
 have HO := zh hown;have hgr : w.grownBy w (some g) := ⟨rfl, rfl, rfl, ai _, fun _ _ _ => rfl⟩
 have HG := zh hgr;have HN := zh hn;have HI := zh IH;clear IH;have HA := zh na;have HB := zh nb;have hm1 : ((m : Int) - (a : Int) == 1) = false := beq_eq_false_iff_ne.2 (by omega);have jD : ((b : Int) - (m : Int) == 1) = false := beq_eq_false_iff_ne.2 (by omega);obtain ⟨md, mV, hL6, hL7, hLi⟩ : ∃ md, (a + b) / 2 = md ∧ md < b ∧ a < md ∧ ((a : Int) + (b : Int)) / 2 = (md : Int) := ⟨(a + b) / 2, rfl, by omega, by omega, by omega⟩
 obtain ⟨lo, hlo, Ku, hL5, hM1, hM2⟩ : ∃ lo, (if m > md then md + m - b else a) = lo ∧ a ≤ lo ∧ md + m ≤ lo + b ∧ (md < m → (md : Int) + (m : Int) - (b : Int) = (lo : Int)) ∧ (¬ md < m → a = lo) := by
  refine ⟨_, rfl, ?_, ?_, fun h => ?_, fun h => ?_⟩
  ·
   split <;> omega
  ·
   split <;> omega
  ·
   rw [ag h]; omega
  rw [ah h]
 obtain ⟨hi, hhi, hL2, hL3, hL4, VB, VC⟩ : ∃ hi, (if m > md then md else m) = hi ∧ lo ≤ hi ∧ hi ≤ m ∧ hi ≤ md ∧ (md < m → md = hi) ∧ (¬ md < m → m = hi) := by
  refine ⟨_, rfl, ?_, ?_, ?_, fun h => ?_, fun h => ?_⟩
  ·
   rw [← hlo]; split <;> omega
  ·
   split <;> omega
  ·
   split <;> omega
  ·
   rw [ag h]
  rw [ah h]
 have Cp := zh mV;have VD := zh hlo;have VE := zh hhi;have Kv := zh hM1;have sI := zh hM2;have Np := zh VB;have HM4 := zh VC;clear mV hlo hhi hM1 hM2 VB VC hown hgr hn na nb
 go_enter Tryz.func209, Tryz.ntmps209
 go_upto_if 140 with fail
 go_cut [20, 21] (fun s20 s21 wx => s20 = .int .i64 (lo : Int) ∧ s21 = .int .i64 (hi : Int) ∧ w = wx)
 case first => as_aux_lemma =>
  by_cases hgt : md < m
  ·
   have e1 := zh (Kv.out hgt);have e2 := zh (Np.out hgt);go_wp2_with fail;go_meet
   case rel => exact ⟨by rw [e1.out], by rw [e2.out], rfl⟩
  have e1 := zh (sI.out hgt);have e2 := zh (HM4.out hgt);go_wp2_with fail;go_meet
  case rel => exact ⟨by rw [e1.out], by rw [e2.out], rfl⟩
 obtain ⟨rfl, rfl, rfl⟩ := hcut;go_wp2_with fail
 go_loopw [20, 21] (fun iv jv wr => ∃ i j : Nat, iv = .int .i64 (i : Int) ∧ jv = .int .i64 (j : Int) ∧ Bin (fun k => (dX d k).key ≤ (dX d (md + m - 1 - k)).key) (lo) (hi) i j ∧ wr.ownsRow B 49 4 (.slice (some ⟨g, 0, none⟩) n cap) n (zU d) ∧ w.grownBy wr (some g)) (fun iv jv _ => (intOf jv - intOf iv).toNat)
 case atStart => exact ⟨lo, hi, by go_num, by go_num, Bin.start (by omega), HO.out, HG.out⟩
 obtain ⟨i, j, rfl, rfl, lh, ho, hg⟩ := hrel;have Ho := zh ho;have Hg := zh hg;have hq1 := lh.bl;have Vz := lh.ij;have VA := lh.bh;have lJ := zh lh;clear lh ho hg
 by_cases hlt : i < j
 ·
  obtain ⟨h, hh, Fy, Co⟩ : ∃ h : Nat, (i + j) / 2 = h ∧ i ≤ h ∧ h < j := ⟨(i + j) / 2, rfl, by omega, by omega⟩
  have Na : ((i : Int) + (j : Int)) / 2 = (h : Int) := by omega
  have Hh := zh hh;clear hh;obtain ⟨x, y, c, mJ, hcl, HV, f0, f1, f2, f3, f4, f5, f6, f7⟩ := PX Ho.out (p := md + m - 1 - h) (q := h) (by omega) (by omega);have HY := zh (fun hp : (fun k => (dX d k).key ≤ (dX d (md + m - 1 - k)).key) h => lJ.out.yes Fy Co hp);have A_ := zh (fun hp : ¬ (fun k => (dX d k).key ≤ (dX d (md + m - 1 - k)).key) h => lJ.out.no Fy Co hp);have i1 : (h : Int) < (n : Int) := by omega
  have q1 : (0 : Int) ≤ (md : Int) + (m : Int) - 1 - (h : Int) := by omega
  have q2 : ((md : Int) + (m : Int) - 1 - (h : Int)).toNat = md + m - 1 - h := by omega
  have q3 : (md : Int) + (m : Int) - 1 - (h : Int) < (n : Int) := by omega
  have q0 : IntKind.i64.wrap ((md : Int) + (m : Int) - 1 - (h : Int)) = (md : Int) + (m : Int) - 1 - (h : Int) := aH _ (by omega)
  by_cases hk : c < 0
  ·
   as_aux_lemma =>
   have hkk : x.key < y.key := by have := hcl.out; rw [aF hk] at this; exact aY this.symm
   have HK := zh hkk;clear hkk;go_wp2_with fail;refine zC (by kernel_rfl) (by kernel_rfl) ?_
   repeat (go_big_quiet_step ((exact zG (HV.out _))))
   refine aC ?_;intro _ hw';obtain ⟨u, hw'⟩ := hw';subst hw';have Hp := zh (zH Ho.out u.h);have Gp := zh (zp Hg.out (xU (grown_of u.h) (some g)));generalize u.w' = wp at *;go_wp2_with fail;exact ⟨⟨i, h, rfl, rfl, A_.out (by simp only [mJ.out.1, mJ.out.2]; have := HK.out; omega), Hp.out, Gp.out⟩, by simp [intOf]; omega⟩
  as_aux_lemma =>
  have hkk : ¬ x.key < y.key := by have := hcl.out; rw [aD hk] at this; exact cD this.symm
  have HK := zh hkk;have Jl : decide (c < 0) = false := aD hk;clear hk hkk;go_wp2_with fail;refine zC (by kernel_rfl) (by kernel_rfl) ?_
  repeat (go_big_quiet_step ((exact zG (HV.out _))))
  refine aC ?_;intro _ hw';obtain ⟨u, hw'⟩ := hw';subst hw';have Hp := zh (zH Ho.out u.h);have Gp := zh (zp Hg.out (xU (grown_of u.h) (some g)));generalize u.w' = wp at *;go_wp2_with fail;exact ⟨⟨h + 1, j, by go_num, rfl, HY.out (by simp only [mJ.out.1, mJ.out.2]; have := HK.out; omega), Hp.out, Gp.out⟩, by simp [intOf]; omega⟩
 obtain rfl : i = j := by omega
 have HO := Ho;have HG := Hg
 have VF := zh (show Ev d a m b i from ⟨by rw [Cp.out, VD.out]; exact lJ.out.bl, by rw [Cp.out, VE.out]; exact lJ.out.bh,
  fun h => by rw [Cp.out, VD.out] at h; rw [Cp.out]; have := lJ.out.l h; rwa [show md + m - 1 - (i - 1) = md + m - i by omega] at this,
  fun h => by rw [Cp.out, VE.out] at h; rw [Cp.out]; exact Int.not_le.1 (lJ.out.r h)⟩)
 obtain ⟨hE1, hE2, hE3, VG, VH⟩ := VF.out.ends;rw [Cp.out] at hE3 VG VH;have hG := zKO VF.out (by omega) (by omega) (by rw [HN.out]; exact h3) HA.out HB.out;rw [Cp.out] at hG;obtain ⟨e, he, hEe⟩ : ∃ e, md + m - i = e ∧ (md : Int) + (m : Int) - (i : Int) = (e : Int) := ⟨md + m - i, rfl, by omega⟩
 rw [he] at VG VH hG;have hE6 : md ≤ e := by omega
 have hX1 : i = m ↔ e = md := by omega
 have VI : e = m ↔ i = md := by omega
 have eY := zh (show i = m → ey d i m e = d from fun h => by rw [h]; exact (kL (d := d) (s := m) (e := e) (by omega)).2);have fZ := zh (show m = e → ey d i m e = d from fun h => by rw [h]; exact (kL (d := d) (s := i) (e := e) (by omega)).1);have PY := zh (fun w h h1 h2 => zFM g n cap i m e B d (.func (.func 174) #[] #[]) w h HN.out hs h1 h2 (by omega));have rU := zh (hG.1.len.trans HN.out);generalize ey d i m e = d1 at *;have Ez := zh hG;have He := zh he;have fp := zh hX1;have fU := zh VI;clear hG he hX1 VI hlt;obtain ⟨t, ht⟩ : ∃ t, decide (i < m ∧ m < e) = t := ⟨_, rfl⟩
 have Ht := zh ht;clear ht;go_upto_region 39 with fail
 go_cut [185] (fun s wx => s = .bool t ∧ wr = wx)
 case first => as_aux_lemma =>
  by_cases c1 : i < m
  ·
   by_cases c2 : m < e
   ·
    go_wp2_with fail;go_meet
    case rel => exact ⟨by rw [← Ht.out, aF ⟨c1, c2⟩], rfl⟩
   go_wp2_with fail;go_meet
   case rel => exact ⟨by rw [← Ht.out, aD (fun h => c2 h.2)], rfl⟩
  go_wp2_with fail;go_meet
  case rel => exact ⟨by rw [← Ht.out, aD (fun h => c1 h.1)], rfl⟩
 obtain ⟨rfl, rfl⟩ := hcut;go_upto_if 185 with fail
 go_cut [18] (fun PZ wx => PZ = .int .i64 (md : Int) ∧ wx.ownsRow B 49 4 (.slice (some ⟨g, 0, none⟩) n cap) n (zU d1) ∧ w.grownBy wx (some g))
 case first => as_aux_lemma =>
  cases t
  ·
   have hc := cD Ht.out
   have HE : Hid (d1 = d) := zh (by
    by_cases c1 : i = m
    ·
     exact eY.out c1
    exact fZ.out (by omega))
   clear hc;go_wp2_with fail;go_meet
   case rel => exact ⟨rfl, by rw [HE.out]; exact HO.out, HG.out⟩
  have hc := zh (aY Ht.out);go_wp2_with fail;refine (PY.out _ HO.out hc.out.1 hc.out.2).mono ?_; rintro _ w2 ⟨rfl, ew, fu⟩;have gj := zh ew;have iG := zh (zp HG.out fu);clear ew fu;go_wp2_with fail;go_meet
  case rel => exact ⟨rfl, gj.out, iG.out⟩
 obtain ⟨rfl, ho, hg⟩ := hcut;have HO := zh ho;have HG := zh hg;clear ho hg;obtain ⟨t, ht⟩ : ∃ t, decide (a < i ∧ i < md) = t := ⟨_, rfl⟩
 have Ht := zh ht;clear ht;go_upto_region 41 with fail
 go_cut [199] (fun s wx => s = .bool t ∧ wc = wx)
 case first => as_aux_lemma =>
  by_cases c1 : a < i
  ·
   by_cases c2 : i < md
   ·
    go_wp2_with fail;go_meet
    case rel => exact ⟨by rw [← Ht.out, aF ⟨c1, c2⟩], rfl⟩
   go_wp2_with fail;go_meet
   case rel => exact ⟨by rw [← Ht.out, aD (fun h => c2 h.2)], rfl⟩
  go_wp2_with fail;go_meet
  case rel => exact ⟨by rw [← Ht.out, aD (fun h => c1 h.1)], rfl⟩
 obtain ⟨rfl, rfl⟩ := hcut;go_upto_if 199 with fail
 go_cut [18] (fun PZ wx => ∃ d2, PZ = .int .i64 (md : Int) ∧ wx.ownsRow B 49 4 (.slice (some ⟨g, 0, none⟩) n cap) n (zU d2) ∧ Moved d1 d2 a md ∧ iM d2 a md ∧ w.grownBy wx (some g))
 case first => as_aux_lemma =>
  cases t
  ·
   have hc := cD Ht.out
   have HE := zh (show iM d1 a md from by
    by_cases c1 : i = a
    ·
     exact c1 ▸ Ez.out.2.2.1
    exact (show i = md by omega) ▸ Ez.out.2.1)
   clear hc;go_wp2_with fail;go_meet
   case rel => exact ⟨d1, rfl, HO.out, Moved.refl _ _ _, HE.out, HG.out⟩
  have hc := zh (aY Ht.out);go_wp2_with fail;refine (HI.out a i md d1 _ (by omega) HO.out rU.out hc.out.1 hc.out.2 (by omega) Ez.out.2.1 Ez.out.2.2.1).mono ?_; rintro _ w2 ⟨rfl, d2, ew, jD, lK, fu⟩;have gj := zh ew;have HM := zh jD;have Nq := zh lK;have iG := zh (zp HG.out fu);clear ew fu jD lK;go_wp2_with fail;go_meet
  case rel => exact ⟨d2, rfl, gj.out, HM.out, Nq.out, iG.out⟩
 obtain ⟨d2, rfl, ho, jD, lK, hg⟩ := hcut;have HO := zh ho;have HG := zh hg;have HM := zh jD;have Nq := zh lK;have CZ := zh (jD.len.trans rU.out);have Fw := zh (show iM d2 md e from fun x y x1 xy y1 => by rw [jD.out (Or.inr x1), jD.out (Or.inr (by omega))]; exact Ez.out.2.2.2.1 x y x1 xy y1);have A_ := zh (show iM d2 e b from fun x y x1 xy y1 => by rw [jD.out (Or.inr (by omega)), jD.out (Or.inr (by omega))]; exact Ez.out.2.2.2.2.1 x y x1 xy y1);have HJ := zh (fun d3 m3 n3 => zKb (d := d1) (d2 := d2) (d3 := d3) (a := a) (c := md) (b := b) (by omega) (by omega) (by rw [rU.out]; exact h3) jD lK m3 n3 Ez.out.2.2.2.2.2);clear ho jD lK hg;obtain ⟨t, ht⟩ : ∃ t, decide (md < e ∧ e < b) = t := ⟨_, rfl⟩
 have Ht := zh ht;clear ht;go_upto_region 43 with fail
 go_cut [213] (fun s wx => s = .bool t ∧ wc = wx)
 case first => as_aux_lemma =>
  by_cases c1 : md < e
  ·
   by_cases c2 : e < b
   ·
    go_wp2_with fail;go_meet
    case rel => exact ⟨by rw [← Ht.out, aF ⟨c1, c2⟩], rfl⟩
   go_wp2_with fail;go_meet
   case rel => exact ⟨by rw [← Ht.out, aD (fun h => c2 h.2)], rfl⟩
  go_wp2_with fail;go_meet
  case rel => exact ⟨by rw [← Ht.out, aD (fun h => c1 h.1)], rfl⟩
 obtain ⟨rfl, rfl⟩ := hcut
 cases t
 ·
  have hc := cD Ht.out
  have Kw := zh (HJ.out d2 (Moved.refl _ _ _) (by
   by_cases c1 : md = e
   ·
    exact c1 ▸ A_.out
   exact (show e = b by omega) ▸ Fw.out))
  clear hc;go_wp2_with fail;go_end0;exact ⟨rfl, d2, HO.out, Ez.out.1.trans Kw.out.1, Kw.out.2, HG.out⟩
 have hc := zh (aY Ht.out);go_wp2_with fail;refine (HI.out md e b d2 _ (by omega) HO.out CZ.out hc.out.1 hc.out.2 h3 Fw.out A_.out).mono ?_; rintro _ w2 ⟨rfl, d3, ew, jD, lK, fu⟩;have gj := zh ew;have Kw := zh (HJ.out d3 jD lK);have iG := zh (zp HG.out fu);clear ew fu jD lK;go_wp2_with fail;go_end0;exact ⟨rfl, d3, gj.out, Ez.out.1.trans Kw.out.1, Kw.out.2, iG.out⟩
theorem P3 (g n cap B : Nat) (hs : n ≤ 1000000) : ∀ (N a m b : Nat) (d : List It) (w : World), b - a ≤ N → w.ownsRow B 49 4 (.slice (some ⟨g, 0, none⟩) n cap) n (zU d) → d.length = n → a < m → m < b → b ≤ n → iM d a m → iM d m b →
  Calls Tryz.prog 209 #[.slice (some ⟨g, 0, none⟩) n cap, .int .i64 (a : Int), .int .i64 (m : Int), .int .i64 (b : Int), .func (.func 174) #[] #[]] w fun e w' => e = .returned (.tuple #[]) ∧ Left w g n cap a b B d w'
 | 0, a, m, b, _, _, h, _, _, _, _, _, _, _ => by omega
 | N + 1, a, m, b, d, w, h, hown, hn, h1, h2, h3, na, nb => by
  rcases bD (a + 1) m with c1 | c1
  ·
   rcases bD (m + 1) b with c2 | c2
   ·
    exact zLm g n cap a m b B d w hown hn hs c1 c2 h3 na nb fun a' m' b' d' w' q1 q2 q3 q4 q5 q6 q7 q8 => P3 g n cap B hs N a' m' b' d' w' (by omega) q2 q3 q4 q5 q6 q7 q8
   exact zL9 g n cap a m b B d w hown hn hs c1 (by omega) h3 na
  obtain rfl : m = a + 1 := by omega
  exact zL0 g n cap a b B d w hown hn hs h2 h3 nb
end Go.Proofs.YtcgfilmmokmdjaaGreat
