/- A part of the walk. -/
import Derived.Test.YtcgfilmmokmdjaaGreatSy
set_option linter.all false
set_option maxRecDepth 100000
set_option maxHeartbeats 32000000
namespace Go.Proofs.YtcgfilmmokmdjaaGreat
open Go.RowKit
theorem zLG (g n cap a m b B : Nat) (d : List It) (w : World) (hown : w.ownsRow B 49 4 (.slice (some ⟨g, 0, none⟩) n cap) n (zL d)) (hn : d.length = n) (hs : n ≤ 1000000) (h1 : a + 1 < m) (h2 : m + 1 < b) (h3 : b ≤ n) (na : NdI d a m) (nb : NdI d m b) (IH : ∀ (a' m' b' : Nat) (d' : List It) (w' : World), b' - a' < b - a → w'.ownsRow B 49 4 (.slice (some ⟨g, 0, none⟩) n cap) n (zL d') → d'.length = n → a' < m' → m' < b' → b' ≤ n → NdI d' a' m' → NdI d' m' b' → Calls Tryz.prog 209 #[.slice (some ⟨g, 0, none⟩) n cap, .int .i64 (a' : Int), .int .i64 (m' : Int), .int .i64 (b' : Int), .func (.func 174) #[] #[]] w' fun e w'' => e = .returned (.tuple #[]) ∧ Left w' g n cap a' b' B d' w'') :
  Calls Tryz.prog 209 #[.slice (some ⟨g, 0, none⟩) n cap, .int .i64 (a : Int), .int .i64 (m : Int), .int .i64 (b : Int), .func (.func 174) #[] #[]] w fun e w' => e = .returned (.tuple #[]) ∧ Left w g n cap a b B d w' := by
 have HO := zh hown;have hgr : w.grownBy w (some g) := ⟨rfl, rfl, rfl, Nat.le_refl _, fun _ _ _ => rfl⟩
 have HG := zh hgr;have HN := zh hn;have HI := zh IH;clear IH;have HA := zh na;have HB := zh nb;have hm1 : ((m : Int) - (a : Int) == 1) = false := beq_eq_false_iff_ne.2 (by omega);have hm2 : ((b : Int) - (m : Int) == 1) = false := beq_eq_false_iff_ne.2 (by omega);obtain ⟨md, hmd, hL6, hL7, hLi⟩ : ∃ md, (a + b) / 2 = md ∧ md < b ∧ a < md ∧ ((a : Int) + (b : Int)) / 2 = (md : Int) := ⟨(a + b) / 2, rfl, by omega, by omega, by omega⟩
 obtain ⟨lo, hlo, hL1, hL5, hM1, hM2⟩ : ∃ lo, (if m > md then md + m - b else a) = lo ∧ a ≤ lo ∧ md + m ≤ lo + b ∧ (md < m → (md : Int) + (m : Int) - (b : Int) = (lo : Int)) ∧ (¬ md < m → a = lo) := by
  refine ⟨_, rfl, ?_, ?_, fun h => ?_, fun h => ?_⟩
  ·
   split <;> omega
  ·
   split <;> omega
  ·
   rw [if_pos h]; omega
  rw [if_neg h]
 obtain ⟨hi, hhi, hL2, hL3, hL4, hM3, hM4⟩ : ∃ hi, (if m > md then md else m) = hi ∧ lo ≤ hi ∧ hi ≤ m ∧ hi ≤ md ∧ (md < m → md = hi) ∧ (¬ md < m → m = hi) := by
  refine ⟨_, rfl, ?_, ?_, ?_, fun h => ?_, fun h => ?_⟩
  ·
   rw [← hlo]; split <;> omega
  ·
   split <;> omega
  ·
   split <;> omega
  ·
   rw [if_pos h]
  rw [if_neg h]
 have Hmd := zh hmd;have Hlo := zh hlo;have Hhi := zh hhi;have HM1 := zh hM1;have HM2 := zh hM2;have HM3 := zh hM3;have HM4 := zh hM4;clear hmd hlo hhi hM1 hM2 hM3 hM4 hown hgr hn na nb
 go_enter Tryz.func209, Tryz.ntmps209
 go_upto_if 140 with fail
 go_cut [20, 21] (fun s20 s21 wx => s20 = .int .i64 (lo : Int) ∧ s21 = .int .i64 (hi : Int) ∧ w = wx)
 case first => as_aux_lemma =>
  by_cases hgt : md < m
  ·
   have e1 := zh (HM1.out hgt);have e2 := zh (HM3.out hgt);go_wp2_with fail;go_meet
   case rel => exact ⟨by rw [e1.out], by rw [e2.out], rfl⟩
  have e1 := zh (HM2.out hgt);have e2 := zh (HM4.out hgt);go_wp2_with fail;go_meet
  case rel => exact ⟨by rw [e1.out], by rw [e2.out], rfl⟩
 obtain ⟨rfl, rfl, rfl⟩ := hcut;go_wp2_with fail
 go_loopw [20, 21] (fun iv jv wr => ∃ i j : Nat, iv = .int .i64 (i : Int) ∧ jv = .int .i64 (j : Int) ∧ Bin (fun k => (iat d k).key ≤ (iat d (md + m - 1 - k)).key) (lo) (hi) i j ∧ wr.ownsRow B 49 4 (.slice (some ⟨g, 0, none⟩) n cap) n (zL d) ∧ w.grownBy wr (some g)) (fun iv jv _ => (intOf jv - intOf iv).toNat)
 case atStart => exact ⟨lo, hi, by go_num, by go_num, Bin.start (by omega), HO.out, HG.out⟩
 obtain ⟨i, j, rfl, rfl, hbin, ho, hg⟩ := hrel;have Ho := zh ho;have Hg := zh hg;have hq1 := hbin.bl;have hq2 := hbin.ij;have hq3 := hbin.bh;have Hbin := zh hbin;clear hbin ho hg
 by_cases hlt : i < j
 ·
  obtain ⟨h, hh, hh1, hh2⟩ : ∃ h : Nat, (i + j) / 2 = h ∧ i ≤ h ∧ h < j := ⟨(i + j) / 2, rfl, by omega, by omega⟩
  have hmi : ((i : Int) + (j : Int)) / 2 = (h : Int) := by omega
  have Hh := zh hh;clear hh;obtain ⟨x, y, c, HXY, hcl, HV, f0, f1, f2, f3, f4, f5, f6, f7⟩ := zEu Ho.out (p := md + m - 1 - h) (q := h) (by omega) (by omega);have HY := zh (fun hp : (fun k => (iat d k).key ≤ (iat d (md + m - 1 - k)).key) h => Hbin.out.yes hh1 hh2 hp);have HN2 := zh (fun hp : ¬ (fun k => (iat d k).key ≤ (iat d (md + m - 1 - k)).key) h => Hbin.out.no hh1 hh2 hp);have i1 : (h : Int) < (n : Int) := by omega
  have q1 : (0 : Int) ≤ (md : Int) + (m : Int) - 1 - (h : Int) := by omega
  have q2 : ((md : Int) + (m : Int) - 1 - (h : Int)).toNat = md + m - 1 - h := by omega
  have q3 : (md : Int) + (m : Int) - 1 - (h : Int) < (n : Int) := by omega
  have q0 : IntKind.i64.wrap ((md : Int) + (m : Int) - 1 - (h : Int)) = (md : Int) + (m : Int) - 1 - (h : Int) := IntWalk.i64_in _ (by omega)
  by_cases hk : c < 0
  ·
   as_aux_lemma =>
   have hkk : x.key < y.key := by have := hcl.out; rw [decide_eq_true hk] at this; exact of_decide_eq_true this.symm
   have HK := zh hkk;clear hkk;go_wp2_with fail;refine zB (by kernel_rfl) (by kernel_rfl) ?_
   repeat (go_big_quiet_step ((exact zI (HV.out _))))
   refine wpQuiet_nil ?_;intro _ hw';obtain ⟨u, hw'⟩ := hw';subst hw';have Hp := zh (zH Ho.out u.h);have Gp := zh (zm Hg.out (xH (grown_of u.h) (some g)));generalize u.w' = wp at *;go_wp2_with fail;exact ⟨⟨i, h, rfl, rfl, HN2.out (by simp only [HXY.out.1, HXY.out.2]; have := HK.out; omega), Hp.out, Gp.out⟩, by simp [intOf]; omega⟩
  as_aux_lemma =>
  have hkk : ¬ x.key < y.key := by have := hcl.out; rw [decide_eq_false hk] at this; exact of_decide_eq_false this.symm
  have HK := zh hkk;have hkd : decide (c < 0) = false := decide_eq_false hk;clear hk hkk;go_wp2_with fail;refine zB (by kernel_rfl) (by kernel_rfl) ?_
  repeat (go_big_quiet_step ((exact zI (HV.out _))))
  refine wpQuiet_nil ?_;intro _ hw';obtain ⟨u, hw'⟩ := hw';subst hw';have Hp := zh (zH Ho.out u.h);have Gp := zh (zm Hg.out (xH (grown_of u.h) (some g)));generalize u.w' = wp at *;go_wp2_with fail;exact ⟨⟨h + 1, j, by go_num, rfl, HY.out (by simp only [HXY.out.1, HXY.out.2]; have := HK.out; omega), Hp.out, Gp.out⟩, by simp [intOf]; omega⟩
 obtain rfl : i = j := by omega
 have HO := Ho;have HG := Hg
 have HSr := zh (show Srch d a m b i from ⟨by rw [Hmd.out, Hlo.out]; exact Hbin.out.bl, by rw [Hmd.out, Hhi.out]; exact Hbin.out.bh,
  fun h => by rw [Hmd.out, Hlo.out] at h; rw [Hmd.out]; have := Hbin.out.l h; rwa [show md + m - 1 - (i - 1) = md + m - i by omega] at this,
  fun h => by rw [Hmd.out, Hhi.out] at h; rw [Hmd.out]; exact Int.not_le.1 (Hbin.out.r h)⟩)
 obtain ⟨hE1, hE2, hE3, hE4, hE5⟩ := HSr.out.ends;rw [Hmd.out] at hE3 hE4 hE5;have hG := zJp HSr.out (by omega) (by omega) (by rw [HN.out]; exact h3) HA.out HB.out;rw [Hmd.out] at hG;obtain ⟨e, he, hEe⟩ : ∃ e, md + m - i = e ∧ (md : Int) + (m : Int) - (i : Int) = (e : Int) := ⟨md + m - i, rfl, by omega⟩
 rw [he] at hE4 hE5 hG;have hE6 : md ≤ e := by omega
 have hX1 : i = m ↔ e = md := by omega
 have hX2 : e = m ↔ i = md := by omega
 have HR1 := zh (show i = m → rot d i m e = d from fun h => by rw [h]; exact (qe (d := d) (s := m) (e := e) (by omega)).2);have HR2 := zh (show m = e → rot d i m e = d from fun h => by rw [h]; exact (qe (d := d) (s := i) (e := e) (by omega)).1);have HRot := zh (fun w h h1 h2 => zEp g n cap i m e B d (.func (.func 174) #[] #[]) w h HN.out hs h1 h2 (by omega));have HL1 := zh (hG.1.len.trans HN.out);generalize rot d i m e = d1 at *;have Hgt := zh hG;have He := zh he;have HX1 := zh hX1;have HX2 := zh hX2;clear hG he hX1 hX2 hlt;obtain ⟨t, ht⟩ : ∃ t, decide (i < m ∧ m < e) = t := ⟨_, rfl⟩
 have Ht := zh ht;clear ht;go_upto_region 39 with fail
 go_cut [185] (fun s wx => s = .bool t ∧ wr = wx)
 case first => as_aux_lemma =>
  by_cases c1 : i < m
  ·
   by_cases c2 : m < e
   ·
    go_wp2_with fail;go_meet
    case rel => exact ⟨by rw [← Ht.out, decide_eq_true ⟨c1, c2⟩], rfl⟩
   go_wp2_with fail;go_meet
   case rel => exact ⟨by rw [← Ht.out, decide_eq_false (fun h => c2 h.2)], rfl⟩
  go_wp2_with fail;go_meet
  case rel => exact ⟨by rw [← Ht.out, decide_eq_false (fun h => c1 h.1)], rfl⟩
 obtain ⟨rfl, rfl⟩ := hcut;go_upto_if 185 with fail
 go_cut [18] (fun s18 wx => s18 = .int .i64 (md : Int) ∧ wx.ownsRow B 49 4 (.slice (some ⟨g, 0, none⟩) n cap) n (zL d1) ∧ w.grownBy wx (some g))
 case first => as_aux_lemma =>
  cases t
  ·
   have hc := of_decide_eq_false Ht.out
   have HE : Hid (d1 = d) := zh (by
    by_cases c1 : i = m
    ·
     exact HR1.out c1
    exact HR2.out (by omega))
   clear hc;go_wp2_with fail;go_meet
   case rel => exact ⟨rfl, by rw [HE.out]; exact HO.out, HG.out⟩
  have hc := zh (of_decide_eq_true Ht.out);go_wp2_with fail;refine (HRot.out _ HO.out hc.out.1 hc.out.2).mono ?_; rintro _ w2 ⟨rfl, hown2, hgr2⟩;have HO2 := zh hown2;have HG2 := zh (zm HG.out hgr2);clear hown2 hgr2;go_wp2_with fail;go_meet
  case rel => exact ⟨rfl, HO2.out, HG2.out⟩
 obtain ⟨rfl, ho, hg⟩ := hcut;have HO := zh ho;have HG := zh hg;clear ho hg;obtain ⟨t, ht⟩ : ∃ t, decide (a < i ∧ i < md) = t := ⟨_, rfl⟩
 have Ht := zh ht;clear ht;go_upto_region 41 with fail
 go_cut [199] (fun s wx => s = .bool t ∧ wc = wx)
 case first => as_aux_lemma =>
  by_cases c1 : a < i
  ·
   by_cases c2 : i < md
   ·
    go_wp2_with fail;go_meet
    case rel => exact ⟨by rw [← Ht.out, decide_eq_true ⟨c1, c2⟩], rfl⟩
   go_wp2_with fail;go_meet
   case rel => exact ⟨by rw [← Ht.out, decide_eq_false (fun h => c2 h.2)], rfl⟩
  go_wp2_with fail;go_meet
  case rel => exact ⟨by rw [← Ht.out, decide_eq_false (fun h => c1 h.1)], rfl⟩
 obtain ⟨rfl, rfl⟩ := hcut;go_upto_if 199 with fail
 go_cut [18] (fun s18 wx => ∃ d2, s18 = .int .i64 (md : Int) ∧ wx.ownsRow B 49 4 (.slice (some ⟨g, 0, none⟩) n cap) n (zL d2) ∧ Moved d1 d2 a md ∧ NdI d2 a md ∧ w.grownBy wx (some g))
 case first => as_aux_lemma =>
  cases t
  ·
   have hc := of_decide_eq_false Ht.out
   have HE := zh (show NdI d1 a md from by
    by_cases c1 : i = a
    ·
     exact c1 ▸ Hgt.out.2.2.1
    exact (show i = md by omega) ▸ Hgt.out.2.1)
   clear hc;go_wp2_with fail;go_meet
   case rel => exact ⟨d1, rfl, HO.out, Moved.refl _ _ _, HE.out, HG.out⟩
  have hc := zh (of_decide_eq_true Ht.out);go_wp2_with fail;refine (HI.out a i md d1 _ (by omega) HO.out HL1.out hc.out.1 hc.out.2 (by omega) Hgt.out.2.1 Hgt.out.2.2.1).mono ?_; rintro _ w2 ⟨rfl, d2, hown2, hm2, hn2, hgr2⟩;have HO2 := zh hown2;have HM := zh hm2;have HNd := zh hn2;have HG2 := zh (zm HG.out hgr2);clear hown2 hgr2 hm2 hn2;go_wp2_with fail;go_meet
  case rel => exact ⟨d2, rfl, HO2.out, HM.out, HNd.out, HG2.out⟩
 obtain ⟨d2, rfl, ho, hm2, hn2, hg⟩ := hcut;have HO := zh ho;have HG := zh hg;have HM := zh hm2;have HNd := zh hn2;have HL2 := zh (hm2.len.trans HL1.out);have HN1 := zh (show NdI d2 md e from fun x y x1 xy y1 => by rw [hm2.out (Or.inr x1), hm2.out (Or.inr (by omega))]; exact Hgt.out.2.2.2.1 x y x1 xy y1);have HN2 := zh (show NdI d2 e b from fun x y x1 xy y1 => by rw [hm2.out (Or.inr (by omega)), hm2.out (Or.inr (by omega))]; exact Hgt.out.2.2.2.2.1 x y x1 xy y1);have HJ := zh (fun d3 m3 n3 => zJ5 (d := d1) (d2 := d2) (d3 := d3) (a := a) (c := md) (b := b) (by omega) (by omega) (by rw [HL1.out]; exact h3) hm2 hn2 m3 n3 Hgt.out.2.2.2.2.2);clear ho hm2 hn2 hg;obtain ⟨t, ht⟩ : ∃ t, decide (md < e ∧ e < b) = t := ⟨_, rfl⟩
 have Ht := zh ht;clear ht;go_upto_region 43 with fail
 go_cut [213] (fun s wx => s = .bool t ∧ wc = wx)
 case first => as_aux_lemma =>
  by_cases c1 : md < e
  ·
   by_cases c2 : e < b
   ·
    go_wp2_with fail;go_meet
    case rel => exact ⟨by rw [← Ht.out, decide_eq_true ⟨c1, c2⟩], rfl⟩
   go_wp2_with fail;go_meet
   case rel => exact ⟨by rw [← Ht.out, decide_eq_false (fun h => c2 h.2)], rfl⟩
  go_wp2_with fail;go_meet
  case rel => exact ⟨by rw [← Ht.out, decide_eq_false (fun h => c1 h.1)], rfl⟩
 obtain ⟨rfl, rfl⟩ := hcut
 cases t
 ·
  have hc := of_decide_eq_false Ht.out
  have HJ2 := zh (HJ.out d2 (Moved.refl _ _ _) (by
   by_cases c1 : md = e
   ·
    exact c1 ▸ HN2.out
   exact (show e = b by omega) ▸ HN1.out))
  clear hc;go_wp2_with fail;go_end0;exact ⟨rfl, d2, HO.out, Hgt.out.1.trans HJ2.out.1, HJ2.out.2, HG.out⟩
 have hc := zh (of_decide_eq_true Ht.out);go_wp2_with fail;refine (HI.out md e b d2 _ (by omega) HO.out HL2.out hc.out.1 hc.out.2 h3 HN1.out HN2.out).mono ?_; rintro _ w2 ⟨rfl, d3, hown2, hm2, hn2, hgr2⟩;have HO2 := zh hown2;have HJ2 := zh (HJ.out d3 hm2 hn2);have HG2 := zh (zm HG.out hgr2);clear hown2 hgr2 hm2 hn2;go_wp2_with fail;go_end0;exact ⟨rfl, d3, HO2.out, Hgt.out.1.trans HJ2.out.1, HJ2.out.2, HG2.out⟩
theorem zC0 (g n cap B : Nat) (hs : n ≤ 1000000) : ∀ (N a m b : Nat) (d : List It) (w : World), b - a ≤ N → w.ownsRow B 49 4 (.slice (some ⟨g, 0, none⟩) n cap) n (zL d) → d.length = n → a < m → m < b → b ≤ n → NdI d a m → NdI d m b →
  Calls Tryz.prog 209 #[.slice (some ⟨g, 0, none⟩) n cap, .int .i64 (a : Int), .int .i64 (m : Int), .int .i64 (b : Int), .func (.func 174) #[] #[]] w fun e w' => e = .returned (.tuple #[]) ∧ Left w g n cap a b B d w'
 | 0, a, m, b, _, _, h, _, _, _, _, _, _, _ => by omega
 | N + 1, a, m, b, d, w, h, hown, hn, h1, h2, h3, na, nb => by
  rcases Nat.lt_or_ge (a + 1) m with c1 | c1
  ·
   rcases Nat.lt_or_ge (m + 1) b with c2 | c2
   ·
    exact zLG g n cap a m b B d w hown hn hs c1 c2 h3 na nb fun a' m' b' d' w' q1 q2 q3 q4 q5 q6 q7 q8 => zC0 g n cap B hs N a' m' b' d' w' (by omega) q2 q3 q4 q5 q6 q7 q8
   exact zLe g n cap a m b B d w hown hn hs c1 (by omega) h3 na
  obtain rfl : m = a + 1 := by omega
  exact zLS g n cap a b B d w hown hn hs h2 h3 nb
end Go.Proofs.YtcgfilmmokmdjaaGreat
