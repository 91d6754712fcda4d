/- A part of the walk. -/
import Derived.Test.YtcgfilmmokmdjaaGreatQAW
import Derived.Deep.CutBlock
set_option linter.all false
set_option maxRecDepth 100000
set_option maxHeartbeats 32000000
namespace Go.Proofs.YtcgfilmmokmdjaaGreat
open Go.RowKit
theorem zGt {w : World} {B b : Nat} {P : Pst} {ga : Option Addr} {gn gc : Nat} {L : List GP} {kv : Value} {ks : List KP} {nv : Value} {es : List (Nd × Value)} {rv : Value} (hlo : B ≤ b) (hP : PlB w b P.t.id P.t.lim P.t.ro ga gn gc P.rot kv nv rv P.bytes) (hR : PlR w B P ga gn gc L kv ks nv es rv) (hl : LenS 800 P.t.gens) (hB : B ≤ w.heap.size) (hel : es.length ≤ 900) (hby : 0 ≤ P.bytes ∧ P.bytes ≤ 1000000000) (M : Nat) (hM : M ≤ 100000) (hsk : SmK M P.kills) (hgl : P.t.gens.length ≤ 1000000) (q : Rq) (tk kind key ck : Int) (da : Option Addr) (dn dc : Nat) (hd : RdB w (.slice da dn dc) q.data) (hdl : dn ≤ 1000000) (hr16 : P.res.length ≤ 16) (hqd : q.kind = kind) (hqk : (q.key : Int) = key) (hqc : (q.ck : Int) = ck) :
  Calls Tryz.prog 66 #[.pointer (some ⟨b, 0, none⟩), rqV tk kind key ck (.slice da dn dc)] w fun e w' => e = .returned (.bool (zd P q).1) ∧ PlM w' B b (zd P q).2 ∧ BelK B w w' := by
 have hdn : q.data.length = dn := by obtain ⟨_, _, _, e, _⟩ := hd; injection e with _ e _; exact e.symm
 have hbw : b < w.heap.size := hP.lt;have hl1 : LenS 1000 P.t.gens := hl.mono (by decide);have HCp := zh (fun W (hb : Below w.heap.size w W) => zFD b P.t ga gn gc L P.rot kv nv rv P.bytes tk kind key ck da dn dc W (hP.below hb) (hR.g.rd.below hb) hR.gg hl1 hdl q hdn);have HCd := zh (fun W (hb : Below w.heap.size w W) => zEV b P.t ga gn gc L P.rot kv nv rv P.bytes tk kind key ck da dn dc W (hP.below hb) (hR.g.rd.below hb) hR.gg hl1 q hqk hqc);have HR1 := zh (fun W => zG7 tk kind key ck da dn dc W);have HR3 := zh (fun W cap (hb : Below w.heap.size w W) (hc : BlkE W cap #[.pointer (some ⟨b, 0, none⟩)] 143) => zGL b cap P.t ga gn gc L P.rot kv nv rv P.bytes tk kind key ck da dn dc W hc (hP.below hb) (hR.g.rd.below hb) hR.gg hl1);have HRo := zh (fun W (hb : Below w.heap.size w W) => zCh P.t ga gn gc L W (hR.g.rd.below hb) hR.gg hl1);have HSz := zh (fun W => zHM tk kind key ck da dn dc W hdl)
 have HPu := zh (fun W cap (h0 : zx P.t q = 0) (hb : Below w.heap.size w W) (hc : BlkE W cap #[.pointer (some ⟨b, 0, none⟩)] 143) => zH4 hlo (hP.below hb) (hR.below hb) (hl.mono (by decide)) (Nat.le_trans hB hb.size) (by omega) hby q cap tk kind key ck da dn dc hc (RdL.below hd hb) (by have := zER h0; omega) hqk hqc);have HDr := zh (fun W (hb : Below w.heap.size w W) => zG1 hlo (hP.below hb) (hR.below hb) hl (Nat.le_trans hB hb.size) hel hby M hM hsk hgl q tk kind key ck da dn dc hqk hqc);have HPw := zh hP;have HRw := zh hR;have HPm := zh (fun W (hb : Below w.heap.size w W) => show PlM W B b P from ⟨ga, gn, gc, L, kv, ks, nv, es, rv, hlo, hP.below hb, hR.below hb⟩);have hszl : szN dn ≤ 4127 := xg dn;have h0 := hby.1;have hb9 := hby.2;clear hl hl1 hsk hel hgl hd hby;have HDn := zh hdn;have HQd := zh hqd;have HQk := zh hqk;clear hdn hqd hqk hqc;obtain ⟨ra, rc, hrv, hr1, hr2, _⟩ := zJ hR.r
 subst hrv;have q8 := hP.cell (i := 8) rfl;clear hP hR;have hba := (Below.refl w.heap.size w).alloc (Nat.le_refl _) (.cells #[.int .i64 tk, .int .i64 kind, .int .u64 key, .int .u32 ck, .slice da dn dc] 85);have HX := zh (BlkE.new w #[.int .i64 tk, .int .i64 kind, .int .u64 key, .int .u32 ck, .slice da dn dc] 85);have HB := zh hba;have HP1 := zh (HPw.out.below hba);clear hba q8
 go_enter Tryz.func66, Tryz.ntmps66
 go_upto_region 1 with fail;change Code.wp _ _ _ _ (w.alloc (.cells #[.int .i64 tk, .int .i64 kind, .int .u64 key, .int .u32 ck, .slice da dn dc] 85));generalize w.alloc (.cells #[.int .i64 tk, .int .i64 kind, .int .u64 key, .int .u32 ck, .slice da dn dc] 85) = w1 at *;generalize hb3n : w.heap.size = b3 at *;have hz1 : w.heap.size ≤ b3 := by omega
 have hz2 : b3 ≤ w.heap.size := by omega
 have hBw : B ≤ w.heap.size := Nat.le_trans hB hz2;clear hb3n;have q8 := HP1.out.cell (i := 8) rfl
 by_cases h16 : P.res.length = 16
 ·
  have HF := zh (zA6 (q := q) h16);have j16 : ((P.res.length : Int) == 16) = true := by simp; omega
  have HPn := zh (HPm.out w1 HB.out);go_wp2_with fail;go_ret;exact ⟨by rw [HF.out]; rfl, by rw [HF.out]; exact HPn.out, BelK.of (HB.out.mono hz1) (Nat.le_trans hB hz2)⟩
 have j16 : ((P.res.length : Int) == 16) = false := by simp; omega
 go_wp2_with fail;refine (zGF b w1).mono ?_;rintro e w2 ⟨g, cap, rfl, hru, hb2⟩;have HRu := zh hru;have HX2 := zh (HX.out.below hb2);have HB2 := zh (HB.out.trans (hb2.mono (Nat.le_trans hz2 HB.out.size)));clear hru hb2 HX HB HP1 q8
 go_upto_block 0 with fail
 go_cut [5] (fun ev wx => ∃ E st, ev = .int .i64 E ∧ Hid (zd P q = (true, more st E)) ∧ Hid (PlM wx B b st) ∧ Hid (BelK B w wx))
 case first =>
  go_wp2_with fail
  go_loopw [5, 18] (fun ev iv W => ∃ (j : Nat) (E : Int) (st : Pst), ev = .int .i64 E ∧ iv = .int .i64 (j : Int) ∧ j ≤ 2 ∧ Hid ((j = 0 ∨ (j = 1 ∧ kind ≠ 1) ∨ (j = 2 ∧ kind ≠ 1 ∧ kind ≠ 2)) → E = 1 ∧ st = P ∧ Below b3 w W) ∧ Hid (¬ (j = 0 ∨ (j = 1 ∧ kind ≠ 1) ∨ (j = 2 ∧ kind ≠ 1 ∧ kind ≠ 2)) → zd P q = (true, more st E)) ∧ Hid (PlM W B b st) ∧ Hid (BlkE W b3 #[.int .i64 tk, .int .i64 kind, .int .u64 key, .int .u32 ck, .slice da dn dc] 85) ∧ Hid (RulesAt W b g cap) ∧ Hid (BelK B w W)) (fun _ iv _ => 2 - (intOf iv).toNat)
  case atStart => exact ⟨0, 1, P, rfl, rfl, Nat.zero_le _, zh (fun _ => ⟨rfl, rfl, HB2.out⟩), zh (fun h => absurd (.inl rfl) h), zh (HPm.out w2 HB2.out), HX2, HRu, zh (BelK.of (HB2.out.mono hz1) hBw)⟩
  obtain ⟨j, E, st, rfl, rfl, hj2, HFr, HDo, HPl, HX, HRu, HB⟩ := hrel;rcases (show j = 0 ∨ j = 1 ∨ j = 2 by omega) with rfl | rfl | rfl
  ·
   have c0 := HRu.out.r.cell (i := 0) rfl;have c1 := HRu.out.r.cell (i := 1) rfl;have c2 := HRu.out.r.cell (i := 2) rfl;have c3 := HRu.out.r.cell (i := 3) rfl;obtain ⟨rfl, _, hbb⟩ := HFr.out (.inl rfl);have HBb := zh hbb;clear hbb HDo;have hb3r : b3 ≤ wr.heap.size := Nat.le_trans hz2 HBb.out.size;have hba := (Below.refl wr.heap.size wr).alloc (Nat.le_refl _) (.cells #[.int .i64 1, .func (.func 144) #[.pointer (some ⟨b, 0, none⟩)] #[], .func (.func 145) #[] #[], .func (.func 146) #[] #[.pointer (some ⟨cap, 0, none⟩)]] 192);have HY := zh (BlkE.new wr #[.int .i64 1, .func (.func 144) #[.pointer (some ⟨b, 0, none⟩)] #[], .func (.func 145) #[] #[], .func (.func 146) #[] #[.pointer (some ⟨cap, 0, none⟩)]] 192);go_upto_region 7 with fail
   change Code.wp _ _ _ _ (wr.alloc (.cells #[.int .i64 1, .func (.func 144) #[.pointer (some ⟨b, 0, none⟩)] #[], .func (.func 145) #[] #[], .func (.func 146) #[] #[.pointer (some ⟨cap, 0, none⟩)]] 192));obtain ⟨bR, hbR⟩ : ∃ bR, wr.heap.size = bR := ⟨_, rfl⟩
   rw [hbR] at HY ⊢
   by_cases hk1 : kind = 1
   ·
    have hk : kind = 1 := hk1;subst hk;clear hk1;have HBb6 := zh (HBb.out.trans (hba.mono hb3r));have HPw6 := zh (HPw.out.below (HBb6.out.mono hz1));have HX6 := zh (HX.out.below hba);have HRu6 := zh (HRu.out.below hba);clear hba HPl HX HRu HB HBb;generalize wr.alloc (.cells #[.int .i64 1, .func (.func 144) #[.pointer (some ⟨b, 0, none⟩)] #[], .func (.func 145) #[] #[], .func (.func 146) #[] #[.pointer (some ⟨cap, 0, none⟩)]] 192) = w6 at *;have y0 := HY.out.cell (i := 0) rfl;have y1 := HY.out.cell (i := 1) rfl;have x0 := HX6.out.cell (i := 0) rfl;have x1 := HX6.out.cell (i := 1) rfl;have x2 := HX6.out.cell (i := 2) rfl;have x3 := HX6.out.cell (i := 3) rfl;have x4 := HX6.out.cell (i := 4) rfl;have hb36 : b3 ≤ w6.heap.size := Nat.le_trans hz2 HBb6.out.size;go_wp2_with fail;refine (HCp.out w6 HBb6.out).mono ?_;rintro e w7 ⟨rfl, hb7⟩;have HBb7 := zh (HBb6.out.trans (hb7.mono hb36))
    have HPw7 := zh (HPw6.out.below hb7);have HX7 := zh (HX6.out.below hb7);have HRu7 := zh (HRu6.out.below hb7);have HY7 := zh (HY.out.below hb7);have hb37 : b3 ≤ w7.heap.size := Nat.le_trans hz2 HBb7.out.size;clear hb7 y0 y1 x0 x1 x2 x3 x4 HBb6 HPw6 HX6 HRu6 HY hb36;obtain ⟨cc, hcc⟩ : ∃ cc, zx P.t q = cc := ⟨_, rfl⟩
    have HCc := zh hcc;rw [hcc];clear hcc;rcases (show cc = 0 ∨ cc = 8 ∨ cc = 9 by rw [← HCc.out]; exact zBX) with rfl | rfl | rfl
    ·
     have hStop : ∃ sb, (decide (0 < P.bytes) && decide (16384 < P.bytes + (szN dn : Int))) = sb := ⟨_, rfl⟩
     obtain ⟨sb, hsb⟩ := hStop;have HSb := zh hsb;clear hsb;go_upto_region 13 with fail
     go_cut [73] (fun v wx => v = .bool sb ∧ Hid (Below w7.heap.size w7 wx))
     case first =>
      have HSz7 := zh (show ∀ W, Calls Tryz.prog 108 #[rqV tk 1 key ck (.slice da dn dc)] W fun e w' => e = .returned (.int .i64 (szN dn : Int)) ∧ Below W.heap.size W w' from fun W => HSz.out W);have HRec := zh (show ∀ W, Below b3 w W → BlkE W cap #[.pointer (some ⟨b, 0, none⟩)] 143 → Calls Tryz.prog 145 #[rqV tk 1 key ck (.slice da dn dc)] W fun e w' => e = .returned (.bool true) ∧ Below W.heap.size W w' from fun W _ _ => HR1.out W);have hszl2 := hszl;clear HCp HCd HR1 HR3 HRo HSz HPu HDr HPm HFr HRw;obtain ⟨bz, hbz0⟩ : ∃ bz, P.bytes = bz := ⟨_, rfl⟩
      rw [hbz0] at HPw7 HSb h0 hb9;clear hbz0
      by_cases hpos : 0 < bz
      ·
       obtain ⟨bg, hbg⟩ : ∃ bg, decide (16384 < bz + (szN dn : Int)) = bg := ⟨_, rfl⟩
       have HBg := zh hbg;have hs := HSb.out;rw [decide_eq_true hpos, hbg] at hs;simp only [Bool.true_and] at hs;subst hs;clear HSb hbg;have y2 := zC (HY7.out.cell (i := 2) rfl);have x0 := zC (HX7.out.cell (i := 0) rfl);have x1 := zC (HX7.out.cell (i := 1) rfl);have x2 := zC (HX7.out.cell (i := 2) rfl);have x3 := zC (HX7.out.cell (i := 3) rfl);have x4 := zC (HX7.out.cell (i := 4) rfl);have q9 := zC (HPw7.out.cell (i := 9) rfl);have hg1 : decide (0 < bz) = true := decide_eq_true hpos;have hg2 : decide (16384 < bz + (szN dn : Int)) = bg := HBg.out;refine zB (by kernel_rfl) (by kernel_rfl) ?_
       repeat (go_big_quiet_step (first | exact zI (HRec.out _ (HBb7.out.trans ((BelowBy.h _).mono hb37)) (HRu7.out.c.below (BelowBy.h _))) | exact zI (HSz7.out _)))
       refine wpQuiet_nil ?_;intro _ hw';obtain ⟨qq, hw'⟩ := hw';subst hw';have HBz := zh qq.h;clear y2 x0 x1 x2 x3 x4 q9;generalize qq.w' = w8 at *;go_wp2_with fail;go_meet
       case rel => exact ⟨rfl, HBz⟩
      obtain rfl : bz = 0 := by omega
      have hs := HSb.out;rw [decide_eq_false hpos] at hs;simp only [Bool.true_and, Bool.false_and] at hs;subst hs;clear HSb hpos;have y2 := zC (HY7.out.cell (i := 2) rfl);have x0 := zC (HX7.out.cell (i := 0) rfl);have x1 := zC (HX7.out.cell (i := 1) rfl);have x2 := zC (HX7.out.cell (i := 2) rfl);have x3 := zC (HX7.out.cell (i := 3) rfl);have x4 := zC (HX7.out.cell (i := 4) rfl);have q9 := zC (HPw7.out.cell (i := 9) rfl);refine zB (by kernel_rfl) (by kernel_rfl) ?_
      repeat (go_big_quiet_step (first | exact zI (HRec.out _ (HBb7.out.trans ((BelowBy.h _).mono hb37)) (HRu7.out.c.below (BelowBy.h _))) | exact zI (HSz7.out _)))
      refine wpQuiet_nil ?_;intro _ hw';obtain ⟨qq, hw'⟩ := hw';subst hw';have HBz := zh qq.h;clear y2 x0 x1 x2 x3 x4 q9;generalize qq.w' = w8 at *;go_wp2_with fail;go_meet
      case rel => exact ⟨rfl, HBz⟩
     obtain ⟨rfl, HB8⟩ := hcut;generalize wc = w8 at *;have HBb8 := zh (HBb7.out.trans (HB8.out.mono hb37));have HX8 := zh (HX7.out.below HB8.out);have HRu8 := zh (HRu7.out.below HB8.out);have HY8 := zh (HY7.out.below HB8.out);clear HB8 HX7 HRu7 HY7 HPw7 HBb7 hb37
     cases sb
     ·
      have HF := zh (kV (q := q) h16 HQd.out HCc.out (show ¬ (0 < P.bytes ∧ 16384 < P.bytes + (szN q.data.length : Int)) from by
       have hs := HSb.out
       intro hh
       have hh2 : (decide (0 < P.bytes) && decide (16384 < P.bytes + (szN dn : Int))) = true := by simp only [Bool.and_eq_true, decide_eq_true_eq]; exact ⟨hh.1, by rw [← HDn.out]; exact hh.2⟩
       rw [hh2] at hs
       cases hs))
      have y3 := HY8.out.cell (i := 3) rfl;have x0 := HX8.out.cell (i := 0) rfl;have x1 := HX8.out.cell (i := 1) rfl;have x2 := HX8.out.cell (i := 2) rfl;have x3 := HX8.out.cell (i := 3) rfl;have x4 := HX8.out.cell (i := 4) rfl;have hb38 : b3 ≤ w8.heap.size := Nat.le_trans hz2 HBb8.out.size;go_wp2_with fail;refine (HPu.out w8 cap HCc.out HBb8.out HRu8.out.c).mono ?_;rintro e w9 ⟨rfl, hp9, hb9⟩;have HB9 := zh ((BelK.of (HBb8.out.mono hz1) hBw).trans hb9);have HX9 := zh (hb9.box HX8.out (by decide));have HRu9 := zh (HRu8.out.kept hb9);have HP9 := zh hp9;clear hp9 hb9 HX8 HRu8 HY8 HBb8 y3 x0 x1 x2 x3 x4 hb38;go_wp2_with fail;exact ⟨⟨1, 0, _, rfl, rfl, by decide, zh (fun h => by omega), zh (fun _ => HF.out), HP9, HX9, HRu9, HB9⟩, by simp [intOf]⟩
     have HF := zh (zAl (q := q) h16 HQd.out HCc.out (show 0 < P.bytes ∧ 16384 < P.bytes + (szN q.data.length : Int) from by
      have hs := HSb.out
      simp only [Bool.and_eq_true, decide_eq_true_eq] at hs
      exact ⟨hs.1, by rw [HDn.out]; exact hs.2⟩))
     have HPn := zh (HPm.out w8 HBb8.out);go_wp2_with fail;go_ret;exact ⟨by rw [HF.out]; rfl, by rw [HF.out]; exact HPn.out, BelK.of (HBb8.out.mono hz1) hBw⟩
    ·
     have HF := zh (qG (q := q) h16 HQd.out (fun h => by have := h.1; rw [HCc.out] at this; cases this) (by rw [HCc.out]; decide));have HPn := zh (HPm.out w7 HBb7.out);have HBn := zh (BelK.of (HBb7.out.mono hz1) hBw);have HF8 := zh (show zd P q = (true, more P 8) by have h := HF.out; rw [HCc.out] at h; exact h);clear HF;go_wp2_with fail;go_meet
     case rel => exact ⟨8, P, rfl, HF8, HPn, HBn⟩
    by_cases hcs : wZ P.t = true
    ·
     have HF := zh (zCC (q := q) h16 HQd.out HCc.out hcs);have q0 := HPw7.out.cell (i := 0) rfl;have q1 := HPw7.out.cell (i := 1) rfl;have q2 := HPw7.out.cell (i := 2) rfl;have q3 := HPw7.out.cell (i := 3) rfl;go_wp2_with fail;refine (HRo.out w7 HBb7.out).mono ?_;rintro e w8 ⟨rfl, hb8⟩;rw [hcs];have HBb8 := zh (HBb7.out.trans (hb8.mono hb37));have hp8 := HPw7.out.below hb8;have HR8 := zh (HRw.out.below (HBb8.out.mono hz1));have q8 := hp8.cell (i := 8) rfl;have q4 := hp8.cell (i := 4) rfl;have f4 := hp8.frozen 4;obtain ⟨rz, hrz⟩ : ∃ rz, ((P.res.length : Int) == 0) = rz := ⟨_, rfl⟩
     have hrz2 : decide (P.res.length = 0) = rz := by
      rw [← hrz]
      by_cases e : P.res.length = 0
      ·
       simp [e]
      have e2 : ¬ (P.res.length : Int) = 0 := by omega
      simp [e]
     have HO8 : Oth w8 (w8.setCell ⟨b, 4, none⟩ (.bool rz)) B b 145 := Oth.pts hlo ⟨_, _, hp8⟩ [(4, .bool rz)];have HR9 := zh (HR8.out.oth HO8);have HP9 := zh (show PlB (w8.setCell ⟨b, 4, none⟩ (.bool rz)) b P.t.id P.t.lim P.t.ro ga gn gc rz kv nv (.slice ra P.res.length rc) P.bytes from (by have h := hp8.set 4 (.bool rz); rw [zK0] at h; exact h));have HB9 := zh ((BelK.of (HBb8.out.mono hz1) hBw).pts hlo [(4, .bool rz)] ⟨_, _, hp8⟩ (by decide));clear hb8 hp8 HO8 HR8 HPw7 HBb8 q0 q1 q2 q3 HX7 HRu7 HY7 HBb7;go_wp2_with fail;go_ret;exact ⟨by rw [HF.out]; rfl, by rw [HF.out, hrz2]; exact ⟨ga, gn, gc, L, kv, ks, nv, es, _, hlo, HP9.out, ⟨HR9.out.g, HR9.out.gg, HR9.out.k, HR9.out.kk, HR9.out.n, HR9.out.nn, HR9.out.r⟩⟩, HB9.out⟩
    have hcf : wZ P.t = false := by simpa using hcs
    have HF := zh (qG (q := q) h16 HQd.out (fun h => hcs h.2) (by rw [HCc.out]; decide));have HPn := zh (HPm.out w7 HBb7.out);have HBn := zh (BelK.of (HBb7.out.mono hz1) hBw);have q0 := HPw7.out.cell (i := 0) rfl;have q1 := HPw7.out.cell (i := 1) rfl;have q2 := HPw7.out.cell (i := 2) rfl;have q3 := HPw7.out.cell (i := 3) rfl;go_wp2_with fail;refine (HRo.out w7 HBb7.out).mono ?_;rintro e w8 ⟨rfl, hb8⟩;rw [hcf];have HBb8 := zh (HBb7.out.trans (hb8.mono hb37));have HPn8 := zh (HPm.out w8 HBb8.out);have HBn8 := zh (BelK.of (HBb8.out.mono hz1) hBw);have HF9 := zh (show zd P q = (true, more P 9) by have h := HF.out; rw [HCc.out] at h; exact h);clear hb8 HPn HBn q0 q1 q2 q3 HF;go_wp2_with fail;go_meet
    case rel => exact ⟨9, P, rfl, HF9, HPn8, HBn8⟩
   have HBb6 := zh (HBb.out.trans (hba.mono hb3r));have HX6 := zh (HX.out.below hba);have HRu6 := zh (HRu.out.below hba);have HPn := zh (HPm.out _ HBb6.out);clear hba HPl HX HRu HB HBb c0 c1 c2 c3;generalize wr.alloc (.cells #[.int .i64 1, .func (.func 144) #[.pointer (some ⟨b, 0, none⟩)] #[], .func (.func 145) #[] #[], .func (.func 146) #[] #[.pointer (some ⟨cap, 0, none⟩)]] 192) = w6 at *;have y0 := HY.out.cell (i := 0) rfl;have x1 := HX6.out.cell (i := 1) rfl;have hk2 : ¬ (1 : Int) = kind := fun h => hk1 h.symm
   have HBn := zh (BelK.of (HBb6.out.mono hz1) hBw);go_wp2_with fail;exact ⟨⟨1, 1, P, rfl, rfl, by decide, zh (fun _ => ⟨rfl, rfl, HBb6.out⟩), zh (fun h => absurd (.inr (.inl ⟨rfl, hk1⟩)) h), HPn, HX6, HRu6, HBn⟩, by simp [intOf]⟩
  ·
   have c0 := HRu.out.r.cell (i := 4) rfl;have c1 := HRu.out.r.cell (i := 5) rfl;have c2 := HRu.out.r.cell (i := 6) rfl;have c3 := HRu.out.r.cell (i := 7) rfl
   by_cases hkf : kind = 1
   ·
    have hdo := HDo.out (by omega);have HDo2 := zh hdo;clear hdo HDo HFr;subst hkf;have x1 := HX.out.cell (i := 1) rfl;have hba := (Below.refl wr.heap.size wr).alloc (Nat.le_refl _) (.cells #[.int .i64 2, .func (.func 149) #[.pointer (some ⟨b, 0, none⟩)] #[], .func (.func 150) #[] #[.pointer (some ⟨cap, 0, none⟩)], .func (.func 152) #[.pointer (some ⟨b, 0, none⟩)] #[]] 192);have hBr : B ≤ wr.heap.size := Nat.le_trans hB (Nat.le_trans hz2 HB.out.size);have HPl2 := zh (HPl.out.below hba);have HX2 := zh (HX.out.below hba);have HRu2 := zh (HRu.out.below hba);have HB2 := zh (HB.out.step hba hBr);have x1 := HX2.out.cell (i := 1) rfl;clear hba;go_wp2_with fail;exact ⟨⟨2, E, st, rfl, rfl, Nat.le_refl _, zh (fun h => by omega), zh (fun _ => HDo2.out), HPl2, HX2, HRu2, HB2⟩, by simp [intOf]⟩
   obtain ⟨rfl, _, hbb⟩ := HFr.out (.inr (.inl ⟨rfl, hkf⟩));have HBb := zh hbb;clear hbb HDo;have hb3r : b3 ≤ wr.heap.size := Nat.le_trans hz2 HBb.out.size;have hba := (Below.refl wr.heap.size wr).alloc (Nat.le_refl _) (.cells #[.int .i64 2, .func (.func 149) #[.pointer (some ⟨b, 0, none⟩)] #[], .func (.func 150) #[] #[.pointer (some ⟨cap, 0, none⟩)], .func (.func 152) #[.pointer (some ⟨b, 0, none⟩)] #[]] 192);have HY := zh (BlkE.new wr #[.int .i64 2, .func (.func 149) #[.pointer (some ⟨b, 0, none⟩)] #[], .func (.func 150) #[] #[.pointer (some ⟨cap, 0, none⟩)], .func (.func 152) #[.pointer (some ⟨b, 0, none⟩)] #[]] 192);go_upto_region 7 with fail;change Code.wp _ _ _ _ (wr.alloc (.cells #[.int .i64 2, .func (.func 149) #[.pointer (some ⟨b, 0, none⟩)] #[], .func (.func 150) #[] #[.pointer (some ⟨cap, 0, none⟩)], .func (.func 152) #[.pointer (some ⟨b, 0, none⟩)] #[]] 192))
   obtain ⟨bR, hbR⟩ : ∃ bR, wr.heap.size = bR := ⟨_, rfl⟩
   rw [hbR] at HY ⊢
   by_cases hk1 : kind = 2
   ·
    have hk : kind = 2 := hk1;subst hk;clear hk1;have HBb6 := zh (HBb.out.trans (hba.mono hb3r));have HPw6 := zh (HPw.out.below (HBb6.out.mono hz1));have HX6 := zh (HX.out.below hba);have HRu6 := zh (HRu.out.below hba);clear hba HPl HX HRu HB HBb;generalize wr.alloc (.cells #[.int .i64 2, .func (.func 149) #[.pointer (some ⟨b, 0, none⟩)] #[], .func (.func 150) #[] #[.pointer (some ⟨cap, 0, none⟩)], .func (.func 152) #[.pointer (some ⟨b, 0, none⟩)] #[]] 192) = w6 at *;have y0 := HY.out.cell (i := 0) rfl;have y1 := HY.out.cell (i := 1) rfl;have x0 := HX6.out.cell (i := 0) rfl;have x1 := HX6.out.cell (i := 1) rfl;have x2 := HX6.out.cell (i := 2) rfl;have x3 := HX6.out.cell (i := 3) rfl;have x4 := HX6.out.cell (i := 4) rfl;have hb36 : b3 ≤ w6.heap.size := Nat.le_trans hz2 HBb6.out.size;go_wp2_with fail;refine (HCd.out w6 HBb6.out).mono ?_;rintro e w7 ⟨rfl, hb7⟩
    have HBb7 := zh (HBb6.out.trans (hb7.mono hb36));have HPw7 := zh (HPw6.out.below hb7);have HX7 := zh (HX6.out.below hb7);have HRu7 := zh (HRu6.out.below hb7);have HY7 := zh (HY.out.below hb7);have hb37 : b3 ≤ w7.heap.size := Nat.le_trans hz2 HBb7.out.size;clear hb7 y0 y1 x0 x1 x2 x3 x4 HBb6 HPw6 HX6 HRu6 HY hb36;obtain ⟨cc, hcc⟩ : ∃ cc, yw P.t q = cc := ⟨_, rfl⟩
    have HCc := zh hcc;rw [hcc];clear hcc;rcases (show cc = 0 ∨ cc = 6 by rw [← HCc.out]; exact kx) with rfl | rfl
    ·
     have hStop : ∃ sb, (vQ P.t key && (decide (0 < P.bytes) && decide (16384 < P.bytes + 24))) = sb := ⟨_, rfl⟩
     obtain ⟨sb, hsb⟩ := hStop;have HSb := zh hsb;clear hsb;go_upto_region 13 with fail
     go_cut [73] (fun v wx => v = .bool sb ∧ Hid (Below w7.heap.size w7 wx))
     case first =>
      have HSz7 := zh (show ∀ W, Calls Tryz.prog 108 #[rqV tk 2 key ck (.slice da dn dc)] W fun e w' => e = .returned (.int .i64 24) ∧ Below W.heap.size W w' from fun W => HSz.out W);have HRec := zh (show ∀ W, Below b3 w W → BlkE W cap #[.pointer (some ⟨b, 0, none⟩)] 143 → Calls Tryz.prog 150 #[rqV tk 2 key ck (.slice da dn dc), .pointer (some ⟨cap, 0, none⟩)] W fun e w' => e = .returned (.bool (vQ P.t key)) ∧ Below W.heap.size W w' from fun W hb hc => HR3.out W cap hb hc);have hszl2 := hszl;clear HCp HCd HR1 HR3 HRo HSz HPu HDr HPm HFr HRw;obtain ⟨bz, hbz0⟩ : ∃ bz, P.bytes = bz := ⟨_, rfl⟩
      rw [hbz0] at HPw7 HSb h0 hb9;clear hbz0;obtain ⟨tb, htb⟩ : ∃ tb, vQ P.t key = tb := ⟨_, rfl⟩
      rw [htb] at HRec HSb;clear htb
      cases tb
      ·
       have hs := HSb.out;rw [Bool.false_and] at hs;subst hs;clear HSb;have y2 := zC (HY7.out.cell (i := 2) rfl);have x0 := zC (HX7.out.cell (i := 0) rfl);have x1 := zC (HX7.out.cell (i := 1) rfl);have x2 := zC (HX7.out.cell (i := 2) rfl);have x3 := zC (HX7.out.cell (i := 3) rfl);have x4 := zC (HX7.out.cell (i := 4) rfl);refine zB (by kernel_rfl) (by kernel_rfl) ?_
       repeat (go_big_quiet_step (first | exact zI (HRec.out _ (HBb7.out.trans ((BelowBy.h _).mono hb37)) (HRu7.out.c.below (BelowBy.h _))) | exact zI (HSz7.out _)))
       refine wpQuiet_nil ?_;intro _ hw';obtain ⟨qq, hw'⟩ := hw';subst hw';have HBz := zh qq.h;clear y2 x0 x1 x2 x3 x4;generalize qq.w' = w8 at *;go_wp2_with fail;go_meet
       case rel => exact ⟨rfl, HBz⟩
      by_cases hpos : 0 < bz
      ·
       obtain ⟨bg, hbg⟩ : ∃ bg, decide (16384 < bz + 24) = bg := ⟨_, rfl⟩
       have HBg := zh hbg;have hs := HSb.out;rw [decide_eq_true hpos, hbg] at hs;simp only [Bool.true_and] at hs;subst hs;clear HSb hbg;have y2 := zC (HY7.out.cell (i := 2) rfl);have x0 := zC (HX7.out.cell (i := 0) rfl);have x1 := zC (HX7.out.cell (i := 1) rfl);have x2 := zC (HX7.out.cell (i := 2) rfl);have x3 := zC (HX7.out.cell (i := 3) rfl);have x4 := zC (HX7.out.cell (i := 4) rfl);have q9 := zC (HPw7.out.cell (i := 9) rfl);have hg1 : decide (0 < bz) = true := decide_eq_true hpos;have hg2 : decide (16384 < bz + 24) = bg := HBg.out;refine zB (by kernel_rfl) (by kernel_rfl) ?_
       repeat (go_big_quiet_step (first | exact zI (HRec.out _ (HBb7.out.trans ((BelowBy.h _).mono hb37)) (HRu7.out.c.below (BelowBy.h _))) | exact zI (HSz7.out _)))
       refine wpQuiet_nil ?_;intro _ hw';obtain ⟨qq, hw'⟩ := hw';subst hw';have HBz := zh qq.h;clear y2 x0 x1 x2 x3 x4 q9;generalize qq.w' = w8 at *;go_wp2_with fail;go_meet
       case rel => exact ⟨rfl, HBz⟩
      obtain rfl : bz = 0 := by omega
      have hs := HSb.out;rw [decide_eq_false hpos] at hs;simp only [Bool.true_and, Bool.false_and] at hs;subst hs;clear HSb hpos;have y2 := zC (HY7.out.cell (i := 2) rfl);have x0 := zC (HX7.out.cell (i := 0) rfl);have x1 := zC (HX7.out.cell (i := 1) rfl);have x2 := zC (HX7.out.cell (i := 2) rfl);have x3 := zC (HX7.out.cell (i := 3) rfl);have x4 := zC (HX7.out.cell (i := 4) rfl);have q9 := zC (HPw7.out.cell (i := 9) rfl);refine zB (by kernel_rfl) (by kernel_rfl) ?_
      repeat (go_big_quiet_step (first | exact zI (HRec.out _ (HBb7.out.trans ((BelowBy.h _).mono hb37)) (HRu7.out.c.below (BelowBy.h _))) | exact zI (HSz7.out _)))
      refine wpQuiet_nil ?_;intro _ hw';obtain ⟨qq, hw'⟩ := hw';subst hw';have HBz := zh qq.h;clear y2 x0 x1 x2 x3 x4 q9;generalize qq.w' = w8 at *;go_wp2_with fail;go_meet
      case rel => exact ⟨rfl, HBz⟩
     obtain ⟨rfl, HB8⟩ := hcut;generalize wc = w8 at *;have HBb8 := zh (HBb7.out.trans (HB8.out.mono hb37));have HX8 := zh (HX7.out.below HB8.out);have HRu8 := zh (HRu7.out.below HB8.out);have HY8 := zh (HY7.out.below HB8.out);clear HB8 HX7 HRu7 HY7 HPw7 HBb7 hb37
     cases sb
     ·
      have HF := zh (qF (q := q) h16 HQd.out HCc.out (show ¬ (vQ P.t q.key = true ∧ 0 < P.bytes ∧ 16384 < P.bytes + 24) from by
       have hs := HSb.out
       intro hh
       have hh2 : (vQ P.t key && (decide (0 < P.bytes) && decide (16384 < P.bytes + 24))) = true := by simp only [Bool.and_eq_true, decide_eq_true_eq]; exact ⟨by rw [← HQk.out]; exact hh.1, hh.2⟩
       rw [hh2] at hs
       cases hs))
      have y3 := HY8.out.cell (i := 3) rfl;have x0 := HX8.out.cell (i := 0) rfl;have x1 := HX8.out.cell (i := 1) rfl;have x2 := HX8.out.cell (i := 2) rfl;have x3 := HX8.out.cell (i := 3) rfl;have x4 := HX8.out.cell (i := 4) rfl;have hb38 : b3 ≤ w8.heap.size := Nat.le_trans hz2 HBb8.out.size;go_wp2_with fail;refine (HDr.out w8 HBb8.out).mono ?_;rintro e w9 ⟨rfl, hp9, hb9⟩;have HB9 := zh ((BelK.of (HBb8.out.mono hz1) hBw).trans hb9);have HX9 := zh (hb9.box HX8.out (by decide));have HRu9 := zh (HRu8.out.kept hb9);have HP9 := zh hp9;clear hp9 hb9 HX8 HRu8 HY8 HBb8 y3 x0 x1 x2 x3 x4 hb38;go_wp2_with fail;exact ⟨⟨2, 0, _, rfl, rfl, by decide, zh (fun h => by omega), zh (fun _ => HF.out), HP9, HX9, HRu9, HB9⟩, by simp [intOf]⟩
     have HF := zh (zBB (q := q) h16 HQd.out HCc.out (show vQ P.t q.key = true ∧ 0 < P.bytes ∧ 16384 < P.bytes + 24 from by
      have hs := HSb.out
      simp only [Bool.and_eq_true, decide_eq_true_eq] at hs
      exact ⟨by rw [HQk.out]; exact hs.1, hs.2⟩))
     have HPn := zh (HPm.out w8 HBb8.out);go_wp2_with fail;go_ret;exact ⟨by rw [HF.out]; rfl, by rw [HF.out]; exact HPn.out, BelK.of (HBb8.out.mono hz1) hBw⟩
    have HF := zh (qN (q := q) h16 HQd.out HCc.out);have HPn := zh (HPm.out w7 HBb7.out);have HBn := zh (BelK.of (HBb7.out.mono hz1) hBw);go_wp2_with fail;go_meet
    case rel => exact ⟨6, P, rfl, HF, HPn, HBn⟩
   have HBb6 := zh (HBb.out.trans (hba.mono hb3r));have HX6 := zh (HX.out.below hba);have HRu6 := zh (HRu.out.below hba);have HPn := zh (HPm.out _ HBb6.out);clear hba HPl HX HRu HB HBb c0 c1 c2 c3;generalize wr.alloc (.cells #[.int .i64 2, .func (.func 149) #[.pointer (some ⟨b, 0, none⟩)] #[], .func (.func 150) #[] #[.pointer (some ⟨cap, 0, none⟩)], .func (.func 152) #[.pointer (some ⟨b, 0, none⟩)] #[]] 192) = w6 at *;have y0 := HY.out.cell (i := 0) rfl;have x1 := HX6.out.cell (i := 1) rfl;have hk2 : ¬ (2 : Int) = kind := fun h => hk1 h.symm
   have HBn := zh (BelK.of (HBb6.out.mono hz1) hBw);go_wp2_with fail;exact ⟨⟨2, 1, P, rfl, rfl, by decide, zh (fun _ => ⟨rfl, rfl, HBb6.out⟩), zh (fun h => absurd (.inr (.inr ⟨rfl, hkf, hk1⟩)) h), HPn, HX6, HRu6, HBn⟩, by simp [intOf]⟩
  by_cases hko : kind ≠ 1 ∧ kind ≠ 2
  ·
   obtain ⟨rfl, _, hbb⟩ := HFr.out (.inr (.inr ⟨rfl, hko⟩));have HPn := zh (HPm.out _ hbb);have HF := zh (ko (P := P) (q := q) h16 (by rw [HQd.out]; exact hko.1) (by rw [HQd.out]; exact hko.2));clear HFr HDo hbb;go_wp2_with fail;go_meet
   case rel => exact ⟨1, P, rfl, HF, HPn, HB⟩
  have HF := zh (HDo.out (fun h => by omega));clear HFr HDo;go_wp2_with fail;go_meet
  case rel => exact ⟨E, st, rfl, HF, HPl, HB⟩
 obtain ⟨E, st, rfl, HF, HPl, HB⟩ := hcut;generalize wc = v1 at *;obtain ⟨ga', gn', gc', L', kv', ks', nv', es', rv', hlo', hP', hR'⟩ := HPl.out;obtain ⟨ra', rc', hrv', hr1', hr2', _⟩ := zJ hR'.r;subst hrv';have hst16 : st.res.length ≤ 16 := by
  have h := (tj P q hr16).1;rw [HF.out] at h;unfold more at h;simp only [List.length_append, List.length_cons, List.length_nil] at h;omega
 have hB1 : B ≤ v1.heap.size := Nat.le_trans hBw HB.out.size;have q8 := hP'.cell (i := 8) rfl;have hba := (Below.refl v1.heap.size v1).alloc (Nat.le_refl _) (.cells #[.int .i64 E] 39);have HPa := zh (hP'.below hba);have HRa := zh (hR'.below hba);have HBa := zh (HB.out.step hba hB1);have HRr := zh HRa.out.r;have hBa := Nat.le_trans hB1 hba.size;clear hba hP' hR' HPl HB HCp HCd HR1 HR3 HRo HSz HPu HDr HPm HX2 HB2 HRu HPw HRw
 go_wp2_with (at_builtin; go_must (refine za (n := st.res.length) (m := 1) rfl (.tmp 84) (.tmp 86) 69 rfl zKu B rfl HRr.out rfl (Rd.newK' v1.heap.size v1 rfl 1 [.int .i64 E] 39 1 rfl (by decide)) (fun u hu => by simp only [List.mem_cons, List.not_mem_nil, or_false] at hu; rw [hu]; rfl) (by unfold maxLen; omega) (by omega) hBa ?_); intro v3 w3 hown3 hgr3 hv3; clear hv3; obtain ⟨oa, oc, ev, _, _, _⟩ := zJ hown3; subst ev; have hp9 := HPa.out.othR (OthR.row HRr.out hgr3 (Nat.le_refl B)) (by decide); have c8 := hp9.cell (i := 8) rfl; have f8 := hp9.frozen 8);have HO8 : Oth w3 (w3.setCell ⟨b, 8, none⟩ (.slice oa (st.res.length + 1) oc)) B b 145 := Oth.pts hlo' ⟨_, _, hp9⟩ [(8, .slice oa (st.res.length + 1) oc)];have HR9 := zh ((HRa.out.res E hgr3 hown3).1.oth HO8)
 have HP9 := zh (show PlB (w3.setCell ⟨b, 8, none⟩ (.slice oa (st.res.length + 1) oc)) b st.t.id st.t.lim st.t.ro ga' gn' gc' st.rot kv' nv' (.slice oa (st.res.length + 1) oc) st.bytes from (by have h := hp9.set 8 (.slice oa (st.res.length + 1) oc); rw [zLM] at h; exact h));have HB9 := zh ((HBa.out.own HRr.out hBa hgr3 (by decide)).pts hlo' [(8, .slice oa (st.res.length + 1) oc)] ⟨_, _, hp9⟩ (by decide));clear hown3 hgr3 hp9 HO8 c8 f8 q8;go_wp2_with fail;go_ret;exact ⟨by rw [HF.out]; rfl, by rw [HF.out]; exact ⟨ga', gn', gc', L', kv', ks', nv', es', _, hlo', HP9.out, HR9.out⟩, HB9.out⟩
end Go.Proofs.YtcgfilmmokmdjaaGreat
