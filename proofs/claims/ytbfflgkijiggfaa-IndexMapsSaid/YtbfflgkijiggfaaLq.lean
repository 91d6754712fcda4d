/- IndexMaps: the walk. -/
import Derived.Test.YtbfflgkijiggfaaLp
namespace Go.Proofs.Ytbfflgkijiggfaa
open Go.RowKit

theorem elemLL : ElemT Try.prog 26 22 1 24 := by
  obtain ⟨i, hi, hz, hs, hb⟩ := info_parts (P := Try.prog) (e := 22) (z := .slice none 0 0) (size := 1) (bytes := 24) (by kernel_rfl)
  exact ⟨Try.underlying26, by decide, i, _, hi, hz, hs, hb, rfl⟩
set_option maxRecDepth 100000 in
set_option maxHeartbeats 4000000 in
theorem lmaps_core (va vb : Value) (a b : List It) (x : It) (ga : Option Addr) (gn gc : Nat) (gone : List Int) (key : Int) (w : World) (ha : RdT w va a) (hb : RdT w vb b) (hg : RdU w (.slice ga gn gc) gone) :
    Calls Try.prog 9 #[va, vb, itV x, .slice ga gn gc, .int .u64 key] w fun e w' => e = .returned (.bool true) ∧ Below w.heap.size w w' := by
  have HCa := Lib.hid (fun v w h => cut_any v a w h)
  have HCb := Lib.hid (fun v w h => cut_any v b w h)
  have HMa := Lib.hid (fun v w h => made_any v a w h)
  have hml : (mk a).length ≤ 40 := mk_length a
  have hal : (a.take 40).length ≤ 40 := by rw [List.length_take]; omega
  have hbl : (b.take 40).length ≤ 40 := by rw [List.length_take]; omega
  have hgt := Lib.hid (show gone.length ≤ 40 → RdU w (.slice ga gn gc) (gone.take 40) from fun h => by rw [List.take_of_length_le h]; exact hg)
  have hgl : gone.length = gn := by obtain ⟨_, _, e, _, _⟩ := hg.shape0; injection e with _ e _; exact e.symm
  have hgc := (show gc ≤ maxLen from by obtain ⟨_, _, e, _, h⟩ := hg.shape0; injection e with _ _ e; rw [e]; exact h)
  have hgn : gn ≤ gc := by obtain ⟨_, _, e, h, _⟩ := hg.shape0; injection e with _ e1 e2; omega
  have hgp := Lib.hid (fun h : 40 < gn => (⟨RdL.take hg 40 (Nat.le_of_lt h), slice_to (P := Try.prog) elemU (a := ga) (n := gn) (cap := gc) (RdL.spot hg (by omega)) 40 (by omega)⟩ : _ ∧ _))
  obtain ⟨a1, c1, rfl, _, _⟩ := ha.shape
  obtain ⟨a2, c2, rfl, _, _⟩ := hb.shape
  have Hgl := Lib.hid hgl
  have HBX := Lib.hid (BoxT.new w x)
  have HB0 := Lib.hid (below_box w x)
  have Ha := Lib.hid (ha.below HB0.out)
  have Hb := Lib.hid (hb.below HB0.out)
  generalize a.take 40 = ac at *
  generalize b.take 40 = bc at *
  generalize mk a = am at *
  have HGr := Lib.hid (fun v (h : RdU w v (gone.take 40)) => RdL.below h HB0.out)
  generalize gone.take 40 = g4 at *
  clear ha hb hg hgl hgc
  go_enter Try.func9, Try.ntmps9
  go_upto_if 21 with fail
  go_cut [3] (fun s3 wx => (∃ a n c, s3 = .slice a n c ∧ RdU w (.slice a n c) g4) ∧ w.alloc (boxC x) = wx)
  case first =>
    by_cases h40 : 40 < gn
    · have hd : decide ((40 : Int) < (gn : Int)) = true := by simp; omega
      obtain ⟨hr, hto⟩ := hgp.out h40
      have HR := Lib.hid hr
      rw [show ((40 : Nat) : Int) = 40 from rfl] at hto
      clear hr
      go_wp2_with fail
      go_meet
      case rel => exact ⟨⟨_, _, _, rfl, HR.out⟩, rfl⟩
    · have hd : decide ((40 : Int) < (gn : Int)) = false := by simp; omega
      have HR := Lib.hid (hgt.out (by rw [Hgl.out]; omega))
      go_wp2_with fail
      go_meet
      case rel => exact ⟨⟨_, _, _, rfl, HR.out⟩, rfl⟩
  case rest =>
    obtain ⟨⟨qa, qn, qc, rfl, hq⟩, hwc⟩ := hcut
    have Hq := Lib.hid (HGr.out _ hq)
    rw [hwc] at HBX HB0 Ha Hb Hq
    clear hq hgp hgt hwc HGr
    go_wp2_with fail
    refine (HCa.out _ _ Ha.out).mono ?_; rintro e w1 ⟨⟨v1, rfl, hr1⟩, rfl⟩
    have HR1 := Lib.hid hr1
    clear hr1
    go_wp2_with fail
    refine (HMa.out _ _ Ha.out).mono ?_; rintro e w2 ⟨v2, rfl, hown2, hb2⟩
    have HR2 := Lib.hid hown2.rd
    have HR12 := Lib.hid (HR1.out.below hb2)
    have HX2 := Lib.hid (HBX.out.below hb2)
    have HB2 := Lib.hid (bstep HB0.out hb2)
    have Hb2 := Lib.hid (Hb.out.below hb2)
    have Hq2 := Lib.hid (Hq.out.below hb2)
    clear hown2 hb2 HR1 HBX HB0 Ha Hb Hq HCa HMa
    obtain ⟨p1, e1, rfl, _, _⟩ := HR12.out.shape
    obtain ⟨p2, e2, rfl, _, _⟩ := HR2.out.shape
    go_wp2_with fail
    obtain ⟨W, hW⟩ : ∃ W, w2.alloc (.cells #[.slice p1 ac.length e1, .slice p2 am.length e2] 22) = W := ⟨_, rfl⟩
    have HBW := Lib.hid (show Below w2.heap.size w2 W by rw [← hW]; exact (Below.refl _ _).alloc (Nat.le_refl _) _)
    have HL := Lib.hid (show ∀ i, i < 2 → ∃ la lc, ∃ ll : List It, W.cell? ⟨w2.heap.size, i, none⟩ = some (.slice la ll.length lc) ∧ RdT W (.slice la ll.length lc) ll ∧ ll.length ≤ 40 from fun i hi => by
      match i, hi with
      | 0, _ => exact ⟨p1, e1, ac, by rw [← hW]; simp, HR12.out.below HBW.out, hal⟩
      | 1, _ => exact ⟨p2, e2, am, by rw [← hW]; simp, HR2.out.below HBW.out, hml⟩)
    rw [hW]
    have HXW := Lib.hid (HX2.out.below HBW.out)
    have HbW := Lib.hid (Hb2.out.below HBW.out)
    have HqW := Lib.hid (RdL.below Hq2.out HBW.out)
    have HB3 := Lib.hid (bstep HB2.out HBW.out)
    have hww : w.heap.size < W.heap.size := World.block_lt_of_cell? _ _ HXW.out.c0
    clear hW HR12 HR2 HX2 Hb2 Hq2 HB2 HBW
    go_loopw [30] (fun iv wr => ∃ i : Nat, iv = .int .i64 (i : Int) ∧ i ≤ 2 ∧ Below W.heap.size W wr) (fun iv _ => 2 - (intOf iv).toNat)
    case atStart => exact ⟨0, by go_num, by omega, Below.refl _ _⟩
    case round =>
      obtain ⟨i, rfl, hi, hb⟩ := hrel
      have Hb := Lib.hid hb
      clear hb
      by_cases hlt : i < 2
      · obtain ⟨la, lc, ll, hc, hrd, hll⟩ := HL.out i hlt
        have hc := Below.keeps Hb.out _ _ hc
        have HR := Lib.hid (hrd.below Hb.out)
        have HX := Lib.hid (HXW.out.below Hb.out)
        obtain ⟨x0, x1, x2, x3⟩ := HX.out
        have hi2 : (i : Int) < 2 := by omega
        have HF := Lib.hid (fun v k w h => find_any v ll k w h (sorted_all ll (by omega)) (by omega))
        have HRf := Lib.hid (fun v k w h => rfind_any v ll k w h (by omega))
        have HDr := Lib.hid (fun v k w h => drop_any v ll k w h (sorted_all ll (by omega)) (by omega))
        have HRd := Lib.hid (fun v k w h => rdrop_any v ll k w h (by omega))
        have HPt := Lib.hid (fun v w h => put_any v ll x w h (sorted_all ll (by omega)) (by omega))
        have HRp := Lib.hid (fun v w h => rput_any v ll x w h (by omega))
        have HMg := Lib.hid (fun vo vf vg w ho hf hg => merge_any vo vf vg ll bc g4 w ho hf hg (sorted_all _ (by omega)) (sorted_all _ (by omega)) (sorted_all _ (by
          have h1 := kept_length g4 (srt ll)
          have h2 := srt_length ll
          have h3 := srt_length bc
          rw [List.length_append]; omega)) (by omega) (by omega))
        have HRm := Lib.hid (fun vo vf vg w ho hf hg => rmerge_any vo vf vg ll bc g4 w ho hf hg (by omega) (by omega))
        clear hrd
        generalize ll.length = ln at *
        go_wp2_with fail
        obtain ⟨W1, hW1⟩ : ∃ W1, wr.alloc (.cells #[.int .u64 key, .int .u64 x.key] 32) = W1 := ⟨_, rfl⟩
        have HBW1 := Lib.hid (show Below wr.heap.size wr W1 by rw [← hW1]; exact (Below.refl _ _).alloc (Nat.le_refl _) _)
        have HK := Lib.hid (show ∀ j, j < 2 → ∃ k : Int, W1.cell? ⟨wr.heap.size, j, none⟩ = some (.int .u64 k) from fun j hj => by
          match j, hj with
          | 0, _ => exact ⟨key, by rw [← hW1]; simp⟩
          | 1, _ => exact ⟨x.key, by rw [← hW1]; simp⟩)
        rw [hW1]
        have HR1 := Lib.hid (HR.out.below HBW1.out)
        have HB4 := Lib.hid (bstep Hb.out HBW1.out)
        clear hW1 HBW1 x0 x1 x2 x3 hc
        go_loopw [39] (fun jv wx => ∃ j : Nat, jv = .int .i64 (j : Int) ∧ j ≤ 2 ∧ Below W1.heap.size W1 wx) (fun jv _ => 2 - (intOf jv).toNat)
        case atStart => exact ⟨0, by go_num, by omega, Below.refl _ _⟩
        case round =>
          obtain ⟨j, rfl, hj, hb⟩ := hrel
          have Hbj := Lib.hid hb
          clear hb
          by_cases hlj : j < 2
          · obtain ⟨k, hk⟩ := HK.out j hlj
            have hk := Below.keeps Hbj.out _ _ hk
            have hj2 : (j : Int) < 2 := by omega
            have HFk := Lib.hid (fun w h => HF.out (.slice la ln lc) k w h)
            have HRfk := Lib.hid (fun w h => HRf.out (.slice la ln lc) k w h)
            have HDk := Lib.hid (fun w h => HDr.out (.slice la ln lc) k w h)
            have HRdk := Lib.hid (fun w h => HRd.out (.slice la ln lc) k w h)
            generalize fnd (srt ll) k = ff at *
            generalize drp (srt ll) k = dd at *
            have HSm := Lib.hid (fun va vb w h1 h2 => same_any va vb dd dd w h1 h2)
            rw [decide_eq_true (rfl : dd = dd)] at HSm
            go_wp2_with fail
            refine (HFk.out _ (HR1.out.below Hbj.out)).mono ?_; rintro e y1 ⟨rfl, hb1⟩
            have Hb1 := Lib.hid (bstep (bstep Hbj.out hb1) (below_box y1 (ff.getD it0)))
            have HBX1 := Lib.hid (BoxT.new y1 (ff.getD it0))
            clear hb1 hk
            go_wp2_with fail
            refine (HRfk.out _ (HR1.out.below Hb1.out)).mono ?_; rintro e y2 ⟨rfl, hb2⟩
            have Hb2 := Lib.hid (bstep (bstep Hb1.out hb2) (below_box y2 (ff.getD it0)))
            obtain ⟨x0, x1, x2, x3⟩ := HBX1.out.below hb2
            have hy12 : y1.heap.size < y2.heap.size := Nat.lt_of_lt_of_le (by simp) hb2.size
            clear hb2 HBX1 Hb1
            generalize ff.getD it0 = fy at *
            generalize ff.isSome = fb at *
            have hfb : (fb != fb) = false := by simp
            go_wp2_with fail
            refine (HDk.out _ (HR1.out.below Hb2.out)).mono ?_; rintro e y3 ⟨v3, rfl, hown3, hb3⟩
            have Hb3 := Lib.hid (bstep Hb2.out hb3)
            have HO3 := Lib.hid hown3.rd
            clear hown3 hb3 x0 x1 x2 x3
            go_wp2_with fail
            refine (HRdk.out _ (HR1.out.below Hb3.out)).mono ?_; rintro e y4 ⟨v4, rfl, hown4, hb4⟩
            have Hb4 := Lib.hid (bstep Hb3.out hb4)
            have HO4 := Lib.hid hown4.rd
            have HO34 := Lib.hid (HO3.out.below hb4)
            clear hown4 hb4 HO3
            go_wp2_with fail
            refine (HSm.out _ _ _ HO34.out HO4.out).mono ?_; rintro e y5 ⟨rfl, hb5⟩
            have Hb5 := Lib.hid (bstep Hb4.out hb5)
            clear hb5
            go_wp2_with fail
            exact ⟨⟨j + 1, by go_num, by omega, Hb5.out⟩, by simp [intOf]; omega⟩
          · obtain rfl : j = 2 := by omega
            have HBc := Lib.hid (bstep HB4.out Hbj.out)
            have HRc := Lib.hid (HR1.out.below Hbj.out)
            have Hbc := Lib.hid (HbW.out.below HBc.out)
            have Hqc := Lib.hid (RdL.below HqW.out HBc.out)
            have HXc := Lib.hid (HXW.out.below HBc.out)
            have HS1 := Lib.hid (fun va vb w h1 h2 => same_any va vb (ins (srt ll) x) (ins (srt ll) x) w h1 h2)
            rw [decide_eq_true (rfl : ins (srt ll) x = ins (srt ll) x)] at HS1
            have HS2 := Lib.hid (fun va vb w h1 h2 => same_any va vb (mrg ll bc g4) (mrg ll bc g4) w h1 h2)
            rw [decide_eq_true (rfl : mrg ll bc g4 = mrg ll bc g4)] at HS2
            generalize ins (srt ll) x = pp at *
            generalize mrg ll bc g4 = mm at *
            clear HF HRf HDr HRd HX HR HK
            go_wp2_with fail
            have HSX := Lib.hid (show ∀ w', Below wr.heap.size wr w' → w'.cell? ⟨w.heap.size, 0, none⟩ = some (.int .u64 x.key) ∧ w'.cell? ⟨w.heap.size, 1, none⟩ = some (.int .u32 x.ck) ∧ w'.cell? ⟨w.heap.size, 2, none⟩ = some (.int .i64 x.off) ∧ w'.cell? ⟨w.heap.size, 3, none⟩ = some (.int .i64 x.size) from fun w' hb => ⟨(HXc.out.below hb).c0, (HXc.out.below hb).c1, (HXc.out.below hb).c2, (HXc.out.below hb).c3⟩)
            go_region_held3 (fun w' => w'.cell? ⟨w.heap.size, 0, none⟩ = some (.int .u64 x.key) ∧ w'.cell? ⟨w.heap.size, 1, none⟩ = some (.int .u32 x.ck) ∧ w'.cell? ⟨w.heap.size, 2, none⟩ = some (.int .i64 x.off) ∧ w'.cell? ⟨w.heap.size, 3, none⟩ = some (.int .i64 x.size))
              (first | exact HSX.out _ (Below.refl _ _).drew | exact HSX.out _ (bstep (Below.refl _ _).drew hba) | exact HSX.out _ (bstep (bstep (Below.refl _ _).drew hba) hbb) | exact HSX.out _ (bstep (bstep (bstep (Below.refl _ _).drew hba) hbb) hbc) | exact HSX.out _ (bstep (bstep (bstep (bstep (Below.refl _ _).drew hba) hbb) hbc) hbe) | exact HSX.out _ (bstep (bstep (bstep (bstep (bstep (Below.refl _ _).drew hba) hbb) hbc) hbe) hbg) | exact HSX.out _ (bstep (bstep (bstep (bstep (bstep (bstep (Below.refl _ _).drew hba) hbb) hbc) hbe) hbg) hbh))
              (first | (go_at_call 27; (with_reducible refine (HPt.out _ _ HRc.out.drew).mono ?_); rintro e wa ⟨va, rfl, howna, hba⟩) | (go_at_call 28; (with_reducible refine (HRp.out _ _ (HRc.out.below (bstep (Below.refl _ _).drew hba))).mono ?_); rintro e wb ⟨vb, rfl, hownb, hbb⟩) | (go_at_call 23; (with_reducible refine (HS1.out _ _ _ (howna.rd.below hbb) hownb.rd).mono ?_); rintro e wc ⟨rfl, hbc⟩) | (go_at_call 11; (with_reducible refine (HCb.out _ _ (Hbc.out.below (bstep (bstep (bstep (Below.refl _ _).drew hba) hbb) hbc))).mono ?_); rintro e wd ⟨⟨vd, rfl, hrd⟩, rfl⟩) | (go_at_call 18; (with_reducible refine (HMg.out _ _ _ _ (HRc.out.below (bstep (bstep (bstep (Below.refl _ _).drew hba) hbb) hbc)) hrd (RdL.below Hqc.out (bstep (bstep (bstep (Below.refl _ _).drew hba) hbb) hbc))).mono ?_); rintro e we ⟨ve, rfl, howne, hbe⟩) | (go_at_call 11; (with_reducible refine (HCb.out _ _ (Hbc.out.below (bstep (bstep (bstep (bstep (Below.refl _ _).drew hba) hbb) hbc) hbe))).mono ?_); rintro e wf ⟨⟨vf, rfl, hrf⟩, rfl⟩) | (go_at_call 29; (with_reducible refine (HRm.out _ _ _ _ (HRc.out.below (bstep (bstep (bstep (bstep (Below.refl _ _).drew hba) hbb) hbc) hbe)) hrf (RdL.below Hqc.out (bstep (bstep (bstep (bstep (Below.refl _ _).drew hba) hbb) hbc) hbe))).mono ?_); rintro e wg ⟨vg, rfl, hrg, hbg⟩) | (go_at_call 23; (with_reducible refine (HS2.out _ _ _ (howne.rd.below hbg) hrg).mono ?_); rintro e wh ⟨rfl, hbh⟩))
            have HBd := Lib.hid (bstep HBc.out (bstep (bstep (bstep (bstep (bstep (bstep (Below.refl _ _).drew hba) hbb) hbc) hbe) hbg) hbh))
            clear hba hbb hbc hbe hbg hbh howna hownb hrd hrf hrg howne
            go_wp2_with fail
            exact ⟨⟨i + 1, by go_num, by omega, HBd.out⟩, by simp [intOf]; omega⟩
      · obtain rfl : i = 2 := by omega
        go_wp2_with fail
        refine (awake_any _).mono ?_; rintro e x5 ⟨rfl, hb5⟩
        have HB5 := Lib.hid (bstep (bstep HB3.out Hb.out) hb5)
        clear hb5
        go_wp2_with fail
        go_ret
        exact ⟨rfl, HB5.out⟩
theorem maps_walk (a : Option Addr) (n cap : Nat) (b : Option Addr) (m bcap : Nat) (x : It) (ga : Option Addr) (gn gc : Nat) (gz : List Int) (key : Int) (w : World) (h : ∃ l, RdT w (.slice a n cap) l ∧ ∀ x ∈ l, x.Wf) (h2 : ∃ l, RdT w (.slice b m bcap) l ∧ ∀ x ∈ l, x.Wf) (_hx : x.Wf)
    (hg : IsRow .u64 w ga gn gc gz) (_hk : (Lit.int .u64 key).wf = true) :
    Calls Try.prog 9 #[.slice a n cap, .slice b m bcap, itV x, .slice ga gn gc, .int .u64 key] w fun e w' => e = .returned (.bool true) ∧ Below w.heap.size w w' := by
  obtain ⟨l, h, _⟩ := h
  obtain ⟨l2, h2, _⟩ := h2
  obtain ⟨g1, g2⟩ := isRow_rd hg
  exact lmaps_core _ _ l l2 x ga gn gc (gz.take gn) key w h h2 (by unfold RdU RdL; rw [g1]; exact g2)
end Go.Proofs.Ytbfflgkijiggfaa
