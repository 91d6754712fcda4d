/- IndexMerges: the walk. -/
import Derived.Test.YtbfflgkijiggfaaSv
import Derived.Test.YtbfflgkijiggfaaPm
import Derived.Test.YtbfflgkijiggfaaBx
import Derived.Test.YtbfflgkijiggfaaAw
import Derived.Test.YtbfflgkijiggfaaSm
import Derived.Test.YtbfflgkijiggfaaOp
import Derived.Deep.DeepCutAuto
namespace Go.Proofs.Ytbfflgkijiggfaa
open Go.RowKit

theorem elemU : ElemT Try.prog 31 32 1 8 := by
  obtain ⟨i, hi, hz, hs, hb⟩ := info_parts (P := Try.prog) (e := 32) (z := .int .u64 0) (size := 1) (bytes := 8) (by kernel_rfl)
  exact ⟨Try.underlying31, by decide, i, _, hi, hz, hs, hb, rfl⟩
theorem ulist_one (l : List Int) : ∀ u ∈ l.map u64V, u.oneCell' = true := one_map _ (fun _ => rfl) l
theorem contains_snoc (l : List Int) (j : Nat) (k : Int) (h : j < l.length) : (l.take (j + 1)).contains k = ((l.take j).contains k || (uat l j == k)) := by
  have e : l.take (j + 1) = l.take j ++ [uat l j] := by
    rw [List.take_succ_eq_append_getElem h]
    congr
    unfold uat
    rw [List.getD_eq_getElem?_getD, List.getElem?_eq_getElem h]; rfl
  rw [e, Bool.eq_iff_iff]
  simp only [List.contains_iff_mem, List.mem_append, List.mem_singleton, Bool.or_eq_true, beq_iff_eq]
  constructor <;> (rintro (h | h); exact Or.inl h; exact Or.inr h.symm)
set_option maxRecDepth 100000 in
set_option maxHeartbeats 2000000 in
theorem lmerge_core (va vb : Value) (a b : List It) (ga : Option Addr) (gn gc : Nat) (gone : List Int) (key : Int) (w : World) (ha : RdT w va a) (hb : RdT w vb b) (hg : RdU w (.slice ga gn gc) gone) :
    Calls Try.prog 5 #[va, vb, .slice ga gn gc, .int .u64 key] w fun e w' => e = .returned (.bool true) ∧ Below w.heap.size w w' := by
  have HMa := Lib.hid (fun v w h => made_any v a w h)
  have HMb := Lib.hid (fun v w h => made_any v b w h)
  have hal : (mk a).length ≤ 40 := mk_length a
  have hbl : (mk b).length ≤ 40 := mk_length b
  have hva := mk_valid a
  have hvb := mk_valid b
  have haa : Asc (mk a) := (vldB_iff.1 hva).1
  have hba : Asc (mk b) := (vldB_iff.1 hvb).1
  have hgt := Lib.hid (show gone.length ≤ 40 → RdU w (.slice ga gn gc) (gone.take 40) from fun h => by rw [List.take_of_length_le h]; exact hg)
  have hgl : gone.length = gn := by obtain ⟨_, _, e, _, _⟩ := hg.shape0; injection e with _ e _; exact e.symm
  have hgn : gn ≤ gc := by obtain ⟨_, _, e, h, _⟩ := hg.shape0; injection e with _ e1 e2; omega
  have hgp := Lib.hid (fun h : 40 < gn => (⟨RdL.take hg 40 (Nat.le_of_lt h), slice_to (P := Try.prog) elemU (a := ga) (n := gn) (cap := gc) (RdL.spot hg (by omega)) 40 (by omega)⟩ : _ ∧ _))
  have hgc := (show gc ≤ maxLen from by obtain ⟨_, _, e, _, h⟩ := hg.shape0; injection e with _ _ e; rw [e]; exact h)
  have hg4 : (gone.take 40).length ≤ 40 := by rw [List.length_take]; omega
  obtain ⟨a1, c1, rfl, _, _⟩ := ha.shape
  obtain ⟨a2, c2, rfl, _, _⟩ := hb.shape
  have Ha := Lib.hid ha
  have Hb := Lib.hid hb
  have Hgl := Lib.hid hgl
  generalize gone.take 40 = g4 at *
  generalize mk a = m1 at *
  generalize mk b = m2 at *
  have HF1 := Lib.hid (fun v k w h => find_any v m1 k w h (sorted_asc m1 haa (by omega)) (by omega))
  have HF2 := Lib.hid (fun v k w h => find_any v m2 k w h (sorted_asc m2 hba (by omega)) (by omega))
  have hml := mrg_length m1 m2 g4
  have HFm := Lib.hid (fun v k w h => find_any v (mrg m1 m2 g4) k w h (sorted_asc _ (mrg_asc _ _ _) (by omega)) (by omega))
  have HMg := Lib.hid (fun vo vf vg w ho hf hg => merge_any vo vf vg m1 m2 g4 w ho hf hg (sorted_all _ (by omega)) (sorted_all _ (by omega)) (sorted_all _ (by
    have h1 := kept_length g4 (srt m1)
    have h2 := srt_length m1
    have h3 := srt_length m2
    rw [List.length_append]; omega)) (by omega) (by omega))
  have HFq := Lib.hid (fun k => fnd_mrg m1 m2 g4 k)
  have HV := Lib.hid (fun v w h => vld_any v (mrg m1 m2 g4) w h)
  rw [mrg_valid g4 hva hvb] at HV
  rw [srt_of_asc (mrg_asc m1 m2 g4)] at HFm
  rw [srt_of_asc haa] at HF1
  rw [srt_of_asc hba] at HF2
  rw [srt_of_asc haa, srt_of_asc hba] at HFq
  generalize mrg m1 m2 g4 = mm at *
  clear ha hb hg haa hba hva hvb hgl hgc hml
  go_enter Try.func5, Try.ntmps5
  go_upto_if 26 with fail
  go_cut [2] (fun s2 wx => (∃ a n c, s2 = .slice a n c ∧ RdU wx (.slice a n c) g4) ∧ w = wx)
  case first =>
    by_cases h40 : 40 < gn
    · have hd : decide ((40 : Int) < (gn : Int)) = true := by simp; omega
      obtain ⟨hr, hto⟩ := hgp.out h40
      have HR := Lib.hid hr
      rw [show ((40 : Nat) : Int) = 40 from rfl] at hto
      clear hr
      go_wp2_with fail
      go_meet
      case rel => exact ⟨⟨_, _, _, rfl, HR.out⟩, rfl⟩
    · have hd : decide ((40 : Int) < (gn : Int)) = false := by simp; omega
      have HR := Lib.hid (hgt.out (by rw [Hgl.out]; omega))
      go_wp2_with fail
      go_meet
      case rel => exact ⟨⟨_, _, _, rfl, HR.out⟩, rfl⟩
  case rest =>
    obtain ⟨⟨qa, qn, qc, rfl, hq⟩, rfl⟩ := hcut
    obtain rfl : qn = g4.length := by obtain ⟨_, _, e, _, _⟩ := hq.shape0; injection e
    obtain ⟨hqc1, hqc2⟩ : g4.length ≤ qc ∧ qc ≤ maxLen := by obtain ⟨_, _, e, h1, h2⟩ := hq.shape0; injection e with _ _ e; omega
    have Hq := Lib.hid hq
    clear hq hgp hgt
    go_wp2_with fail
    refine (HMa.out _ _ Ha.out).mono ?_; rintro e w1 ⟨v1, rfl, hown1, hb1⟩
    have HO1 := Lib.hid hown1.rd
    have HB1 := Lib.hid hb1
    clear hown1 hb1
    go_wp2_with fail
    refine (HMb.out _ _ (Hb.out.below HB1.out)).mono ?_; rintro e w2 ⟨v2, rfl, hown2, hb2⟩
    have HN2 := Lib.hid hown2.rd
    have HO2 := Lib.hid (HO1.out.below hb2)
    have HB2 := Lib.hid (bstep HB1.out hb2)
    clear hown2 hb2 HO1 HB1 HMa HMb
    go_wp2_with fail
    refine (HMg.out _ _ _ _ HO2.out HN2.out (Hq.out.below HB2.out)).mono ?_; rintro e w3 ⟨v3, rfl, hown3, hb3⟩
    have HM3 := Lib.hid hown3.rd
    have HO3 := Lib.hid (HO2.out.below hb3)
    have HN3 := Lib.hid (HN2.out.below hb3)
    have HB3 := Lib.hid (bstep HB2.out hb3)
    have HQ3 := Lib.hid (Hq.out.below HB3.out)
    clear hown3 hb3 HO2 HB2 HN2 HMg Hq
    go_upto_region 6 with (at_builtin; go_must (refine wpList_app rfl (.tmp 38) (.tmp 39) 31 rfl elemU w3.heap.size rfl (World.ownsRow_lit (e := 32) (size := 1) w3 #[.int .u64 key] 1 (Nat.le_refl _) (by decide) rfl) rfl (HQ3.out.alloc _) (ulist_one _) (by unfold maxLen; omega) (by omega) (by simp) ?_); intro v4 w4 hown4 hgr4 hv4; clear hv4)
    have HS4 := Lib.hid (show Below w3.heap.size w3 w4 from own_below ((Below.refl _ _).alloc (Nat.le_refl _) _) (World.ownsRow_lit (e := 32) (size := 1) w3 #[.int .u64 key] 1 (Nat.le_refl _) (by decide) rfl) (by simp) hgr4)
    have HK4 := Lib.hid (show w4.ownsRow w3.heap.size 32 1 v4 (key :: g4).length ((key :: g4).map u64V) by rw [List.length_cons, Nat.add_comm]; exact hown4)
    have hlk : (key :: g4).length ≤ 41 := by simp; omega
    generalize key :: g4 = ks0 at *
    clear hown4 hgr4
    have Hr5 := Lib.hid (rdT_rd (HO3.out.below HS4.out))
    have Hr6 := Lib.hid (rdT_rd (HN3.out.below HS4.out))
    go_wp2_with (at_builtin; (first | (refine wpList_app rfl (.tmp 41) (.tmp 42) 22 rfl elemT w4.heap.size rfl (World.ownsRow_made (e := 36) (size := 4) w4 #[] 0 (Nat.le_refl _) (by decide) rfl) rfl (Hr5.out.alloc _) (itsC_one' _) (by unfold maxLen; omega) (by omega) (by simp) ?_; intro v5 w5 hown5 hgr5 hv5; clear hv5; have HB5 := Lib.hid (own_below ((Below.refl w4.heap.size w4).alloc (Nat.le_refl _) _) (World.ownsRow_made (e := 36) (size := 4) w4 #[] 0 (Nat.le_refl _) (by decide) rfl) (by simp) hgr5); have HO5 := Lib.hid (show w5.ownsRow w4.heap.size 36 4 v5 m1.length (itsC m1) by simpa using hown5); clear hown5 hgr5; have Hr7 := Lib.hid (Rd.below Hr6.out HB5.out)) | (refine wpList_app rfl (.tmp 43) (.tmp 44) 22 rfl elemT w4.heap.size rfl HO5.out rfl Hr7.out (itsC_one' _) (by unfold maxLen; omega) (by omega) HB5.out.size ?_; intro v6 w6 hown6 hgr6 hv6; clear hv6; have HB6 := Lib.hid (own_below HB5.out HO5.out HB5.out.size hgr6); obtain ⟨n12, hn12, hl12⟩ : ∃ n12, (m1 ++ m2).length = n12 ∧ n12 ≤ 80 := ⟨_, rfl, by rw [List.length_append]; omega⟩; have HO6' : w6.ownsRow w4.heap.size 36 4 v6 n12 (itsC (m1 ++ m2)) := hn12 ▸ ownT_of hown6 (itsC_append m1 m2).symm; obtain ⟨a6, c6, rfl, ho1, ho2, _⟩ := own_form HO6'; have HO6 := Lib.hid HO6'; clear hn12; clear hown6 hgr6 HO6')))
    have HK6 := Lib.hid (own_keep HK4.out HB6.out)
    have HS6 := Lib.hid (bstep HS4.out HB6.out)
    generalize m1 ++ m2 = m12 at *
    have ho2 := lt63 ho1 ho2
    clear HK4 Hr5 Hr6 Hr7 HO5 HB5 HB6 HS4
    go_loopw [12, 47] (fun kv iv wr => ∃ (i : Nat) (ks : List Int), iv = .int .i64 (i : Int) ∧ i ≤ n12 ∧ ks.length ≤ 41 + i ∧ wr.ownsRow w3.heap.size 32 1 kv ks.length (ks.map u64V) ∧ wr.ownsRow w4.heap.size 36 4 (.slice a6 n12 c6) n12 (itsC m12) ∧ Below w3.heap.size w3 wr) (fun _ iv _ => n12 - (intOf iv).toNat)
    case atStart => exact ⟨0, ks0, by go_num, by omega, by omega, HK6.out, HO6.out, HS6.out⟩
    case round =>
      obtain ⟨i, ks, rfl, hi, hkl, hok, hom, hb⟩ := hrel
      have HK := Lib.hid hok
      have HO := Lib.hid hom
      have Hb := Lib.hid hb
      have hB := hb.size
      clear hok hom hb
      by_cases hlt : i < n12
      · obtain ⟨b, off, rfl, d0, d1, d2, d3⟩ := (rd_rdT (own_rd HO.out)).at hlt
        generalize iat m12 i = x at *
        have HSrc := Lib.hid (show Rd ((wr.alloc (boxC x)).alloc (.cells #[.int .u64 x.key] 32)) 1 (.slice (some ⟨wr.heap.size + 1, 0, none⟩) 1 1) 1 [.int .u64 x.key] from by
          have h := Rd.new (wr.alloc (boxC x)) 1 [.int .u64 x.key] 32 1 rfl (by decide)
          have e : (wr.alloc (boxC x)).heap.size = wr.heap.size + 1 := by simp
          rwa [e] at h)
        go_wp2_with (at_builtin; go_must (refine wpList_app (m := 1) (n := ks.length) rfl (.tmp 51) (.tmp 54) 31 rfl elemU w3.heap.size rfl ((HK.out.alloc _).alloc _) rfl HSrc.out (ulist_one [x.key]) (by unfold maxLen; omega) (by omega) (by simp; omega) ?_); intro v8 w8 hown8 hgr8 hv8; clear hv8)
        have hO7 := (HO.out.alloc (boxC x)).alloc (.cells #[.int .u64 x.key] 32)
        have hK7 := (HK.out.alloc (boxC x)).alloc (.cells #[.int .u64 x.key] 32)
        have HO8 := Lib.hid (hO7.kept hgr8 (own_ne hO7 hK7 (by decide)))
        have HB8 := Lib.hid (own_below ((Hb.out.alloc hB (boxC x)).alloc (by simp; omega) (.cells #[.int .u64 x.key] 32)) hK7 (by simp; omega) hgr8)
        have HK8 := Lib.hid (show w8.ownsRow w3.heap.size 32 1 v8 (ks ++ [x.key]).length ((ks ++ [x.key]).map u64V) by rw [map_snoc, List.length_append]; exact hown8)
        clear hown8 hgr8 hO7 hK7
        go_wp2_with fail
        exact ⟨⟨i + 1, ks ++ [x.key], by go_num, by omega, by rw [List.length_append]; simp; omega, HK8.out, HO8.out, HB8.out⟩, by simp [intOf]; omega⟩
      · obtain rfl : i = n12 := by omega
        obtain ⟨ka, kc, hkv, hk1, hk2, _⟩ := own_form HK.out
        subst hkv
        have hk3 := lt63 hk1 hk2
        have HO3' := Lib.hid (HO3.out.below Hb.out)
        have HN3' := Lib.hid (HN3.out.below Hb.out)
        have HM3' := Lib.hid (HM3.out.below Hb.out)
        have HQ3' := Lib.hid (HQ3.out.below Hb.out)
        have HK3' := Lib.hid (show RdU wr (.slice ka ks.length kc) ks from own_rd HK.out)
        have HB3' := Lib.hid (HB3.out.trans (Hb.out.mono HB3.out.size))
        obtain ⟨b1, e1, rfl, _, _⟩ := HO3'.out.shape
        obtain ⟨b2, e2, rfl, _, _⟩ := HN3'.out.shape
        obtain ⟨b3, e3, rfl, _, _⟩ := HM3'.out.shape
        generalize hnk : ks.length = nk at *
        clear hnk HK HO Hb HO3 HN3 HM3 HQ3 HB3 HK6 HO6 HS6 hB
        go_wp2_with fail
        obtain ⟨W0, rfl⟩ : ∃ W0, W0 = wr := ⟨_, rfl⟩
        have hz0 : w.heap.size ≤ W0.heap.size := HB3'.out.size
        go_loopw [59] (fun iv wx => ∃ i : Nat, iv = .int .i64 (i : Int) ∧ i ≤ nk ∧ Below W0.heap.size W0 wx) (fun iv _ => nk - (intOf iv).toNat)
        case atStart => exact ⟨0, by go_num, by omega, Below.refl _ _⟩
        case round =>
          obtain ⟨i, rfl, hi, hb⟩ := hrel
          have Hb := Lib.hid hb
          have hB := hb.size
          clear hb
          by_cases hlt : i < nk
          · obtain ⟨kb, koff, rfl, d0⟩ := RdU.at (RdL.below HK3'.out Hb.out) hlt
            generalize uat ks i = k at *
            have HQk := Lib.hid (HFq.out k)
            have HFk := Lib.hid (fun v w h => HFm.out v k w h)
            have HF1k := Lib.hid (fun v w h => HF1.out v k w h)
            have hk9 : nk ≤ 9223372036854775807 := by unfold maxLen at hk2; omega
            go_wp2_with fail
            refine (HF2.out _ k _ (HN3'.out.below Hb.out)).mono ?_; rintro e x1 ⟨rfl, hb1⟩
            have Hb1 := Lib.hid (bstep Hb.out hb1)
            have hB1 := Hb1.out.size
            clear hb1 d0
            generalize fnd m2 k = ff at *
            generalize fnd m1 k = f1 at *
            generalize fnd mm k = fm at *
            have HB2 := Lib.hid (bstep Hb1.out (below_box x1 (ff.getD it0)))
            have HBX := Lib.hid (BoxT.new x1 (ff.getD it0))
            go_upto_if 70 with fail
            go_cut [18] (fun s18 wx => s18 = .bool fm.isSome ∧ BoxT wx x1.heap.size (fm.getD it0) ∧ Below W0.heap.size W0 wx)
            case first =>
              cases ff with
              | some y =>
                have HE := Lib.hid (show fm = some y from HQk.out)
                simp only [Option.getD_some, Option.isSome_some, Bool.not_true] at *
                go_wp2_with fail
                go_meet
                case rel => exact ⟨by rw [HE.out]; rfl, by rw [HE.out]; exact HBX.out, HB2.out⟩
              | none =>
                have HE1 := Lib.hid (show g4.contains k = true → fm = none from fun h => by have := HQk.out; rw [h] at this; exact this)
                have HE2 := Lib.hid (show g4.contains k = false → fm = f1 from fun h => by have := HQk.out; rw [h] at this; exact this)
                simp only [Option.getD_none, Option.isSome_none, Bool.not_false] at *
                have HCS := Lib.hid (fun j h => contains_snoc g4 j k h)
                have HCE := Lib.hid (show (g4.take g4.length).contains k = g4.contains k by rw [List.take_length])
                have HRd := Lib.hid (RdL.below HQ3'.out HB2.out)
                clear HQk
                go_wp2_with fail
                go_loop [19, 73] (fun lv jv => ∃ j : Nat, jv = .int .i64 (j : Int) ∧ j ≤ g4.length ∧ lv = .bool ((g4.take j).contains k)) (fun _ jv => g4.length - (intOf jv).toNat)
                case atStart => exact ⟨0, by go_num, by omega, by simp⟩
                case round =>
                  obtain ⟨j, rfl, hj, rfl⟩ := hrel
                  by_cases hlj : j < g4.length
                  · obtain ⟨gb, goff, hqa, c0⟩ := RdU.at HRd.out hlj
                    subst hqa
                    have HC := Lib.hid (HCS.out j hlj)
                    generalize uat g4 j = z at *
                    cases hcj : (g4.take j).contains k with
                    | true =>
                      have HC2 := Lib.hid (show (g4.take (j + 1)).contains k = true by rw [HC.out, hcj]; rfl)
                      clear hcj
                      go_wp2_with fail
                      exact ⟨⟨j + 1, by go_num, by omega, by rw [HC2.out]⟩, by simp [intOf]; omega⟩
                    | false =>
                      have HC2 := Lib.hid (show (g4.take (j + 1)).contains k = (z == k) by rw [HC.out, hcj]; rfl)
                      clear hcj
                      by_cases hzk : z = k
                      · have hd : (z == k) = true := beq_iff_eq.2 hzk
                        rw [hd] at HC2
                        clear hzk
                        go_wp2_with fail
                        exact ⟨⟨j + 1, by go_num, by omega, by rw [HC2.out]⟩, by simp [intOf]; omega⟩
                      · have hd : (z == k) = false := beq_eq_false_iff_ne.2 hzk
                        rw [hd] at HC2
                        clear hzk
                        go_wp2_with fail
                        exact ⟨⟨j + 1, by go_num, by omega, by rw [HC2.out]⟩, by simp [intOf]; omega⟩
                  · obtain rfl : j = g4.length := by omega
                    rw [HCE.out]
                    cases hgk : g4.contains k with
                    | true =>
                      have HE := Lib.hid (HE1.out hgk)
                      clear hgk
                      go_wp2_with fail
                      go_meet
                      case rel => exact ⟨by rw [HE.out]; rfl, by rw [HE.out]; exact HBX.out, HB2.out⟩
                    | false =>
                      have HE := Lib.hid (HE2.out hgk)
                      clear hgk
                      go_wp2_with fail
                      refine (HF1k.out _ _ (HO3'.out.below HB2.out)).mono ?_; rintro e x2 ⟨rfl, hb2⟩
                      obtain ⟨y0, y1, y2, y3⟩ := HBX.out.below hb2
                      have f : ∀ i, x2.frozen? ⟨x1.heap.size, i, none⟩ = false := fun i => (hb2.frozen (p := ⟨x1.heap.size, i, none⟩) (by simp)).trans (by simp)
                      have f0 := f 0
                      have f1' := f 1
                      have f2 := f 2
                      have f3 := f 3
                      have Hb2 := Lib.hid (bstep HB2.out hb2)
                      clear f hb2
                      generalize hyy : f1.getD it0 = yy at *
                      have HYY := Lib.hid hyy
                      clear hyy
                      go_wp2_with fail
                      go_meet
                      case rel =>
                        rw [HE.out, HYY.out]
                        exact ⟨rfl, BoxT.set ⟨y0, y1, y2, y3⟩ yy, (((Hb2.out.setCell hB1 _).setCell hB1 _).setCell hB1 _).setCell hB1 _⟩
            case rest =>
              obtain ⟨rfl, hbx, hbc⟩ := hcut
              have HBX := Lib.hid hbx
              have HBC := Lib.hid hbc
              clear hbx hbc
              go_wp2_with fail
              refine (HFk.out _ _ (HM3'.out.below HBC.out)).mono ?_; rintro e x3 ⟨rfl, hb3⟩
              obtain ⟨y0, y1, y2, y3⟩ := HBX.out.below hb3
              have Hb4 := Lib.hid (bstep (bstep HBC.out hb3) (below_box x3 (fm.getD it0)))
              have hx13 : x1.heap.size < x3.heap.size := Nat.lt_of_lt_of_le (World.block_lt_of_cell? _ _ HBX.out.c0) hb3.size
              clear hb3
              generalize fm.getD it0 = y at *
              generalize fm.isSome = t at *
              have ht : (t != t) = false := by simp
              go_wp2_with fail
              exact ⟨⟨i + 1, by go_num, by omega, Hb4.out⟩, by simp [intOf]; omega⟩
          · obtain rfl : i = nk := by omega
            have HMx := Lib.hid (HM3'.out.below Hb.out)
            have HBx := Lib.hid (HB3'.out.trans (Hb.out.mono hz0))
            go_wp2_with fail
            refine (HV.out _ _ HMx.out).mono ?_; rintro e x4 ⟨rfl, hb4⟩
            have HB4 := Lib.hid (bstep HBx.out hb4)
            clear hb4
            go_wp2_with fail
            refine (awake_any _).mono ?_; rintro e x5 ⟨rfl, hb5⟩
            have HB5 := Lib.hid (bstep HB4.out hb5)
            clear hb5
            go_wp2_with fail
            go_ret
            exact ⟨rfl, HB5.out⟩
theorem merges_walk (a : Option Addr) (n cap : Nat) (b : Option Addr) (m bcap : Nat) (ga : Option Addr) (gn gc : Nat) (gz : List Int) (key : Int) (w : World) (h : ∃ l, RdT w (.slice a n cap) l ∧ ∀ x ∈ l, x.Wf) (h2 : ∃ l, RdT w (.slice b m bcap) l ∧ ∀ x ∈ l, x.Wf)
    (hg : IsRow .u64 w ga gn gc gz) (_hk : (Lit.int .u64 key).wf = true) :
    Calls Try.prog 5 #[.slice a n cap, .slice b m bcap, .slice ga gn gc, .int .u64 key] w fun e w' => e = .returned (.bool true) ∧ Below w.heap.size w w' := by
  obtain ⟨l, h, _⟩ := h
  obtain ⟨l2, h2, _⟩ := h2
  obtain ⟨g1, g2⟩ := isRow_rd hg
  exact lmerge_core _ _ l l2 ga gn gc (gz.take gn) key w h h2 (by unfold RdU RdL; rw [g1]; exact g2)
end Go.Proofs.Ytbfflgkijiggfaa
