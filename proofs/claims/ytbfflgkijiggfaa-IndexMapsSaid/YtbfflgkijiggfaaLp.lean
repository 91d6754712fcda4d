/- The reference's Merge, and IndexMaps: the walks. -/
import Derived.Test.YtbfflgkijiggfaaRf
import Derived.Test.YtbfflgkijiggfaaSv
import Derived.Test.YtbfflgkijiggfaaPu
import Derived.Test.YtbfflgkijiggfaaAw
import Derived.Test.YtbfflgkijiggfaaOv
import Derived.Test.YtbfflgkijiggfaaUu
import Derived.Deep.RegionHeld3
import Derived.Deep.DeepCutAuto
namespace Go.Proofs.Ytbfflgkijiggfaa
open Go.RowKit

set_option maxHeartbeats 1000000 in
theorem rmerge_any (vo vf vg : Value) (old fresh : List It) (gone : List Int) (w : World) (ho : RdT w vo old) (hf : RdT w vf fresh) (hg : RdU w vg gone) (h1 : old.length ≤ 100000) (h2 : fresh.length ≤ 100000) :
    Calls Try.prog 29 #[vo, vf, vg] w fun e w' => ∃ v', e = .returned v' ∧ RdT w' v' (mrg old fresh gone) ∧ Below w.heap.size w w' := by
  have HS := Lib.hid (rsort_any vo old w ho (by omega))
  have HSf := Lib.hid (fun w h => rsort_any vf fresh w h (by omega))
  have HM := Lib.hid (mrg_puts old fresh gone)
  have l1 := srt_length old
  have l2 := srt_length fresh
  have a1 := srt_asc old
  obtain ⟨qa1, qc1, rfl, _, _⟩ := ho.shape
  obtain ⟨qa2, qc2, rfl, _, _⟩ := hf.shape
  obtain ⟨qa3, qc3, rfl, g1, g2⟩ := hg.shape0
  have g3 := lt63 g1 g2
  generalize srt old = s1 at *
  generalize srt fresh = s2 at *
  generalize mrg old fresh gone = mm at *
  have HD := Lib.hid (fun i v w h => by
    have := rdrop_any v (drps s1 (gone.take i)) (uat gone i) w h (by have := drps_length s1 (gone.take i); omega)
    rw [srt_of_asc (drps_asc a1 _)] at this
    exact this)
  have HDn := Lib.hid (fun i (h : i < gone.length) => show drps s1 (gone.take (i + 1)) = drp (drps s1 (gone.take i)) (uat gone i) by
    have e : gone.take (i + 1) = gone.take i ++ [uat gone i] := by
      rw [List.take_succ_eq_append_getElem h]
      congr
      unfold uat
      rw [List.getD_eq_getElem?_getD, List.getElem?_eq_getElem h]; rfl
    rw [e, drps_snoc])
  have HD0 := Lib.hid (show drps s1 (gone.take 0) = s1 by rw [List.take_zero]; rfl)
  have HDe := Lib.hid (show drps s1 (gone.take gone.length) = drps s1 gone by rw [List.take_length])
  have ad := drps_asc a1 gone
  have ld := drps_length s1 gone
  generalize drps s1 gone = d1 at *
  have HP := Lib.hid (fun i v w h => by
    have := rput_any v (puts d1 (s2.take i)) (iat s2 i) w h (by
      have h3 := puts_length d1 (s2.take i)
      have h4 : (s2.take i).length ≤ s2.length := by rw [List.length_take]; omega
      omega)
    rw [srt_of_asc (puts_asc ad _)] at this
    exact this)
  have HPn := Lib.hid (fun i (h : i < s2.length) => show puts d1 (s2.take (i + 1)) = ins (puts d1 (s2.take i)) (iat s2 i) by rw [take_snoc h, puts_snoc])
  have HP0 := Lib.hid (show puts d1 (s2.take 0) = d1 by rw [List.take_zero]; rfl)
  have HPe := Lib.hid (show puts d1 (s2.take s2.length) = mm by rw [List.take_length]; exact HM.out)
  have Hf := Lib.hid hf
  have Hg := Lib.hid hg
  clear ho hf hg a1 ad
  generalize hgn : gone.length = gn at *
  clear hgn
  go_enter Try.func29, Try.ntmps29
  go_wp2_with fail
  refine HS.out.mono ?_; rintro e w1 ⟨v1, rfl, hown1, hb1⟩
  have HR1 := Lib.hid hown1.rd
  have HB1 := Lib.hid hb1
  clear hown1 hb1 HS
  go_wp2_with fail
  go_loopw [7, 8] (fun ov iv wr => ∃ i : Nat, iv = .int .i64 (i : Int) ∧ i ≤ gn ∧ RdT wr ov (drps s1 (gone.take i)) ∧ Below w.heap.size w wr) (fun _ iv _ => gn - (intOf iv).toNat)
  case atStart => exact ⟨0, by go_num, by omega, by rw [HD0.out]; exact HR1.out, HB1.out⟩
  case round =>
    obtain ⟨i, rfl, hi, hr, hb⟩ := hrel
    have HR := Lib.hid hr
    have Hb := Lib.hid hb
    clear hr hb
    by_cases hlt : i < gn
    · obtain ⟨b, off, rfl, c0⟩ := RdU.at (RdL.below Hg.out Hb.out) hlt
      have HC := Lib.hid (HD.out i _ wr HR.out)
      rw [← HDn.out i hlt] at HC
      obtain ⟨oa, oc, rfl, _, _⟩ := HR.out.shape
      generalize uat gone i = k at *
      generalize (drps s1 (gone.take i)).length = dn at *
      clear HR
      go_wp2_with fail
      refine HC.out.mono ?_; rintro e w2 ⟨v2, rfl, hown2, hb2⟩
      have HR2 := Lib.hid hown2.rd
      have HB2 := Lib.hid (bstep Hb.out hb2)
      clear hown2 hb2
      go_wp2_with fail
      exact ⟨⟨i + 1, by go_num, by omega, HR2.out, HB2.out⟩, by simp [intOf]; omega⟩
    · obtain rfl : i = gn := by omega
      rw [HDe.out] at HR
      go_wp2_with fail
      refine (HSf.out _ (Hf.out.below Hb.out)).mono ?_; rintro e w2 ⟨v2, rfl, hown2, hb2⟩
      have HF2 := Lib.hid hown2.rd
      have HR2 := Lib.hid (HR.out.below hb2)
      have HB2 := Lib.hid (bstep Hb.out hb2)
      clear hown2 hb2 HR Hb
      obtain ⟨fa, fc, rfl, f1, f2⟩ := HF2.out.shape
      have f3 := lt63 f1 f2
      generalize hfn : s2.length = fn at *
      clear hfn
      go_wp2_with fail
      go_loopw [7, 9] (fun ov iv wr => ∃ i : Nat, iv = .int .i64 (i : Int) ∧ i ≤ fn ∧ RdT wr ov (puts d1 (s2.take i)) ∧ Below w2.heap.size w2 wr) (fun _ iv _ => fn - (intOf iv).toNat)
      case atStart => exact ⟨0, by go_num, by omega, by rw [HP0.out]; exact HR2.out, Below.refl _ _⟩
      case round =>
        obtain ⟨j, rfl, hj, hr, hb⟩ := hrel
        have HR := Lib.hid hr
        have Hb := Lib.hid hb
        clear hr hb
        by_cases hlt : j < fn
        · obtain ⟨b, off, rfl, c0, c1, c2, c3⟩ := (HF2.out.below Hb.out).at hlt
          have HC := Lib.hid (HP.out j _ wr HR.out)
          rw [← HPn.out j hlt] at HC
          obtain ⟨oa, oc, rfl, _, _⟩ := HR.out.shape
          generalize iat s2 j = x at *
          generalize (puts d1 (s2.take j)).length = pn at *
          clear HR
          go_wp2_with fail
          refine HC.out.mono ?_; rintro e w3 ⟨v3, rfl, hown3, hb3⟩
          have HR3 := Lib.hid hown3.rd
          have HB3 := Lib.hid (bstep Hb.out hb3)
          clear hown3 hb3
          go_wp2_with fail
          exact ⟨⟨j + 1, by go_num, by omega, HR3.out, HB3.out⟩, by simp [intOf]; omega⟩
        · obtain rfl : j = fn := by omega
          rw [HPe.out] at HR
          go_wp2_with fail
          go_ret
          exact ⟨_, rfl, HR.out, bstep HB2.out Hb.out⟩
end Go.Proofs.Ytbfflgkijiggfaa
