/- IndexBack: the walk. -/
import Derived.Test.YtbfflgkijiggfaaLe
import Derived.Test.YtbfflgkijiggfaaDe
import Derived.Test.YtbfflgkijiggfaaSm
import Derived.Test.YtbfflgkijiggfaaPb
namespace Go.Proofs.Ytbfflgkijiggfaa
open Go.RowKit

set_option maxHeartbeats 1000000 in
theorem lback_core (v : Value) (l : List It) (ra : Option Addr) (n0 rcap : Nat) (raw0 : List UInt8) (w : World) (h : RdT w v l) (hw : ∀ x ∈ l, x.Wf) (hr0 : RdB w (.slice ra n0 rcap) raw0) :
    Calls Try.prog 7 #[v, .slice ra n0 rcap] w fun e w' => e = .returned (.bool true) ∧ Below w.heap.size w w' := by
  have HM := Lib.hid (made_any v l w h)
  have hmid := mid_mk hw
  have hml : (mk l).length ≤ 40 := mk_length l
  have HEn := Lib.hid (fun v w h => enc_any v (mk l) w h hmid.2 hmid.1 (mk_valid l))
  have HDe := Lib.hid (fun v w h => dec_any v (encB (mk l)) w h (by rw [encB_length]; omega))
  rw [dec_enc (mk_valid l) hmid.2] at HDe
  have HSa := Lib.hid (fun va vb w h1 h2 => same_any va vb (mk l) (mk l) w h1 h2)
  have hdd : decide (mk l = mk l) = true := decide_eq_true rfl
  rw [hdd] at HSa
  have hel := encB_length (mk l)
  have hbd := RdL.bounds hr0
  have HR1 := Lib.hid (fun (hgt : 500 < n0) => RdL.take hr0 500 (Nat.le_of_lt hgt))
  have HR2 := Lib.hid (show ¬ 500 < n0 → RdB w (.slice ra n0 rcap) (raw0.take 500) from fun hle => by
    rw [List.take_of_length_le (by omega)]; exact hr0)
  have HTo := Lib.hid (fun (hgt : 500 < n0) => slice_to (P := Try.prog) elemB (a := ra) (n := n0) (cap := rcap) (RdL.spot hr0 (by omega)) 500 (by omega))
  have hlr : (raw0.take 500).length ≤ 500 := by rw [List.length_take]; omega
  generalize raw0.take 500 = raw at *
  have HDr := Lib.hid (fun v w h => dec_any v raw w h (by omega))
  have HBk := Lib.hid (enc_dec (b := raw))
  have HLy := Lib.hid (show (dec raw).1 = 0 → (dec raw).2.length ≤ 1000 from fun h0 => by
    have h1 := (enc_dec h0).1
    have h2 := encB_length (dec raw).2
    rw [h1] at h2; omega)
  obtain ⟨a, cap, rfl, _, _⟩ := h.shape
  generalize mk l = m at *
  generalize encB m = eb at *
  generalize dec raw = D at *
  have hlb : decide ((eb.length : Int) = 24 * (m.length : Int)) = true := by simp; omega
  have HEl := Lib.hid hel
  have hmc := hbd.2.2
  have hnc := hbd.2.1
  unfold maxLen at hmc
  clear h hw hr0 hmid hdd hel hbd
  go_enter Try.func7, Try.ntmps7
  go_wp2_with fail
  refine HM.out.mono ?_; rintro e w1 ⟨v1, rfl, hown1, hb1⟩
  have HO1 := Lib.hid hown1.rd
  have HB1 := Lib.hid hb1
  obtain ⟨a1, c1, rfl, _, _⟩ := hown1.rd.shape
  clear hown1 hb1
  go_wp2_with fail
  refine (HEn.out _ _ HO1.out).mono ?_; rintro e w2 ⟨v2, rfl, hown2, hb2⟩
  have HO2 := Lib.hid hown2.rd
  have HO12 := Lib.hid (HO1.out.below hb2)
  have HB2 := Lib.hid (bstep HB1.out hb2)
  obtain ⟨a2, c2, rfl⟩ := OwnB.len hown2
  clear hown2 hb2
  go_wp2_with fail
  refine (HDe.out _ _ HO2.out).mono ?_; rintro e w3 ⟨⟨v3, rfl, hown3⟩, hb3⟩
  have HO3 := Lib.hid hown3.rd
  have HO13 := Lib.hid (HO12.out.below hb3)
  have HB3 := Lib.hid (bstep HB2.out hb3)
  clear hown3 hb3
  go_wp2_with fail
  refine (HSa.out _ _ _ HO3.out HO13.out).mono ?_; rintro e w5 ⟨rfl, hb5⟩
  have HB5 := Lib.hid (bstep HB3.out hb5)
  clear hb5
  have hneq : ((eb.length : Int) != 24 * (m.length : Int)) = false := by
    rw [HEl.out]; simp
  by_cases hgt : 500 < n0
  · have HRr := Lib.hid (HR1.out hgt)
    have hto := HTo.out hgt
    rw [show ((500 : Nat) : Int) = 500 from rfl] at hto
    go_wp2_with fail
    refine (HDr.out _ _ (HRr.out.below HB5.out)).mono ?_; rintro e w6 ⟨⟨v6, rfl, hown6⟩, hb6⟩
    have HB6 := Lib.hid (bstep HB5.out hb6)
    have HO6 := Lib.hid hown6.rd
    clear hb6 hown6
    obtain ⟨g, hg⟩ : ∃ g, D.1 = g := ⟨_, rfl⟩
    rw [hg]
    by_cases hg0 : g = 0
    · subst hg0
      obtain ⟨q1, q2, q3⟩ := HBk.out hg
      have HE2 := Lib.hid (fun v w h => enc_any v D.2 w h q3 (HLy.out hg) q2)
      rw [q1] at HE2
      clear q1 q2 q3 hg
      go_wp2_with fail
      refine (HE2.out _ _ HO6.out).mono ?_; rintro e w7 ⟨v7, rfl, hown7, hb7⟩
      have HB7 := Lib.hid (bstep HB6.out hb7)
      have k1 := run_to_string (P := Try.prog) 27 9 5 Try.underlying27 Try.underlying5 Try.underlying9 hown7.rd
      have k2 := run_to_string (P := Try.prog) 27 9 5 Try.underlying27 Try.underlying5 Try.underlying9 (HRr.out.below (bstep HB6.out hb7))
      obtain ⟨a7, c7, rfl⟩ := OwnB.len hown7
      clear hb7 hown7
      go_wp2_with fail
      refine (awake_any _).mono ?_; rintro e w8 ⟨rfl, hb8⟩
      have HB8 := Lib.hid (bstep HB7.out hb8)
      clear hb8
      go_wp2_with fail
      go_ret
      exact ⟨rfl, HB8.out⟩
    · have hgb : (g != 0) = true := by rw [bne_iff_ne]; exact hg0
      clear hg hg0
      go_wp2_with fail
      refine (awake_any _).mono ?_; rintro e w8 ⟨rfl, hb8⟩
      have HB8 := Lib.hid (bstep HB6.out hb8)
      clear hb8
      go_wp2_with fail
      go_ret
      exact ⟨rfl, HB8.out⟩
  · have HRr := Lib.hid (HR2.out hgt)
    go_wp2_with fail
    refine (HDr.out _ _ (HRr.out.below HB5.out)).mono ?_; rintro e w6 ⟨⟨v6, rfl, hown6⟩, hb6⟩
    have HB6 := Lib.hid (bstep HB5.out hb6)
    have HO6 := Lib.hid hown6.rd
    clear hb6 hown6
    obtain ⟨g, hg⟩ : ∃ g, D.1 = g := ⟨_, rfl⟩
    rw [hg]
    by_cases hg0 : g = 0
    · subst hg0
      obtain ⟨q1, q2, q3⟩ := HBk.out hg
      have HE2 := Lib.hid (fun v w h => enc_any v D.2 w h q3 (HLy.out hg) q2)
      rw [q1] at HE2
      clear q1 q2 q3 hg
      go_wp2_with fail
      refine (HE2.out _ _ HO6.out).mono ?_; rintro e w7 ⟨v7, rfl, hown7, hb7⟩
      have HB7 := Lib.hid (bstep HB6.out hb7)
      have k1 := run_to_string (P := Try.prog) 27 9 5 Try.underlying27 Try.underlying5 Try.underlying9 hown7.rd
      have k2 := run_to_string (P := Try.prog) 27 9 5 Try.underlying27 Try.underlying5 Try.underlying9 (HRr.out.below (bstep HB6.out hb7))
      obtain ⟨a7, c7, rfl⟩ := OwnB.len hown7
      clear hb7 hown7
      go_wp2_with fail
      refine (awake_any _).mono ?_; rintro e w8 ⟨rfl, hb8⟩
      have HB8 := Lib.hid (bstep HB7.out hb8)
      clear hb8
      go_wp2_with fail
      go_ret
      exact ⟨rfl, HB8.out⟩
    · have hgb : (g != 0) = true := by rw [bne_iff_ne]; exact hg0
      clear hg hg0
      go_wp2_with fail
      refine (awake_any _).mono ?_; rintro e w8 ⟨rfl, hb8⟩
      have HB8 := Lib.hid (bstep HB6.out hb8)
      clear hb8
      go_wp2_with fail
      go_ret
      exact ⟨rfl, HB8.out⟩
theorem back_walk (a : Option Addr) (n cap : Nat) (b : Option Addr) (k c : Nat) (zs : List Int) (w : World) (h : ∃ l, RdT w (.slice a n cap) l ∧ ∀ x ∈ l, x.Wf) (h2 : IsRow .u8 w b k c zs) :
    Calls Try.prog 7 #[.slice a n cap, .slice b k c] w fun e w' => e = .returned (.bool true) ∧ Below w.heap.size w w' := by
  obtain ⟨l, h, hw⟩ := h
  obtain ⟨raw, hl, hr⟩ := isRow_bytes h2
  exact lback_core _ l b k c raw w h hw hr
end Go.Proofs.Ytbfflgkijiggfaa
