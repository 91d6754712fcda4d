/- IndexBursts: the walk. -/
import Derived.Test.YtbfflgkijiggfaaLb
import Derived.Test.YtbfflgkijiggfaaPx
import Derived.Test.YtbfflgkijiggfaaCp
import Derived.Laws.BitsAllLaws
namespace Go.Proofs.Ytbfflgkijiggfaa
open Go.RowKit

theorem wrap_of (a : Int) (L : Nat) (hL : 0 < L) (hs : L ≤ 1000000) : ∃ r : Int, a.tmod (L : Int) = r ∧ -1000000 ≤ r ∧ r ≤ 1000000 ∧ 0 ≤ r + (L : Int) ∧ ∃ k : Nat, k < L ∧ (r + (L : Int)) % (L : Int) = (k : Int) ∧ r % (L : Int) = (k : Int) := by
  have h1 := Int.tmod_lt_of_pos a (show (0 : Int) < (L : Int) by omega)
  have h2 := Int.lt_tmod_of_pos a (show (0 : Int) < (L : Int) by omega)
  have h3 := Int.emod_nonneg (a.tmod (L : Int) + (L : Int)) (show (L : Int) ≠ 0 by omega)
  refine ⟨_, rfl, by omega, by omega, by omega, ((a.tmod (L : Int) + (L : Int)) % (L : Int)).toNat, ?_, by omega, ?_⟩
  · have := Int.emod_lt_of_pos (a.tmod (L : Int) + (L : Int)) (show (0 : Int) < (L : Int) by omega)
    omega
  · rw [Int.toNat_of_nonneg h3]; simp
theorem bit_and (f i : Nat) (h : f < 4294967296) : bits .and .u32 ((f : Int) / 2 ^ i) 1 = ((f / 2 ^ i % 2 : Nat) : Int) := by
  have := low_bit (f / 2 ^ i) (Nat.lt_of_le_of_lt (Nat.div_le_self _ _) h)
  rw [← this]
  simp
theorem dby_nat (f bit i : Nat) : (Crc.dby f bit i).toNat = f / 2 ^ i % 2 * 2 ^ ((bit + i) % 8) := by
  unfold Crc.dby
  rw [UInt8.toNat_ofNat']
  refine Nat.mod_eq_of_lt ?_
  have h1 : f / 2 ^ i % 2 ≤ 1 := by omega
  have h2 : (2 : Nat) ^ ((bit + i) % 8) ≤ 2 ^ 7 := Nat.pow_le_pow_right (by decide) (by omega)
  have h3 := Nat.mul_le_mul h1 h2
  omega
theorem val_set (old : UInt8) (f bit i : Nat) (hf : f < 4294967296) : bits .xor .u8 (old.toNat : Int) (bits .and .u32 ((f : Int) / 2 ^ i) 1 * 2 ^ ((bit + i) % 8) % 256) = ((old ^^^ Crc.dby f bit i).toNat : Int) := by
  rw [bit_and f i hf, UInt8.toNat_xor, dby_nat]
  have h1 : f / 2 ^ i % 2 * 2 ^ ((bit + i) % 8) < 256 := by rw [← dby_nat]; exact (Crc.dby f bit i).toNat_lt
  have h2 : ((f / 2 ^ i % 2 : Nat) : Int) * 2 ^ ((bit + i) % 8) % 256 = ((f / 2 ^ i % 2 * 2 ^ ((bit + i) % 8) : Nat) : Int) := by
    generalize hq : f / 2 ^ i % 2 = q at *
    generalize hk : (bit + i) % 8 = k at *
    have : ((q : Nat) : Int) * 2 ^ k = ((q * 2 ^ k : Nat) : Int) := by simp
    rw [this]; omega
  rw [h2]
  exact u8_xor_nat old.toNat _ old.toNat_lt h1
theorem bytes_ne {a b : List UInt8} (h : (a == b) = false) : ((⟨a.toArray⟩ : ByteArray) == ⟨b.toArray⟩) = false := by
  show (a.toArray == b.toArray) = false
  rw [beq_eq_false_iff_ne] at h ⊢
  intro e; exact h (by simpa using e)
set_option maxHeartbeats 2000000 in
theorem lburst_core (v : Value) (l : List It) (which at_ : Int) (flip : Nat) (w : World) (h : RdT w v l) (hw : ∀ x ∈ l, x.Wf) (hf : flip < 4294967296) :
    Calls Try.prog 8 #[v, .int .i64 which, .int .i64 at_, .int .u32 (flip : Int)] w fun e w' => e = .returned (.bool true) ∧ Below w.heap.size w w' := by
  have HM := Lib.hid (made_any v l w h)
  have hmid := mid_mk hw
  have hml : (mk l).length ≤ 40 := mk_length l
  have HEn := Lib.hid (fun v w h => enc_any v (mk l) w h hmid.2 hmid.1 (mk_valid l))
  have HDE := Lib.hid (dec_enc (mk_valid l) hmid.2)
  have HBL := Lib.hid (fun w bit m hw hm hb => burst_law (k := mk l) (w := w) (bit := bit) (m := m) (flip := flip) hw hm hb)
  have hel := encB_length (mk l)
  obtain ⟨a, cap, rfl, _, _⟩ := h.shape
  generalize mk l = m at *
  generalize encB m = eb at *
  have HEl := Lib.hid hel
  have hle : eb.length ≤ 960 := by omega
  have hneq : ((eb.length : Int) != 24 * (m.length : Int)) = false := by rw [hel]; simp
  clear h hw hmid hel
  go_enter Try.func8, Try.ntmps8
  go_wp2_with fail
  refine (HM.out).mono ?_; rintro e w1 ⟨v1, rfl, hown1, hb1⟩
  have HO1 := Lib.hid hown1.rd
  have HB1 := Lib.hid hb1
  obtain ⟨a1, c1, rfl, _, _⟩ := hown1.rd.shape
  clear hown1 hb1
  go_wp2_with fail
  refine (HEn.out _ _ HO1.out).mono ?_; rintro e w2 ⟨v2, rfl, hown2, hb2⟩
  have HB2 := Lib.hid (bstep HB1.out hb2)
  have HO2 := Lib.hid hown2.rd
  obtain ⟨ga, gc, rfl⟩ := OwnB.len hown2
  clear hown2 hb2
  by_cases hm0 : m.length = 0
  · have h0 : ((m.length : Int) == 0) = true := by rw [hm0]; rfl
    clear hm0
    go_wp2_with fail
    refine (awake_any _).mono ?_; rintro e w6 ⟨rfl, hb6⟩
    have HB6 := Lib.hid (bstep HB2.out hb6)
    clear hb6
    go_wp2_with fail
    go_ret
    exact ⟨rfl, HB6.out⟩
  · have h0 : ((m.length : Int) == 0) = false := beq_eq_false_iff_ne.2 (by omega)
    obtain ⟨r1, hr1, p1, p2, p3, wi, hwi, hk1, hk1'⟩ := wrap_of which m.length (by omega) (by omega)
    obtain ⟨r2, hr2, p4, p5, p6, bit, hbit, hk2, hk2'⟩ := wrap_of at_ 192 (by omega) (by omega)
    rw [show ((192 : Nat) : Int) = 192 from rfl] at hr2 p6 hk2 hk2'
    clear hm0
    go_wp2_with (at_builtin; go_must (refine wpList_app rfl (.tmp 54) (.tmp 55) 27 rfl elemB w2.heap.size rfl (World.ownsRow_made (e := 5) (size := 1) w2 #[] 0 (Nat.le_refl _) (by decide) rfl) rfl (HO2.out.alloc _) (bytes_one _) (by unfold maxLen; omega) (by omega) (by simp) ?_); intro v3 w3 hown3 hgr3 hv3; clear hv3; rw [Nat.zero_add] at hown3; obtain ⟨oa, oc, rfl, ho1, _, _⟩ := own_form hown3; have HW3 := Lib.hid (own_below ((Below.refl w2.heap.size w2).alloc (Nat.le_refl _) _) (World.ownsRow_made (e := 5) (size := 1) w2 #[] 0 (Nat.le_refl _) (by decide) rfl) (by simp) hgr3); have HO3 := Lib.hid (show w3.ownsRow w2.heap.size 5 1 (.slice oa eb.length oc) eb.length ((Crc.cN eb wi flip bit 0).map byteV) by rw [Crc.cN_zero]; simpa using hown3); clear hown3 hgr3)
    clear hr1 hk1 hk1' hr2 hk2 hk2'
    obtain ⟨g, rfl⟩ : ∃ g, oa = some ⟨g, 0, none⟩ := by
      rcases HO3.out.2 with ⟨e, h0⟩ | ⟨g, _, _, e, _⟩
      · have := HEl.out; omega
      · injection e with e; exact ⟨g, e⟩
    have hgB := (HO3.out.lt g rfl).1
    have hwe : 24 * wi + 24 ≤ eb.length := by have := HEl.out; omega
    have HCl := Lib.hid (fun i => Crc.cN_length hwe flip bit i)
    have HCs := Lib.hid (fun i h => Crc.cN_succ hwe flip bit i h)
    have hse := HEl.out
    generalize hN : eb.length = N at *
    go_loopw [15] (fun iv wr => ∃ i : Nat, iv = .int .i64 (i : Int) ∧ i ≤ 32 ∧ bit + i ≤ 192 ∧ Below w2.heap.size w3 wr ∧ wr.ownsRow w2.heap.size 5 1 (.slice (some ⟨g, 0, none⟩) N oc) N ((Crc.cN eb wi flip bit i).map byteV)) (fun iv _ => 33 - (intOf iv).toNat)
    case atStart => exact ⟨0, rfl, by omega, by omega, Below.refl _ _, HO3.out⟩
    case round =>
      obtain ⟨i, rfl, hi, hbi, hb, ho⟩ := hrel
      have Hb := Lib.hid hb
      have Ho := Lib.hid ho
      clear hb ho
      by_cases hlt : i < 32 ∧ bit + i < 192
      · obtain ⟨hl1, hl2⟩ := hlt
        obtain ⟨j, hjd⟩ : ∃ j, 24 * wi + (bit + i) / 8 = j := ⟨_, rfl⟩
        have hjj : ((192 : Int) * (wi : Int) + (bit : Int) + (i : Int)) / 8 = (j : Int) := by omega
        have hj : j < N := by omega
        have ck0 := Ho.out.cellAt j (by omega)
        have fk0 := Ho.out.frozenAt j
        have hlc : (Crc.cN eb wi flip bit i).length = N := HCl.out i
        have ck1 : ((Crc.cN eb wi flip bit i).map byteV)[j]? = some (.int .u8 ((bat (Crc.cN eb wi flip bit i) j).toNat : Int)) := by
          rw [List.getElem?_map]
          unfold bat
          rw [List.getD_eq_getElem?_getD, List.getElem?_eq_getElem (by rw [hlc]; exact hj)]; rfl
        rw [ck1] at ck0
        generalize hold : bat (Crc.cN eb wi flip bit i) j = old at *
        clear ck1 hse hN hlc hneq hwe
        have hvs := val_set old flip bit i hf
        have hnx : (Crc.cN eb wi flip bit i).set j (old ^^^ Crc.dby flip bit i) = Crc.cN eb wi flip bit (i + 1) := by rw [← hold, ← hjd]; exact HCs.out i hl2
        obtain ⟨hst, hgr⟩ := Ho.out.stored j (byteV (old ^^^ Crc.dby flip bit i))
        rw [← List.map_set, hnx] at hst
        rw [show byteV (old ^^^ Crc.dby flip bit i) = .int .u8 ((old ^^^ Crc.dby flip bit i).toNat : Int) from rfl] at hst hgr
        generalize (old ^^^ Crc.dby flip bit i).toNat = q at *
        have Hst := Lib.hid hst
        have hgB' := (Ho.out.lt g rfl)
        have Hb' := Lib.hid (Hb.out.grown hgr (Nat.le_of_lt (Nat.lt_of_le_of_lt hgB'.1 hgB'.2)) (by intro x hx; injection hx with hx; omega))
        clear hst hgr hnx hold hjd hgB'
        set_option maxRecDepth 8000 in go_wp2_with fail
        exact ⟨⟨i + 1, by go_num, by omega, by omega, Hb'.out, Hst.out⟩, by simp [intOf]; omega⟩
      · have hm : (i = 32 ∨ bit + i = 192) := by omega
        have hb1 : (decide ((i : Int) < 32) && decide ((bit : Int) + (i : Int) < 192)) = false := by
          rw [Bool.and_eq_false_iff]; rcases hm with h | h
          · exact Or.inl (decide_eq_false (by omega))
          · exact Or.inr (decide_eq_false (by omega))
        have HD := Lib.hid (fun v w h => dec_any v (Crc.cN eb wi flip bit i) w h (by rw [HCl.out i]; omega))
        have hlc := Lib.hid (HCl.out i)
        have HBl := Lib.hid (HBL.out wi bit i hwi (by omega) (by omega))
        have HR := Lib.hid (own_rdl Ho.out)
        have HBf := Lib.hid (HB2.out.trans ((HW3.out.trans Hb.out).mono HB2.out.size))
        generalize Crc.cN eb wi flip bit i = C at *
        have HR2 := Lib.hid (HO2.out.below (HW3.out.trans Hb.out))
        clear hse hneq hN hwe
        rcases Nat.lt_or_ge i 32 with hi2 | hi2
        · have hbe : ((bit : Int) + (i : Int)) = 192 := by omega
          set_option maxRecDepth 8000 in go_wp2_with fail
          refine (HD.out _ _ HR.out).mono ?_; rintro e w5 ⟨⟨v5, rfl, hown5⟩, hb5⟩
          have HB5 := Lib.hid (bstep HBf.out hb5)
          have k1 := run_to_string (P := Try.prog) 27 9 5 Try.underlying27 Try.underlying5 Try.underlying9 (HR2.out.below hb5)
          have k2 := run_to_string (P := Try.prog) 27 9 5 Try.underlying27 Try.underlying5 Try.underlying9 (HR.out.below hb5)
          clear hb5 hown5
          by_cases hg0 : (dec C).1 = 0
          · have hce := HBl.out hg0
            subst hce
            rw [hg0] at *
            set_option maxRecDepth 8000 in go_wp2_with fail
            refine (awake_any _).mono ?_; rintro e w8 ⟨rfl, hb8⟩
            have HB8 := Lib.hid (bstep HB5.out hb8)
            clear hb8
            set_option maxRecDepth 8000 in go_wp2_with fail
            go_ret
            exact ⟨rfl, HB8.out⟩
          · have hgb : ((dec C).1 == 0) = false := by rw [beq_eq_false_iff_ne]; exact hg0
            have hnc : (eb == C) = false := by
              rw [beq_eq_false_iff_ne]; intro h2
              apply hg0; rw [← h2]; rw [HDE.out]
            have hnb : ((⟨eb.toArray⟩ : ByteArray) == ⟨C.toArray⟩) = false := bytes_ne hnc
            generalize (dec C).1 = gc5 at *
            clear hg0
            set_option maxRecDepth 8000 in go_wp2_with fail
            refine (awake_any _).mono ?_; rintro e w8 ⟨rfl, hb8⟩
            have HB8 := Lib.hid (bstep HB5.out hb8)
            clear hb8
            set_option maxRecDepth 8000 in go_wp2_with fail
            go_ret
            exact ⟨rfl, HB8.out⟩
        · obtain rfl : i = 32 := by omega
          set_option maxRecDepth 8000 in go_wp2_with fail
          refine (HD.out _ _ HR.out).mono ?_; rintro e w5 ⟨⟨v5, rfl, hown5⟩, hb5⟩
          have HB5 := Lib.hid (bstep HBf.out hb5)
          have k1 := run_to_string (P := Try.prog) 27 9 5 Try.underlying27 Try.underlying5 Try.underlying9 (HR2.out.below hb5)
          have k2 := run_to_string (P := Try.prog) 27 9 5 Try.underlying27 Try.underlying5 Try.underlying9 (HR.out.below hb5)
          clear hb5 hown5
          by_cases hg0 : (dec C).1 = 0
          · have hce := HBl.out hg0
            subst hce
            rw [hg0] at *
            set_option maxRecDepth 8000 in go_wp2_with fail
            refine (awake_any _).mono ?_; rintro e w8 ⟨rfl, hb8⟩
            have HB8 := Lib.hid (bstep HB5.out hb8)
            clear hb8
            set_option maxRecDepth 8000 in go_wp2_with fail
            go_ret
            exact ⟨rfl, HB8.out⟩
          · have hgb : ((dec C).1 == 0) = false := by rw [beq_eq_false_iff_ne]; exact hg0
            have hnc : (eb == C) = false := by
              rw [beq_eq_false_iff_ne]; intro h2
              apply hg0; rw [← h2]; rw [HDE.out]
            have hnb : ((⟨eb.toArray⟩ : ByteArray) == ⟨C.toArray⟩) = false := bytes_ne hnc
            generalize (dec C).1 = gc5 at *
            clear hg0
            set_option maxRecDepth 8000 in go_wp2_with fail
            refine (awake_any _).mono ?_; rintro e w8 ⟨rfl, hb8⟩
            have HB8 := Lib.hid (bstep HB5.out hb8)
            clear hb8
            set_option maxRecDepth 8000 in go_wp2_with fail
            go_ret
            exact ⟨rfl, HB8.out⟩
theorem bursts_walk (a : Option Addr) (n cap : Nat) (which at_ flip : Int) (w : World) (h : ∃ l, RdT w (.slice a n cap) l ∧ ∀ x ∈ l, x.Wf) (_h1 : (Lit.int .i64 which).wf = true) (_h2 : (Lit.int .i64 at_).wf = true) (h3 : (Lit.int .u32 flip).wf = true) :
    Calls Try.prog 8 #[.slice a n cap, .int .i64 which, .int .i64 at_, .int .u32 flip] w fun e w' => e = .returned (.bool true) ∧ Below w.heap.size w w' := by
  obtain ⟨l, h, hw⟩ := h
  have b := bounds_of_u32 h3
  obtain ⟨f, rfl⟩ := Int.eq_ofNat_of_zero_le b.1
  exact lburst_core _ l which at_ f w h hw (by omega)
end Go.Proofs.Ytbfflgkijiggfaa
