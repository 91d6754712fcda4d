/- The walks over Encode, the program's and the reference's. -/
import Derived.Test.YtbfflgkijiggfaaNu
import Derived.Test.YtbfflgkijiggfaaPe
import Derived.Test.YtbfflgkijiggfaaIv
namespace Go.Proofs.Ytbfflgkijiggfaa
open Go.RowKit

theorem OwnB.nil (w : World) (B : Nat) : OwnB w B (.slice none 0 0) [] := World.ownsRow_nil _ _ _ _
theorem OwnB.len {w : World} {B : Nat} {v : Value} {l : List UInt8} (h : OwnB w B v l) : ∃ a cap, v = .slice a l.length cap := by
  obtain ⟨a, cap, e, _⟩ := own_form h
  exact ⟨a, cap, e⟩
set_option maxHeartbeats 1000000 in
theorem enc_any (v : Value) (l : List It) (w : World) (h : RdT w v l) (hw : ∀ x ∈ l, x.Kwf) (hs : l.length ≤ 1000) (hv : vldB l = true) :
    Calls Try.prog 16 #[v] w fun e w' => ∃ v', e = .returned (.tuple #[v', .int .i64 0]) ∧ OwnB w' w.heap.size v' (encB l) ∧ Below w.heap.size w w' := by
  have HV := Lib.hid (vld_any v l w h)
  rw [hv] at HV
  obtain ⟨a, cap, rfl, _, _⟩ := h.shape
  have HOK := Lib.hid (vldB_iff.1 hv).2
  have HW := Lib.hid hw
  have HS := Lib.hid (show ∀ k, k < l.length → encB (l.take (k + 1)) = encB (l.take k) ++ entB (iat l k) from fun k hk => by rw [take_snoc hk, encB_snoc])
  have HE := Lib.hid (show l.take l.length = l from List.take_length)
  have HLn := Lib.hid (show ∀ k, k ≤ l.length → (encB (l.take k)).length = 24 * k from fun k hk => by rw [encB_length, List.length_take, Nat.min_eq_left hk])
  have HM := Lib.hid (show ∀ k, k < l.length → iat l k ∈ l from fun k => iat_mem)
  generalize hn : l.length = n at *
  have Hr := Lib.hid h
  clear h hn hv hw
  go_enter Try.func16, Try.ntmps16
  go_wp2_with fail
  refine HV.out.mono ?_; rintro e w1 ⟨rfl, hb1⟩
  have Hb1 := Lib.hid hb1
  clear hb1
  go_wp2_with fail
  go_loopw [4, 13] (fun ov iv wr => ∃ k : Nat, iv = .int .i64 (k : Int) ∧ k ≤ n ∧ OwnB wr w.heap.size ov (encB (l.take k)) ∧ Below w.heap.size w wr) (fun _ iv _ => n - (intOf iv).toNat)
  case atStart => exact ⟨0, rfl, Nat.zero_le _, OwnB.nil _ _, Hb1.out⟩
  case round =>
    obtain ⟨k, rfl, hk, hown, hb⟩ := hrel
    have hB := hb.size
    have hlen := HLn.out k hk
    have Hb := Lib.hid hb
    have Hown := Lib.hid hown
    clear hown hb
    by_cases hlt : k < n
    · have hr := Hr.out.below Hb.out
      obtain ⟨b, off, rfl, c0, c1, c2, c3⟩ := hr.at hlt
      have hok := HOK.out _ (HM.out k hlt)
      have hkw := HW.out _ (HM.out k hlt)
      have HSk := Lib.hid (HS.out k hlt)
      clear hr
      generalize iat l k = x at *
      obtain ⟨xk, xc, xo, xs⟩ := x
      obtain ⟨o1, o2, _, o4, o5⟩ := hok
      obtain ⟨k1, k2, k3, k4⟩ := hkw
      simp only [] at o1 o2 o4 o5 k1 k2 k3 k4 c0 c1 c2 c3
      obtain ⟨kn, rfl⟩ := Int.eq_ofNat_of_zero_le k1
      obtain ⟨cn, rfl⟩ := Int.eq_ofNat_of_zero_le k3
      obtain ⟨on, rfl⟩ := Int.eq_ofNat_of_zero_le (show 0 ≤ xo by omega)
      obtain ⟨sn, rfl⟩ := Int.eq_ofNat_of_zero_le o4
      obtain ⟨W0, hW0⟩ : ∃ W0, W0 = wr.alloc (.cells #[.int .u64 (kn : Int), .int .u32 (cn : Int), .int .i64 (on : Int), .int .i64 (sn : Int)] 36) := ⟨_, rfl⟩
      have HX := Lib.hid (fun (w' : World) (h : Below W0.heap.size W0 w') => show
        (w'.cell? ⟨wr.heap.size, 0, none⟩ = some (.int .u64 (kn : Int)) ∧ w'.cell? ⟨wr.heap.size, 1, none⟩ = some (.int .u32 (cn : Int)) ∧ w'.cell? ⟨wr.heap.size, 2, none⟩ = some (.int .i64 (on : Int)) ∧ w'.cell? ⟨wr.heap.size, 3, none⟩ = some (.int .i64 (sn : Int))) from by
          subst hW0
          refine ⟨?_, ?_, ?_, ?_⟩ <;> (rw [h.cell (by simp)]; simp))
      have HY := Lib.hid (fun (w' : World) (h : Below W0.heap.size W0 w') => show OwnB w' w.heap.size u4 (encB (l.take k)) from own_keep (by rw [hW0]; exact Hown.out.alloc _) h)
      have HZ := Lib.hid (show Below w.heap.size w W0 by rw [hW0]; exact Hb.out.alloc hB _)
      have HW0 := Lib.hid hW0
      have hWs : w.heap.size ≤ W0.heap.size := HZ.out.size
      clear hW0
      go_wp2_with fail
      rw [← HW0.out]
      refine (big_any _ [] kn 8 W0.heap.size W0 (OwnB.nil _ _) (Nat.le_refl _) (by omega) (by omega) (by simp)).mono ?_; rintro e w2 ⟨v2, rfl, hown2, hb2⟩
      have HO2 := Lib.hid hown2
      have HB2 := Lib.hid hb2
      have d1 := (HX.out _ hb2).2.1
      clear hown2 hb2
      go_wp2_with fail
      refine (big_any _ _ cn 4 W0.heap.size w2 HO2.out HB2.out.size (by omega) (by omega) (by simp [be_length])).mono ?_; rintro e w3 ⟨v3, rfl, hown3, hb3⟩
      have HO3 := Lib.hid hown3
      have HB3 := Lib.hid (HB2.out.trans hb3)
      have d2 := (HX.out _ HB3.out).2.2.1
      clear hown3 hb3 d1
      go_wp2_with fail
      refine (big_any _ _ on 4 W0.heap.size w3 HO3.out HB3.out.size (by omega) (by omega) (by simp [be_length])).mono ?_; rintro e w4 ⟨v4, rfl, hown4, hb4⟩
      have HO4 := Lib.hid hown4
      have HB4 := Lib.hid (HB3.out.trans hb4)
      have d3 := (HX.out _ HB4.out).2.2.2
      clear hown4 hb4 d2
      go_wp2_with fail
      refine (big_any _ _ sn 4 W0.heap.size w4 HO4.out HB4.out.size (by omega) (by omega) (by simp [be_length])).mono ?_; rintro e w5 ⟨v5, rfl, hown5, hb5⟩
      have hE20 : [] ++ be kn 8 ++ be cn 4 ++ be on 4 ++ be sn 4 = ent20 ⟨(kn : Int), (cn : Int), (on : Int), (sn : Int)⟩ := by simp [ent20]
      rw [hE20] at hown5
      have hEB : entB ⟨(kn : Int), (cn : Int), (on : Int), (sn : Int)⟩ = ent20 ⟨(kn : Int), (cn : Int), (on : Int), (sn : Int)⟩ ++ ck (ent20 ⟨(kn : Int), (cn : Int), (on : Int), (sn : Int)⟩) := rfl
      have h20 := ent20_length ⟨(kn : Int), (cn : Int), (on : Int), (sn : Int)⟩
      rw [hEB] at HSk
      generalize ent20 ⟨(kn : Int), (cn : Int), (on : Int), (sn : Int)⟩ = e20 at *
      have HO5 := Lib.hid hown5
      have HB5 := Lib.hid (HB4.out.trans hb5)
      clear hown5 hb5 d3 hE20 hEB
      have HO := Lib.hid (show w5.ownsRow w.heap.size 5 1 u4 (24 * k) ((encB (l.take k)).map byteV) by rw [← hlen]; exact HY.out _ HB5.out)
      have HR5 := Lib.hid (show Rd w5 1 v5 20 (e20.map byteV) by rw [← h20]; exact HO5.out.rd)
      have HD5 := Lib.hid (bup HZ.out hWs HB5.out)
      have hs5 : w.heap.size ≤ w5.heap.size := HD5.out.size
      go_wp2_with (at_builtin; go_must (refine wpList_app rfl (.tmp 35) (.tmp 36) 27 rfl elemB w.heap.size rfl HO.out rfl HR5.out (bytes_one e20) (by unfold maxLen; omega) (by omega) hs5 ?_); intro v6 w6 hown6 hgr6 hv6; clear hv6)
      have HO6 := Lib.hid hown6
      have HD6 := Lib.hid (own_below HD5.out HO.out hs5 hgr6)
      have HR6 := Lib.hid (show OwnB w6 W0.heap.size v5 e20 from HO5.out.kept hgr6 (.inr fun e => by
        cases hv : v5.ownBlock with
        | none =>
          obtain ⟨_, _, rfl⟩ := HO5.out.len
          rcases HO5.out.2 with ⟨_, h0⟩ | ⟨g, _, _, e2, _⟩
          · omega
          · rw [e2] at hv; cases hv
        | some g =>
          have h1 := (HO5.out.lt g hv).1
          rw [hv] at e
          have h2 := (Hown.out.lt g e.symm).2
          have h3 : W0.heap.size = wr.heap.size + 1 := by rw [HW0.out]; simp
          omega))
      clear hown6 hgr6
      go_wp2_with fail
      refine (isum_any v5 e20 w6 HR6.out.rd).mono ?_; rintro e w7 ⟨v7, rfl, hown7, hb7⟩
      have HO7 := Lib.hid (own_keep HO6.out hb7)
      have HD7 := Lib.hid (bup HD6.out HD6.out.size hb7)
      have HR7 := Lib.hid (show Rd w7 1 v7 4 ((ck e20).map byteV) from hown7.rd)
      have hs7 : w.heap.size ≤ w7.heap.size := HD7.out.size
      clear hown7 hb7
      go_wp2_with (at_builtin; go_must (refine wpList_app rfl (.tmp 37) (.tmp 39) 27 rfl elemB w.heap.size rfl HO7.out rfl HR7.out (bytes_one (ck e20)) (by unfold maxLen; omega) (by omega) hs7 ?_); intro v8 w8 hown8 hgr8 hv8; clear hv8)
      have HO8 := Lib.hid (ownB_of hown8 (show _ = (encB (l.take (k + 1))).map byteV by rw [HSk.out, List.map_append, List.map_append, List.append_assoc]))
      have HD8 := Lib.hid (own_below HD7.out HO7.out hs7 hgr8)
      clear hown8 hgr8
      go_wp2_with fail
      exact ⟨⟨k + 1, by go_num, by omega, HO8.out, HD8.out⟩, by simp [intOf]; omega⟩
    · obtain rfl : n = k := by omega
      have HF := Lib.hid (show OwnB wr w.heap.size u4 (encB l) by rw [← HE.out]; exact Hown.out)
      go_wp2_with fail
      go_ret2
      exact ⟨_, rfl, HF.out, Hb.out⟩
theorem enc_bad (v : Value) (l : List It) (w : World) (h : RdT w v l) (hv : vldB l = false) :
    Calls Try.prog 16 #[v] w fun e w' => e = .returned (.tuple #[.slice none 0 0, .int .i64 1]) ∧ Below w.heap.size w w' := by
  have HV := Lib.hid (vld_any v l w h)
  rw [hv] at HV
  obtain ⟨a, cap, rfl, _, _⟩ := h.shape
  clear h hv
  go_enter Try.func16, Try.ntmps16
  go_wp2_with fail
  refine HV.out.mono ?_; rintro e w1 ⟨rfl, hb1⟩
  have Hb1 := Lib.hid hb1
  clear hb1
  go_wp2_with fail
  go_ret2
  exact ⟨rfl, Hb1.out⟩
theorem renc_bad (v : Value) (l : List It) (w : World) (h : RdT w v l) (hv : vldB l = false) :
    Calls Try.prog 17 #[v] w fun e w' => e = .returned (.tuple #[.slice none 0 0, .int .i64 1]) ∧ Below w.heap.size w w' := by
  have HV := Lib.hid (rvld_any v l w h)
  rw [hv] at HV
  obtain ⟨a, cap, rfl, _, _⟩ := h.shape
  clear h hv
  go_enter Try.func17, Try.ntmps17
  go_wp2_with fail
  refine HV.out.mono ?_; rintro e w1 ⟨rfl, hb1⟩
  have Hb1 := Lib.hid hb1
  clear hb1
  go_wp2_with fail
  go_ret2
  exact ⟨rfl, Hb1.out⟩
theorem rnum8 (v : Nat) (h : v < 18446744073709551616) (W : World) : Calls Try.prog 38 #[.int .u64 (v : Int), .int .i64 8] W fun e w' => ∃ v', e = .returned v' ∧ OwnB w' W.heap.size v' (be v 8) ∧ Below W.heap.size W w' := rnum_any v 8 W (by omega) h
theorem rnum4 (v : Nat) (h : v < 18446744073709551616) (W : World) : Calls Try.prog 38 #[.int .u64 (v : Int), .int .i64 4] W fun e w' => ∃ v', e = .returned v' ∧ OwnB w' W.heap.size v' (be v 4) ∧ Below W.heap.size W w' := rnum_any v 4 W (by omega) h
set_option maxHeartbeats 1000000 in
theorem renc_any (v : Value) (l : List It) (w : World) (h : RdT w v l) (hw : ∀ x ∈ l, x.Kwf) (hs : l.length ≤ 1000) (hv : vldB l = true) :
    Calls Try.prog 17 #[v] w fun e w' => ∃ v', e = .returned (.tuple #[v', .int .i64 0]) ∧ OwnB w' w.heap.size v' (encB l) ∧ Below w.heap.size w w' := by
  have HV := Lib.hid (rvld_any v l w h)
  rw [hv] at HV
  obtain ⟨a, cap, rfl, _, _⟩ := h.shape
  have HOK := Lib.hid (vldB_iff.1 hv).2
  have HW := Lib.hid hw
  have HS := Lib.hid (show ∀ k, k < l.length → encB (l.take (k + 1)) = encB (l.take k) ++ entB (iat l k) from fun k hk => by rw [take_snoc hk, encB_snoc])
  have HE := Lib.hid (show l.take l.length = l from List.take_length)
  have HLn := Lib.hid (show ∀ k, k ≤ l.length → (encB (l.take k)).length = 24 * k from fun k hk => by rw [encB_length, List.length_take, Nat.min_eq_left hk])
  have HM := Lib.hid (show ∀ k, k < l.length → iat l k ∈ l from fun k => iat_mem)
  generalize hn : l.length = n at *
  have Hr := Lib.hid h
  clear h hn hv hw
  go_enter Try.func17, Try.ntmps17
  go_wp2_with fail
  refine HV.out.mono ?_; rintro e w1 ⟨rfl, hb1⟩
  have Hb1 := Lib.hid hb1
  clear hb1
  go_wp2_with fail
  go_loopw [4, 5] (fun ov iv wr => ∃ k : Nat, iv = .int .i64 (k : Int) ∧ k ≤ n ∧ OwnB wr w.heap.size ov (encB (l.take k)) ∧ Below w.heap.size w wr) (fun _ iv _ => n - (intOf iv).toNat)
  case atStart => exact ⟨0, rfl, Nat.zero_le _, OwnB.nil _ _, Hb1.out⟩
  case round =>
    obtain ⟨k, rfl, hk, hown, hb⟩ := hrel
    have hB := hb.size
    have hlen := HLn.out k hk
    have Hb := Lib.hid hb
    have Hown := Lib.hid hown
    clear hown hb
    by_cases hlt : k < n
    · have hr := Hr.out.below Hb.out
      obtain ⟨b, off, rfl, c0, c1, c2, c3⟩ := hr.at hlt
      have hok := HOK.out _ (HM.out k hlt)
      have hkw := HW.out _ (HM.out k hlt)
      have HSk := Lib.hid (HS.out k hlt)
      clear hr
      generalize iat l k = x at *
      obtain ⟨xk, xc, xo, xs⟩ := x
      obtain ⟨o1, o2, _, o4, o5⟩ := hok
      obtain ⟨k1, k2, k3, k4⟩ := hkw
      simp only [] at o1 o2 o4 o5 k1 k2 k3 k4 c0 c1 c2 c3
      obtain ⟨kn, rfl⟩ := Int.eq_ofNat_of_zero_le k1
      obtain ⟨cn, rfl⟩ := Int.eq_ofNat_of_zero_le k3
      obtain ⟨on, rfl⟩ := Int.eq_ofNat_of_zero_le (show 0 ≤ xo by omega)
      obtain ⟨sn, rfl⟩ := Int.eq_ofNat_of_zero_le o4
      have HS4 := Lib.hid (fun w' (h : Below wr.heap.size wr w') => And.intro (Below.keeps h _ _ c0) (And.intro (Below.keeps h _ _ c1) (And.intro (Below.keeps h _ _ c2) (Below.keeps h _ _ c3))))
      have i1 : (k : Int) < (n : Int) := by omega
      have HN1 := Lib.hid (rnum8 kn (by omega))
      have HN2 := Lib.hid (rnum4 cn (by omega))
      have HN3 := Lib.hid (rnum4 on (by omega))
      have HN4 := Lib.hid (rnum4 sn (by omega))
      have j1 : IntKind.u64.wrap (cn : Int) = (cn : Int) := IntWalk.u64_in _ (by omega)
      have j2 : IntKind.u64.wrap (on : Int) = (on : Int) := IntWalk.u64_in _ (by omega)
      have j3 : IntKind.u64.wrap (sn : Int) = (sn : Int) := IntWalk.u64_in _ (by omega)
      go_wp2_with fail
      go_region_held3 (fun w' => w'.cell? ⟨b, off + k * 4, none⟩ = some (.int .u64 (kn : Int)) ∧ w'.cell? ⟨b, off + k * 4 + 1, none⟩ = some (.int .u32 (cn : Int)) ∧ w'.cell? ⟨b, off + k * 4 + 2, none⟩ = some (.int .i64 (on : Int)) ∧ w'.cell? ⟨b, off + k * 4 + 3, none⟩ = some (.int .i64 (sn : Int)))
        (first | exact HS4.out _ (Below.refl _ _).drew | exact HS4.out _ (bstep (Below.refl _ _).drew hb1) | exact HS4.out _ (bstep (bstep (Below.refl _ _).drew hb1) hb2) | exact HS4.out _ (own_below (bstep (bstep (Below.refl _ _).drew hb1) hb2) (own_keep hown1 hb2) (Nat.le_trans hb1.size hb2.size) hgr3))
        (first | (go_at_call 38; (with_reducible refine (HN1.out _).mono ?_); rintro e w1 ⟨v1, rfl, hown1, hb1⟩) | (go_at_call 38; (with_reducible refine (HN2.out _).mono ?_); rintro e w2 ⟨v2, rfl, hown2, hb2⟩) | (refine step_app (by rfl) _ _ _ (by rfl) elemB wr.heap.size (by rfl) (own_keep hown1 hb2) (by rfl) hown2.rd (bytes_one _) (by rw [be_length, be_length]; decide) (by rw [be_length, be_length]; decide) (Nat.le_trans hb1.size hb2.size) ?_; intro v3 w3 hown3 hgr3 hv3; clear hv3))
      have HD3 := Lib.hid (own_below (bstep (Below.refl _ _).drew (bstep hb1 hb2)) (own_keep hown1 hb2) (Nat.le_trans hb1.size hb2.size) hgr3)
      rw [← List.map_append] at hown3
      have HO3 := Lib.hid (ownB_of hown3 rfl)
      clear hown1 hown2 hown3 hb1 hb2 hgr3
      have hE12 : ent20 ⟨(kn : Int), (cn : Int), (on : Int), (sn : Int)⟩ = be kn 8 ++ be cn 4 ++ be on 4 ++ be sn 4 := rfl
      have h12 : (be kn 8 ++ be cn 4).length = 12 := by simp [be_length]
      have HSW := Lib.hid (fun w' (h : Below wr.heap.size wr w') => HS4.out w' h)
      generalize be kn 8 ++ be cn 4 = e12 at *
      have HE12 := Lib.hid hE12
      clear hE12
      go_wp2_with fail
      go_region_held3 (fun w' => w'.cell? ⟨b, off + k * 4, none⟩ = some (.int .u64 (kn : Int)) ∧ w'.cell? ⟨b, off + k * 4 + 1, none⟩ = some (.int .u32 (cn : Int)) ∧ w'.cell? ⟨b, off + k * 4 + 2, none⟩ = some (.int .i64 (on : Int)) ∧ w'.cell? ⟨b, off + k * 4 + 3, none⟩ = some (.int .i64 (sn : Int)))
        (first | exact HS4.out _ HD3.out.drew | exact HS4.out _ (bstep HD3.out (bstep (Below.refl w3.heap.size w3).drew hb4)) | exact HS4.out _ (own_below (bstep HD3.out (bstep (Below.refl w3.heap.size w3).drew hb4)) (own_keep HO3.out (bstep (Below.refl w3.heap.size w3).drew hb4)) (bstep HD3.out (bstep (Below.refl w3.heap.size w3).drew hb4)).size hgr5) | exact HS4.out _ (bstep (own_below (bstep HD3.out (bstep (Below.refl w3.heap.size w3).drew hb4)) (own_keep HO3.out (bstep (Below.refl w3.heap.size w3).drew hb4)) (bstep HD3.out (bstep (Below.refl w3.heap.size w3).drew hb4)).size hgr5) hb6) | exact HS4.out _ (bstep (bstep HD3.out (bstep (Below.refl w3.heap.size w3).drew hb4)) hb6) | exact HS4.out _ (own_below (bstep (bstep HD3.out (bstep (Below.refl w3.heap.size w3).drew hb4)) hb6) (own_keep (own_keep HO3.out (bstep (Below.refl w3.heap.size w3).drew hb4)) hb6) (bstep (bstep HD3.out (bstep (Below.refl w3.heap.size w3).drew hb4)) hb6).size hgr5) | exact HS4.out _ (own_below (bstep (own_below (bstep HD3.out (bstep (Below.refl w3.heap.size w3).drew hb4)) (own_keep HO3.out (bstep (Below.refl w3.heap.size w3).drew hb4)) (bstep HD3.out (bstep (Below.refl w3.heap.size w3).drew hb4)).size hgr5) hb6) (own_keep hown5 hb6) (bstep (own_below (bstep HD3.out (bstep (Below.refl w3.heap.size w3).drew hb4)) (own_keep HO3.out (bstep (Below.refl w3.heap.size w3).drew hb4)) (bstep HD3.out (bstep (Below.refl w3.heap.size w3).drew hb4)).size hgr5) hb6).size hgr7) | exact HS4.out _ (own_below (own_below (bstep (bstep HD3.out (bstep (Below.refl w3.heap.size w3).drew hb4)) hb6) (own_keep (own_keep HO3.out (bstep (Below.refl w3.heap.size w3).drew hb4)) hb6) (bstep (bstep HD3.out (bstep (Below.refl w3.heap.size w3).drew hb4)) hb6).size hgr5) hown5 (own_below (bstep (bstep HD3.out (bstep (Below.refl w3.heap.size w3).drew hb4)) hb6) (own_keep (own_keep HO3.out (bstep (Below.refl w3.heap.size w3).drew hb4)) hb6) (bstep (bstep HD3.out (bstep (Below.refl w3.heap.size w3).drew hb4)) hb6).size hgr5).size hgr7))
        (first | (go_at_call 38; (with_reducible refine (HN3.out _).mono ?_); rintro e w4 ⟨v4, rfl, hown4, hb4⟩) | (go_at_call 38; (with_reducible refine (HN4.out _).mono ?_); rintro e w6 ⟨v6, rfl, hown6, hb6⟩) | (refine step_app (by rfl) _ _ _ (by rfl) elemB wr.heap.size (by rfl) (own_keep HO3.out (bstep (Below.refl w3.heap.size w3).drew hb4)) (by rfl) hown4.rd (bytes_one _) (by simp [be_length, maxLen]; omega) (by simp [be_length]; omega) (bstep HD3.out (bstep (Below.refl w3.heap.size w3).drew hb4)).size ?_; intro v5 w5 hown5 hgr5 hv5; clear hv5) | (refine step_app (by rfl) _ _ _ (by rfl) elemB wr.heap.size (by rfl) (own_keep (own_keep HO3.out (bstep (Below.refl w3.heap.size w3).drew hb4)) hb6) (by rfl) (hown4.rd.below hb6) (bytes_one _) (by simp [be_length, maxLen]; omega) (by simp [be_length]; omega) (bstep (bstep HD3.out (bstep (Below.refl w3.heap.size w3).drew hb4)) hb6).size ?_; intro v5 w5 hown5 hgr5 hv5; clear hv5) | (refine step_app (by rfl) _ _ _ (by rfl) elemB wr.heap.size (by rfl) (own_keep hown5 hb6) (by rfl) hown6.rd (bytes_one _) (by simp [be_length, maxLen]; omega) (by simp [be_length]; omega) (bstep (own_below (bstep HD3.out (bstep (Below.refl w3.heap.size w3).drew hb4)) (own_keep HO3.out (bstep (Below.refl w3.heap.size w3).drew hb4)) (bstep HD3.out (bstep (Below.refl w3.heap.size w3).drew hb4)).size hgr5) hb6).size ?_; intro v7 w7 hown7 hgr7 hv7; clear hv7) | (refine step_app (by rfl) _ _ _ (by rfl) elemB wr.heap.size (by rfl) hown5 (by rfl) (OwnB.rd (own_apart hown6 hgr5 (fun g hg => Nat.lt_of_lt_of_le (HO3.out.lt g hg).2 hb4.size))) (bytes_one _) (by simp [be_length, maxLen]; omega) (by simp [be_length]; omega) (own_below (bstep (bstep HD3.out (bstep (Below.refl w3.heap.size w3).drew hb4)) hb6) (own_keep (own_keep HO3.out (bstep (Below.refl w3.heap.size w3).drew hb4)) hb6) (bstep (bstep HD3.out (bstep (Below.refl w3.heap.size w3).drew hb4)) hb6).size hgr5).size ?_; intro v7 w7 hown7 hgr7 hv7; clear hv7))
      all_goals
        have HD7 : Hid (Below wr.heap.size wr w7) := by first | exact Lib.hid (own_below (bstep (own_below (bstep HD3.out (bstep (Below.refl w3.heap.size w3).drew hb4)) (own_keep HO3.out (bstep (Below.refl w3.heap.size w3).drew hb4)) (bstep HD3.out (bstep (Below.refl w3.heap.size w3).drew hb4)).size hgr5) hb6) (own_keep hown5 hb6) (bstep (own_below (bstep HD3.out (bstep (Below.refl w3.heap.size w3).drew hb4)) (own_keep HO3.out (bstep (Below.refl w3.heap.size w3).drew hb4)) (bstep HD3.out (bstep (Below.refl w3.heap.size w3).drew hb4)).size hgr5) hb6).size hgr7) | exact Lib.hid (own_below (own_below (bstep (bstep HD3.out (bstep (Below.refl w3.heap.size w3).drew hb4)) hb6) (own_keep (own_keep HO3.out (bstep (Below.refl w3.heap.size w3).drew hb4)) hb6) (bstep (bstep HD3.out (bstep (Below.refl w3.heap.size w3).drew hb4)) hb6).size hgr5) hown5 (own_below (bstep (bstep HD3.out (bstep (Below.refl w3.heap.size w3).drew hb4)) hb6) (own_keep (own_keep HO3.out (bstep (Below.refl w3.heap.size w3).drew hb4)) hb6) (bstep (bstep HD3.out (bstep (Below.refl w3.heap.size w3).drew hb4)) hb6).size hgr5).size hgr7)
        rw [← List.map_append, ← List.map_append, ← HE12.out] at hown7
        have HO7 := Lib.hid (ownB_of hown7 rfl)
        have h20 := ent20_length ⟨(kn : Int), (cn : Int), (on : Int), (sn : Int)⟩
        rw [show entB ⟨(kn : Int), (cn : Int), (on : Int), (sn : Int)⟩ = ent20 ⟨(kn : Int), (cn : Int), (on : Int), (sn : Int)⟩ ++ ck (ent20 ⟨(kn : Int), (cn : Int), (on : Int), (sn : Int)⟩) from rfl] at HSk
        clear hown4 hown5 hown6 hown7 hb4 hb6 hgr5 hgr7 HE12
        generalize ent20 ⟨(kn : Int), (cn : Int), (on : Int), (sn : Int)⟩ = e20 at *
        have HO := Lib.hid (show w7.ownsRow w.heap.size 5 1 u4 (24 * k) ((encB (l.take k)).map byteV) by rw [← hlen]; exact own_keep Hown.out HD7.out)
        have HR7 := Lib.hid (show Rd w7 1 v7 20 (e20.map byteV) by rw [← h20]; exact HO7.out.rd)
        have HG7 := Lib.hid (bup Hb.out hB HD7.out)
        have hs7 : w.heap.size ≤ w7.heap.size := HG7.out.size
        clear j1 j2 j3 i1
        go_wp2_with (at_builtin; go_must (refine wpList_app rfl (.tmp 47) (.tmp 48) 27 rfl elemB w.heap.size rfl HO.out rfl HR7.out (bytes_one e20) (by unfold maxLen; omega) (by omega) hs7 ?_); intro v8 w8 hown8 hgr8 hv8; clear hv8)
        have HO8 := Lib.hid hown8
        have HG8 := Lib.hid (own_below HG7.out HO.out hs7 hgr8)
        have HR8 := Lib.hid (show OwnB w8 wr.heap.size v7 e20 from own_apart HO7.out hgr8 (fun g hg => (Hown.out.lt g hg).2))
        clear hown8 hgr8
        go_wp2_with fail
        refine (rcheck_any v7 e20 w8 HR8.out.rd).mono ?_; rintro e w9 ⟨v9, rfl, hown9, hb9⟩
        have HO9 := Lib.hid (own_keep HO8.out hb9)
        have HG9 := Lib.hid (bup HG8.out HG8.out.size hb9)
        have HR9 := Lib.hid (show Rd w9 1 v9 4 ((ck e20).map byteV) from hown9.rd)
        have hs9 : w.heap.size ≤ w9.heap.size := HG9.out.size
        clear hown9 hb9
        go_wp2_with (at_builtin; go_must (refine wpList_app rfl (.tmp 49) (.tmp 51) 27 rfl elemB w.heap.size rfl HO9.out rfl HR9.out (bytes_one (ck e20)) (by unfold maxLen; omega) (by omega) hs9 ?_); intro v10 w10 hown10 hgr10 hv10; clear hv10)
        have HO10 := Lib.hid (ownB_of hown10 (show _ = (encB (l.take (k + 1))).map byteV by rw [HSk.out, List.map_append, List.map_append, List.append_assoc]))
        have HG10 := Lib.hid (own_below HG9.out HO9.out hs9 hgr10)
        clear hown10 hgr10
        go_wp2_with fail
        exact ⟨⟨k + 1, by go_num, by omega, HO10.out, HG10.out⟩, by simp [intOf]; omega⟩
    · obtain rfl : n = k := by omega
      have HF := Lib.hid (show OwnB wr w.heap.size u4 (encB l) by rw [← HE.out]; exact Hown.out)
      go_wp2_with fail
      go_ret2
      exact ⟨_, rfl, HF.out, Hb.out⟩
end Go.Proofs.Ytbfflgkijiggfaa
