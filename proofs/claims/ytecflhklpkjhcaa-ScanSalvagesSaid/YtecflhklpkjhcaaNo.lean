/- needlestoreref06.Encode: the walk. -/
import Derived.Test.YtecflhklpkjhcaaNn
namespace Go.Proofs.Ytecflhklpkjhcaa
open Go.RowKit

theorem head_own (w : World) : OwnB (w.alloc (.cells #[.int .u8 78, .int .u8 165, .int .u8 0, .int .u8 0] 5)) w.heap.size (.slice (some ⟨w.heap.size, 0, none⟩) 4 4) [78, 165, 0, 0] := World.ownsRow_lit (size := 1) w (#[.int .u8 78, .int .u8 165, .int .u8 0, .int .u8 0] : Array Value) 4 (Nat.le_refl _) (by decide) rfl
theorem head_own1 (w : World) : OwnB (w.alloc (.cells #[.int .u8 78, .int .u8 165, .int .u8 1, .int .u8 0] 5)) w.heap.size (.slice (some ⟨w.heap.size, 0, none⟩) 4 4) [78, 165, 1, 0] := World.ownsRow_lit (size := 1) w (#[.int .u8 78, .int .u8 165, .int .u8 1, .int .u8 0] : Array Value) 4 (Nat.le_refl _) (by decide) rfl
set_option maxRecDepth 100000 in
set_option maxHeartbeats 4000000 in
theorem rnenc_any (x : Nd) (dv : Value) (w : World) (hok : x.ok) (hwf : x.Wf) (h : RdB w dv x.data) :
    Calls Try.prog 28 #[ndV x dv] w fun e w' => ∃ v', e = .returned (.tuple #[v', .int .i64 0]) ∧ OwnB w' w.heap.size v' (nenc x) ∧ Below w.heap.size w w' := by
  obtain ⟨a, cap, rfl, h1, h2⟩ := h.shape0
  have HV := Lib.hid (fun W => rnvalid_ok x a cap W hok)
  have HEn := Lib.hid (show nenc x = [78, 165, if x.del then 1 else 0, 0] ++ be x.ck 4 ++ be x.key 8 ++ be x.data.length 4 ++ x.data ++ ck ([78, 165, if x.del then 1 else 0, 0] ++ be x.ck 4 ++ be x.key 8 ++ be x.data.length 4 ++ x.data) ++ zeros (nsz x.data.length - (24 + x.data.length)) from rfl)
  have hszb := nsz_bounds x.data.length
  obtain ⟨k, c, d, l⟩ := x
  obtain ⟨hl, hdl⟩ := hok
  obtain ⟨hk, hc⟩ := hwf
  dsimp only at *
  have HSz := Lib.hid (fun W => rsize_any l.length W (by omega))
  rw [szN_of hl] at HSz
  have j1 : IntKind.u64.wrap (c : Int) = (c : Int) := IntWalk.u64_in _ (by omega)
  have j2 : IntKind.u64.wrap (l.length : Int) = (l.length : Int) := IntWalk.u64_in _ (by omega)
  have d1 : decide ((4096 : Int) < (l.length : Int)) = false := by simp; omega
  have HN1 := Lib.hid (rnum4 c (by omega))
  have HN2 := Lib.hid (rnum8 k (by omega))
  have HN3 := Lib.hid (rnum4 l.length (by omega))
  have Hw0 := Lib.hid h
  have HB0 := Lib.hid (show Below w.heap.size w (w.alloc (.cells #[.int .u64 (k : Int), .int .u32 (c : Int), .bool d, .slice a l.length cap] 31)) from (Below.refl _ _).alloc (Nat.le_refl _) _)
  clear h
  generalize hn : l.length = n at *
  have HL := Lib.hid hn
  clear hn
  cases d
  · have HEn := Lib.hid (show nenc ⟨k, c, false, l⟩ = (([78, 165, 0, 0] ++ be c 4 ++ be k 8 ++ be n 4) ++ l ++ ck (([78, 165, 0, 0] ++ be c 4 ++ be k 8 ++ be n 4) ++ l)) ++ zeros (nsz n - (24 + n)) from HEn.out)
    go_enter Try.func28, Try.ntmps28
    go_wp2_with fail
    refine (HV.out _).mono ?_; rintro e w1 ⟨rfl, hb1⟩
    have hz1 : w.heap.size + 1 ≤ w1.heap.size := Nat.le_trans (by simp) hb1.size
    have HC := Lib.hid (fun w' (h : Below w1.heap.size w1 w') => show w'.cell? ⟨w.heap.size, 0, none⟩ = some (.int .u64 (k : Int)) ∧ w'.cell? ⟨w.heap.size, 1, none⟩ = some (.int .u32 (c : Int)) ∧ w'.cell? ⟨w.heap.size, 2, none⟩ = some (.bool false) ∧ w'.cell? ⟨w.heap.size, 3, none⟩ = some (.slice a n cap) from
      ⟨Below.keeps h _ _ (Below.keeps hb1 _ _ (by simp)), Below.keeps h _ _ (Below.keeps hb1 _ _ (by simp)), Below.keeps h _ _ (Below.keeps hb1 _ _ (by simp)), Below.keeps h _ _ (Below.keeps hb1 _ _ (by simp))⟩)
    have HB1 := Lib.hid (bstep HB0.out hb1)
    have HBa := Lib.hid (show Below w1.heap.size w1 (w1.alloc (.cells #[.int .u8 78, .int .u8 165, .int .u8 0, .int .u8 0] 5)) from (Below.refl _ _).alloc (Nat.le_refl _) _)
    have HOa := Lib.hid (head_own w1)
    obtain ⟨y0, y1, y2, y3⟩ := HC.out _ HBa.out
    clear hb1 HV HB0
    go_wp2_with fail
    clear y0 y1 y2 y3
    generalize w1.alloc (.cells #[.int .u8 78, .int .u8 165, .int .u8 0, .int .u8 0] 5) = wa at *
    generalize hH : ([78, 165, 0, 0] : List UInt8) = H at *
    have hHl : H.length = 4 := by rw [← hH]; rfl
    clear hH
    have HOa := Lib.hid (show wa.ownsRow w1.heap.size 5 1 (.slice (some ⟨w1.heap.size, 0, none⟩) 4 4) 4 (H.map byteV) by have := HOa.out; unfold OwnB at this; rw [hHl] at this; exact this)
    clear hHl
    refine (HN1.out _).mono ?_; rintro e wb ⟨vb, rfl, hown, hb⟩
    have HOb := Lib.hid (own_keep HOa.out hb)
    have HBb := Lib.hid (bstep HBa.out hb)
    have hsb := HBb.out.size
    have HRb := Lib.hid (show Rd wb 1 vb 4 ((be c 4).map byteV) by have := hown.rd; unfold RdB RdL at this; rw [be_length] at this; exact this)
    clear hown hb HOa HBa
    go_wp2_with (at_builtin; go_must (refine wpList_app (n := 4) (m := 4) rfl (.tmp 17) (.tmp 21) 23 rfl elemB w1.heap.size rfl HOb.out rfl HRb.out (bytes_one _) (by decide) (by decide) hsb ?_); intro v2 w2 hown2 hgr2 hv2; clear hv2; rw [← List.map_append] at hown2; have HO2 := Lib.hid hown2; have HB2 := Lib.hid (own_below HBb.out HOb.out hsb hgr2); obtain ⟨y0, y1, y2, y3⟩ := HC.out _ HB2.out; clear hown2 hgr2 HOb HBb hsb HRb; generalize H ++ be c 4 = H2 at *)
    clear y0 y1 y2 y3
    refine (HN2.out _).mono ?_; rintro e wb ⟨vb, rfl, hown, hb⟩
    have HOb := Lib.hid (own_keep HO2.out hb)
    have HBb := Lib.hid (bstep HB2.out hb)
    have hsb := HBb.out.size
    have HRb := Lib.hid (show Rd wb 1 vb 8 ((be k 8).map byteV) by have := hown.rd; unfold RdB RdL at this; rw [be_length] at this; exact this)
    clear hown hb HO2 HB2
    go_wp2_with (at_builtin; go_must (refine wpList_app (n := 8) (m := 8) rfl (.tmp 23) (.tmp 26) 23 rfl elemB w1.heap.size rfl HOb.out rfl HRb.out (bytes_one _) (by decide) (by decide) hsb ?_); intro v3 w3 hown3 hgr3 hv3; clear hv3; rw [← List.map_append] at hown3; have HO3 := Lib.hid hown3; have HB3 := Lib.hid (own_below HBb.out HOb.out hsb hgr3); obtain ⟨y0, y1, y2, y3⟩ := HC.out _ HB3.out; clear hown3 hgr3 HOb HBb hsb HRb; generalize H2 ++ be k 8 = H3 at *)
    clear y0 y1 y2 y3
    refine (HN3.out _).mono ?_; rintro e wb ⟨vb, rfl, hown, hb⟩
    have HOb := Lib.hid (own_keep HO3.out hb)
    have HBb := Lib.hid (bstep HB3.out hb)
    have hsb := HBb.out.size
    have HRb := Lib.hid (show Rd wb 1 vb 4 ((be n 4).map byteV) by have := hown.rd; unfold RdB RdL at this; rw [be_length] at this; exact this)
    clear hown hb HO3 HB3
    go_wp2_with (first | (at_builtin; refine wpList_app (n := 16) (m := 4) rfl (.tmp 28) (.tmp 33) 23 rfl elemB w1.heap.size rfl HOb.out rfl HRb.out (bytes_one _) (by decide) (by decide) hsb ?_; intro v4 w4 hown4 hgr4 hv4; clear hv4; rw [← List.map_append] at hown4; have HO4 := Lib.hid hown4; have HB4 := Lib.hid (own_below HBb.out HOb.out hsb hgr4); have hs4 := HB4.out.size; obtain ⟨y0, y1, y2, y3⟩ := HC.out _ HB4.out; clear hown4 hgr4 HOb HBb hsb HRb; generalize H3 ++ be n 4 = H4 at *; have HR4 := Lib.hid (show Rd w4 1 (.slice a n cap) n (l.map byteV) by have := RdL.below Hw0.out (HB1.out.trans (HB4.out.mono (by omega))); unfold RdB RdL at this; rw [HL.out] at this; exact this); ) | (at_builtin; refine wpList_app (n := 20) (m := n) rfl (.tmp 35) (.tmp 37) 23 rfl elemB w1.heap.size rfl HO4.out (by rfl) HR4.out (bytes_one _) (by unfold maxLen; omega) (by omega) hs4 ?_; intro v5 w5 hown5 hgr5 hv5; clear hv5; clear y0 y1 y2 y3; rw [← List.map_append] at hown5; have HO5 := Lib.hid hown5; have HB5 := Lib.hid (own_below HB4.out HO4.out hs4 hgr5); have hs5 := HB5.out.size; clear hown5 hgr5 HO4 HB4 hs4 HR4; generalize H4 ++ l = H5 at *))
    refine (rcheck_any v5 H5 w5 (own_rdl HO5.out)).mono ?_; rintro e wb ⟨vb, rfl, hown, hb⟩
    have HOb := Lib.hid (own_keep HO5.out hb)
    have HBb := Lib.hid (bstep HB5.out hb)
    have hsb := HBb.out.size
    have HRb := Lib.hid (show Rd wb 1 vb 4 ((ck H5).map byteV) from hown.rd)
    clear hown hb HO5 HB5
    go_wp2_with (at_builtin; go_must (refine wpList_app (n := 20 + n) (m := 4) rfl (.tmp 39) (.tmp 41) 23 rfl elemB w1.heap.size rfl HOb.out rfl HRb.out (bytes_one _) (by unfold maxLen; omega) (by omega) hsb ?_); intro v6 w6 hown6 hgr6 hv6; clear hv6; rw [← List.map_append] at hown6; have HO6 := Lib.hid hown6; have HB6 := Lib.hid (own_below HBb.out HOb.out hsb hgr6); clear hown6 hgr6 HOb HBb hsb HRb hs5; generalize H5 ++ ck H5 = H6 at *; generalize nsz n = S at *)
    go_loopw [4] (fun ov W => ∃ m : Nat, 24 + n ≤ m ∧ m ≤ S ∧ Hid (W.ownsRow w1.heap.size 5 1 ov m ((H6 ++ zeros (m - (24 + n))).map byteV)) ∧ Hid (Below w1.heap.size w1 W)) (fun ov _ => S - slen ov)
    case atStart => exact ⟨24 + n, Nat.le_refl _, by omega, Lib.hid (by rw [Nat.sub_self, show 24 + n = 20 + n + 4 by omega]; simpa [zeros] using HO6.out), HB6⟩
    case round =>
      obtain ⟨m, hm1, hm2, HO, HB⟩ := hrel
      obtain ⟨oa, oc, hv, _⟩ := own_form HO.out
      subst hv
      obtain ⟨y0, y1, y2, y3⟩ := HC.out _ HB.out
      have hsw := HB.out.size
      go_wp2_with fail
      refine (HSz.out _).mono ?_; rintro e wx ⟨rfl, rfl⟩
      clear y0 y1 y2 y3
      by_cases hlt : m < S
      · have q1 : decide (m < S) = true := decide_eq_true hlt
        go_wp2_with (at_builtin; go_must (refine wpList_app (n := m) (m := 1) rfl (.tmp 50) (.tmp 51) 23 rfl elemB w1.heap.size rfl (own_keep HO.out ((Below.refl _ _).alloc (Nat.le_refl _) _)) rfl (rd_byte _ 0 5) (bytes_one _) (by unfold maxLen; omega) (by omega) (by simp; omega) ?_); intro v7 w7 hown7 hgr7 hv7; clear hv7)
        have HG := Lib.hid (own_below (bstep HB.out ((Below.refl _ _).alloc (Nat.le_refl _) (.cells #[.int .u8 0] 5))) (own_keep HO.out ((Below.refl _ _).alloc (Nat.le_refl _) _)) (by simp; omega) hgr7)
        have HO7 := Lib.hid (show w7.ownsRow w1.heap.size 5 1 v7 (m + 1) ((H6 ++ zeros (m + 1 - (24 + n))).map byteV) by
          rw [show m + 1 - (24 + n) = (m - (24 + n)) + 1 by omega, show zeros ((m - (24 + n)) + 1) = zeros (m - (24 + n)) ++ [0] from List.replicate_succ', ← List.append_assoc, List.map_append]
          exact hown7)
        obtain ⟨oa7, oc7, hv7, _⟩ := own_form HO7.out
        subst hv7
        clear hown7 hgr7
        go_wp2_with fail
        exact ⟨⟨m + 1, by omega, by omega, HO7, HG⟩, by simp [slen]; omega⟩
      · obtain rfl : m = S := by omega
        have q1 : decide (m < m) = false := decide_eq_false hlt
        have HF := Lib.hid (Go.Joins.ownsRow_le HO.out (show w.heap.size ≤ w1.heap.size by omega))
        have HG := Lib.hid (HB1.out.trans (HB.out.mono (by omega)))
        go_wp2_with fail
        go_ret2
        exact ⟨_, rfl, by rw [HEn.out]; exact ownB_of HF.out rfl, HG.out⟩
  · have HEn := Lib.hid (show nenc ⟨k, c, true, l⟩ = (([78, 165, 1, 0] ++ be c 4 ++ be k 8 ++ be n 4) ++ l ++ ck (([78, 165, 1, 0] ++ be c 4 ++ be k 8 ++ be n 4) ++ l)) ++ zeros (nsz n - (24 + n)) from HEn.out)
    go_enter Try.func28, Try.ntmps28
    go_wp2_with fail
    refine (HV.out _).mono ?_; rintro e w1 ⟨rfl, hb1⟩
    have hz1 : w.heap.size + 1 ≤ w1.heap.size := Nat.le_trans (by simp) hb1.size
    have HC := Lib.hid (fun w' (h : Below w1.heap.size w1 w') => show w'.cell? ⟨w.heap.size, 0, none⟩ = some (.int .u64 (k : Int)) ∧ w'.cell? ⟨w.heap.size, 1, none⟩ = some (.int .u32 (c : Int)) ∧ w'.cell? ⟨w.heap.size, 2, none⟩ = some (.bool true) ∧ w'.cell? ⟨w.heap.size, 3, none⟩ = some (.slice a n cap) from
      ⟨Below.keeps h _ _ (Below.keeps hb1 _ _ (by simp)), Below.keeps h _ _ (Below.keeps hb1 _ _ (by simp)), Below.keeps h _ _ (Below.keeps hb1 _ _ (by simp)), Below.keeps h _ _ (Below.keeps hb1 _ _ (by simp))⟩)
    have HB1 := Lib.hid (bstep HB0.out hb1)
    have HBa := Lib.hid (show Below w1.heap.size w1 (w1.alloc (.cells #[.int .u8 78, .int .u8 165, .int .u8 1, .int .u8 0] 5)) from (Below.refl _ _).alloc (Nat.le_refl _) _)
    have HOa := Lib.hid (head_own1 w1)
    obtain ⟨x0, x1, x2, x3⟩ := HC.out _ ((Below.refl w1.heap.size w1).alloc (Nat.le_refl _) (.cells #[.int .u8 78, .int .u8 165, .int .u8 0, .int .u8 0] 5))
    obtain ⟨y0, y1, y2, y3⟩ := HC.out _ HBa.out
    clear hb1 HV HB0
    go_wp2_with fail
    clear x0 x1 x2 x3 y0 y1 y2 y3
    generalize w1.alloc (.cells #[.int .u8 78, .int .u8 165, .int .u8 1, .int .u8 0] 5) = wa at *
    generalize hH : ([78, 165, 1, 0] : List UInt8) = H at *
    have hHl : H.length = 4 := by rw [← hH]; rfl
    clear hH
    have HOa := Lib.hid (show wa.ownsRow w1.heap.size 5 1 (.slice (some ⟨w1.heap.size, 0, none⟩) 4 4) 4 (H.map byteV) by have := HOa.out; unfold OwnB at this; rw [hHl] at this; exact this)
    clear hHl
    refine (HN1.out _).mono ?_; rintro e wb ⟨vb, rfl, hown, hb⟩
    have HOb := Lib.hid (own_keep HOa.out hb)
    have HBb := Lib.hid (bstep HBa.out hb)
    have hsb := HBb.out.size
    have HRb := Lib.hid (show Rd wb 1 vb 4 ((be c 4).map byteV) by have := hown.rd; unfold RdB RdL at this; rw [be_length] at this; exact this)
    clear hown hb HOa HBa
    go_wp2_with (at_builtin; go_must (refine wpList_app (n := 4) (m := 4) rfl (.tmp 17) (.tmp 21) 23 rfl elemB w1.heap.size rfl HOb.out rfl HRb.out (bytes_one _) (by decide) (by decide) hsb ?_); intro v2 w2 hown2 hgr2 hv2; clear hv2; rw [← List.map_append] at hown2; have HO2 := Lib.hid hown2; have HB2 := Lib.hid (own_below HBb.out HOb.out hsb hgr2); obtain ⟨y0, y1, y2, y3⟩ := HC.out _ HB2.out; clear hown2 hgr2 HOb HBb hsb HRb; generalize H ++ be c 4 = H2 at *)
    clear y0 y1 y2 y3
    refine (HN2.out _).mono ?_; rintro e wb ⟨vb, rfl, hown, hb⟩
    have HOb := Lib.hid (own_keep HO2.out hb)
    have HBb := Lib.hid (bstep HB2.out hb)
    have hsb := HBb.out.size
    have HRb := Lib.hid (show Rd wb 1 vb 8 ((be k 8).map byteV) by have := hown.rd; unfold RdB RdL at this; rw [be_length] at this; exact this)
    clear hown hb HO2 HB2
    go_wp2_with (at_builtin; go_must (refine wpList_app (n := 8) (m := 8) rfl (.tmp 23) (.tmp 26) 23 rfl elemB w1.heap.size rfl HOb.out rfl HRb.out (bytes_one _) (by decide) (by decide) hsb ?_); intro v3 w3 hown3 hgr3 hv3; clear hv3; rw [← List.map_append] at hown3; have HO3 := Lib.hid hown3; have HB3 := Lib.hid (own_below HBb.out HOb.out hsb hgr3); obtain ⟨y0, y1, y2, y3⟩ := HC.out _ HB3.out; clear hown3 hgr3 HOb HBb hsb HRb; generalize H2 ++ be k 8 = H3 at *)
    clear y0 y1 y2 y3
    refine (HN3.out _).mono ?_; rintro e wb ⟨vb, rfl, hown, hb⟩
    have HOb := Lib.hid (own_keep HO3.out hb)
    have HBb := Lib.hid (bstep HB3.out hb)
    have hsb := HBb.out.size
    have HRb := Lib.hid (show Rd wb 1 vb 4 ((be n 4).map byteV) by have := hown.rd; unfold RdB RdL at this; rw [be_length] at this; exact this)
    clear hown hb HO3 HB3
    go_wp2_with (first | (at_builtin; refine wpList_app (n := 16) (m := 4) rfl (.tmp 28) (.tmp 33) 23 rfl elemB w1.heap.size rfl HOb.out rfl HRb.out (bytes_one _) (by decide) (by decide) hsb ?_; intro v4 w4 hown4 hgr4 hv4; clear hv4; rw [← List.map_append] at hown4; have HO4 := Lib.hid hown4; have HB4 := Lib.hid (own_below HBb.out HOb.out hsb hgr4); have hs4 := HB4.out.size; obtain ⟨y0, y1, y2, y3⟩ := HC.out _ HB4.out; clear hown4 hgr4 HOb HBb hsb HRb; generalize H3 ++ be n 4 = H4 at *; have HR4 := Lib.hid (show Rd w4 1 (.slice a n cap) n (l.map byteV) by have := RdL.below Hw0.out (HB1.out.trans (HB4.out.mono (by omega))); unfold RdB RdL at this; rw [HL.out] at this; exact this); ) | (at_builtin; refine wpList_app (n := 20) (m := n) rfl (.tmp 35) (.tmp 37) 23 rfl elemB w1.heap.size rfl HO4.out (by rfl) HR4.out (bytes_one _) (by unfold maxLen; omega) (by omega) hs4 ?_; intro v5 w5 hown5 hgr5 hv5; clear hv5; clear y0 y1 y2 y3; rw [← List.map_append] at hown5; have HO5 := Lib.hid hown5; have HB5 := Lib.hid (own_below HB4.out HO4.out hs4 hgr5); have hs5 := HB5.out.size; clear hown5 hgr5 HO4 HB4 hs4 HR4; generalize H4 ++ l = H5 at *))
    refine (rcheck_any v5 H5 w5 (own_rdl HO5.out)).mono ?_; rintro e wb ⟨vb, rfl, hown, hb⟩
    have HOb := Lib.hid (own_keep HO5.out hb)
    have HBb := Lib.hid (bstep HB5.out hb)
    have hsb := HBb.out.size
    have HRb := Lib.hid (show Rd wb 1 vb 4 ((ck H5).map byteV) from hown.rd)
    clear hown hb HO5 HB5
    go_wp2_with (at_builtin; go_must (refine wpList_app (n := 20 + n) (m := 4) rfl (.tmp 39) (.tmp 41) 23 rfl elemB w1.heap.size rfl HOb.out rfl HRb.out (bytes_one _) (by unfold maxLen; omega) (by omega) hsb ?_); intro v6 w6 hown6 hgr6 hv6; clear hv6; rw [← List.map_append] at hown6; have HO6 := Lib.hid hown6; have HB6 := Lib.hid (own_below HBb.out HOb.out hsb hgr6); clear hown6 hgr6 HOb HBb hsb HRb hs5; generalize H5 ++ ck H5 = H6 at *; generalize nsz n = S at *)
    go_loopw [4] (fun ov W => ∃ m : Nat, 24 + n ≤ m ∧ m ≤ S ∧ Hid (W.ownsRow w1.heap.size 5 1 ov m ((H6 ++ zeros (m - (24 + n))).map byteV)) ∧ Hid (Below w1.heap.size w1 W)) (fun ov _ => S - slen ov)
    case atStart => exact ⟨24 + n, Nat.le_refl _, by omega, Lib.hid (by rw [Nat.sub_self, show 24 + n = 20 + n + 4 by omega]; simpa [zeros] using HO6.out), HB6⟩
    case round =>
      obtain ⟨m, hm1, hm2, HO, HB⟩ := hrel
      obtain ⟨oa, oc, hv, _⟩ := own_form HO.out
      subst hv
      obtain ⟨y0, y1, y2, y3⟩ := HC.out _ HB.out
      have hsw := HB.out.size
      go_wp2_with fail
      refine (HSz.out _).mono ?_; rintro e wx ⟨rfl, rfl⟩
      clear y0 y1 y2 y3
      by_cases hlt : m < S
      · have q1 : decide (m < S) = true := decide_eq_true hlt
        go_wp2_with (at_builtin; go_must (refine wpList_app (n := m) (m := 1) rfl (.tmp 50) (.tmp 51) 23 rfl elemB w1.heap.size rfl (own_keep HO.out ((Below.refl _ _).alloc (Nat.le_refl _) _)) rfl (rd_byte _ 0 5) (bytes_one _) (by unfold maxLen; omega) (by omega) (by simp; omega) ?_); intro v7 w7 hown7 hgr7 hv7; clear hv7)
        have HG := Lib.hid (own_below (bstep HB.out ((Below.refl _ _).alloc (Nat.le_refl _) (.cells #[.int .u8 0] 5))) (own_keep HO.out ((Below.refl _ _).alloc (Nat.le_refl _) _)) (by simp; omega) hgr7)
        have HO7 := Lib.hid (show w7.ownsRow w1.heap.size 5 1 v7 (m + 1) ((H6 ++ zeros (m + 1 - (24 + n))).map byteV) by
          rw [show m + 1 - (24 + n) = (m - (24 + n)) + 1 by omega, show zeros ((m - (24 + n)) + 1) = zeros (m - (24 + n)) ++ [0] from List.replicate_succ', ← List.append_assoc, List.map_append]
          exact hown7)
        obtain ⟨oa7, oc7, hv7, _⟩ := own_form HO7.out
        subst hv7
        clear hown7 hgr7
        go_wp2_with fail
        exact ⟨⟨m + 1, by omega, by omega, HO7, HG⟩, by simp [slen]; omega⟩
      · obtain rfl : m = S := by omega
        have q1 : decide (m < m) = false := decide_eq_false hlt
        have HF := Lib.hid (Go.Joins.ownsRow_le HO.out (show w.heap.size ≤ w1.heap.size by omega))
        have HG := Lib.hid (HB1.out.trans (HB.out.mono (by omega)))
        go_wp2_with fail
        go_ret2
        exact ⟨_, rfl, by rw [HEn.out]; exact ownB_of HF.out rfl, HG.out⟩
end Go.Proofs.Ytecflhklpkjhcaa
