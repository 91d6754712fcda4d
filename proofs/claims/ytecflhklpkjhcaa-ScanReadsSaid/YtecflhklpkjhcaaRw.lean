/- ScanReads: the walk. -/
import Derived.Test.YtecflhklpkjhcaaOw
namespace Go.Proofs.Ytecflhklpkjhcaa
open Go.RowKit

theorem recsOf_at : ∀ (K : List Nd) (p i : Nat), i < K.length → (recsOf p K)[i]? = some ⟨p + nsum (K.take i), K.getD i nd0⟩
  | [], _, _, h => by simp at h
  | x :: K, p, 0, _ => by simp [recsOf, nsum]
  | x :: K, p, i + 1, h => by
    have ih := recsOf_at K (p + nsz x.data.length) i (by simpa using h)
    show (recsOf (p + nsz x.data.length) K)[i]? = _
    rw [ih, List.take_succ_cons, nsum_cons]
    simp [Int.add_assoc]
theorem endsF_length (K : List Nd) : (endsF K).length = K.length := by simp [endsF]
theorem endsF_at (K : List Nd) (i : Nat) (h : i < K.length) : (endsF K)[i]? = some ((16 + nsum (K.take (i + 1)) : Nat) : Int) := by
  simp [endsF, h]
theorem take_snoc' {K : List Nd} {i : Nat} (h : i < K.length) : K.take (i + 1) = K.take i ++ [K.getD i nd0] := by
  rw [List.take_add_one, List.getElem?_eq_getElem h, List.getD_eq_getElem?_getD, List.getElem?_eq_getElem h]; rfl
theorem rd_cell {w : World} {a : Option Addr} {n cap : Nat} {cs : List Value} (h : Rd w 1 (.slice a n cap) n cs) {i : Nat} {u : Value} (hi : cs[i]? = some u) : ∃ b off, a = some ⟨b, off, none⟩ ∧ w.cell? ⟨b, off + i, none⟩ = some u := by
  obtain ⟨_, a', cap', e, _, _, _, hc⟩ := h
  injection e with e1
  obtain ⟨b, off, e2, hc⟩ := hc (by have := (List.getElem?_eq_some_iff.1 hi).1; omega)
  exact ⟨b, off, e1.trans e2, hc i u hi⟩
theorem made0 (B k : Nat) (w : World) (hk : w.heap.size = k) (hB : B ≤ k) : (w.alloc (.cells #[] 5)).ownsRow B 5 1 (.slice (some ⟨k, 0, none⟩) 0 0) 0 [] := by
  subst hk; exact World.ownsRow_made (size := 1) w #[] 0 hB (by decide) rfl
/-- The needles that small leaves, for reading. -/
theorem sm_rd {w w' : World} {lv : Value} {es : List (Nd × Value)} (h : w'.ownsRow w.heap.size 31 4 lv es.length (needsC es)) (hd : ∀ p ∈ es, RdB w p.2 p.1.data) (hb : Below w.heap.size w w') : RdN w' lv es :=
  ⟨own_rd h, fun p hp => RdL.below (hd p hp) hb⟩
theorem sm_ok {es : List (Nd × Value)} {N : List Nd} (h : es.map (·.1) = smallF N) (hN : ∀ x ∈ N, x.Wf) : ∀ p ∈ es, p.1.ok ∧ p.1.Wf := fun p hp => by
  have : p.1 ∈ smallF N := by rw [← h]; exact List.mem_map.2 ⟨p, hp, rfl⟩
  obtain ⟨x, hx, e⟩ := List.mem_map.1 this
  rw [← e]
  exact ⟨sm1_ok x, sm1_wf (hN x (List.mem_of_mem_take hx))⟩
theorem sm_len {es : List (Nd × Value)} {N : List Nd} (h : es.map (·.1) = smallF N) : es.length ≤ 12 := by
  have := congrArg List.length h
  rw [List.length_map] at this
  rw [this]; unfold smallF; rw [List.length_map, List.length_take]; omega
set_option maxRecDepth 100000 in
set_option maxHeartbeats 2000000 in
theorem reads_walk (v tv : Value) (ns : List (Nd × Value)) (tl : List UInt8) (w : World) (h : RdN w v ns) (hwf : ∀ p ∈ ns, p.1.Wf) (ht : RdB w tv tl) :
    Calls Try.prog 3 #[v, tv] w fun e w' => e = .returned (.bool true) ∧ Below w.heap.size w w' := by
  have HSm := Lib.hid (small_any v ns w h hwf)
  have HN := Lib.hid (show ∀ x ∈ ns.map (·.1), x.Wf from fun x hx => by obtain ⟨p, hp, rfl⟩ := List.mem_map.1 hx; exact hwf p hp)
  have HT := Lib.hid ht
  obtain ⟨ta, tc, rfl, ht1, ht2⟩ := ht.shape0
  have ht3 := lt63 ht1 ht2
  generalize ns.map (·.1) = N at *
  clear h hwf ht
  go_enter Try.func3, Try.ntmps3
  go_wp2_with fail
  refine HSm.out.mono ?_; rintro e w1 ⟨kv, es, rfl, hown1, hes, hdat, hb1⟩
  have HFl := Lib.hid (file_any kv es w1 (sm_rd hown1 hdat hb1) (sm_ok hes HN.out) (sm_len hes))
  have HOk := Lib.hid (show ∀ x ∈ es.map (·.1), x.ok ∧ x.Wf from fun x hx => by obtain ⟨p, hp, rfl⟩ := List.mem_map.1 hx; exact sm_ok hes HN.out p hp)
  have hl12 := sm_len hes
  have HRk := Lib.hid (sm_rd hown1 hdat hb1)
  obtain ⟨ka, kc, hkv, _⟩ := own_form hown1
  subst hkv
  have HB1 := Lib.hid hb1
  clear hown1 hes hdat hb1 HSm HN
  generalize hK : es.map (·.1) = K at *
  have HK := Lib.hid hK
  clear hK
  go_wp2_with fail
  refine HFl.out.mono ?_; rintro e w2 ⟨bv, nv, rfl, hownb, hownn, hb2⟩
  have hfl := Lib.hid (fileB_length K)
  have hle := nsum_le (k := K) (fun x hx => (HOk.out x hx).1)
  have hKl : K.length ≤ 12 := by have := congrArg List.length HK.out; rw [List.length_map] at this; omega
  have hlb : (fileB K).length ≤ 60000 := by rw [fileB_length]; omega
  have hel := Lib.hid (show es.length = K.length by have := congrArg List.length HK.out; rw [List.length_map] at this; exact this)
  obtain ⟨ba, bc, hbv, _⟩ := own_form hownb
  obtain ⟨na, nc, hnv, _⟩ := own_form hownn
  subst hbv hnv
  have HRb := Lib.hid (show RdB w2 (.slice ba (fileB K).length bc) (fileB K) from hownb.rd)
  have HRn := Lib.hid (own_rd hownn)
  have HB2 := Lib.hid (bstep HB1.out hb2)
  have HRk2 := Lib.hid (HRk.out.below hb2)
  clear hownb hownn hb2 HFl HRk
  have HDt := Lib.hid (ndecode_any _ tl w2 (RdL.below HT.out HB2.out) ht3)
  go_wp2_with fail
  refine HDt.out.mono ?_; rintro e w3 ⟨⟨dv, rfl, hownd⟩, hb3⟩
  obtain ⟨da, dc, hdv, _⟩ := own_form hownd
  subst hdv
  have HB23 := Lib.hid hb3
  have HDr := Lib.hid (show (ndec tl).1 ≠ 0 → (ndec tl).1 ≠ 0 from id)
  clear hownd hb3 HDt
  by_cases hr : (ndec tl).1 = 0
  · have q1 : ((ndec tl).1 == 0) = true := beq_iff_eq.2 hr
    clear HDr hr
    generalize ndec tl = D at *
    obtain ⟨r, x, m⟩ := D
    dsimp only at q1
    go_wp2_with fail
    refine (awake_any _).mono ?_; rintro e w4 ⟨rfl, hb4⟩
    have HX := Lib.hid (bstep ((bstep HB2.out HB23.out).alloc (bstep HB2.out HB23.out).size (.cells #[.int .u64 (x.key : Int), .int .u32 (x.ck : Int), .bool x.del, .slice da x.data.length dc] 31)) hb4)
    clear hb4
    go_wp2_with fail
    go_ret
    exact ⟨rfl, HX.out⟩
  · have q1 : ((ndec tl).1 == 0) = false := beq_eq_false_iff_ne.2 hr
    have HOpen := Lib.hid (fun V W (hV : RdB W V (fileB K ++ tl)) (hs : (fileB K ++ tl).length ≤ 1000000) => open_any V (fileB K ++ tl) W hV hs)
    rw [open_file K tl HOk.out hr] at HOpen
    clear HDr hr
    generalize ndec tl = D at *
    obtain ⟨r, x, m⟩ := D
    dsimp only at q1
    by_cases h500 : 500 < tl.length
    · have q2 : decide ((500 : Int) < (tl.length : Int)) = true := by simp; omega
      go_wp2_with fail
      refine (awake_any _).mono ?_; rintro e w4 ⟨rfl, hb4⟩
      have HX := Lib.hid (bstep ((bstep HB2.out HB23.out).alloc (bstep HB2.out HB23.out).size (.cells #[.int .u64 (x.key : Int), .int .u32 (x.ck : Int), .bool x.del, .slice da x.data.length dc] 31)) hb4)
      clear hb4
      go_wp2_with fail
      go_ret
      exact ⟨rfl, HX.out⟩
    · have q2 : decide ((500 : Int) < (tl.length : Int)) = false := by simp; omega
      have HB3 := Lib.hid (bstep HB2.out HB23.out)
      have HAl := Lib.hid (show Below w3.heap.size w3 ((w3.alloc (.cells #[.int .u64 (x.key : Int), .int .u32 (x.ck : Int), .bool x.del, .slice da x.data.length dc] 31)).alloc (.cells #[] 5)) from ((Below.refl _ _).alloc (Nat.le_refl _) _).alloc (by simp) _)
      have HM0 := Lib.hid (made0 w3.heap.size (w3.heap.size + 1) (w3.alloc (.cells #[.int .u64 (x.key : Int), .int .u32 (x.ck : Int), .bool x.del, .slice da x.data.length dc] 31)) (by simp) (Nat.le_succ _))
      have HRb3 := Lib.hid (show Rd _ 1 (.slice ba (fileB K).length bc) (fileB K).length ((fileB K).map byteV) from RdL.below (HRb.out.below HB23.out) HAl.out)
      have hs0 := HAl.out.size
      go_wp2_with (first | (at_builtin; refine wpList_app (n := 0) (m := (fileB K).length) rfl (.tmp 38) (.tmp 39) 23 rfl elemB w3.heap.size rfl HM0.out rfl HRb3.out (bytes_one _) (by unfold maxLen; omega) (by omega) hs0 ?_; intro v4 w4 hown4 hgr4 hv4; clear hv4; have HO4 := Lib.hid (show OwnB w4 w3.heap.size v4 (fileB K) from ownB_of hown4 (List.nil_append _)); have HB4 := Lib.hid (own_below HAl.out HM0.out hs0 hgr4); have hs4 := HB4.out.size; have HR4 := Lib.hid (show Rd w4 1 (.slice ta tl.length tc) tl.length (tl.map byteV) from RdL.below HT.out (bstep HB3.out HB4.out)); clear hown4 hgr4) | (at_builtin; refine wpList_app (n := (fileB K).length) (m := tl.length) rfl (.tmp 40) (.tmp 41) 23 rfl elemB w3.heap.size rfl HO4.out rfl HR4.out (bytes_one _) (by unfold maxLen; omega) (by omega) hs4 ?_; intro v5 w5 hown5 hgr5 hv5; clear hv5; have HO5 := Lib.hid (show OwnB w5 w3.heap.size v5 (fileB K ++ tl) from ownB_of hown5 (List.map_append ..).symm); have HB5 := Lib.hid (own_below HB4.out HO4.out hs4 hgr5); clear hown5 hgr5))
      refine (HOpen.out v5 w5 HO5.out.rd (by rw [List.length_append]; omega)).mono ?_; rintro e w6 ⟨⟨lv, rs, rfl, hown6, hrs⟩, hb6⟩
      have HB6 := Lib.hid (bstep HB3.out (bstep HB5.out hb6))
      have HC6 := Lib.hid (bstep (bstep HB23.out HB5.out) hb6)
      have hrl : rs.length = K.length := by have := congrArg List.length hrs; rw [List.length_map] at this; rw [this]; exact recsOf_length K 16
      obtain ⟨la, lc, hlv, _⟩ := own_form hown6.row
      subst hlv
      have HRr := Lib.hid hown6.rd
      have HRs := Lib.hid hrs
      clear hown6 hrs hb6 HAl HM0 HRb3 HO4 HB4 HR4 HO5 HB5 HOpen hs0 hs4
      have HK6 := Lib.hid (HRk2.out.below HC6.out)
      have HN6 := Lib.hid (show Rd w6 1 (.slice na es.length nc) es.length ((endsF K).map intV) from Rd.below HRn.out HC6.out)
      have hKn := hel.out
      generalize hA : rs.length = n at *
      generalize hE : es.length = n' at *
      obtain rfl : n' = n := by omega
      have hfl' := hfl.out
      generalize hFL : (fileB K).length = lb at *
      rw [← hfl']
      have HKn := Lib.hid hKn
      have HLb := Lib.hid hfl'
      clear hKn hA hE hfl' hFL hfl hrl hel HRk2 HRn HRb hle
      have hn12 : n' ≤ 12 := hl12
      have q3 : ((lb : Int) != (lb : Int)) = false := by simp
      have q4 : ((n' : Int) != (n' : Int)) = false := by simp
      clear hKl
      go_wp2_with fail
      have HB7 := Lib.hid (show Below w6.heap.size w6 (w6.alloc (.cells #[.int .i64 (fsup.slot : Int), .int .i64 (fsup.gen : Int), .int .i64 (fsup.rev : Int)] 37)) from (Below.refl _ _).alloc (Nat.le_refl _) _)
      go_loopw [65] (fun iv W => ∃ i : Nat, iv = .int .i64 (i : Int) ∧ i ≤ n' ∧ Hid (Below w6.heap.size w6 W)) (fun iv _ => n' - (intOf iv).toNat)
      case atStart => exact ⟨0, rfl, Nat.zero_le _, HB7⟩
      case round =>
        obtain ⟨i, rfl, hi, HB⟩ := hrel
        by_cases hin : i < n'
        · have hiK : i < K.length := by have := HKn.out; omega
          obtain ⟨b1, o1, hla, hd1, c0, c1, c2, c3, c4⟩ := (HRr.out.below HB.out).at hin
          obtain ⟨b2, o2, hka, hd2, d0, d1, d2, d3⟩ := (HK6.out.below HB.out).at hin
          obtain ⟨b3, o3, hna, e0⟩ := rd_cell (Rd.below HN6.out HB.out) (i := i) (u := .int .i64 ((16 + nsum (K.take (i + 1)) : Nat) : Int)) (by rw [List.getElem?_map, endsF_at K i hiK]; rfl)
          subst hla hka hna
          have hx1 : (rat rs i).1 = ⟨((16 : Nat) : Int) + (nsum (K.take i) : Int), K.getD i nd0⟩ := by
            have hri : i < rs.length := by have := congrArg List.length HRs.out; rw [List.length_map, recsOf_length] at this; omega
            have := recsOf_at K 16 i hiK
            rw [← HRs.out, List.getElem?_map, List.getElem?_eq_getElem hri] at this
            unfold rat
            rw [List.getD_eq_getElem?_getD, List.getElem?_eq_getElem hri]
            simpa using this
          have hx2 : (nat' es i).1 = K.getD i nd0 := by
            have hei : i < es.length := by have := congrArg List.length HK.out; rw [List.length_map] at this; omega
            unfold nat'
            rw [← HK.out, List.getD_eq_getElem?_getD, List.getD_eq_getElem?_getD, List.getElem?_map, List.getElem?_eq_getElem hei]; rfl
          have hnx : nsum (K.take (i + 1)) = nsum (K.take i) + nsz (K.getD i nd0).data.length := by rw [take_snoc' hiK, nsum_snoc]
          have hox := (HOk.out (K.getD i nd0) (by rw [List.getD_eq_getElem?_getD, List.getElem?_eq_getElem hiK]; exact List.getElem_mem hiK)).1.1
          have hnb : 16 + nsum (K.take (i + 1)) ≤ 100000 := by
            have := nsum_le (k := K.take (i + 1)) (fun x hx => (HOk.out x (List.mem_of_mem_take hx)).1)
            rw [List.length_take] at this
            omega
          rw [hx1] at hd1 c0 c1 c2 c3
          rw [hx2] at hd2 d0 d1 d2
          dsimp only at hd1 c0 c1 c2 c3
          generalize (rat rs i).2 = v1 at *
          generalize (nat' es i).2 = v2 at *
          clear hx1 hx2
          generalize K.getD i nd0 = X at *
          rw [hnx] at e0 hnb
          rw [← Int.natCast_add] at c0
          rw [← Nat.add_assoc] at e0 hnb
          generalize 16 + nsum (K.take i) = o at *
          have HSame := Lib.hid (fun u : BelowBy wr => (rnsame_any X X v1 v2 u.w' (RdL.below hd1 u.h) (RdL.below hd2 u.h)))
          rw [show decide (X = X) = true from decide_eq_true rfl] at HSame
          have HSz := Lib.hid (fun u : BelowBy wr => (nsize_any X.data.length u.w' (by omega)).mono fun e w' (h : _ ∧ _) => (⟨h.1, h.2 ▸ Below.refl _ _⟩ : e = .returned (.int .i64 ((szN X.data.length : Nat) : Int)) ∧ Below u.w'.heap.size u.w' w'))
          rw [szN_of hox] at HSz
          obtain ⟨a1, k1, hv1, _, _⟩ := hd1.shape0
          obtain ⟨a2, k2, hv2, _, _⟩ := hd2.shape0
          subst hv1 hv2
          obtain ⟨xk, xc, xd, xl⟩ := X
          dsimp only at *
          generalize hxl : xl.length = l at *
          clear hd1 hd2 hnx hxl
          generalize nsz l = s at *
          have c0 := cell_by c0
          have c1 := cell_by c1
          have c2 := cell_by c2
          have c3 := cell_by c3
          have c4 := cell_by c4
          have d0 := cell_by d0
          have d1 := cell_by d1
          have d2 := cell_by d2
          have d3 := cell_by d3
          have j5 : IntKind.i64.wrap ((o : Int) + (s : Int)) = ((o + s : Nat) : Int) := (IntWalk.i64_in _ (by omega)).trans (by omega)
          generalize hos : o + s = e at *
          have e0 := cell_by e0
          have q5 : ((e : Int) != (e : Int)) = false := by simp
          have i1 : (i : Int) < (n' : Int) := by omega
          clear hos
          go_wp2_with fail
          refine wp_region_below (by kernel_rfl) (by kernel_rfl) ?_
          repeat (go_big_quiet_step ((first | exact calls_by (HSame.out _) | exact calls_by (HSz.out _))))
          refine wpQuiet_nil ?_
          intro _ hw'
          obtain ⟨u, hw'⟩ := hw'
          subst hw'
          have HBu := Lib.hid (bstep HB.out u.h)
          clear c0 c1 c2 c3 c4 d0 d1 d2 d3 e0
          go_wp2_with fail
          exact ⟨⟨i + 1, by go_num, by omega, HBu⟩, by simp [intOf]; omega⟩
        · obtain rfl : i = n' := by omega
          go_wp2_with fail
          refine (awake_any _).mono ?_; rintro e w9 ⟨rfl, hb9⟩
          have HX := Lib.hid (bstep (bstep HB6.out HB.out) hb9)
          clear hb9
          go_wp2_with fail
          go_ret
          exact ⟨rfl, HX.out⟩
end Go.Proofs.Ytecflhklpkjhcaa
