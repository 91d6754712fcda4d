/- Several texts in one, each over the last: ScanReads: the walk. A file of which bytes are missing, in plain Lean. ScanTorn: the walk (under way). What is known of a slice of needles that came in; ScanReads, from what the form gives. ScanTorn, from what the form gives of its arguments. -/
import Derived.Test.YtecflhklpkjhcaaOw
import Derived.Test.YtecflhklpkjhcaaOp
import Derived.Deep.Slices
import Derived.Deep.SlicePairs
import Derived.ChangeArms
namespace Go.Proofs.Ytecflhklpkjhcaa
open Go.RowKit

theorem recsOf_at : ∀ (K : List Nd) (p i : Nat), i < K.length → (recsOf p K)[i]? = some ⟨p + nsum (K.take i), K.getD i nd0⟩
  | [], _, _, h => by simp at h
  | x :: K, p, 0, _ => by simp [recsOf, nsum]
  | x :: K, p, i + 1, h => by
    have ih := recsOf_at K (p + nsz x.data.length) i (by simpa using h)
    show (recsOf (p + nsz x.data.length) K)[i]? = _
    rw [ih, List.take_succ_cons, nsum_cons]
    simp [Int.add_assoc]
theorem endsF_length (K : List Nd) : (endsF K).length = K.length := by simp [endsF]
theorem endsF_at (K : List Nd) (i : Nat) (h : i < K.length) : (endsF K)[i]? = some ((16 + nsum (K.take (i + 1)) : Nat) : Int) := by
  simp [endsF, h]
theorem take_snoc' {K : List Nd} {i : Nat} (h : i < K.length) : K.take (i + 1) = K.take i ++ [K.getD i nd0] := by
  rw [List.take_add_one, List.getElem?_eq_getElem h, List.getD_eq_getElem?_getD, List.getElem?_eq_getElem h]; rfl
theorem rd_cell {w : World} {a : Option Addr} {n cap : Nat} {cs : List Value} (h : Rd w 1 (.slice a n cap) n cs) {i : Nat} {u : Value} (hi : cs[i]? = some u) : ∃ b off, a = some ⟨b, off, none⟩ ∧ w.cell? ⟨b, off + i, none⟩ = some u := by
  obtain ⟨_, a', cap', e, _, _, _, hc⟩ := h
  injection e with e1
  obtain ⟨b, off, e2, hc⟩ := hc (by have := (List.getElem?_eq_some_iff.1 hi).1; omega)
  exact ⟨b, off, e1.trans e2, hc i u hi⟩
theorem made0 (B k : Nat) (w : World) (hk : w.heap.size = k) (hB : B ≤ k) : (w.alloc (.cells #[] 5)).ownsRow B 5 1 (.slice (some ⟨k, 0, none⟩) 0 0) 0 [] := by
  subst hk; exact World.ownsRow_made (size := 1) w #[] 0 hB (by decide) rfl
/-- The needles that small leaves, for reading. -/
theorem sm_rd {w w' : World} {lv : Value} {es : List (Nd × Value)} (h : w'.ownsRow w.heap.size 31 4 lv es.length (needsC es)) (hd : ∀ p ∈ es, RdB w p.2 p.1.data) (hb : Below w.heap.size w w') : RdN w' lv es :=
  ⟨own_rd h, fun p hp => RdL.below (hd p hp) hb⟩
theorem sm_ok {es : List (Nd × Value)} {N : List Nd} (h : es.map (·.1) = smallF N) (hN : ∀ x ∈ N, x.Wf) : ∀ p ∈ es, p.1.ok ∧ p.1.Wf := fun p hp => by
  have : p.1 ∈ smallF N := by rw [← h]; exact List.mem_map.2 ⟨p, hp, rfl⟩
  obtain ⟨x, hx, e⟩ := List.mem_map.1 this
  rw [← e]
  exact ⟨sm1_ok x, sm1_wf (hN x (List.mem_of_mem_take hx))⟩
theorem sm_len {es : List (Nd × Value)} {N : List Nd} (h : es.map (·.1) = smallF N) : es.length ≤ 12 := by
  have := congrArg List.length h
  rw [List.length_map] at this
  rw [this]; unfold smallF; rw [List.length_map, List.length_take]; omega
set_option maxRecDepth 100000 in
set_option maxHeartbeats 2000000 in
theorem reads_walk (v tv : Value) (ns : List (Nd × Value)) (tl : List UInt8) (w : World) (h : RdN w v ns) (hwf : ∀ p ∈ ns, p.1.Wf) (ht : RdB w tv tl) :
    Calls Try.prog 3 #[v, tv] w fun e w' => e = .returned (.bool true) ∧ Below w.heap.size w w' := by
  have HSm := Lib.hid (small_any v ns w h hwf)
  have HN := Lib.hid (show ∀ x ∈ ns.map (·.1), x.Wf from fun x hx => by obtain ⟨p, hp, rfl⟩ := List.mem_map.1 hx; exact hwf p hp)
  have HT := Lib.hid ht
  obtain ⟨ta, tc, rfl, ht1, ht2⟩ := ht.shape0
  have ht3 := lt63 ht1 ht2
  generalize ns.map (·.1) = N at *
  clear h hwf ht
  go_enter Try.func3, Try.ntmps3
  go_wp2_with fail
  refine HSm.out.mono ?_; rintro e w1 ⟨kv, es, rfl, hown1, hes, hdat, hb1⟩
  have HFl := Lib.hid (file_any kv es w1 (sm_rd hown1 hdat hb1) (sm_ok hes HN.out) (sm_len hes))
  have HOk := Lib.hid (show ∀ x ∈ es.map (·.1), x.ok ∧ x.Wf from fun x hx => by obtain ⟨p, hp, rfl⟩ := List.mem_map.1 hx; exact sm_ok hes HN.out p hp)
  have hl12 := sm_len hes
  have HRk := Lib.hid (sm_rd hown1 hdat hb1)
  obtain ⟨ka, kc, hkv, _⟩ := own_form hown1
  subst hkv
  have HB1 := Lib.hid hb1
  clear hown1 hes hdat hb1 HSm HN
  generalize hK : es.map (·.1) = K at *
  have HK := Lib.hid hK
  clear hK
  go_wp2_with fail
  refine HFl.out.mono ?_; rintro e w2 ⟨bv, nv, rfl, hownb, hownn, hb2⟩
  have hfl := Lib.hid (fileB_length K)
  have hle := nsum_le (k := K) (fun x hx => (HOk.out x hx).1)
  have hKl : K.length ≤ 12 := by have := congrArg List.length HK.out; rw [List.length_map] at this; omega
  have hlb : (fileB K).length ≤ 60000 := by rw [fileB_length]; omega
  have hel := Lib.hid (show es.length = K.length by have := congrArg List.length HK.out; rw [List.length_map] at this; exact this)
  obtain ⟨ba, bc, hbv, _⟩ := own_form hownb
  obtain ⟨na, nc, hnv, _⟩ := own_form hownn
  subst hbv hnv
  have HRb := Lib.hid (show RdB w2 (.slice ba (fileB K).length bc) (fileB K) from hownb.rd)
  have HRn := Lib.hid (own_rd hownn)
  have HB2 := Lib.hid (bstep HB1.out hb2)
  have HRk2 := Lib.hid (HRk.out.below hb2)
  clear hownb hownn hb2 HFl HRk
  have HDt := Lib.hid (ndecode_any _ tl w2 (RdL.below HT.out HB2.out) ht3)
  go_wp2_with fail
  refine HDt.out.mono ?_; rintro e w3 ⟨⟨dv, rfl, hownd⟩, hb3⟩
  obtain ⟨da, dc, hdv, _⟩ := own_form hownd
  subst hdv
  have HB23 := Lib.hid hb3
  have HDr := Lib.hid (show (ndec tl).1 ≠ 0 → (ndec tl).1 ≠ 0 from id)
  clear hownd hb3 HDt
  by_cases hr : (ndec tl).1 = 0
  · have q1 : ((ndec tl).1 == 0) = true := beq_iff_eq.2 hr
    clear HDr hr
    generalize ndec tl = D at *
    obtain ⟨r, x, m⟩ := D
    dsimp only at q1
    go_wp2_with fail
    refine (awake_any _).mono ?_; rintro e w4 ⟨rfl, hb4⟩
    have HX := Lib.hid (bstep ((bstep HB2.out HB23.out).alloc (bstep HB2.out HB23.out).size (.cells #[.int .u64 (x.key : Int), .int .u32 (x.ck : Int), .bool x.del, .slice da x.data.length dc] 31)) hb4)
    clear hb4
    go_wp2_with fail
    go_ret
    exact ⟨rfl, HX.out⟩
  · have q1 : ((ndec tl).1 == 0) = false := beq_eq_false_iff_ne.2 hr
    have HOpen := Lib.hid (fun V W (hV : RdB W V (fileB K ++ tl)) (hs : (fileB K ++ tl).length ≤ 1000000) => open_any V (fileB K ++ tl) W hV hs)
    rw [open_file K tl HOk.out hr] at HOpen
    clear HDr hr
    generalize ndec tl = D at *
    obtain ⟨r, x, m⟩ := D
    dsimp only at q1
    by_cases h500 : 500 < tl.length
    · have q2 : decide ((500 : Int) < (tl.length : Int)) = true := by simp; omega
      go_wp2_with fail
      refine (awake_any _).mono ?_; rintro e w4 ⟨rfl, hb4⟩
      have HX := Lib.hid (bstep ((bstep HB2.out HB23.out).alloc (bstep HB2.out HB23.out).size (.cells #[.int .u64 (x.key : Int), .int .u32 (x.ck : Int), .bool x.del, .slice da x.data.length dc] 31)) hb4)
      clear hb4
      go_wp2_with fail
      go_ret
      exact ⟨rfl, HX.out⟩
    · have q2 : decide ((500 : Int) < (tl.length : Int)) = false := by simp; omega
      have HB3 := Lib.hid (bstep HB2.out HB23.out)
      have HAl := Lib.hid (show Below w3.heap.size w3 ((w3.alloc (.cells #[.int .u64 (x.key : Int), .int .u32 (x.ck : Int), .bool x.del, .slice da x.data.length dc] 31)).alloc (.cells #[] 5)) from ((Below.refl _ _).alloc (Nat.le_refl _) _).alloc (by simp) _)
      have HM0 := Lib.hid (made0 w3.heap.size (w3.heap.size + 1) (w3.alloc (.cells #[.int .u64 (x.key : Int), .int .u32 (x.ck : Int), .bool x.del, .slice da x.data.length dc] 31)) (by simp) (Nat.le_succ _))
      have HRb3 := Lib.hid (show Rd _ 1 (.slice ba (fileB K).length bc) (fileB K).length ((fileB K).map byteV) from RdL.below (HRb.out.below HB23.out) HAl.out)
      have hs0 := HAl.out.size
      go_wp2_with (first | (at_builtin; refine wpList_app (n := 0) (m := (fileB K).length) rfl (.tmp 38) (.tmp 39) 23 rfl elemB w3.heap.size rfl HM0.out rfl HRb3.out (bytes_one _) (by unfold maxLen; omega) (by omega) hs0 ?_; intro v4 w4 hown4 hgr4 hv4; clear hv4; have HO4 := Lib.hid (show OwnB w4 w3.heap.size v4 (fileB K) from ownB_of hown4 (List.nil_append _)); have HB4 := Lib.hid (own_below HAl.out HM0.out hs0 hgr4); have hs4 := HB4.out.size; have HR4 := Lib.hid (show Rd w4 1 (.slice ta tl.length tc) tl.length (tl.map byteV) from RdL.below HT.out (bstep HB3.out HB4.out)); clear hown4 hgr4) | (at_builtin; refine wpList_app (n := (fileB K).length) (m := tl.length) rfl (.tmp 40) (.tmp 41) 23 rfl elemB w3.heap.size rfl HO4.out rfl HR4.out (bytes_one _) (by unfold maxLen; omega) (by omega) hs4 ?_; intro v5 w5 hown5 hgr5 hv5; clear hv5; have HO5 := Lib.hid (show OwnB w5 w3.heap.size v5 (fileB K ++ tl) from ownB_of hown5 (List.map_append ..).symm); have HB5 := Lib.hid (own_below HB4.out HO4.out hs4 hgr5); clear hown5 hgr5))
      refine (HOpen.out v5 w5 HO5.out.rd (by rw [List.length_append]; omega)).mono ?_; rintro e w6 ⟨⟨lv, rs, rfl, hown6, hrs⟩, hb6⟩
      have HB6 := Lib.hid (bstep HB3.out (bstep HB5.out hb6))
      have HC6 := Lib.hid (bstep (bstep HB23.out HB5.out) hb6)
      have hrl : rs.length = K.length := by have := congrArg List.length hrs; rw [List.length_map] at this; rw [this]; exact recsOf_length K 16
      obtain ⟨la, lc, hlv, _⟩ := own_form hown6.row
      subst hlv
      have HRr := Lib.hid hown6.rd
      have HRs := Lib.hid hrs
      clear hown6 hrs hb6 HAl HM0 HRb3 HO4 HB4 HR4 HO5 HB5 HOpen hs0 hs4
      have HK6 := Lib.hid (HRk2.out.below HC6.out)
      have HN6 := Lib.hid (show Rd w6 1 (.slice na es.length nc) es.length ((endsF K).map intV) from Rd.below HRn.out HC6.out)
      have hKn := hel.out
      generalize hA : rs.length = n at *
      generalize hE : es.length = n' at *
      obtain rfl : n' = n := by omega
      have hfl' := hfl.out
      generalize hFL : (fileB K).length = lb at *
      rw [← hfl']
      have HKn := Lib.hid hKn
      have HLb := Lib.hid hfl'
      clear hKn hA hE hfl' hFL hfl hrl hel HRk2 HRn HRb hle
      have hn12 : n' ≤ 12 := hl12
      have q3 : ((lb : Int) != (lb : Int)) = false := by simp
      have q4 : ((n' : Int) != (n' : Int)) = false := by simp
      clear hKl
      go_wp2_with fail
      have HB7 := Lib.hid (show Below w6.heap.size w6 (w6.alloc (.cells #[.int .i64 (fsup.slot : Int), .int .i64 (fsup.gen : Int), .int .i64 (fsup.rev : Int)] 37)) from (Below.refl _ _).alloc (Nat.le_refl _) _)
      go_loopw [65] (fun iv W => ∃ i : Nat, iv = .int .i64 (i : Int) ∧ i ≤ n' ∧ Hid (Below w6.heap.size w6 W)) (fun iv _ => n' - (intOf iv).toNat)
      case atStart => exact ⟨0, rfl, Nat.zero_le _, HB7⟩
      case round =>
        obtain ⟨i, rfl, hi, HB⟩ := hrel
        by_cases hin : i < n'
        · have hiK : i < K.length := by have := HKn.out; omega
          obtain ⟨b1, o1, hla, hd1, c0, c1, c2, c3, c4⟩ := (HRr.out.below HB.out).at hin
          obtain ⟨b2, o2, hka, hd2, d0, d1, d2, d3⟩ := (HK6.out.below HB.out).at hin
          obtain ⟨b3, o3, hna, e0⟩ := rd_cell (Rd.below HN6.out HB.out) (i := i) (u := .int .i64 ((16 + nsum (K.take (i + 1)) : Nat) : Int)) (by rw [List.getElem?_map, endsF_at K i hiK]; rfl)
          subst hla hka hna
          have hx1 : (rat rs i).1 = ⟨((16 : Nat) : Int) + (nsum (K.take i) : Int), K.getD i nd0⟩ := by
            have hri : i < rs.length := by have := congrArg List.length HRs.out; rw [List.length_map, recsOf_length] at this; omega
            have := recsOf_at K 16 i hiK
            rw [← HRs.out, List.getElem?_map, List.getElem?_eq_getElem hri] at this
            unfold rat
            rw [List.getD_eq_getElem?_getD, List.getElem?_eq_getElem hri]
            simpa using this
          have hx2 : (nat' es i).1 = K.getD i nd0 := by
            have hei : i < es.length := by have := congrArg List.length HK.out; rw [List.length_map] at this; omega
            unfold nat'
            rw [← HK.out, List.getD_eq_getElem?_getD, List.getD_eq_getElem?_getD, List.getElem?_map, List.getElem?_eq_getElem hei]; rfl
          have hnx : nsum (K.take (i + 1)) = nsum (K.take i) + nsz (K.getD i nd0).data.length := by rw [take_snoc' hiK, nsum_snoc]
          have hox := (HOk.out (K.getD i nd0) (by rw [List.getD_eq_getElem?_getD, List.getElem?_eq_getElem hiK]; exact List.getElem_mem hiK)).1.1
          have hnb : 16 + nsum (K.take (i + 1)) ≤ 100000 := by
            have := nsum_le (k := K.take (i + 1)) (fun x hx => (HOk.out x (List.mem_of_mem_take hx)).1)
            rw [List.length_take] at this
            omega
          rw [hx1] at hd1 c0 c1 c2 c3
          rw [hx2] at hd2 d0 d1 d2
          dsimp only at hd1 c0 c1 c2 c3
          generalize (rat rs i).2 = v1 at *
          generalize (nat' es i).2 = v2 at *
          clear hx1 hx2
          generalize K.getD i nd0 = X at *
          rw [hnx] at e0 hnb
          rw [← Int.natCast_add] at c0
          rw [← Nat.add_assoc] at e0 hnb
          generalize 16 + nsum (K.take i) = o at *
          have HSame := Lib.hid (fun u : BelowBy wr => (rnsame_any X X v1 v2 u.w' (RdL.below hd1 u.h) (RdL.below hd2 u.h)))
          rw [show decide (X = X) = true from decide_eq_true rfl] at HSame
          have HSz := Lib.hid (fun u : BelowBy wr => (nsize_any X.data.length u.w' (by omega)).mono fun e w' (h : _ ∧ _) => (⟨h.1, h.2 ▸ Below.refl _ _⟩ : e = .returned (.int .i64 ((szN X.data.length : Nat) : Int)) ∧ Below u.w'.heap.size u.w' w'))
          rw [szN_of hox] at HSz
          obtain ⟨a1, k1, hv1, _, _⟩ := hd1.shape0
          obtain ⟨a2, k2, hv2, _, _⟩ := hd2.shape0
          subst hv1 hv2
          obtain ⟨xk, xc, xd, xl⟩ := X
          dsimp only at *
          generalize hxl : xl.length = l at *
          clear hd1 hd2 hnx hxl
          generalize nsz l = s at *
          have c0 := cell_by c0
          have c1 := cell_by c1
          have c2 := cell_by c2
          have c3 := cell_by c3
          have c4 := cell_by c4
          have d0 := cell_by d0
          have d1 := cell_by d1
          have d2 := cell_by d2
          have d3 := cell_by d3
          have j5 : IntKind.i64.wrap ((o : Int) + (s : Int)) = ((o + s : Nat) : Int) := (IntWalk.i64_in _ (by omega)).trans (by omega)
          generalize hos : o + s = e at *
          have e0 := cell_by e0
          have q5 : ((e : Int) != (e : Int)) = false := by simp
          have i1 : (i : Int) < (n' : Int) := by omega
          clear hos
          go_wp2_with fail
          refine wp_region_below (by kernel_rfl) (by kernel_rfl) ?_
          repeat (go_big_quiet_step ((first | exact calls_by (HSame.out _) | exact calls_by (HSz.out _))))
          refine wpQuiet_nil ?_
          intro _ hw'
          obtain ⟨u, hw'⟩ := hw'
          subst hw'
          have HBu := Lib.hid (bstep HB.out u.h)
          clear c0 c1 c2 c3 c4 d0 d1 d2 d3 e0
          go_wp2_with fail
          exact ⟨⟨i + 1, by go_num, by omega, HBu⟩, by simp [intOf]; omega⟩
        · obtain rfl : i = n' := by omega
          go_wp2_with fail
          refine (awake_any _).mono ?_; rintro e w9 ⟨rfl, hb9⟩
          have HX := Lib.hid (bstep (bstep HB6.out HB.out) hb9)
          clear hb9
          go_wp2_with fail
          go_ret
          exact ⟨rfl, HX.out⟩
end Go.Proofs.Ytecflhklpkjhcaa

namespace Go.Proofs.Ytecflhklpkjhcaa

theorem open_torn (k : List Nd) (q : Nat) (hl : k.length ≤ 12) (hk : ∀ x ∈ k, x.ok ∧ x.Wf) : openF ((fileB k).take (16 + q)) = (0, fsup, recsOf 16 (k.take (whole k q)), 16 + nsum (k.take (whole k q))) := by
  have e : (fileB k).take (16 + q) = senc fsup ++ (nencs k).take q := by
    rw [fileB, List.take_append, senc_length, List.take_of_length_le (by rw [senc_length]; omega), Nat.add_sub_cancel_left]
  have hd : sdec ((fileB k).take (16 + q)) = (0, fsup) := by rw [e]; exact sdec_enc fsup_ok _
  have hr := recs_torn k (((fileB k).take (16 + q)).length + 1) ((fileB k).take (16 + q)) (senc fsup) q e (by rw [List.length_take, fileB_length]; omega) hk
  rw [senc_length] at hr
  unfold openF
  rw [hd, if_pos rfl, hr]
theorem whole_iff : ∀ (k : List Nd) (q i : Nat), i < k.length → (nsum (k.take (i + 1)) ≤ q ↔ i < whole k q)
  | [], _, _, h => by simp at h
  | x :: k, q, 0, _ => by
    unfold whole
    rw [List.take_succ_cons, nsum_cons]
    simp only [List.take_zero, nsum, List.map_nil, List.sum_nil, Nat.add_zero]
    split <;> omega
  | x :: k, q, i + 1, h => by
    have ih := whole_iff k (q - nsz x.data.length) i (by simpa using h)
    unfold whole
    rw [List.take_succ_cons, nsum_cons]
    split
    · omega
    · rw [show nsz x.data.length + nsum (k.take (i + 1)) ≤ q ↔ nsum (k.take (i + 1)) ≤ q - nsz x.data.length by omega, ih]; omega
/-- The place from which the bytes are missing. -/
theorem torn_at (n : Int) (L : Nat) (hL : 16 ≤ L) (hs : L ≤ 100000) : ∃ r : Int, n.tmod ((L : Int) - 15) = r ∧ -100000 ≤ r ∧ r ≤ 100000 ∧ ∃ q : Nat, (r + (L : Int) - 15).tmod ((L : Int) - 15) = (q : Int) ∧ (r + (L : Int) - 15) % ((L : Int) - 15) = (q : Int) ∧ 0 ≤ r + (L : Int) - 15 ∧ 16 + q ≤ L := by
  have h1 := Int.tmod_lt_of_pos n (show (0 : Int) < (L : Int) - 15 by omega)
  have h2 := Int.lt_tmod_of_pos n (show (0 : Int) < (L : Int) - 15 by omega)
  have h3 := Int.emod_lt_of_pos (n.tmod ((L : Int) - 15) + (L : Int) - 15) (show (0 : Int) < (L : Int) - 15 by omega)
  have h4 := Int.emod_nonneg (n.tmod ((L : Int) - 15) + (L : Int) - 15) (show (L : Int) - 15 ≠ 0 by omega)
  refine ⟨_, rfl, by omega, by omega, ((n.tmod ((L : Int) - 15) + (L : Int) - 15) % ((L : Int) - 15)).toNat, ?_, ?_, by omega, by omega⟩
  · rw [Int.tmod_eq_emod_of_nonneg (by omega)]; omega
  · omega
end Go.Proofs.Ytecflhklpkjhcaa

namespace Go.Proofs.Ytecflhklpkjhcaa
open Go.RowKit

set_option maxRecDepth 100000 in
set_option maxHeartbeats 2000000 in
theorem torn_walk (v : Value) (z : Int) (ns : List (Nd × Value)) (w : World) (h : RdN w v ns) (hwf : ∀ p ∈ ns, p.1.Wf) (_hz : (Lit.int .i64 z).wf = true) :
    Calls Try.prog 4 #[v, .int .i64 z] w fun e w' => e = .returned (.bool true) ∧ Below w.heap.size w w' := by
  have HSm := Lib.hid (small_any v ns w h hwf)
  have HN := Lib.hid (show ∀ x ∈ ns.map (·.1), x.Wf from fun x hx => by obtain ⟨p, hp, rfl⟩ := List.mem_map.1 hx; exact hwf p hp)
  generalize ns.map (·.1) = N at *
  clear h hwf
  go_enter Try.func4, Try.ntmps4
  go_wp2_with fail
  refine HSm.out.mono ?_; rintro e w1 ⟨kv, es, rfl, hown1, hes, hdat, hb1⟩
  have HFl := Lib.hid (file_any kv es w1 (sm_rd hown1 hdat hb1) (sm_ok hes HN.out) (sm_len hes))
  have HOk := Lib.hid (show ∀ x ∈ es.map (·.1), x.ok ∧ x.Wf from fun x hx => by obtain ⟨p, hp, rfl⟩ := List.mem_map.1 hx; exact sm_ok hes HN.out p hp)
  have hl12 := sm_len hes
  have HRk := Lib.hid (sm_rd hown1 hdat hb1)
  obtain ⟨ka, kc, hkv, _⟩ := own_form hown1
  subst hkv
  have HB1 := Lib.hid hb1
  clear hown1 hes hdat hb1 HSm HN
  generalize hK : es.map (·.1) = K at *
  have HK := Lib.hid hK
  clear hK
  go_wp2_with fail
  refine HFl.out.mono ?_; rintro e w2 ⟨bv, nv, rfl, hownb, hownn, hb2⟩
  have hfl := Lib.hid (fileB_length K)
  have hle := nsum_le (k := K) (fun x hx => (HOk.out x hx).1)
  have hKl : K.length ≤ 12 := by have := congrArg List.length HK.out; rw [List.length_map] at this; omega
  have hlb : (fileB K).length ≤ 60000 := by rw [fileB_length]; omega
  have hlb2 : 16 ≤ (fileB K).length := by rw [fileB_length]; omega
  have hel := Lib.hid (show es.length = K.length by have := congrArg List.length HK.out; rw [List.length_map] at this; exact this)
  obtain ⟨ba, bc, hbv, _⟩ := own_form hownb
  obtain ⟨na, nc, hnv, _⟩ := own_form hownn
  subst hbv hnv
  have HRb := Lib.hid (show RdB w2 (.slice ba (fileB K).length bc) (fileB K) from hownb.rd)
  have HRn := Lib.hid (own_rd hownn)
  have HB2 := Lib.hid (bstep HB1.out hb2)
  have HRk2 := Lib.hid (HRk.out.below hb2)
  clear hownb hownn hb2 HFl HRk hle
  obtain ⟨r, hr, hr1, hr2, q, hq1, hq2, hq0, hqL⟩ := torn_at z (fileB K).length hlb2 (by omega)
  have HTo := Lib.hid (fun V W (hV : RdB W V ((fileB K).take (16 + q))) => open_any V ((fileB K).take (16 + q)) W hV (by rw [List.length_take]; omega))
  rw [open_torn K q hKl HOk.out] at HTo
  have hto := slice_to (P := Try.prog) elemB (a := ba) (n := (fileB K).length) (cap := bc) (RdL.spot HRb.out (by omega)) (16 + q) (by have := HRb.out.shape0; omega)
  generalize hLB : (fileB K).length = lb at *
  have HLb := Lib.hid (hfl.out)
  have j1 : IntKind.i64.wrap ((lb : Int) - 15) = (lb : Int) - 15 := IntWalk.i64_in _ (by omega)
  have j2 : IntKind.i64.wrap (r + (lb : Int)) = r + (lb : Int) := IntWalk.i64_in _ (by omega)
  have j3 : IntKind.i64.wrap (r + (lb : Int) - 15) = r + (lb : Int) - 15 := IntWalk.i64_in _ (by omega)
  have j4 : IntKind.i64.wrap (16 + (q : Int)) = 16 + (q : Int) := IntWalk.i64_in _ (by omega)
  have n1 : ((lb : Int) - 15 == 0) = false := beq_eq_false_iff_ne.2 (by omega)
  have n2 : ¬ ((lb : Int) - 15 = 0) := by omega
  have c16 : ((16 + q : Nat) : Int) = 16 + (q : Int) := by omega
  rw [c16] at hto
  have HRt := Lib.hid (show RdB w2 (.slice ba (16 + q) bc) ((fileB K).take (16 + q)) from RdL.take HRb.out (16 + q) (by omega))
  clear hLB hfl hel
  go_wp2_with fail
  refine (HTo.out _ w2 HRt.out).mono ?_; rintro e w3 ⟨⟨lv, rs, rfl, hown3, hrs⟩, hb3⟩
  have HB3 := Lib.hid (bstep HB2.out hb3)
  have HC3 := Lib.hid hb3
  have hWk := whole_le K q
  have hrl : rs.length = whole K q := by have := congrArg List.length hrs; rw [List.length_map, recsOf_length, List.length_take] at this; omega
  obtain ⟨la, lc, hlv, _⟩ := own_form hown3.row
  subst hlv
  have HRr := Lib.hid hown3.rd
  have HRs := Lib.hid hrs
  have HN3 := Lib.hid (show Rd w3 1 (.slice na es.length nc) es.length ((endsF K).map intV) from Rd.below HRn.out HC3.out)
  have HK3 := Lib.hid (HRk2.out.below HC3.out)
  have HWI := Lib.hid (whole_iff K q)
  have hKn : es.length = K.length := by have := congrArg List.length HK.out; rw [List.length_map] at this; exact this
  clear hown3 hrs hb3 HRn HRk2 HTo hto HRt HRb j1 j2 j3 j4 n1 n2 c16 hr hq1 hq2 hq0
  generalize hA : rs.length = m at *
  generalize hE : es.length = n at *
  have HA := Lib.hid hrl
  have HKn := Lib.hid hKn
  clear hA hE hrl hKn
  go_wp2_with fail
  have HB4 := Lib.hid (show Below w3.heap.size w3 (w3.alloc (.cells #[.int .i64 (fsup.slot : Int), .int .i64 (fsup.gen : Int), .int .i64 (fsup.rev : Int)] 37)) from (Below.refl _ _).alloc (Nat.le_refl _) _)
  go_loopw [13, 14, 49] (fun mv ev iv W => ∃ i m' e' : Nat, iv = .int .i64 (i : Int) ∧ i ≤ n ∧ mv = .int .i64 (m' : Int) ∧ ev = .int .i64 (e' : Int) ∧ Hid (m' = min i (whole K q) ∧ e' = 16 + nsum (K.take (min i (whole K q)))) ∧ Hid (Below w3.heap.size w3 W)) (fun _ _ iv _ => n - (intOf iv).toNat)
  case atStart => exact ⟨0, 0, 16, rfl, Nat.zero_le _, rfl, rfl, Lib.hid (by simp [nsum]), HB4⟩
  case round =>
    obtain ⟨i, m', e', rfl, hi, rfl, rfl, HR, HB⟩ := hrel
    by_cases hin : i < n
    · have hiK : i < K.length := by have := HKn.out; omega
      obtain ⟨b3, o3, hna, e0⟩ := rd_cell (Rd.below HN3.out HB.out) (i := i) (u := .int .i64 ((16 + nsum (K.take (i + 1)) : Nat) : Int)) (by rw [List.getElem?_map, endsF_at K i hiK]; rfl)
      subst hna
      have hwi := HWI.out i hiK
      have hnb := nsum_le (k := K.take (i + 1)) (fun x hx => (HOk.out x (List.mem_of_mem_take hx)).1)
      rw [List.length_take] at hnb
      obtain ⟨s, hs⟩ : ∃ s, nsum (K.take (i + 1)) = s := ⟨_, rfl⟩
      rw [hs] at e0 hwi hnb
      have HSs := Lib.hid hs
      clear hs
      have HWi := Lib.hid hwi
      have i1 : (i : Int) < (n : Int) := by omega
      by_cases hlt : i < whole K q
      · have hsq : s ≤ q := hwi.2 hlt
        have q1 : decide ((16 : Int) + (s : Int) ≤ 16 + (q : Int)) = true := decide_eq_true (by omega)
        have HR2 := Lib.hid (show i + 1 = min (i + 1) (whole K q) ∧ 16 + s = 16 + nsum (K.take (min (i + 1) (whole K q))) by
          rw [Nat.min_eq_left (by omega), HSs.out]; exact ⟨rfl, rfl⟩)
        clear hwi hlt
        go_wp2_with fail
        have f0 := cell_by e0
        refine wp_region_below (by kernel_rfl) (by kernel_rfl) ?_
        repeat (go_big_quiet_step (fail))
        refine wpQuiet_nil ?_
        intro _ hw'
        obtain ⟨u, hw'⟩ := hw'
        subst hw'
        have HBu := Lib.hid (bstep HB.out u.h)
        clear f0 e0
        go_wp2_with fail
        exact ⟨⟨i + 1, i + 1, 16 + s, by go_num, by omega, by go_num, by go_num, HR2, HBu⟩, by simp [intOf]; omega⟩
      · have hsq : ¬ s ≤ q := fun e => hlt (hwi.1 e)
        have q1 : decide ((16 : Int) + (s : Int) ≤ 16 + (q : Int)) = false := decide_eq_false (by omega)
        have HR2 := Lib.hid (show m' = min (i + 1) (whole K q) ∧ e' = 16 + nsum (K.take (min (i + 1) (whole K q))) by
          have := HR.out
          rw [Nat.min_eq_right (by omega)] at this ⊢
          exact this)
        clear hwi hlt
        go_wp2_with fail
        exact ⟨⟨i + 1, m', e', by go_num, by omega, rfl, rfl, HR2, HB⟩, by simp [intOf]; omega⟩
    · obtain rfl : i = n := by omega
      have hmk := HR.out
      rw [Nat.min_eq_right (by have := HKn.out; omega)] at hmk
      obtain ⟨h1, h2⟩ := hmk
      have hma := HA.out
      obtain rfl : m' = m := by omega
      obtain ⟨s, hs⟩ : ∃ s, nsum (K.take (whole K q)) = s := ⟨_, rfl⟩
      rw [hs] at h2
      subst h2
      have HSs := Lib.hid hs
      have hHA := Lib.hid h1
      rw [hs]
      have c16 : ((16 + s : Nat) : Int) = 16 + (s : Int) := by omega
      rw [c16]
      have q3 : (16 + (s : Int) != 16 + (s : Int)) = false := by simp
      have q4 : ((m' : Int) != (m' : Int)) = false := by simp
      clear h1 HR hma hs c16
      go_wp2_with fail
      have HB7 := Lib.hid HB.out
      go_loopw [80] (fun iv W => ∃ j : Nat, iv = .int .i64 (j : Int) ∧ j ≤ m' ∧ Hid (Below w3.heap.size w3 W)) (fun iv _ => m' - (intOf iv).toNat)
      case atStart => exact ⟨0, rfl, Nat.zero_le _, HB7⟩
      case round =>
        clear HB7 HB HB4
        obtain ⟨j, rfl, hj, HB⟩ := hrel
        by_cases hjn : j < m'
        · have hjK : j < K.length := by have := hHA.out; omega
          have hji : j < i := by have := HKn.out; omega
          obtain ⟨b1, o1, hla, hd1, c0, c1, c2, c3, c4⟩ := (HRr.out.below HB.out).at hjn
          obtain ⟨b2, o2, hka, hd2, d0, d1, d2, d3⟩ := (HK3.out.below HB.out).at hji
          subst hla hka
          have hx1 : (rat rs j).1.nd = K.getD j nd0 := by
            have e1 : (rs.map (·.1)).map (·.nd) = K.take (whole K q) := by rw [HRs.out]; exact recsOf_nd _ _
            have hri : j < rs.length := by
              have := congrArg List.length e1
              rw [List.length_map, List.length_map, List.length_take] at this
              have := HA.out
              omega
            have := congrArg (·[j]?) e1
            rw [List.getElem?_map, List.getElem?_map, List.getElem?_eq_getElem hri, List.getElem?_take_of_lt (by have := HA.out; omega), List.getElem?_eq_getElem hjK] at this
            unfold rat
            rw [List.getD_eq_getElem?_getD, List.getElem?_eq_getElem hri, List.getD_eq_getElem?_getD, List.getElem?_eq_getElem hjK]
            simpa using this
          have hx2 : (nat' es j).1 = K.getD j nd0 := by
            have hei : j < es.length := by have := congrArg List.length HK.out; rw [List.length_map] at this; omega
            unfold nat'
            rw [← HK.out, List.getD_eq_getElem?_getD, List.getD_eq_getElem?_getD, List.getElem?_map, List.getElem?_eq_getElem hei]; rfl
          rw [hx1] at hd1 c1 c2 c3
          rw [hx2] at hd2 d0 d1 d2
          generalize (rat rs j).2 = v1 at *
          generalize (nat' es j).2 = v2 at *
          clear hx1 hx2 c0
          generalize K.getD j nd0 = X at *
          have HSame := Lib.hid (fun u : BelowBy wr => (rnsame_any X X v1 v2 u.w' (RdL.below hd1 u.h) (RdL.below hd2 u.h)))
          rw [show decide (X = X) = true from decide_eq_true rfl] at HSame
          obtain ⟨a1, k1, hv1, _, _⟩ := hd1.shape0
          obtain ⟨a2, k2, hv2, _, _⟩ := hd2.shape0
          subst hv1 hv2
          obtain ⟨xk, xc, xd, xl⟩ := X
          dsimp only at *
          generalize hxl : xl.length = l at *
          clear hd1 hd2 hxl
          have c1 := cell_by c1
          have c2 := cell_by c2
          have c3 := cell_by c3
          have c4 := cell_by c4
          have d0 := cell_by d0
          have d1 := cell_by d1
          have d2 := cell_by d2
          have d3 := cell_by d3
          have i1 : (j : Int) < (m' : Int) := by omega
          have i2 : (j : Int) < (i : Int) := by omega
          go_wp2_with fail
          refine wp_region_below (by kernel_rfl) (by kernel_rfl) ?_
          repeat (go_big_quiet_step ((first | exact calls_by (HSame.out _))))
          refine wpQuiet_nil ?_
          intro _ hw'
          obtain ⟨u, hw'⟩ := hw'
          subst hw'
          have HBu := Lib.hid (bstep HB.out u.h)
          clear c1 c2 c3 c4 d0 d1 d2 d3
          go_wp2_with fail
          exact ⟨⟨j + 1, by go_num, by omega, HBu⟩, by simp [intOf]; omega⟩
        · obtain rfl : j = m' := by omega
          go_wp2_with fail
          refine (awake_any _).mono ?_; rintro e w9 ⟨rfl, hb9⟩
          have HX := Lib.hid (bstep (bstep HB3.out HB.out) hb9)
          clear hb9
          go_wp2_with fail
          go_ret
          exact ⟨rfl, HX.out⟩
end Go.Proofs.Ytecflhklpkjhcaa

namespace Go.Proofs.Ytecflhklpkjhcaa
open Go.RowKit Go.ChangeShapes Go.WideShapes Go.Deep

theorem structN : ∃ f0 f1 f2 f3, Try.prog.underlying 31 = some (.struct #[f0, f1, f2, f3]) ∧ (f0.offset = 0 ∧ f1.offset = 1 ∧ f2.offset = 2 ∧ f3.offset = 3) ∧ f0.type = 28 ∧ f1.type = 29 ∧ f2.type = 4 ∧ f3.type = 23 :=
  ⟨_, _, _, _, Try.underlying31, ⟨rfl, rfl, rfl, rfl⟩, rfl, rfl, rfl, rfl⟩
theorem cellsOfN : Try.prog.cellsOf 31 = 4 := by kernel_rfl
theorem cellsOf_bool : Try.prog.cellsOf 4 = 1 := by kernel_rfl
theorem cellsOf_bytes : Try.prog.cellsOf 23 = 1 := by kernel_rfl
section
variable {H : Type} {enc : TypeId × Value → H} {w : World}
theorem open_bytes {fuel : Nat} {cs : List Value} {x : DataW H × List MemPlace} (h : DataW.trod enc Try.prog w 0 (fun _ => true) true fuel 23 cs = some x) : ∃ (v : Value) (l : List UInt8), cs = [v] ∧ RdB w v l := by
  rcases open_ints Try.underlying23 Try.underlying5 (by kernel_rfl) h with ⟨hcs, _⟩ | ⟨x, l, c, zs, hcs, _, hl, hm, hz, _, hcell, hwz⟩
  · exact ⟨_, [], hcs, RdB_nil w⟩
  · obtain ⟨r, _, hr⟩ := isRow_bytes (w := w) (a := some x) (len := l) (cap := c) (zs := zs) (.inr ⟨_, rfl, hl, hm, by simpa using hz, hcell, hwz⟩)
    exact ⟨_, r, hcs, hr⟩
theorem open_need {fuel : Nat} {cs : List Value} {x : DataW H × List MemPlace} (h : DataW.trod enc Try.prog w 0 (fun _ => true) true fuel 31 cs = some x) : ∃ y : Nd × Value, cs = needC y ∧ y.1.Wf ∧ RdB w y.2 y.1.data := by
  obtain ⟨f0, f1, f2, f3, hs, ⟨o0, o1, o2, o3⟩, t0, t1, t2, t3⟩ := structN
  obtain ⟨xs, n, _, _, hlen, hxl, hf⟩ := DataW.trod_struct hs h
  rw [cellsOfN] at hlen
  have hx : xs.length = 4 := by simpa using hxl
  have g : ∀ j (hj : j < 4), xs[j]? = some (xs[j]'(by omega)) := fun j hj => List.getElem?_eq_getElem (by omega)
  have h0 := (hf 0 f0 rfl).trans (g 0 (by omega))
  have h1 := (hf 1 f1 rfl).trans (g 1 (by omega))
  have h2 := (hf 2 f2 rfl).trans (g 2 (by omega))
  have h3 := (hf 3 f3 rfl).trans (g 3 (by omega))
  rw [t0, o0, cellsOf_u64] at h0
  rw [t1, o1, cellsOf_u32] at h1
  rw [t2, o2, cellsOf_bool] at h2
  rw [t3, o3, cellsOf_bytes] at h3
  obtain ⟨k, e0, _, w0⟩ := DataW.trod_int Try.underlying28 h0
  obtain ⟨c, e1, _, w1⟩ := DataW.trod_int Try.underlying29 h1
  obtain ⟨d, e2, _⟩ := DataW.trod_bool Try.underlying4 h2
  obtain ⟨v, l, e3, hr⟩ := open_bytes h3
  have d0 := one_of e0
  have d1 := one_of e1
  have d2 := one_of e2
  have d3 := one_of e3
  have b0 := bounds_of_u64 w0
  have b1 := bounds_of_u32 w1
  obtain ⟨k, rfl⟩ := Int.eq_ofNat_of_zero_le b0.1
  obtain ⟨c, rfl⟩ := Int.eq_ofNat_of_zero_le b1.1
  refine ⟨(⟨k, c, d, l⟩, v), ?_, show k < 18446744073709551616 ∧ c < 4294967296 by omega, hr⟩
  match cs, hlen, d0, d1, d2, d3 with
  | [a, b, c', d], _, d0, d1, d2, d3 =>
    simp at d0 d1 d2 d3
    subst d0 d1 d2 d3
    rfl
theorem open_needs {a : Option Addr} {n cap : Nat} {d : DataW H} {p : List MemPlace} (h : DataW.Trod enc Try.prog w 0 (fun _ => true) true 22 (.slice a n cap) d p) :
    ∃ l : List (Nd × Value), RdN w (.slice a n cap) l ∧ ∀ x ∈ l, x.1.Wf := by
  obtain ⟨fuel, hf⟩ := h
  rcases open_slice Try.underlying22 hf with ⟨hcs, _⟩ | ⟨x, len, cap', m, k, D, Pl, hcs, _, hl, hm, hmm, _, hx⟩
  · simp [Value.cells] at hcs
    obtain ⟨rfl, rfl, rfl⟩ := hcs
    exact ⟨[], rdN_nil w, fun e he => by cases he⟩
  · simp [Value.cells] at hcs
    obtain ⟨rfl, rfl, rfl⟩ := hcs
    simp only [if_true] at hmm
    subst hmm
    rw [cellsOfN] at hx
    haveI : Inhabited (Nd × Value) := ⟨(nd0, .slice none 0 0)⟩
    have each : ∀ i, i < n → ∃ y : Nd × Value, (∀ j, j < 4 → w.cell? (x.add (i * 4 + j)) = (needC y)[j]?) ∧ y.1.Wf ∧ RdB w y.2 y.1.data := fun i hi => by
      obtain ⟨cs', h1, h2⟩ := hx i (by omega)
      obtain ⟨y, rfl, hy⟩ := open_need h2
      obtain ⟨_, _, hc⟩ := World.cells?_some h1
      exact ⟨y, fun j hj => by rw [← hc j hj, Go.Deep.add_add], hy⟩
    obtain ⟨E, hE⟩ := choose_lt each
    refine ⟨(List.range n).map E, ⟨?_, fun e he => ?_⟩, fun e he => ?_⟩
    · rw [List.length_map, List.length_range]
      refine ⟨by rw [needsC_length]; simp, some x, m, by simp, by simpa using hl, hm, fun h => by simp at h, fun hp => ?_⟩
      have hn : 0 < n := by
        rw [needsC_length] at hp; simp at hp; omega
      obtain ⟨b, off, spot⟩ := x
      have hspot : spot = none := by
        have h0 : w.cell? ((⟨b, off, spot⟩ : Addr).add (0 * 4 + 0)) = some (.int .u64 ((E 0).1.key : Int)) := ((hE 0 hn).1 0 (by omega)).trans rfl
        simpa [Addr.add] using World.cell?_spot h0
      subst hspot
      refine ⟨b, off, rfl, fun j u hj => ?_⟩
      have hjl : j < n * 4 := by
        have := (List.getElem?_eq_some_iff.1 hj).1
        rw [needsC_length] at this
        simpa using this
      have hat := flat_at 4 needC (nd0, .slice none 0 0) ((List.range n).map E) (fun _ _ => rfl) (j / 4) (j % 4) (by simp; omega) (by omega)
      rw [show j / 4 * 4 + j % 4 = j by omega] at hat
      have hg : ((List.range n).map E).getD (j / 4) (nd0, .slice none 0 0) = E (j / 4) := by
        rw [List.getD_eq_getElem?_getD, List.getElem?_map, List.getElem?_range (by omega)]; rfl
      rw [hg] at hat
      have hc := (hE (j / 4) (by omega)).1 (j % 4) (by omega)
      rw [show j / 4 * 4 + j % 4 = j by omega, addr_add] at hc
      rw [hc, ← hat]; exact hj
    · obtain ⟨i, hi, rfl⟩ := List.mem_map.1 he
      exact (hE i (List.mem_range.1 hi)).2.2
    · obtain ⟨i, hi, rfl⟩ := List.mem_map.1 he
      exact (hE i (List.mem_range.1 hi)).2.1
end
theorem reads_open (a : Option Addr) (n cap : Nat) (b : Option Addr) (k c : Nat) (zs : List Int) (w : World) (h : ∃ l, RdN w (.slice a n cap) l ∧ ∀ x ∈ l, x.1.Wf) (h2 : IsRow .u8 w b k c zs) :
    Calls Try.prog 3 #[.slice a n cap, .slice b k c] w fun e w' => e = .returned (.bool true) ∧ Below w.heap.size w w' := by
  obtain ⟨l, hl, hw⟩ := h
  obtain ⟨raw, hr, ht⟩ := isRow_bytes h2
  exact reads_walk _ _ l raw w hl hw ht
end Go.Proofs.Ytecflhklpkjhcaa

namespace Go.Proofs.Ytecflhklpkjhcaa
open Go.RowKit

theorem torn_open (a : Option Addr) (n cap : Nat) (z : Int) (w : World) (h : ∃ l, RdN w (.slice a n cap) l ∧ ∀ x ∈ l, x.1.Wf) (h2 : (Lit.int .i64 z).wf = true) :
    Calls Try.prog 4 #[.slice a n cap, .int .i64 z] w fun e w' => e = .returned (.bool true) ∧ Below w.heap.size w w' := by
  obtain ⟨l, hl, hw⟩ := h
  exact torn_walk _ _ l w hl hw h2
end Go.Proofs.Ytecflhklpkjhcaa
