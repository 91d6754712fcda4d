/- The reference's Find, Drop and Put: the walks. -/
import Derived.Test.YtenkeodfijladaaGreatDoorPr
import Derived.Test.YtenkeodfijladaaGreatDoorBx
import Derived.Test.YtenkeodfijladaaGreatDoorSo
import Derived.Test.YtenkeodfijladaaGreatDoorSm
import Derived.Deep.DeepCutAuto
namespace Go.Proofs.YtenkeodfijladaaGreatDoor
open Go.RowKit

set_option maxHeartbeats 1000000 in
theorem rfind_any (v : Value) (l : List It) (key : Int) (w : World) (h : RdT w v l) (hs : l.length ≤ 1000000) :
    Calls Tryz.prog 100 #[v, .int .u64 key] w fun e w' => e = .returned (.tuple #[itV ((fnd (srt l) key).getD it0), .bool (fnd (srt l) key).isSome]) ∧ Below w.heap.size w w' := by
  obtain ⟨a, cap, rfl, _, _⟩ := h.shape
  have HA := Lib.hid (fun r (h1 : r < l.length) h2 h3 => last_at (l := l) (key := key) (r := r) h1 h2 h3)
  have HN := Lib.hid (fun h => last_none (l := l) (key := key) h)
  generalize fnd (srt l) key = ff at *
  generalize hn : l.length = n at *
  have Hr := Lib.hid h
  have HW := Lib.hid (show Below w.heap.size w (w.alloc (.cells #[.int .u64 0, .int .u32 0, .int .i64 0, .int .i64 0] 77)) from below_box w it0)
  have HX := Lib.hid (BoxT.new w it0)
  clear h hn
  go_enter Tryz.func100, Tryz.ntmps100
  go_wp2_with fail
  go_loop [6] (fun iv => ∃ i : Nat, iv = .int .i64 ((i : Int) - 1) ∧ i ≤ n ∧ Hid (∀ j, i ≤ j → j < n → (iat l j).key ≠ key)) (fun iv => (intOf iv + 1).toNat)
  case atStart => exact ⟨n, by go_num, Nat.le_refl _, fun j h1 h2 => by omega⟩
  case round =>
    obtain ⟨i, rfl, hi, hno⟩ := hrel
    by_cases h0 : 0 < i
    · obtain ⟨r, rfl⟩ : ∃ r, i = r + 1 := ⟨i - 1, by omega⟩
      obtain ⟨b, off, rfl, c0, c1, c2, c3⟩ := (Hr.out.below HW.out).at (show r < n by omega)
      have e0 : ((r + 1 : Nat) : Int) - 1 = (r : Int) := by omega
      have i1 : (r : Int) < (n : Int) := by omega
      by_cases hk : (iat l r).key = key
      · have HF := Lib.hid (HA.out r (by omega) hk (fun j h1 h2 => hno.out j (by omega) h2))
        have hd : ((iat l r).key == key) = true := beq_iff_eq.2 hk
        rw [e0]
        generalize iat l r = x at *
        clear hk e0 h0
        go_wp2_with fail
        exact bodyPost_ret (v := .tuple #[itV x, .bool true]) (by simp [results, Tryz.results100, go_sem]) rfl ⟨by rw [HF.out]; rfl, below_box w x⟩
      · have hd : ((iat l r).key == key) = false := beq_eq_false_iff_ne.2 hk
        have HK := Lib.hid hk
        rw [e0]
        generalize hx : (iat l r).key = x at *
        have HX2 := Lib.hid hx
        clear hk e0 h0 hx
        go_wp2_with fail
        refine ⟨⟨r, by go_num, by omega, fun j h1 h2 => ?_⟩, by simp [intOf]⟩
        by_cases e : j = r
        · rw [e, HX2.out]; exact HK.out
        · exact hno.out j (by omega) h2
    · obtain rfl : i = 0 := by omega
      have HF := Lib.hid (HN.out (fun j hj => hno.out j (Nat.zero_le _) hj))
      go_wp2_with fail
      exact bodyPost_ret (v := .tuple #[itV it0, .bool false]) (by simp [results, Tryz.results100, go_sem, it0]) rfl ⟨by rw [HF.out]; rfl, below_box w it0⟩
/-- A one-item slice just laid, behind another new block. -/
theorem rd_lit (W : World) (x : It) : Rd (W.alloc (boxC x)) 4 (.slice (some ⟨W.heap.size, 0, none⟩) 1 1) 1 (itC x) := Rd.new W 4 (itC x) 77 1 rfl (by decide)
set_option maxHeartbeats 1000000 in
theorem rdrop_any (v : Value) (l : List It) (key : Int) (w : World) (h : RdT w v l) (hs : l.length ≤ 1000000) :
    Calls Tryz.prog 71 #[v, .int .u64 key] w fun e w' => ∃ v', e = .returned v' ∧ OwnT w' w.heap.size v' (drp (srt l) key) ∧ Below w.heap.size w w' := by
  have HS := Lib.hid (rsort_any v l w h hs)
  have hsl := srt_length l
  obtain ⟨a, cap, rfl, _, _⟩ := h.shape
  generalize srt l = s at *
  have HD := Lib.hid (fun i (h : i < s.length) => show drp (s.take (i + 1)) key = drp (s.take i) key ++ if (iat s i).key = key then [] else [iat s i] by rw [take_snoc h, drp_snoc])
  have HE := Lib.hid (show drp (s.take s.length) key = drp s key by rw [List.take_length])
  have HL := Lib.hid (fun i => show (drp (s.take i) key).length ≤ s.length from Nat.le_trans (drp_length _ _) (by rw [List.length_take]; omega))
  clear h
  go_enter Tryz.func71, Tryz.ntmps71
  go_wp2_with fail
  refine HS.out.mono ?_; rintro e w1 ⟨v1, rfl, hown1, hb1⟩
  have HR := Lib.hid hown1.rd
  have HB1 := Lib.hid hb1
  have hB1 := hb1.size
  clear hown1 hb1 HS
  obtain ⟨sa, sc, rfl, hs1, hs2⟩ := HR.out.shape
  have hs3 := lt63 hs1 hs2
  generalize hn : s.length = n at *
  clear hn
  go_wp2_with fail
  go_loopw [5, 6] (fun ov iv wr => ∃ i : Nat, iv = .int .i64 (i : Int) ∧ i ≤ n ∧ OwnT wr w1.heap.size ov (drp (s.take i) key) ∧ Below w1.heap.size w1 wr) (fun _ iv _ => n - (intOf iv).toNat)
  case atStart => exact ⟨0, by go_num, by omega, World.ownsRow_nil _ _ _ _, Below.refl _ _⟩
  case round =>
    obtain ⟨i, rfl, hi, hown, hb⟩ := hrel
    have HO := Lib.hid (show wr.ownsRow w1.heap.size 77 4 _ (drp (s.take i) key).length (itsC (drp (s.take i) key)) from hown)
    have Hb := Lib.hid hb
    have hB := hb.size
    clear hown hb
    by_cases hlt : i < n
    · obtain ⟨b, off, rfl, c0, c1, c2, c3⟩ := (HR.out.below Hb.out).at hlt
      have i1 : (i : Int) < (n : Int) := by omega
      have HDi := Lib.hid (HD.out i hlt)
      have hLi := HL.out i
      by_cases hk : (iat s i).key = key
      · have hd : ((iat s i).key != key) = false := by rw [hk]; simp
        rw [if_pos hk, List.append_nil] at HDi
        generalize iat s i = x at *
        clear hk
        go_wp2_with fail
        exact ⟨⟨i + 1, by go_num, by omega, by rw [HDi.out]; exact HO.out, Hb.out⟩, by simp [intOf]; omega⟩
      · have hd : ((iat s i).key != key) = true := bne_iff_ne.2 hk
        rw [if_neg hk] at HDi
        generalize iat s i = x at *
        generalize drp (s.take i) key = o at *
        clear hk
        go_wp2_with (at_builtin; go_must (refine wpList_app (m := 1) (n := o.length) rfl (.tmp 22) (.tmp 27) 22 rfl elemT w1.heap.size rfl (HO.out.alloc _) rfl (rd_lit wr x) (itsC_one' [x]) (by unfold maxLen; omega) (by omega) (by simp; omega) ?_); intro v8 w8 hown8 hgr8 hv8; clear hv8)
        have HO8 := Lib.hid (show OwnT w8 w1.heap.size v8 (o ++ [x]) from ownT_of hown8 (by simp only [itsC_append, itsC_one]))
        have HB8 := Lib.hid (own_below (Hb.out.alloc hB (boxC x)) (HO.out.alloc (boxC x)) (by simp; omega) hgr8)
        clear hown8 hgr8
        go_wp2_with fail
        exact ⟨⟨i + 1, by go_num, by omega, by rw [HDi.out]; exact HO8.out, HB8.out⟩, by simp [intOf]; omega⟩
    · obtain rfl : i = n := by omega
      go_wp2_with fail
      go_ret
      exact ⟨_, rfl, by rw [← HE.out]; exact HO.out.mono hB1, HB1.out.trans (Hb.out.mono hB1)⟩
set_option maxHeartbeats 2000000 in
theorem rput_any (v : Value) (l : List It) (x : It) (w : World) (h : RdT w v l) (hs : l.length ≤ 1000000) :
    Calls Tryz.prog 73 #[v, itV x] w fun e w' => ∃ v', e = .returned v' ∧ OwnT w' w.heap.size v' (ins (srt l) x) ∧ Below w.heap.size w w' := by
  have HS := Lib.hid (fun w h => rsort_any v l w h hs)
  have HBX := Lib.hid (BoxT.new w x)
  have HB0 := Lib.hid (below_box w x)
  have Hr := Lib.hid (h.below HB0.out)
  have hsl := srt_length l
  have hsa := Lib.hid (srt_asc l)
  obtain ⟨a, cap, rfl, _, _⟩ := h.shape
  generalize srt l = s at *
  have HE1 := Lib.hid (fun out (h : PutW s x s.length true out) => h.end1)
  have HE0 := Lib.hid (fun out (h : PutW s x s.length false out) => h.end0)
  have HLow := Lib.hid (fun i out (h : PutW s x i false out) (hi : i < s.length) => h.low hi)
  have HHere := Lib.hid (fun i out (h : PutW s x i false out) (hi : i < s.length) => h.here hi)
  have HAhead := Lib.hid (fun i out (h : PutW s x i false out) (hi : i < s.length) => h.ahead hi)
  have HMore := Lib.hid (fun i out (h : PutW s x i true out) (hi : i < s.length) => h.more hi)
  have HGt := Lib.hid (fun i out (h : PutW s x i true out) (hi : i < s.length) => h.gt hsa.out hi)
  clear h
  go_enter Tryz.func73, Tryz.ntmps73
  go_wp2_with fail
  refine (HS.out _ Hr.out).mono ?_; rintro e w1 ⟨v1, rfl, hown1, hb1⟩
  have HR := Lib.hid hown1.rd
  have HX1 := Lib.hid (HBX.out.below hb1)
  have HB1 := Lib.hid (bstep HB0.out hb1)
  have hB1 := HB1.out.size
  clear hown1 hb1 HS HBX HB0
  obtain ⟨sa, sc, rfl, hs1, hs2⟩ := HR.out.shape
  have hs3 := lt63 hs1 hs2
  generalize hn : s.length = n at *
  clear hn
  go_wp2_with fail
  go_loopw [5, 6, 7] (fun ov dv iv wr => ∃ (i : Nat) (d : Bool) (out : List It), dv = .bool d ∧ iv = .int .i64 (i : Int) ∧ i ≤ n ∧ Hid (PutW s x i d out) ∧ OwnT wr w1.heap.size ov out ∧ Below w1.heap.size w1 wr) (fun _ _ iv _ => n - (intOf iv).toNat)
  case atStart => exact ⟨0, false, [], rfl, by go_num, by omega, PutW.start s x, World.ownsRow_nil _ _ _ _, Below.refl _ _⟩
  case round =>
    obtain ⟨i, d, out, rfl, rfl, hi, HP, hown, hb⟩ := hrel
    have HO := Lib.hid (show wr.ownsRow w1.heap.size 77 4 _ out.length (itsC out) from hown)
    have Hb := Lib.hid hb
    have hB := hb.size
    have hlo := HP.out.len
    obtain ⟨x0, x1, x2, x3⟩ := HX1.out.below hb
    clear hown hb
    by_cases hlt : i < n
    · obtain ⟨b, off, rfl, c0, c1, c2, c3⟩ := (HR.out.below Hb.out).at hlt
      have i1 : (i : Int) < (n : Int) := by omega
      have HXr := Lib.hid (HX1.out.below Hb.out)
      have HYx := Lib.hid (show ∃ y, iat s i = y from ⟨_, rfl⟩)
      obtain ⟨y, hy⟩ := HYx.out
      have HY := Lib.hid hy
      have Hbwr := Hb
      have HOwr := HO
      rw [hy] at c0 c1 c2 c3
      cases d with
      | true =>
        have HG := HGt.out i out HP.out hlt
        have HM := Lib.hid (HMore.out i out HP.out hlt)
        rw [hy] at HG HM
        have hd : (y.key != x.key) = true := bne_iff_ne.2 (by omega)
        clear hy HYx HG Hb HO
        go_wp2_with fail
        go_quiet (fail)
        obtain ⟨wa, hW, hBwa⟩ : ∃ wa, wr.drewN nq = wa ∧ Below wr.heap.size wr wa := ⟨_, rfl, below_drewN (Below.refl _ _) _⟩
        rw [hW]
        clear hW
        have Hbwa := Lib.hid (bstep Hbwr.out hBwa)
        have HOwa := Lib.hid (own_keep HOwr.out hBwa)
        clear c0 c1 c2 c3 x0 x1 x2 x3 hBwa
        obtain ⟨_, _, e, c0, c1, c2, c3⟩ := (HR.out.below Hbwa.out).at hlt
        injection e with e; injection e with e1 e2; subst e1 e2
        rw [HY.out] at c0 c1 c2 c3
        obtain ⟨x0, x1, x2, x3⟩ := HX1.out.below Hbwa.out
        go_wp2_with fail
        go_quiet (fail)
        obtain ⟨wb, hW, hBwb⟩ : ∃ wb, wa.drewN nq = wb ∧ Below wa.heap.size wa wb := ⟨_, rfl, below_drewN (Below.refl _ _) _⟩
        rw [hW]
        clear hW
        have Hbwb := Lib.hid (bstep Hbwa.out hBwb)
        have HOwb := Lib.hid (own_keep HOwa.out hBwb)
        clear c0 c1 c2 c3 x0 x1 x2 x3 hBwb
        obtain ⟨_, _, e, c0, c1, c2, c3⟩ := (HR.out.below Hbwb.out).at hlt
        injection e with e; injection e with e1 e2; subst e1 e2
        rw [HY.out] at c0 c1 c2 c3
        obtain ⟨x0, x1, x2, x3⟩ := HX1.out.below Hbwb.out
        go_wp2_with (at_builtin; go_must (refine wpList_app (m := 1) rfl (.tmp 40) (.tmp 45) 22 rfl elemT w1.heap.size rfl (HOwb.out.alloc _) rfl (rd_lit wb y) (itsC_one' [y]) (by unfold maxLen; omega) (by omega) (by have := Hbwb.out.size; simp; omega) ?_); intro vwc wc hown8 hgr8 hv8; clear hv8)
        have HOwc := Lib.hid (show wc.ownsRow w1.heap.size 77 4 vwc (out ++ [y]).length (itsC (out ++ [y])) from ownT_of hown8 (by simp only [itsC_append, itsC_one]))
        have Hbwc := Lib.hid (own_below (Hbwb.out.alloc Hbwb.out.size (boxC y)) (HOwb.out.alloc (boxC y)) (by have := Hbwb.out.size; simp; omega) hgr8)
        clear hown8 hgr8
        go_wp2_with fail
        exact ⟨⟨i + 1, true, _, rfl, by go_num, by omega, HM, HOwc.out, Hbwc.out⟩, by simp [intOf]; omega⟩
      | false =>
        rcases Int.lt_trichotomy y.key x.key with hk | hk | hk
        · have HM := Lib.hid (HLow.out i out HP.out hlt (by rw [hy]; exact hk))
          rw [hy] at HM
          have hd : (y.key != x.key) = true := bne_iff_ne.2 (by omega)
          have hd2 : decide (x.key ≤ y.key) = false := decide_eq_false (by omega)
          clear hy HYx hk Hb HO
          go_wp2_with fail
          go_quiet (fail)
          obtain ⟨wa, hW, hBwa⟩ : ∃ wa, wr.drewN nq = wa ∧ Below wr.heap.size wr wa := ⟨_, rfl, below_drewN (Below.refl _ _) _⟩
          rw [hW]
          clear hW
          have Hbwa := Lib.hid (bstep Hbwr.out hBwa)
          have HOwa := Lib.hid (own_keep HOwr.out hBwa)
          clear c0 c1 c2 c3 x0 x1 x2 x3 hBwa
          obtain ⟨_, _, e, c0, c1, c2, c3⟩ := (HR.out.below Hbwa.out).at hlt
          injection e with e; injection e with e1 e2; subst e1 e2
          rw [HY.out] at c0 c1 c2 c3
          obtain ⟨x0, x1, x2, x3⟩ := HX1.out.below Hbwa.out
          go_wp2_with fail
          go_quiet (fail)
          obtain ⟨wb, hW, hBwb⟩ : ∃ wb, wa.drewN nq = wb ∧ Below wa.heap.size wa wb := ⟨_, rfl, below_drewN (Below.refl _ _) _⟩
          rw [hW]
          clear hW
          have Hbwb := Lib.hid (bstep Hbwa.out hBwb)
          have HOwb := Lib.hid (own_keep HOwa.out hBwb)
          clear c0 c1 c2 c3 x0 x1 x2 x3 hBwb
          obtain ⟨_, _, e, c0, c1, c2, c3⟩ := (HR.out.below Hbwb.out).at hlt
          injection e with e; injection e with e1 e2; subst e1 e2
          rw [HY.out] at c0 c1 c2 c3
          obtain ⟨x0, x1, x2, x3⟩ := HX1.out.below Hbwb.out
          go_wp2_with (at_builtin; go_must (refine wpList_app (m := 1) rfl (.tmp 40) (.tmp 45) 22 rfl elemT w1.heap.size rfl (HOwb.out.alloc _) rfl (rd_lit wb y) (itsC_one' [y]) (by unfold maxLen; omega) (by omega) (by have := Hbwb.out.size; simp; omega) ?_); intro vwc wc hown8 hgr8 hv8; clear hv8)
          have HOwc := Lib.hid (show wc.ownsRow w1.heap.size 77 4 vwc (out ++ [y]).length (itsC (out ++ [y])) from ownT_of hown8 (by simp only [itsC_append, itsC_one]))
          have Hbwc := Lib.hid (own_below (Hbwb.out.alloc Hbwb.out.size (boxC y)) (HOwb.out.alloc (boxC y)) (by have := Hbwb.out.size; simp; omega) hgr8)
          clear hown8 hgr8
          go_wp2_with fail
          exact ⟨⟨i + 1, false, _, rfl, by go_num, by omega, HM, HOwc.out, Hbwc.out⟩, by simp [intOf]; omega⟩
        · have HM := Lib.hid (HHere.out i out HP.out hlt (by rw [hy]; exact hk))
          have hd : (y.key != x.key) = false := by rw [hk]; simp
          have hd2 : decide (x.key ≤ y.key) = true := decide_eq_true (by omega)
          have hd3 : x.key ≤ y.key := by omega
          clear hy HYx hk Hb HO
          go_wp2_with fail
          go_quiet (fail)
          obtain ⟨wa, hW, hBwa⟩ : ∃ wa, wr.drewN nq = wa ∧ Below wr.heap.size wr wa := ⟨_, rfl, below_drewN (Below.refl _ _) _⟩
          rw [hW]
          clear hW
          have Hbwa := Lib.hid (bstep Hbwr.out hBwa)
          have HOwa := Lib.hid (own_keep HOwr.out hBwa)
          clear c0 c1 c2 c3 x0 x1 x2 x3 hBwa
          obtain ⟨_, _, e, c0, c1, c2, c3⟩ := (HR.out.below Hbwa.out).at hlt
          injection e with e; injection e with e1 e2; subst e1 e2
          rw [HY.out] at c0 c1 c2 c3
          obtain ⟨x0, x1, x2, x3⟩ := HX1.out.below Hbwa.out
          go_upto_region 9 with (at_builtin; go_must (refine wpList_app (m := 1) rfl (.tmp 28) (.tmp 30) 22 rfl elemT w1.heap.size rfl (HOwa.out.alloc _) rfl (rd_lit wa x) (itsC_one' [x]) (by unfold maxLen; omega) (by omega) (by have := Hbwa.out.size; simp; omega) ?_); intro vwb wb hown8 hgr8 hv8; clear hv8)
          have HOwb := Lib.hid (show wb.ownsRow w1.heap.size 77 4 vwb (out ++ [x]).length (itsC (out ++ [x])) from ownT_of hown8 (by simp only [itsC_append, itsC_one]))
          have Hbwb := Lib.hid (own_below (Hbwa.out.alloc Hbwa.out.size (boxC x)) (HOwa.out.alloc (boxC x)) (by have := Hbwa.out.size; simp; omega) hgr8)
          clear hown8 hgr8
          clear c0 c1 c2 c3 x0 x1 x2 x3
          obtain ⟨_, _, e, c0, c1, c2, c3⟩ := (HR.out.below Hbwb.out).at hlt
          injection e with e; injection e with e1 e2; subst e1 e2
          rw [HY.out] at c0 c1 c2 c3
          obtain ⟨x0, x1, x2, x3⟩ := HX1.out.below Hbwb.out
          go_wp2_with fail
          go_quiet (fail)
          obtain ⟨wc, hW, hBwc⟩ : ∃ wc, wb.drewN nq = wc ∧ Below wb.heap.size wb wc := ⟨_, rfl, below_drewN (Below.refl _ _) _⟩
          rw [hW]
          clear hW
          have Hbwc := Lib.hid (bstep Hbwb.out hBwc)
          have HOwc := Lib.hid (own_keep HOwb.out hBwc)
          clear c0 c1 c2 c3 x0 x1 x2 x3 hBwc
          obtain ⟨_, _, e, c0, c1, c2, c3⟩ := (HR.out.below Hbwc.out).at hlt
          injection e with e; injection e with e1 e2; subst e1 e2
          rw [HY.out] at c0 c1 c2 c3
          obtain ⟨x0, x1, x2, x3⟩ := HX1.out.below Hbwc.out
          go_wp2_with fail
          exact ⟨⟨i + 1, true, _, rfl, by go_num, by omega, HM, HOwc.out, Hbwc.out⟩, by simp [intOf]; omega⟩
        · have HM := Lib.hid (HAhead.out i out HP.out hlt (by rw [hy]; exact hk))
          rw [hy] at HM
          have hd : (y.key != x.key) = true := bne_iff_ne.2 (by omega)
          have hd2 : decide (x.key ≤ y.key) = true := decide_eq_true (by omega)
          have hd3 : x.key ≤ y.key := by omega
          clear hy HYx hk Hb HO
          go_wp2_with fail
          go_quiet (fail)
          obtain ⟨wa, hW, hBwa⟩ : ∃ wa, wr.drewN nq = wa ∧ Below wr.heap.size wr wa := ⟨_, rfl, below_drewN (Below.refl _ _) _⟩
          rw [hW]
          clear hW
          have Hbwa := Lib.hid (bstep Hbwr.out hBwa)
          have HOwa := Lib.hid (own_keep HOwr.out hBwa)
          clear c0 c1 c2 c3 x0 x1 x2 x3 hBwa
          obtain ⟨_, _, e, c0, c1, c2, c3⟩ := (HR.out.below Hbwa.out).at hlt
          injection e with e; injection e with e1 e2; subst e1 e2
          rw [HY.out] at c0 c1 c2 c3
          obtain ⟨x0, x1, x2, x3⟩ := HX1.out.below Hbwa.out
          go_upto_region 9 with (at_builtin; go_must (refine wpList_app (m := 1) rfl (.tmp 28) (.tmp 30) 22 rfl elemT w1.heap.size rfl (HOwa.out.alloc _) rfl (rd_lit wa x) (itsC_one' [x]) (by unfold maxLen; omega) (by omega) (by have := Hbwa.out.size; simp; omega) ?_); intro vwb wb hown8 hgr8 hv8; clear hv8)
          have HOwb := Lib.hid (show wb.ownsRow w1.heap.size 77 4 vwb (out ++ [x]).length (itsC (out ++ [x])) from ownT_of hown8 (by simp only [itsC_append, itsC_one]))
          have Hbwb := Lib.hid (own_below (Hbwa.out.alloc Hbwa.out.size (boxC x)) (HOwa.out.alloc (boxC x)) (by have := Hbwa.out.size; simp; omega) hgr8)
          clear hown8 hgr8
          clear c0 c1 c2 c3 x0 x1 x2 x3
          obtain ⟨_, _, e, c0, c1, c2, c3⟩ := (HR.out.below Hbwb.out).at hlt
          injection e with e; injection e with e1 e2; subst e1 e2
          rw [HY.out] at c0 c1 c2 c3
          obtain ⟨x0, x1, x2, x3⟩ := HX1.out.below Hbwb.out
          go_wp2_with fail
          go_quiet (fail)
          obtain ⟨wc, hW, hBwc⟩ : ∃ wc, wb.drewN nq = wc ∧ Below wb.heap.size wb wc := ⟨_, rfl, below_drewN (Below.refl _ _) _⟩
          rw [hW]
          clear hW
          have Hbwc := Lib.hid (bstep Hbwb.out hBwc)
          have HOwc := Lib.hid (own_keep HOwb.out hBwc)
          clear c0 c1 c2 c3 x0 x1 x2 x3 hBwc
          obtain ⟨_, _, e, c0, c1, c2, c3⟩ := (HR.out.below Hbwc.out).at hlt
          injection e with e; injection e with e1 e2; subst e1 e2
          rw [HY.out] at c0 c1 c2 c3
          obtain ⟨x0, x1, x2, x3⟩ := HX1.out.below Hbwc.out
          go_wp2_with (at_builtin; go_must (refine wpList_app (m := 1) rfl (.tmp 40) (.tmp 45) 22 rfl elemT w1.heap.size rfl (HOwc.out.alloc _) rfl (rd_lit wc y) (itsC_one' [y]) (by unfold maxLen; simp only [List.length_append, List.length_singleton]; omega) (by simp only [List.length_append, List.length_singleton]; omega) (by have := Hbwc.out.size; simp; omega) ?_); intro vwd wd hown8 hgr8 hv8; clear hv8)
          have HOwd := Lib.hid (show wd.ownsRow w1.heap.size 77 4 vwd ((out ++ [x]) ++ [y]).length (itsC ((out ++ [x]) ++ [y])) from ownT_of hown8 (by simp only [itsC_append, itsC_one]))
          have Hbwd := Lib.hid (own_below (Hbwc.out.alloc Hbwc.out.size (boxC y)) (HOwc.out.alloc (boxC y)) (by have := Hbwc.out.size; simp; omega) hgr8)
          clear hown8 hgr8
          go_wp2_with fail
          exact ⟨⟨i + 1, true, _, rfl, by go_num, by omega, HM, HOwd.out, Hbwd.out⟩, by simp [intOf]; omega⟩
    · obtain rfl : i = n := by omega
      cases d with
      | true =>
        have HE := Lib.hid (HE1.out out HP.out)
        go_wp2_with fail
        go_ret
        exact ⟨_, rfl, by rw [← HE.out]; exact HO.out.mono hB1, HB1.out.trans (Hb.out.mono hB1)⟩
      | false =>
        have HE := Lib.hid (HE0.out out HP.out)
        go_wp2_with (at_builtin; go_must (refine wpList_app (m := 1) (n := out.length) rfl (.tmp 49) (.tmp 51) 22 rfl elemT w1.heap.size rfl (HO.out.alloc _) rfl (rd_lit wr x) (itsC_one' [x]) (by unfold maxLen; omega) (by omega) (by simp; omega) ?_); intro v8 w8 hown8 hgr8 hv8; clear hv8)
        have HO8 := Lib.hid (show OwnT w8 w1.heap.size v8 (out ++ [x]) from ownT_of hown8 (by simp only [itsC_append, itsC_one]))
        have HB8 := Lib.hid (own_below (Hb.out.alloc hB (boxC x)) (HO.out.alloc (boxC x)) (by simp; omega) hgr8)
        clear hown8 hgr8
        go_wp2_with fail
        go_ret
        exact ⟨_, rfl, by rw [← HE.out]; exact HO8.out.mono hB1, HB1.out.trans (HB8.out.mono hB1)⟩
end Go.Proofs.YtenkeodfijladaaGreatDoor
