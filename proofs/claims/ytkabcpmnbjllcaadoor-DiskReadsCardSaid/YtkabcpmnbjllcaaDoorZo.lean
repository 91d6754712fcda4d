/- The program's Valid: the walk. -/
import Derived.Test.YtkabcpmnbjllcaaDoorZn
namespace Go.Proofs.YtkabcpmnbjllcaaDoor
open Go.RowKit

theorem ascN_snoc : ∀ (l : List Fil) (y : Fil), ascN (l ++ [y]) = (ascN l && match l.getLast? with | none => true | some x => decide (x.name < y.name))
  | [], _ => rfl
  | [a], y => by simp [ascN]
  | a :: b :: r, y => by
    have ih := ascN_snoc (b :: r) y
    show (decide (a.name < b.name) && ascN (b :: r ++ [y])) = _
    rw [ih]
    have e : (a :: b :: r).getLast? = (b :: r).getLast? := by simp
    rw [e]
    simp only [ascN, Bool.and_assoc]
theorem ascN_take : ∀ (l : List Fil) (k : Nat), ascN l = true → ascN (l.take k) = true := fun l k h => by
  rw [ascN_iff] at h ⊢
  exact h.sublist (List.take_sublist _ _)
/-- The files up to k are in order. -/
def vldK (l : List Fil) (k : Nat) : Bool := (l.take k).all okF && ascN (l.take k)
theorem vldK_zero (l : List Fil) : vldK l 0 = true := rfl
theorem vldK_first (l : List Fil) (h : 0 < l.length) : vldK l 1 = okF (atN l 0) := by
  unfold vldK
  rw [show (1 : Nat) = 0 + 1 from rfl, List.take_add_one, atN_at h]
  simp [ascN]
theorem vldK_next (l : List Fil) (j : Nat) (h : j + 1 < l.length) : vldK l (j + 2) = (vldK l (j + 1) && okF (atN l (j + 1)) && decide ((atN l j).name < (atN l (j + 1)).name)) := by
  unfold vldK
  rw [show j + 2 = (j + 1) + 1 from rfl, List.take_add_one (i := j + 1), atN_at h]
  have hl : (l.take (j + 1)).getLast? = some (atN l j) := by
    rw [List.take_add_one, atN_at (show j < l.length by omega)]; simp
  simp only [Option.toList_some, List.all_append, List.all_cons, List.all_nil, Bool.and_true, ascN_snoc, hl]
  cases (l.take (j + 1)).all okF <;> cases okF (atN l (j + 1)) <;> simp
theorem vldK_no (l : List Fil) (k : Nat) (h : vldK l k = false) : (l.all okF && ascN l) = false := by
  cases e : (l.all okF && ascN l)
  · rfl
  · simp only [Bool.and_eq_true, List.all_eq_true] at e
    have : vldK l k = true := by
      unfold vldK
      rw [ascN_take l k e.2, Bool.and_true]
      exact List.all_eq_true.2 fun x hx => e.1 x (List.mem_of_mem_take hx)
    rw [this] at h; cases h
theorem vldK_all (l : List Fil) : vldK l l.length = (l.all okF && ascN l) := by unfold vldK; rw [List.take_length]
structure LiteFs (l : List Fil) : Prop where
  fil : ∀ f ∈ l, LiteF f
theorem LiteFs.at {l : List Fil} (h : LiteFs l) {i : Nat} (hi : i < l.length) : LiteF (atN l i) := h.fil _ (atN_mem hi)
set_option maxHeartbeats 1600000 in
theorem dvalid_any (c lf : Int) (fv : Value) (l : List Fil) (w : World) (h : RdF w fv l) (hL : LiteFs l) :
    Calls Tryd.prog 16 #[diskVal c lf fv] w fun e w' => e = .returned (.bool (validD ⟨c, lf, l⟩)) ∧ Below w.heap.size w w' := by
  obtain ⟨a, cap, rfl, h1, h2, h3⟩ := h.shape
  have HR := Lib.hid h
  have HV := Lib.hid (show validD ⟨c, lf, l⟩ = (decide (0 ≤ c) && decide (-1 ≤ lf) && decide (l.length ≤ 256) && (l.all okF && ascN l)) by unfold validD; simp only [Bool.and_assoc])
  have HA := Lib.hid (vldK_all l)
  have HN := Lib.hid (fun k => vldK_no l k)
  have H0 := Lib.hid (vldK_zero l)
  have H1 := Lib.hid (vldK_first l)
  have HS := Lib.hid (fun j => vldK_next l j)
  have HLf := Lib.hid (fun i (hi : i < l.length) => hL.at hi)
  unfold maxLen at h2
  clear h h3 hL
  generalize (l.all okF && ascN l) = A at *
  generalize validD ⟨c, lf, l⟩ = R at *
  generalize l.length = n at *
  have HBx := Lib.hid (show Below w.heap.size w (w.alloc (.cells #[.int .i64 c, .int .i64 lf, .slice a n cap] 33)) from (Below.refl _ _).alloc (Nat.le_refl _) _)
  by_cases hc : c < 0
  · have HX := Lib.hid (show false = R by rw [HV.out, decide_eq_false (show ¬ 0 ≤ c by omega)]; rfl)
    go_enter Tryd.func16, Tryd.ntmps16
    go_wp2_with fail
    go_ret
    exact ⟨ret_bool HX.out, HBx.out⟩
  · by_cases hl : lf < -1
    · have HX := Lib.hid (show false = R by rw [HV.out, decide_eq_false (show ¬ -1 ≤ lf by omega), Bool.and_false]; rfl)
      go_enter Tryd.func16, Tryd.ntmps16
      go_wp2_with fail
      go_ret
      exact ⟨ret_bool HX.out, HBx.out⟩
    · by_cases hn : 256 < n
      · have i1 : (256 : Int) < (n : Int) := by omega
        have HX := Lib.hid (show false = R by rw [HV.out, decide_eq_false (show ¬ n ≤ 256 by omega), Bool.and_false]; rfl)
        go_enter Tryd.func16, Tryd.ntmps16
        go_wp2_with fail
        go_ret
        exact ⟨ret_bool HX.out, HBx.out⟩
      · have i1 : ¬ (256 : Int) < (n : Int) := by omega
        have HX := Lib.hid (show R = A by rw [HV.out, decide_eq_true (show 0 ≤ c by omega), decide_eq_true (show -1 ≤ lf by omega), decide_eq_true (show n ≤ 256 by omega)]; rfl)
        clear HV
        go_enter Tryd.func16, Tryd.ntmps16
        go_wp2_with fail
        have HC2 := Lib.hid (show (w.alloc (.cells #[.int .i64 c, .int .i64 lf, .slice a n cap] 33)).cell? ⟨w.heap.size, 2, none⟩ = some (.slice a n cap) by simp)
        generalize w.alloc (.cells #[.int .i64 c, .int .i64 lf, .slice a n cap] 33) = W0 at *
        go_loopw [22] (fun iv W => ∃ k : Nat, k ≤ n ∧ iv = .int .i64 (k : Int) ∧ Hid (vldK l k = true) ∧ Hid (Below W0.heap.size W0 W)) (fun iv _ => n - (intOf iv).toNat)
        case atStart => exact ⟨0, Nat.zero_le _, rfl, H0, Lib.hid (Below.refl _ _)⟩
        case round =>
          obtain ⟨k, hk, rfl, HK, HB⟩ := hrel
          by_cases hlt : k < n
          · have i2 : (k : Int) < (n : Int) := by omega
            obtain ⟨b, off, bv, pv, rfl, hb, hp, c0, c1, c2⟩ := (HR.out.below (bstep HBx.out HB.out)).at hlt
            obtain ⟨ba, bc, rfl, _⟩ := hb.shape0
            obtain ⟨pa, pc, rfl, _⟩ := hp.shape
            have hLk := HLf.out k hlt
            generalize hs : strB (atN l k).name = s at *
            have Hs := Lib.hid hs
            clear hs
            have HQ := Lib.hid (show okF (atN l k) = (nameB (atN l k).name && sizedF (atN l k)) from rfl)
            have HNm : Hid (∀ W, Calls Tryd.prog 23 #[.string s] W fun e w' => e = .returned (.bool (nameB (atN l k).name)) ∧ Below W.heap.size W w') := Lib.hid (fun W => by rw [← Hs.out]; exact vname_any (strB (atN l k).name) W (by rw [strB_size]; have := hLk.name; omega))
            have HSz : Hid (∀ W, Below wr.heap.size wr W → Calls Tryd.prog 46 #[.agg #[.string s, .slice ba (atN l k).base.length bc, .slice pa (atN l k).pend.length pc]] W fun e w' => e = .returned (.bool (sizedF (atN l k))) ∧ Below W.heap.size W w') := Lib.hid (fun W (hW : Below wr.heap.size wr W) => by rw [← Hs.out]; exact sized_any (atN l k).name (atN l k).base (atN l k).pend _ _ W (hb.below hW) (hp.below hW) hLk.wr)
            have Hle := Lib.hid (fun t => le_str (atN l k).name t)
            have Hsm := Lib.hid (fun t => same_str (atN l k).name t)
            have Hls := Lib.hid (fun t => show Op.bytesLess (strB (atN l k).name).toList (strB t).toList = decide ((atN l k).name < t) by rw [strB_toList, strB_toList, less_eq])
            rw [Hs.out] at Hle Hsm Hls
            go_upto_region 6 with fail
            have hbq : Below wr.heap.size wr (wr.alloc (.cells #[.string s, .slice ba (atN l k).base.length bc, .slice pa (atN l k).pend.length pc] 69)) := (Below.refl _ _).alloc (Nat.le_refl _) _
            have d0 : (wr.alloc (.cells #[.string s, .slice ba (atN l k).base.length bc, .slice pa (atN l k).pend.length pc] 69)).cell? ⟨wr.heap.size, 0, none⟩ = some (.string s) := by simp
            have d1 : (wr.alloc (.cells #[.string s, .slice ba (atN l k).base.length bc, .slice pa (atN l k).pend.length pc] 69)).cell? ⟨wr.heap.size, 1, none⟩ = some (.slice ba (atN l k).base.length bc) := by simp
            have d2 : (wr.alloc (.cells #[.string s, .slice ba (atN l k).base.length bc, .slice pa (atN l k).pend.length pc] 69)).cell? ⟨wr.heap.size, 2, none⟩ = some (.slice pa (atN l k).pend.length pc) := by simp
            have d3 : (wr.alloc (.cells #[.string s, .slice ba (atN l k).base.length bc, .slice pa (atN l k).pend.length pc] 69)).cell? ⟨w.heap.size, 2, none⟩ = some (.slice (some ⟨b, off, none⟩) n cap) := Below.keeps hbq _ _ (Below.keeps HB.out _ _ HC2.out)
            have HSz2 := Lib.hid (fun W (hW : Below (wr.alloc (.cells #[.string s, .slice ba (atN l k).base.length bc, .slice pa (atN l k).pend.length pc] 69)).heap.size (wr.alloc (.cells #[.string s, .slice ba (atN l k).base.length bc, .slice pa (atN l k).pend.length pc] 69)) W) => HSz.out W (bstep hbq hW))
            have hrd := HR.out.below (bstep (bstep HBx.out HB.out) hbq)
            replace HB := Lib.hid (bstep HB.out hbq)
            clear c0 c1 c2 hb hp HSz hbq
            generalize (atN l k).base.length = bl at *
            generalize (atN l k).pend.length = pl at *
            generalize wr.alloc (.cells #[.string s, .slice ba bl bc, .slice pa pl pc] 69) = W6 at *
            generalize wr.heap.size = q at *
            generalize nameB (atN l k).name = nb at *
            generalize sizedF (atN l k) = sb at *
            cases nb
            · have HY := Lib.hid (show false = R by
                rw [HX.out, HN.out (k + 1) (by
                  rcases Nat.eq_zero_or_pos k with e | e
                  · subst e; rw [H1.out hlt, HQ.out]; rfl
                  · obtain ⟨j, rfl⟩ : ∃ j, k = j + 1 := ⟨k - 1, by omega⟩
                    rw [HS.out j hlt, HQ.out]; simp)])
              have e0 := cell_by d0
              have e1 := cell_by d1
              have e2 := cell_by d2
              have e3 := cell_by d3
              clear d0 d1 d2 d3
              refine wp_region_below (by kernel_rfl) (by kernel_rfl) ?_
              repeat (go_big_quiet_step (first | with_reducible exact calls_by (HNm.out _) | with_reducible exact calls_by (HSz2.out _ (BelowBy.h _))))
              refine wpQuiet_nil ?_
              intro _ hw'
              obtain ⟨u, hw'⟩ := hw'
              subst hw'
              have HBu := Lib.hid (bstep HB.out u.h)
              generalize u.w' = W7 at *
              clear e0 e1 e2 e3
              go_wp2_with fail
              go_ret
              exact ⟨ret_bool HY.out, bstep HBx.out HBu.out⟩
            · cases sb
              · have HY := Lib.hid (show false = R by
                  rw [HX.out, HN.out (k + 1) (by
                    rcases Nat.eq_zero_or_pos k with e | e
                    · subst e; rw [H1.out hlt, HQ.out]; rfl
                    · obtain ⟨j, rfl⟩ : ∃ j, k = j + 1 := ⟨k - 1, by omega⟩
                      rw [HS.out j hlt, HQ.out]; simp)])
                have e0 := cell_by d0
                have e1 := cell_by d1
                have e2 := cell_by d2
                have e3 := cell_by d3
                clear d0 d1 d2 d3
                refine wp_region_below (by kernel_rfl) (by kernel_rfl) ?_
                repeat (go_big_quiet_step (first | with_reducible exact calls_by (HNm.out _) | with_reducible exact calls_by (HSz2.out _ (BelowBy.h _))))
                refine wpQuiet_nil ?_
                intro _ hw'
                obtain ⟨u, hw'⟩ := hw'
                subst hw'
                have HBu := Lib.hid (bstep HB.out u.h)
                generalize u.w' = W7 at *
                clear e0 e1 e2 e3
                go_wp2_with fail
                go_ret
                exact ⟨ret_bool HY.out, bstep HBx.out HBu.out⟩
              · by_cases h0 : k = 0
                · subst h0
                  have HY := Lib.hid (show vldK l (0 + 1) = true by rw [show 0 + 1 = 1 from rfl, H1.out hlt, HQ.out]; rfl)
                  have e0 := cell_by d0
                  have e1 := cell_by d1
                  have e2 := cell_by d2
                  have e3 := cell_by d3
                  clear d0 d1 d2 d3
                  refine wp_region_below (by kernel_rfl) (by kernel_rfl) ?_
                  repeat (go_big_quiet_step (first | with_reducible exact calls_by (HNm.out _) | with_reducible exact calls_by (HSz2.out _ (BelowBy.h _))))
                  refine wpQuiet_nil ?_
                  intro _ hw'
                  obtain ⟨u, hw'⟩ := hw'
                  subst hw'
                  have HBu := Lib.hid (bstep HB.out u.h)
                  generalize u.w' = W7 at *
                  clear e0 e1 e2 e3
                  go_wp2_with fail
                  exact ⟨⟨0 + 1, by omega, by go_num, HY, HBu⟩, by simp [intOf]; omega⟩
                · obtain ⟨j, rfl⟩ : ∃ j, k = j + 1 := ⟨k - 1, by omega⟩
                  obtain ⟨b', off', bv', pv', eqa, _, _, c0, _, _⟩ := hrd.at (show j < n by omega)
                  injection eqa with eqa
                  injection eqa with eqb eqo
                  subst eqb eqo
                  have HSj := Lib.hid (HS.out j hlt)
                  have Hlej := Lib.hid (Hle.out (atN l j).name)
                  have Hsmj := Lib.hid (Hsm.out (atN l j).name)
                  have Hlsj := Lib.hid (Hls.out (atN l j).name)
                  have i3 : (0 : Int) < (j : Int) + 1 := by omega
                  clear Hle Hsm Hls h0 hrd
                  generalize strB (atN l j).name = t at *
                  by_cases hlt2 : (atN l j).name < (atN l (j + 1)).name
                  · have HY := Lib.hid (show vldK l (j + 1 + 1) = true by rw [HSj.out, HK.out, HQ.out, decide_eq_true hlt2]; rfl)
                    have b0 := Hlej.out
                    rw [decide_eq_true hlt2] at b0
                    have b1 : Op.bytesLess s.toList t.toList = false := by cases e : Op.bytesLess s.toList t.toList; rfl; rw [e] at b0; cases b0
                    have b2 : (s.toList == t.toList) = false := by rw [b1] at b0; simpa using b0
                    clear b0 Hlej Hsmj Hlsj
                    have e0 := cell_by d0
                    have e1 := cell_by d1
                    have e2 := cell_by d2
                    have e3 := cell_by d3
                    have e4 := cell_by c0
                    clear d0 d1 d2 d3
                    refine wp_region_below (by kernel_rfl) (by kernel_rfl) ?_
                    repeat (go_big_quiet_step (first | with_reducible exact calls_by (HNm.out _) | with_reducible exact calls_by (HSz2.out _ (BelowBy.h _))))
                    refine wpQuiet_nil ?_
                    intro _ hw'
                    obtain ⟨u, hw'⟩ := hw'
                    subst hw'
                    have HBu := Lib.hid (bstep HB.out u.h)
                    generalize u.w' = W7 at *
                    clear e0 e1 e2 e3 e4
                    go_wp2_with fail
                    exact ⟨⟨j + 1 + 1, by omega, by go_num, HY, HBu⟩, by simp [intOf]; omega⟩
                  · have HY := Lib.hid (show false = R by
                      rw [HX.out, HN.out (j + 1 + 1) (by rw [HSj.out, HK.out, HQ.out, decide_eq_false hlt2]; rfl)])
                    by_cases heq : (atN l (j + 1)).name = (atN l j).name
                    · have b2 := Hsmj.out
                      rw [beq_iff_eq.2 heq] at b2
                      have b1 := Hlsj.out
                      rw [decide_eq_false (show ¬ (atN l (j + 1)).name < (atN l j).name by rw [heq]; exact lex_irrefl _)] at b1
                      clear Hlej Hsmj Hlsj
                      have e0 := cell_by d0
                      have e1 := cell_by d1
                      have e2 := cell_by d2
                      have e3 := cell_by d3
                      have e4 := cell_by c0
                      clear d0 d1 d2 d3
                      refine wp_region_below (by kernel_rfl) (by kernel_rfl) ?_
                      repeat (go_big_quiet_step (first | with_reducible exact calls_by (HNm.out _) | with_reducible exact calls_by (HSz2.out _ (BelowBy.h _))))
                      refine wpQuiet_nil ?_
                      intro _ hw'
                      obtain ⟨u, hw'⟩ := hw'
                      subst hw'
                      have HBu := Lib.hid (bstep HB.out u.h)
                      generalize u.w' = W7 at *
                      clear e0 e1 e2 e3 e4
                      go_wp2_with fail
                      go_ret
                      exact ⟨ret_bool HY.out, bstep HBx.out HBu.out⟩
                    · have b1 := Hlsj.out
                      rw [decide_eq_true (show (atN l (j + 1)).name < (atN l j).name by
                        rcases lex_tri (atN l (j + 1)).name (atN l j).name with e | e | e
                        · exact e
                        · exact absurd e heq
                        · exact absurd e hlt2)] at b1
                      clear Hlej Hsmj Hlsj
                      have e0 := cell_by d0
                      have e1 := cell_by d1
                      have e2 := cell_by d2
                      have e3 := cell_by d3
                      have e4 := cell_by c0
                      clear d0 d1 d2 d3
                      refine wp_region_below (by kernel_rfl) (by kernel_rfl) ?_
                      repeat (go_big_quiet_step (first | with_reducible exact calls_by (HNm.out _) | with_reducible exact calls_by (HSz2.out _ (BelowBy.h _))))
                      refine wpQuiet_nil ?_
                      intro _ hw'
                      obtain ⟨u, hw'⟩ := hw'
                      subst hw'
                      have HBu := Lib.hid (bstep HB.out u.h)
                      generalize u.w' = W7 at *
                      clear e0 e1 e2 e3 e4
                      go_wp2_with fail
                      go_ret
                      exact ⟨ret_bool HY.out, bstep HBx.out HBu.out⟩
          · have i2 : ¬ (k : Int) < (n : Int) := by omega
            obtain rfl : k = n := by omega
            have HY := Lib.hid (show true = R by rw [HX.out, ← HA.out, HK.out])
            go_wp2_with fail
            go_ret
            exact ⟨ret_bool HY.out, bstep HBx.out HB.out⟩
end Go.Proofs.YtkabcpmnbjllcaaDoor
