/- needlestoreref07.Encode: the walk. -/
import Derived.Test.YtecflhklpkjhcaaEn
import Derived.ArgAppend
import Derived.Lib.SmallJoins
import Derived.Test.YtecflhklpkjhcaaSd
namespace Go.Proofs.Ytecflhklpkjhcaa
open Go.RowKit

theorem rnum2 (v : Nat) (h : v < 18446744073709551616) (W : World) : Calls Try.prog 44 #[.int .u64 (v : Int), .int .i64 2] W fun e w' => ∃ v', e = .returned v' ∧ OwnB w' W.heap.size v' (be v 2) ∧ Below W.heap.size W w' := rnum_any v 2 W (by omega) h
theorem nvol_own (w : World) : OwnB (w.alloc (.cells #[.int .u8 78, .int .u8 86, .int .u8 79, .int .u8 76] 5)) w.heap.size (.slice (some ⟨w.heap.size, 0, none⟩) 4 4) nvol := World.ownsRow_lit (size := 1) w (#[.int .u8 78, .int .u8 86, .int .u8 79, .int .u8 76] : Array Value) 4 (Nat.le_refl _) (by decide) rfl
set_option maxRecDepth 100000 in
set_option maxHeartbeats 4000000 in
theorem rsenc_any (s : Sup) (w : World) (hv : svld s) :
    Calls Try.prog 27 #[supV s] w fun e w' => ∃ v', e = .returned (.tuple #[v', .int .i64 0]) ∧ OwnB w' w.heap.size v' (senc s) ∧ Below w.heap.size w w' := by
  obtain ⟨l1, l2, l3, l4⟩ := hv
  have HV := Lib.hid (fun W => rsvalid_any s W (by omega) (by omega) (by omega))
  rw [show decide (svld s) = true from decide_eq_true ⟨l1, l2, l3, l4⟩] at HV
  have HSE := Lib.hid (show senc s = (nvol ++ be s.slot 2 ++ be s.gen 2 ++ be s.rev 4) ++ ck (nvol ++ be s.slot 2 ++ be s.gen 2 ++ be s.rev 4) from rfl)
  have h12 : (nvol ++ be s.slot 2 ++ be s.gen 2 ++ be s.rev 4).length = 12 := s12_length s
  have h6 : (nvol ++ be s.slot 2).length = 6 := by simp [nvol, be_length]
  obtain ⟨slot, gen, rev⟩ := s
  dsimp only at l1 l2 l3 l4 HSE h12 h6
  have j1 : IntKind.u64.wrap (slot : Int) = (slot : Int) := IntWalk.u64_in _ (by omega)
  have j2 : IntKind.u64.wrap (gen : Int) = (gen : Int) := IntWalk.u64_in _ (by omega)
  have j3 : IntKind.u64.wrap (rev : Int) = (rev : Int) := IntWalk.u64_in _ (by omega)
  have HN1 := Lib.hid (rnum2 slot (by omega))
  have HN3 := Lib.hid (rnum2 gen (by omega))
  have HN4 := Lib.hid (rnum4 rev (by omega))
  go_enter Try.func27, Try.ntmps27
  go_wp2_with fail
  refine (HV.out _).mono ?_; rintro e wr ⟨rfl, hbr⟩
  have c0 : wr.cell? ⟨w.heap.size, 0, none⟩ = some (.int .i64 (slot : Int)) := Below.keeps hbr _ _ (by simp)
  have c1 : wr.cell? ⟨w.heap.size, 1, none⟩ = some (.int .i64 (gen : Int)) := Below.keeps hbr _ _ (by simp)
  have c2 : wr.cell? ⟨w.heap.size, 2, none⟩ = some (.int .i64 (rev : Int)) := Below.keeps hbr _ _ (by simp)
  have hsr : w.heap.size ≤ wr.heap.size := Nat.le_trans (by simp) hbr.size
  have HBr := Lib.hid (show Below w.heap.size w wr from ((Below.refl _ _).alloc (Nat.le_refl _) _).trans (hbr.mono (by simp)))
  have HS4 := Lib.hid (fun w' (h : Below wr.heap.size wr w') => And.intro (Below.keeps h _ _ c0) (And.intro (Below.keeps h _ _ c1) (Below.keeps h _ _ c2)))
  clear hbr HV
  have hcv := Go.Joins.run_convert_bytes_const_at (P := Try.prog) wr 23 5 #[.int .u8 78, .int .u8 86, .int .u8 79, .int .u8 76] 4 4 wr.heap.size rfl Try.underlying23 Try.underlying5
  simp only [List.size_toArray, List.length_cons, List.length_nil, Nat.zero_add, Nat.reduceAdd] at hcv
  obtain ⟨d0, _, _⟩ := HS4.out (wr.alloc (.cells #[.int .u8 78, .int .u8 86, .int .u8 79, .int .u8 76] 5 (4, 5))) ((Below.refl _ _).alloc (Nat.le_refl _) _)
  clear c0 c1 c2
  have HBa := Lib.hid (show Below wr.heap.size wr (wr.alloc (.cells #[.int .u8 78, .int .u8 86, .int .u8 79, .int .u8 76] 5 (4, 5))) from (Below.refl _ _).alloc (Nat.le_refl _) _)
  have HC := Lib.hid (fun j u (h : (nvol.map byteV)[j]? = some u) => show (wr.alloc (.cells #[.int .u8 78, .int .u8 86, .int .u8 79, .int .u8 76] 5 (4, 5))).cell? ⟨wr.heap.size, j, none⟩ = some u from (Go.Joins.cell_alloc_mark_at wr _ _ _ _ j rfl).trans (by rw [← h]; simp [nvol, byteV]))
  go_wp2_with fail
  refine (HN1.out _).mono ?_; rintro e w1 ⟨v1, rfl, hown1, hb1⟩
  obtain ⟨g1, cap1, hv1⟩ := Go.Joins.ownsRow_form hown1 (by rw [be_length]; decide)
  subst hv1
  have HR1 := Lib.hid hown1.rd
  have HC1 := Lib.hid (fun j u h => Below.keeps hb1 _ _ (HC.out j u h))
  have HB1 := Lib.hid (bstep HBa.out hb1)
  have hs1 := HB1.out.size
  rw [be_length] at HR1 ⊢
  clear hown1 hb1 HBa HC d0 hcv
  obtain ⟨ii, hi, hz, hsz, hby⟩ := info_parts (P := Try.prog) (e := 5) (z := .int .u8 0) (size := 1) (bytes := 1) (by kernel_rfl)
  have HRc := Lib.hid (show ∀ j u, ((be slot 2).map byteV)[j]? = some u → w1.cell? (Addr.add ⟨g1, 0, none⟩ j) = some u from fun j u hj => by
    obtain ⟨_, a', cap', e, _, _, _, hc⟩ := HR1.out
    injection e with e1
    obtain ⟨b, off, e2, hc⟩ := hc (by rw [List.length_map, be_length]; decide)
    rw [e2] at e1; injection e1 with e1; rw [e1, Addr.add_lit]; exact hc j u hj)
  go_wp2_with (at_builtin; go_must (refine wpList_append_grows w1 rfl (.tmp 9) (.tmp 13) 23 rfl 5 ii (.int .u8 0) 1 1 Try.underlying23 hi hz hsz hby rfl (by decide) (some ⟨wr.heap.size, 0, none⟩) 4 4 (nvol.map byteV) rfl (fun h => by cases h) rfl (fun b hb j u hj => by injection hb with hb; subst hb; rw [Addr.add_lit, Nat.zero_add]; exact HC1.out j u hj) ⟨g1, 0, none⟩ 2 cap1 ((be slot 2).map byteV) rfl (by rw [List.length_map, be_length]) HRc.out (bytes_one _) (by decide) (by decide) (by decide) ?_); intro v3 w3 hown3 hgr3)
  rw [← List.map_append] at hown3
  have HO3 := Lib.hid (Go.Joins.ownsRow_le (show OwnB w3 w1.heap.size v3 (nvol ++ be slot 2) from ownB_of hown3 rfl) hs1)
  have HD3 := Lib.hid (HB1.out.grown hgr3 hs1 (fun k hk => by cases hk))
  clear hown3 hgr3 HR1 HB1 hs1 HC1 HRc
  have hE12 : nvol ++ be slot 2 ++ be gen 2 ++ be rev 4 = nvol ++ be slot 2 ++ be gen 2 ++ be rev 4 := rfl
  generalize nvol ++ be slot 2 = e12 at *
  clear hE12
  go_wp2_with fail
  go_region_held3 (fun w' => w'.cell? ⟨w.heap.size, 0, none⟩ = some (.int .i64 (slot : Int)) ∧ w'.cell? ⟨w.heap.size, 1, none⟩ = some (.int .i64 (gen : Int)) ∧ w'.cell? ⟨w.heap.size, 2, none⟩ = some (.int .i64 (rev : Int)))
        (first | exact HS4.out _ HD3.out.drew | exact HS4.out _ (bstep HD3.out (bstep (Below.refl w3.heap.size w3).drew hb4)) | exact HS4.out _ (own_below (bstep HD3.out (bstep (Below.refl w3.heap.size w3).drew hb4)) (own_keep HO3.out (bstep (Below.refl w3.heap.size w3).drew hb4)) (bstep HD3.out (bstep (Below.refl w3.heap.size w3).drew hb4)).size hgr5) | exact HS4.out _ (bstep (own_below (bstep HD3.out (bstep (Below.refl w3.heap.size w3).drew hb4)) (own_keep HO3.out (bstep (Below.refl w3.heap.size w3).drew hb4)) (bstep HD3.out (bstep (Below.refl w3.heap.size w3).drew hb4)).size hgr5) hb6) | exact HS4.out _ (bstep (bstep HD3.out (bstep (Below.refl w3.heap.size w3).drew hb4)) hb6) | exact HS4.out _ (own_below (bstep (bstep HD3.out (bstep (Below.refl w3.heap.size w3).drew hb4)) hb6) (own_keep (own_keep HO3.out (bstep (Below.refl w3.heap.size w3).drew hb4)) hb6) (bstep (bstep HD3.out (bstep (Below.refl w3.heap.size w3).drew hb4)) hb6).size hgr5) | exact HS4.out _ (own_below (bstep (own_below (bstep HD3.out (bstep (Below.refl w3.heap.size w3).drew hb4)) (own_keep HO3.out (bstep (Below.refl w3.heap.size w3).drew hb4)) (bstep HD3.out (bstep (Below.refl w3.heap.size w3).drew hb4)).size hgr5) hb6) (own_keep hown5 hb6) (bstep (own_below (bstep HD3.out (bstep (Below.refl w3.heap.size w3).drew hb4)) (own_keep HO3.out (bstep (Below.refl w3.heap.size w3).drew hb4)) (bstep HD3.out (bstep (Below.refl w3.heap.size w3).drew hb4)).size hgr5) hb6).size hgr7) | exact HS4.out _ (own_below (own_below (bstep (bstep HD3.out (bstep (Below.refl w3.heap.size w3).drew hb4)) hb6) (own_keep (own_keep HO3.out (bstep (Below.refl w3.heap.size w3).drew hb4)) hb6) (bstep (bstep HD3.out (bstep (Below.refl w3.heap.size w3).drew hb4)) hb6).size hgr5) hown5 (own_below (bstep (bstep HD3.out (bstep (Below.refl w3.heap.size w3).drew hb4)) hb6) (own_keep (own_keep HO3.out (bstep (Below.refl w3.heap.size w3).drew hb4)) hb6) (bstep (bstep HD3.out (bstep (Below.refl w3.heap.size w3).drew hb4)) hb6).size hgr5).size hgr7))
        (first | (go_at_call 44; (with_reducible refine (HN3.out _).mono ?_); rintro e w4 ⟨v4, rfl, hown4, hb4⟩) | (go_at_call 44; (with_reducible refine (HN4.out _).mono ?_); rintro e w6 ⟨v6, rfl, hown6, hb6⟩) | (refine step_app (by rfl) _ _ _ (by rfl) elemB wr.heap.size (by rfl) (own_keep HO3.out (bstep (Below.refl w3.heap.size w3).drew hb4)) (by rfl) hown4.rd (bytes_one _) (by simp [be_length, maxLen]; omega) (by simp [be_length]; omega) (bstep HD3.out (bstep (Below.refl w3.heap.size w3).drew hb4)).size ?_; intro v5 w5 hown5 hgr5 hv5; clear hv5) | (refine step_app (by rfl) _ _ _ (by rfl) elemB wr.heap.size (by rfl) (own_keep (own_keep HO3.out (bstep (Below.refl w3.heap.size w3).drew hb4)) hb6) (by rfl) (hown4.rd.below hb6) (bytes_one _) (by simp [be_length, maxLen]; omega) (by simp [be_length]; omega) (bstep (bstep HD3.out (bstep (Below.refl w3.heap.size w3).drew hb4)) hb6).size ?_; intro v5 w5 hown5 hgr5 hv5; clear hv5) | (refine step_app (by rfl) _ _ _ (by rfl) elemB wr.heap.size (by rfl) (own_keep hown5 hb6) (by rfl) hown6.rd (bytes_one _) (by simp [be_length, maxLen]; omega) (by simp [be_length]; omega) (bstep (own_below (bstep HD3.out (bstep (Below.refl w3.heap.size w3).drew hb4)) (own_keep HO3.out (bstep (Below.refl w3.heap.size w3).drew hb4)) (bstep HD3.out (bstep (Below.refl w3.heap.size w3).drew hb4)).size hgr5) hb6).size ?_; intro v7 w7 hown7 hgr7 hv7; clear hv7) | (refine step_app (by rfl) _ _ _ (by rfl) elemB wr.heap.size (by rfl) hown5 (by rfl) (OwnB.rd (own_apart hown6 hgr5 (fun g hg => Nat.lt_of_lt_of_le (HO3.out.lt g hg).2 hb4.size))) (bytes_one _) (by simp [be_length, maxLen]; omega) (by simp [be_length]; omega) (own_below (bstep (bstep HD3.out (bstep (Below.refl w3.heap.size w3).drew hb4)) hb6) (own_keep (own_keep HO3.out (bstep (Below.refl w3.heap.size w3).drew hb4)) hb6) (bstep (bstep HD3.out (bstep (Below.refl w3.heap.size w3).drew hb4)) hb6).size hgr5).size ?_; intro v7 w7 hown7 hgr7 hv7; clear hv7))
  all_goals
    have HD7 : Hid (Below wr.heap.size wr w7) := by first | exact Lib.hid (own_below (bstep (own_below (bstep HD3.out (bstep (Below.refl w3.heap.size w3).drew hb4)) (own_keep HO3.out (bstep (Below.refl w3.heap.size w3).drew hb4)) (bstep HD3.out (bstep (Below.refl w3.heap.size w3).drew hb4)).size hgr5) hb6) (own_keep hown5 hb6) (bstep (own_below (bstep HD3.out (bstep (Below.refl w3.heap.size w3).drew hb4)) (own_keep HO3.out (bstep (Below.refl w3.heap.size w3).drew hb4)) (bstep HD3.out (bstep (Below.refl w3.heap.size w3).drew hb4)).size hgr5) hb6).size hgr7) | exact Lib.hid (own_below (own_below (bstep (bstep HD3.out (bstep (Below.refl w3.heap.size w3).drew hb4)) hb6) (own_keep (own_keep HO3.out (bstep (Below.refl w3.heap.size w3).drew hb4)) hb6) (bstep (bstep HD3.out (bstep (Below.refl w3.heap.size w3).drew hb4)) hb6).size hgr5) hown5 (own_below (bstep (bstep HD3.out (bstep (Below.refl w3.heap.size w3).drew hb4)) hb6) (own_keep (own_keep HO3.out (bstep (Below.refl w3.heap.size w3).drew hb4)) hb6) (bstep (bstep HD3.out (bstep (Below.refl w3.heap.size w3).drew hb4)) hb6).size hgr5).size hgr7)
    rw [← List.map_append, ← List.map_append] at hown7
    have HO7 := Lib.hid (ownB_of hown7 rfl)
    clear hown4 hown5 hown6 hown7 hb4 hb6 hgr5 hgr7
    generalize hE : e12 ++ be gen 2 ++ be rev 4 = E at *
    clear hE
    have hs7 := HD7.out.size
    have HS7 := Lib.hid hs7
    go_wp2_with fail
    refine (rcheck_any v7 E w7 HO7.out.rd).mono ?_; rintro e w9 ⟨v9, rfl, hown9, hb9⟩
    have HO9 := Lib.hid (show w9.ownsRow wr.heap.size 5 1 v7 12 (E.map byteV) by have := own_keep HO7.out hb9; unfold OwnB at this; rw [h12] at this; exact this)
    have HD9 := Lib.hid (bstep HD7.out hb9)
    have HR9 := Lib.hid (show Rd w9 1 v9 4 ((ck E).map byteV) from hown9.rd)
    have hs9 : wr.heap.size ≤ w9.heap.size := HD9.out.size
    clear hown9 hb9
    go_wp2_with (at_builtin; go_must (refine wpList_app rfl (.tmp 26) (.tmp 28) 23 rfl elemB wr.heap.size rfl HO9.out rfl HR9.out (bytes_one (ck E)) (by decide) (by decide) hs9 ?_); intro v10 w10 hown10 hgr10 hv10; clear hv10)
    rw [← List.map_append] at hown10
    have HO10 := Lib.hid (Go.Joins.ownsRow_le (show OwnB w10 wr.heap.size v10 (E ++ ck E) from ownB_of hown10 rfl) hsr)
    have HG10 := Lib.hid (HBr.out.trans ((own_below HD9.out HO9.out hs9 hgr10).mono hsr))
    clear hown10 hgr10
    go_wp2_with fail
    go_ret2
    exact ⟨_, rfl, by rw [HSE.out]; exact HO10.out, HG10.out⟩
end Go.Proofs.Ytecflhklpkjhcaa
