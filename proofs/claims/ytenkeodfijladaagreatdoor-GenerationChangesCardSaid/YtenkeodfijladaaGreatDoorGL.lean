/- Several texts in one, each over the last: The needle map's From: the walk. The reference's From of needle maps: the walk. The reference's Items, Get and Len of needle maps: walks. The reference's Put of needle maps: the walk. The reference's Delete of needle maps: the walk. The reference's Waste of needle maps: the walk. The law's given, told, light; the reference's Same of needle maps: walks. -/
import Derived.Test.YtenkeodfijladaaGreatDoorGC
import Derived.RegionTactic
import Derived.Deep.RegionLaw
import Derived.Test.YtenkeodfijladaaGreatDoorGA
import Derived.Deep.RegionHeld3
import Derived.Test.YtenkeodfijladaaGreatDoorGB
namespace Go.Proofs.YtenkeodfijladaaGreatDoor
open Go.RowKit

/-! ### From -/
def accM (T : List It) (j : Nat) (i : Nat) : List It := inS i (T.take j)
theorem accM_self {T : List It} {j : Nat} (h : j < T.length) : accM T (j + 1) (strp (iat T j).key) = accM T j (strp (iat T j).key) ++ [iat T j] := by
  unfold accM inS
  rw [take_snoc h, List.filter_append]
  simp
theorem accM_ne {T : List It} {j i : Nat} (h : j < T.length) (hi : i ≠ strp (iat T j).key) : accM T (j + 1) i = accM T j i := by
  unfold accM inS
  rw [take_snoc h, List.filter_append]
  simp [Ne.symm hi]
theorem accM_step {T : List It} {j : Nat} (h : j < T.length) : accM T (j + 1) = fun i => if i = strp (iat T j).key then accM T j (strp (iat T j).key) ++ [iat T j] else accM T j i := funext fun i => by
  by_cases e : i = strp (iat T j).key
  · rw [if_pos e, e, accM_self h]
  · rw [if_neg e, accM_ne h e]
theorem accM_len (T : List It) (j i : Nat) : (accM T j i).length ≤ j := by
  unfold accM
  exact Nat.le_trans (inS_len _ _) (by rw [List.length_take]; omega)
theorem accM_zero (T : List It) : accM T 0 = fun _ => [] := funext fun _ => rfl
theorem accM_all (T : List It) : accM T T.length = fun i => inS i T := funext fun i => by unfold accM; rw [List.take_length]
end Go.Proofs.YtenkeodfijladaaGreatDoor

namespace Go.Proofs.YtenkeodfijladaaGreatDoor
open Go.RowKit

theorem rvalidI_any (x : It) (w : World) : Calls Tryz.prog 72 #[.agg #[.int .u64 x.key, .int .u32 x.ck, .int .i64 x.off, .int .i64 x.size]] w fun e w' => e = .returned (.bool (okB x)) ∧ Below w.heap.size w w' := rvalid1_any x.key x.ck x.off x.size w
theorem M0_live : (M0).live = 0 := rfl
set_option maxRecDepth 100000 in
set_option maxHeartbeats 8000000 in
theorem rfromM_any (v : Value) (l : List It) (g : Int) (w : World) (h : RdT w v l) (hs : l.length ≤ 80000) :
    Calls Tryz.prog 70 #[v, .int .i64 g] w fun e w' => (∃ s', e = .returned (mapV s' (fromM l g).live (fromM l g).garb) ∧ OwnM w' w.heap.size s' (fromM l g).st) ∧ Below w.heap.size w w' := by
  have Hr := Lib.hid h
  have HSo := Lib.hid (fun v W h => rsort_any v l W h (Nat.le_trans hs (by decide)))
  have HBy := Lib.hid (fun (ho : l.all okB = true) v W h => rbytesI_any v (srt l) W h (fun x hx => (srt_all (all_okP ho) x hx).2.2.2.1) (Nat.le_trans (srt_length l) (Nat.le_trans hs (by decide))))
  have HBx := Lib.hid (BoxM.new w Sl.nil 0 0 25)
  have HB0 := Lib.hid (below_map w Sl.nil 0 0 25)
  have HNo := Lib.hid (fun h => fromM_no (l := l) (g := g) h)
  have HYes := Lib.hid (fun h h0 h1 => fromM_of (l := l) (g := g) h h0 h1)
  have HAt := Lib.hid (show (∀ j, j < l.length → _) → _ from all_true (l := l) (p := okB))
  have HAf := Lib.hid (show ∀ j, j < l.length → _ → _ from fun j => all_false (l := l) (p := okB) (j := j))
  have hl := srt_length l
  have hsb := sumI_le (srt l)
  have hsb2 : sumI (srt l) ≤ 80000 * 4127 := Nat.le_trans hsb (Nat.mul_le_mul_right _ (Nat.le_trans hl hs))
  clear h hsb
  generalize fromM l g = FM at *
  generalize l.all okB = ob at *
  generalize srt l = T at *
  obtain ⟨a, cap, rfl, h1, h2⟩ := Hr.out.shape
  generalize hn : l.length = n at *
  clear hn
  go_enter Tryz.func70, Tryz.ntmps70
  go_upto_region 1 with fail
  obtain ⟨W0, hW0⟩ : ∃ W0, w.alloc (.cells (mapC Sl.nil 0 0) 25) = W0 := ⟨_, rfl⟩
  rw [hW0] at HBx HB0
  rw [show w.alloc (.cells #[.slice none 0 0, .slice none 0 0, .slice none 0 0, .slice none 0 0, .slice none 0 0, .slice none 0 0, .slice none 0 0, .slice none 0 0, .int .i64 0, .int .i64 0] 25) = W0 from hW0]
  clear hW0
  go_wp2_with fail
  go_loopw [5] (fun iv W => ∃ i : Nat, iv = .int .i64 (i : Int) ∧ i ≤ n ∧ Hid (∀ r, r < i → okB (iat l r) = true) ∧ Hid (Below W0.heap.size W0 W)) (fun iv _ => n - (intOf iv).toNat)
  case atStart => exact ⟨0, rfl, Nat.zero_le _, Lib.hid (fun r hr => by omega), Lib.hid (Below.refl _ _)⟩
  case round =>
    obtain ⟨i, rfl, hi, Hok, HB⟩ := hrel
    by_cases hin : i < n
    · have ii1 : (i : Int) < (n : Int) := by omega
      obtain ⟨pb, poff, e, k0, k1, k2, k3⟩ := (Hr.out.below (bstep HB0.out HB.out)).at hin
      subst e
      have HAi := Lib.hid (HAf.out i hin)
      have HOi := Lib.hid (fun (hx : okB (iat l i) = true) r (hr : r < i + 1) => show okB (iat l r) = true from by
        by_cases e : r = i
        · rw [e]; exact hx
        · exact Hok.out r (by omega))
      generalize iat l i = x at *
      have HV := Lib.hid (fun W => rvalidI_any x W)
      cases hx : okB x
      · rw [hx] at HV
        have HF := Lib.hid (HNo.out (fun h => by rw [HAi.out hx] at h; cases h.1))
        clear hx HAi HOi HNo HYes
        go_wp2_with fail
        refine (HV.out _).mono ?_; rintro e w1 ⟨rfl, hb1⟩
        have HXz := Lib.hid (HBx.out.below (bstep HB.out hb1))
        have HBz := Lib.hid (bstep HB0.out (bstep HB.out hb1))
        clear hb1 k0 k1 k2 k3
        have c0 := HXz.out.c0
        have c1 := HXz.out.c1
        have c2 := HXz.out.c2
        have c3 := HXz.out.c3
        have c4 := HXz.out.c4
        have c5 := HXz.out.c5
        have c6 := HXz.out.c6
        have c7 := HXz.out.c7
        have c8 := HXz.out.cl
        have c9 := HXz.out.cg
        have cF := HXz.out.f
        go_wp2_with fail
        change bodyPost _ _ _ _ _ (putM w1 w.heap.size Sl.nil 0 0)
        have hby := HXz.out.all Sl.nil 0 0
        have HBq := Lib.hid (putM_below HBz.out (Nat.le_refl _) Sl.nil 0 0)
        generalize putM w1 w.heap.size Sl.nil 0 0 = V9 at *
        exact bodyPost_ret (v := mapV Sl.nil 0 0) (by simp [results, Tryz.results70, go_sem, hby.c0, hby.c1, hby.c2, hby.c3, hby.c4, hby.c5, hby.c6, hby.c7, hby.cl, hby.cg]) rfl ⟨⟨Sl.nil, by rw [HF.out]; rfl, by rw [HF.out]; exact OwnM.nil _ _⟩, HBq.out⟩
      · rw [hx] at HV
        have HOk2 := Lib.hid (HOi.out hx)
        clear hx HAi HOi
        go_wp2_with fail
        refine (HV.out _).mono ?_; rintro e w1 ⟨rfl, hb1⟩
        have HBz := Lib.hid (bstep HB.out hb1)
        clear hb1 k0 k1 k2 k3
        go_wp2_with fail
        exact ⟨⟨i + 1, by go_num, by omega, HOk2, HBz⟩, by simp [intOf]; omega⟩
    · have ii1 : ¬ (i : Int) < (n : Int) := by omega
      obtain rfl : i = n := by omega
      have hob : ob = true := HAt.out Hok.out
      subst hob
      have HX0 := Lib.hid (HBx.out.below HB.out)
      have HB1 := Lib.hid (bstep HB0.out HB.out)
      clear HAt HAf Hok HBx HB0 HB
      by_cases hg : 0 ≤ g ∧ g ≤ 1099511627776
      · obtain ⟨hg0, hg1⟩ := hg
        have g1 : decide (g < 0) = false := by simp; omega
        have g2 : decide (1099511627776 < g) = false := by simp; omega
        have HFM := Lib.hid (HYes.out rfl hg0 hg1)
        have HBy1 := Lib.hid (HBy.out rfl)
        clear HNo HYes HBy
        have HS1 := Lib.hid (HSo.out _ wr (Hr.out.below HB1.out))
        go_wp2_with fail
        refine HS1.out.mono ?_; rintro e w2 ⟨v2, rfl, hown2, hb2⟩
        have HX2 := Lib.hid (HX0.out.below hb2)
        have HB2 := Lib.hid (bstep HB1.out hb2)
        have HR2 := Lib.hid (OwnT.rd hown2)
        have HBy2 := Lib.hid (HBy1.out _ w2 (OwnT.rd hown2))
        obtain ⟨ta, tc, rfl, ht1, ht2⟩ := HR2.out.shape
        clear hown2 hb2 HX0 HB1 HS1
        go_wp2_with fail
        refine HBy2.out.mono ?_; rintro e w3 ⟨rfl, hb3⟩
        have HX3 := Lib.hid (HX2.out.below hb3)
        have HB3 := Lib.hid (bstep HB2.out hb3)
        have HR3 := Lib.hid (HR2.out.below hb3)
        clear hb3 HX2 HB2 HR2 HBy2
        have HAs := Lib.hid (fun j (h : j < T.length) => accM_step h)
        have HAl := Lib.hid (fun j i => accM_len T j i)
        have HA0 := Lib.hid (accM_zero T)
        have HAz := Lib.hid (accM_all T)
        generalize htn : T.length = tn at *
        clear htn
        generalize sumI T = S at *
        go_upto_region 10 with fail
        obtain ⟨W4, hW4⟩ : ∃ W4, w3.alloc (.cells (mapC Sl.nil (S : Int) g) 25) = W4 := ⟨_, rfl⟩
        have HY4 := Lib.hid (show BoxM W4 w3.heap.size Sl.nil (S : Int) g from hW4 ▸ BoxM.new w3 Sl.nil (S : Int) g 25)
        have HB4 := Lib.hid (show Below w3.heap.size w3 W4 from hW4 ▸ below_map w3 Sl.nil (S : Int) g 25)
        have hm0 : w.heap.size < w3.heap.size := HX3.out.lt
        have hm1 : w3.heap.size < W4.heap.size := HY4.out.lt
        rw [show w3.alloc (.cells #[.slice none 0 0, .slice none 0 0, .slice none 0 0, .slice none 0 0, .slice none 0 0, .slice none 0 0, .slice none 0 0, .slice none 0 0, .int .i64 (S : Int), .int .i64 g] 25) = W4 from hW4]
        clear hW4
        go_wp2_with fail
        go_loopw [7] (fun iv W => ∃ (j : Nat) (s : Sl), iv = .int .i64 (j : Int) ∧ j ≤ tn ∧ Hid (BoxM W w3.heap.size s (S : Int) g) ∧ Hid (OwnM W W4.heap.size s (accM T j)) ∧ Hid (ApM s) ∧ Hid (Below w3.heap.size w3 W) ∧ Hid (W4.heap.size ≤ W.heap.size)) (fun iv _ => tn - (intOf iv).toNat)
        case atStart => exact ⟨0, Sl.nil, rfl, Nat.zero_le _, HY4, Lib.hid (by rw [HA0.out]; exact OwnM.nil _ _), Lib.hid ApM.nil, HB4, Lib.hid (Nat.le_refl _)⟩
        case round =>
          obtain ⟨j, s, rfl, hj, HY, HO, HA, HB, HL⟩ := hrel
          by_cases hjt : j < tn
          · have jj1 : (j : Int) < (tn : Int) := by omega
            obtain ⟨qb, qoff, e, q0, q1, q2, q3⟩ := (HR3.out.below HB.out).at hjt
            subst e
            have HAj := Lib.hid (HAs.out j hjt)
            have hk8 := strp_lt (iat T j).key
            have hal := HAl.out j (strp (iat T j).key)
            generalize iat T j = x at *
            have HSt := Lib.hid (fun W => rstripe_any x.key W)
            generalize strp x.key = k at *
            go_wp2_with fail
            refine (HSt.out _).mono ?_; rintro e w8 ⟨rfl, rfl⟩
            have ck := HY.out.c k hk8
            rw [show s.v k = .slice (s.a k) (s.n k) (s.c k) from rfl] at ck
            have HOk7 := Lib.hid (show wr.ownsRow W4.heap.size 77 4 (.slice (s.a k) (s.n k) (s.c k)) (accM T j k).length (itsC (accM T j k)) from HO.out k hk8)
            have hbw := Lib.hid (show Below wr.heap.size wr (wr.alloc (boxC x)).drew from below_drew (below_box wr x))
            have HL8 := Lib.hid (Nat.le_trans HL.out hbw.out.size)
            have HSt8 := Lib.hid (fun w9 va n vc (hown : World.ownsRow w9 W4.heap.size 77 4 (.slice va n vc) n (itsC (accM T j k ++ [x]))) hg hat => fromStep (w := (wr.alloc (boxC x)).drew) (HX3.out.below (bstep HB.out hbw.out)) (HY.out.below hbw.out) (HO.out.keep hbw.out) HA.out (T := []) (B2 := w3.heap.size + 1) (World.ownsRow_nil _ _ _ _) (bstep HB.out hbw.out) (Nat.le_refl _) hm0 (Nat.lt_succ_self _) (Nat.succ_le_of_lt hm1) HL8.out (fun g hg => by cases hg) hk8 hown hg hat)
            have HYg := Lib.hid (fun W (hg : (wr.alloc (boxC x)).drew.grownBy W (s.v k).ownBlock) => ((HY.out.below hbw.out).grown hg (own_row_ge (HO.out k hk8) hm1)))
            have HOne := Lib.hid (show ∀ u ∈ itC x, u.oneCell' = true from by have := itsC_one' [x]; rwa [itsC_one] at this)
            have HCu := Lib.hid (show itsC (accM T j k ++ [x]) = itsC (accM T j k) ++ itC x by rw [itsC_append, itsC_one])
            have ik8 : (k : Int) < 8 := by omega
            have hbm7 : w3.heap.size < wr.heap.size := HY.out.lt
            go_wp2_with fail
            go_region_law ((refine step_appAt (by rfl) (.tmp 51) (.tmp 56) 22 (by rfl) elemT W4.heap.size (by rfl) ((HOk7.out.alloc _).drew) (ad := ⟨wr.heap.size, 0, none⟩) (m := 1) (c := 1) (news := itC x) (by rfl) (by rfl) (news_box wr x _ rfl) HOne.out (by unfold maxLen; omega) (by omega) HL8.out ?_; intro v2 w9 hown2 hgr2 hat2; obtain ⟨oa2, oc2, hv2, _, _, _⟩ := own_form hown2; subst hv2; have hy9 := HYg.out _ hgr2; have c2 := hy9.c k hk8; have f2 := hy9.f k; rw [show s.v k = .slice (s.a k) (s.n k) (s.c k) from rfl] at c2))
            all_goals
              obtain ⟨r1, r2, r3, r4, r5, r6⟩ := HSt8.out _ _ _ _ (by rw [HCu.out]; exact hown2) hgr2 hat2
              have hsz9 : W4.heap.size ≤ w9.heap.size := Nat.le_trans HL8.out hgr2.size
              clear c2 f2 hy9 hown2 hgr2 hat2 ck HSt8 HYg HOk7 r1 r5
              have HR := Lib.hid (show _ ∧ _ ∧ _ ∧ _ from ⟨r2, r3, r4, r6⟩)
              clear r2 r3 r4 r6
              go_wp2_with fail
              obtain ⟨r2, r3, r4, r6⟩ := HR.out
              exact ⟨⟨j + 1, s.set k oa2 ((accM T j k).length + 1) oc2, by go_num, by omega, Lib.hid r2, Lib.hid (by rw [HAj.out]; exact r3), Lib.hid r4, Lib.hid r6, Lib.hid (by simpa using hsz9)⟩, by simp [intOf]; omega⟩
          · have jj1 : ¬ (j : Int) < (tn : Int) := by omega
            obtain rfl : j = tn := by omega
            have HXz := Lib.hid (HX3.out.below HB.out)
            have HBz := Lib.hid (bstep HB3.out HB.out)
            have d0 := HY.out.c0
            have d1 := HY.out.c1
            have d2 := HY.out.c2
            have d3 := HY.out.c3
            have d4 := HY.out.c4
            have d5 := HY.out.c5
            have d6 := HY.out.c6
            have d7 := HY.out.c7
            have d8 := HY.out.cl
            have d9 := HY.out.cg
            have dF := HY.out.f
            have c0 := HXz.out.c0
            have c1 := HXz.out.c1
            have c2 := HXz.out.c2
            have c3 := HXz.out.c3
            have c4 := HXz.out.c4
            have c5 := HXz.out.c5
            have c6 := HXz.out.c6
            have c7 := HXz.out.c7
            have c8 := HXz.out.cl
            have c9 := HXz.out.cg
            have cF := HXz.out.f
            go_wp2_with fail
            change bodyPost _ _ _ _ _ (putM wr w.heap.size s (S : Int) g)
            have hby := HXz.out.all s (S : Int) g
            have HRq := Lib.hid ((HO.out.putM (b := w.heap.size) (by omega) s (S : Int) g).mono (show w.heap.size ≤ W4.heap.size by omega))
            have HBq := Lib.hid (putM_below HBz.out (Nat.le_refl _) s (S : Int) g)
            generalize putM wr w.heap.size s (S : Int) g = V9 at *
            exact bodyPost_ret (v := mapV s (S : Int) g) (by simp [results, Tryz.results70, go_sem, hby.c0, hby.c1, hby.c2, hby.c3, hby.c4, hby.c5, hby.c6, hby.c7, hby.cl, hby.cg]) rfl ⟨⟨s, by rw [HFM.out], by rw [HFM.out]; show OwnM _ _ _ (fun i => inS i T); rw [← HAz.out]; exact HRq.out⟩, HBq.out⟩
      · have HF := Lib.hid (HNo.out (fun h => hg h.2))
        have hcs : g < 0 ∨ (0 ≤ g ∧ 1099511627776 < g) := by omega
        have HXz := HX0
        have HBz := HB1
        clear HNo HYes hg
        rcases hcs with h0 | ⟨h0, h1'⟩
        · have g1 : decide (g < 0) = true := by simp; omega
          have c0 := HXz.out.c0
          have c1 := HXz.out.c1
          have c2 := HXz.out.c2
          have c3 := HXz.out.c3
          have c4 := HXz.out.c4
          have c5 := HXz.out.c5
          have c6 := HXz.out.c6
          have c7 := HXz.out.c7
          have c8 := HXz.out.cl
          have c9 := HXz.out.cg
          have cF := HXz.out.f
          go_wp2_with fail
          change bodyPost _ _ _ _ _ (putM wr w.heap.size Sl.nil 0 0)
          have hby := HXz.out.all Sl.nil 0 0
          have HBq := Lib.hid (putM_below HBz.out (Nat.le_refl _) Sl.nil 0 0)
          generalize putM wr w.heap.size Sl.nil 0 0 = V9 at *
          exact bodyPost_ret (v := mapV Sl.nil 0 0) (by simp [results, Tryz.results70, go_sem, hby.c0, hby.c1, hby.c2, hby.c3, hby.c4, hby.c5, hby.c6, hby.c7, hby.cl, hby.cg]) rfl ⟨⟨Sl.nil, by rw [HF.out]; rfl, by rw [HF.out]; exact OwnM.nil _ _⟩, HBq.out⟩
        · have g1 : decide (g < 0) = false := by simp; omega
          have g2 : decide (1099511627776 < g) = true := by simp; omega
          have c0 := HXz.out.c0
          have c1 := HXz.out.c1
          have c2 := HXz.out.c2
          have c3 := HXz.out.c3
          have c4 := HXz.out.c4
          have c5 := HXz.out.c5
          have c6 := HXz.out.c6
          have c7 := HXz.out.c7
          have c8 := HXz.out.cl
          have c9 := HXz.out.cg
          have cF := HXz.out.f
          go_wp2_with fail
          change bodyPost _ _ _ _ _ (putM wr w.heap.size Sl.nil 0 0)
          have hby := HXz.out.all Sl.nil 0 0
          have HBq := Lib.hid (putM_below HBz.out (Nat.le_refl _) Sl.nil 0 0)
          generalize putM wr w.heap.size Sl.nil 0 0 = V9 at *
          exact bodyPost_ret (v := mapV Sl.nil 0 0) (by simp [results, Tryz.results70, go_sem, hby.c0, hby.c1, hby.c2, hby.c3, hby.c4, hby.c5, hby.c6, hby.c7, hby.cl, hby.cg]) rfl ⟨⟨Sl.nil, by rw [HF.out]; rfl, by rw [HF.out]; exact OwnM.nil _ _⟩, HBq.out⟩
end Go.Proofs.YtenkeodfijladaaGreatDoor

namespace Go.Proofs.YtenkeodfijladaaGreatDoor
open Go.RowKit

set_option maxRecDepth 100000 in
set_option maxHeartbeats 1000000 in
theorem ritemsM_any (s : Sl) (M : Mp) (w : World) (h : RdM w s M.st) (hs : ∀ i, i < 8 → (M.st i).length ≤ 10000) :
    Calls Tryz.prog 68 #[mapV s M.live M.garb] w fun e w' => ∃ v', e = .returned v' ∧ OwnT w' w.heap.size v' (itemsM M) ∧ Below w.heap.size w w' := by
  have HV := Lib.hid (fun W h => rvalidM_any s M W h (fun i hi => Nat.le_trans (hs i hi) (by decide)))
  have HBx := Lib.hid (BoxM.new w s M.live M.garb 25)
  have HB0 := Lib.hid (below_map w s M.live M.garb 25)
  have Hr := Lib.hid h
  have HL := Lib.hid (fun i (hi : i < 8) => h.n hi)
  have HCl := Lib.hid (fun n (hn : n ≤ 8) => Nat.le_trans (cat_le (M := M) (B := 10000) hs n hn) (Nat.mul_le_mul_right _ hn))
  have HSo := Lib.hid (fun v l W h (hl : l.length ≤ 1000000) => rsort_any v l W h hl)
  have HC := Lib.hid (fun n => cat_len M.st n)
  have HE := Lib.hid (fun i => show cat M.st (i + 1) = cat M.st i ++ M.st i from rfl)
  have HI1 := Lib.hid (show vldM M = true → itemsM M = srt (cat M.st 8) from fun h => by unfold itemsM; rw [if_pos h]; rfl)
  have HI0 := Lib.hid (show vldM M = false → itemsM M = [] from fun h => by unfold itemsM; rw [h]; rfl)
  clear h hs
  generalize vldM M = vb at *
  generalize itemsM M = I at *
  obtain ⟨f, L, G⟩ := M
  dsimp only at *
  go_enter Tryz.func68, Tryz.ntmps68
  go_wp2_with fail
  obtain ⟨W0, hW0⟩ : ∃ W0, w.alloc (.cells (mapC s L G) 25) = W0 := ⟨_, rfl⟩
  rw [hW0] at HBx HB0
  try rw [hW0]
  clear hW0
  go_loopw [3, 4] (fun ov iv W => ∃ i : Nat, iv = .int .i64 (i : Int) ∧ i ≤ 8 ∧ Hid (OwnT W W0.heap.size ov (cat f i)) ∧ Hid (i = 0 ∨ vb = true) ∧ Hid (Below W0.heap.size W0 W)) (fun _ iv _ => 8 - (intOf iv).toNat)
  case atStart => exact ⟨0, rfl, Nat.zero_le _, Lib.hid (World.ownsRow_nil _ _ _ _), Lib.hid (.inl rfl), Lib.hid (Below.refl _ _)⟩
  case round =>
    obtain ⟨i, rfl, hi, HO, Hz, HB⟩ := hrel
    have HBi := Lib.hid (show Below w.heap.size w wr from bstep HB0.out HB.out)
    have HXi := Lib.hid (HBx.out.below HB.out)
    by_cases hin : i < 8
    · have i1 : (i : Int) < 8 := by omega
      have HVi := Lib.hid (HV.out wr (Hr.out.below HBi.out))
      have hL := HL.out i hin
      have hvi : s.v i = .slice (s.a i) (s.n i) (s.c i) := rfl
      have HRi := Lib.hid (fun w2 (hb : Below wr.heap.size wr w2) => (Hr.out i hin).below (bstep HBi.out hb))
      rw [hvi, hL] at HRi
      have Hvi := Lib.hid hvi
      have HLi := Lib.hid hL
      clear hvi hL
      have c0 := HXi.out.c0
      have c1 := HXi.out.c1
      have c2 := HXi.out.c2
      have c3 := HXi.out.c3
      have c4 := HXi.out.c4
      have c5 := HXi.out.c5
      have c6 := HXi.out.c6
      have c7 := HXi.out.c7
      have c8 := HXi.out.cl
      have c9 := HXi.out.cg
      have cF := HXi.out.f
      cases vb
      · have hi0 : i = 0 := by
          rcases Hz.out with h | h
          · exact h
          · cases h
        subst hi0
        have HF := Lib.hid (HI0.out rfl)
        clear HI0 HI1
        go_wp2_with fail
        refine HVi.out.mono ?_; rintro e w2 ⟨rfl, hb2⟩
        have HO2 := Lib.hid (own_keep HO.out hb2)
        have HB2 := Lib.hid (bstep HBi.out hb2)
        have HS2 := Lib.hid (HSo.out _ (cat f 0) w2 (OwnT.rd HO2.out) (by simp [cat]))
        clear c0 c1 c2 c3 c4 c5 c6 c7 c8 c9 cF hb2
        go_wp2_with fail
        refine HS2.out.mono ?_; rintro e w3 ⟨v3, rfl, hown3, hb3⟩
        have HO3 := Lib.hid (World.ownsRow.mono hown3 HB2.out.size)
        have HB3 := Lib.hid (bstep HB2.out hb3)
        clear hown3 hb3
        go_wp2_with fail
        go_ret
        exact ⟨_, rfl, by rw [HF.out]; exact HO3.out, HB3.out⟩
      · go_wp2_with fail
        refine HVi.out.mono ?_; rintro e w2 ⟨rfl, hb2⟩
        have HO2 := Lib.hid (own_keep HO.out hb2)
        have HB2 := Lib.hid (bstep HBi.out hb2)
        have HB2' := Lib.hid (bstep HB.out hb2)
        have HX2 := Lib.hid (HXi.out.below hb2)
        have HR2 := Lib.hid (rdT_rd (HRi.out w2 hb2))
        have c1 := HX2.out.c i hin
        rw [Hvi.out, HLi.out] at c1
        have hm := HCl.out (i + 1) (by omega)
        rw [HC.out i] at hm
        have HEi := Lib.hid (HE.out i)
        have HOne := Lib.hid (itsC_one' (f i))
        have hsz := HB2'.out.size
        clear c0 c2 c3 c4 c5 c6 c7 c8 c9 hb2 HVi HRi Hvi HLi
        go_wp2_with (at_builtin; refine wpList_app (n := (cat f i).length) (m := (f i).length) rfl (.tmp 13) (.tmp 17) 22 rfl elemT W0.heap.size rfl HO2.out rfl HR2.out HOne.out (by unfold maxLen; omega) (by omega) hsz ?_; intro v4 w4 hown4 hgr4 hv4; clear hv4; have HO4 := Lib.hid (show OwnT w4 W0.heap.size v4 (cat f (i + 1)) from ownT_of hown4 (by rw [HEi.out, itsC_append])); have HB4 := Lib.hid (own_below HB2'.out HO2.out hsz hgr4); clear hown4 hgr4)
        exact ⟨⟨i + 1, by go_num, by omega, HO4, Lib.hid (.inr trivial), HB4⟩, by simp [intOf]; omega⟩
    · obtain rfl : i = 8 := by omega
      have hv : vb = true := by
        rcases Hz.out with h | h
        · cases h
        · exact h
      subst hv
      have HF := Lib.hid (HI1.out rfl)
      clear HI0 HI1
      have HS2 := Lib.hid (HSo.out _ (cat f 8) wr (OwnT.rd HO.out) (Nat.le_trans (HCl.out 8 (Nat.le_refl _)) (by decide)))
      go_wp2_with fail
      refine HS2.out.mono ?_; rintro e w3 ⟨v3, rfl, hown3, hb3⟩
      have HO3 := Lib.hid (World.ownsRow.mono hown3 HBi.out.size)
      have HB3 := Lib.hid (bstep HBi.out hb3)
      clear hown3 hb3
      go_wp2_with fail
      go_ret
      exact ⟨_, rfl, by rw [HF.out]; exact HO3.out, HB3.out⟩
set_option maxRecDepth 100000 in
set_option maxHeartbeats 4000000 in
theorem rgetM_any (s : Sl) (M : Mp) (key : Int) (w : World) (h : RdM w s M.st) (hs : ∀ i, i < 8 → (M.st i).length ≤ 10000) :
    Calls Tryz.prog 69 #[mapV s M.live M.garb, .int .u64 key] w fun e w' => e = .returned (.tuple #[itV ((getM M key).getD it0), .bool (getM M key).isSome]) ∧ Below w.heap.size w w' := by
  have HI := Lib.hid (fun W h => ritemsM_any s M W h hs)
  have HBt := Lib.hid (BoxI.new (w.alloc (.cells (mapC s M.live M.garb) 25)) it0)
  rw [show (w.alloc (.cells (mapC s M.live M.garb) 25)).heap.size = w.heap.size + 1 by simp] at HBt
  have HB0 := Lib.hid (bstep (below_map w s M.live M.garb 25) (below_box (w.alloc (.cells (mapC s M.live M.garb) 25)) it0))
  have HF := Lib.hid (fun v W h => rfind_any v (itemsM M) key W h (Nat.le_trans (itemsM_len hs) (by decide)))
  rw [fnd_itemsM] at HF
  have Hr := Lib.hid h
  clear h hs
  generalize getM M key = o at *
  generalize itemsM M = I at *
  obtain ⟨f, L, G⟩ := M
  dsimp only at *
  go_enter Tryz.func69, Tryz.ntmps69
  go_wp2_with fail
  refine (HI.out _ (Hr.out.below HB0.out)).mono ?_; rintro e w1 ⟨v1, rfl, hown1, hb1⟩
  have HB1 := Lib.hid (bstep HB0.out hb1)
  have HT1 := Lib.hid (HBt.out.below hb1)
  have HF1 := Lib.hid (HF.out _ w1 (OwnT.rd hown1))
  clear hb1 hown1 HB0 HBt
  go_wp2_with fail
  refine HF1.out.mono ?_; rintro e w3 ⟨rfl, hb3⟩
  have HT3 := Lib.hid (HT1.out.below hb3)
  have HB3 := Lib.hid (bstep HB1.out hb3)
  clear hb3
  have d0 := HT3.out.t.c0
  have d1 := HT3.out.t.c1
  have d2 := HT3.out.t.c2
  have d3 := HT3.out.t.c3
  have dF := HT3.out.f
  obtain ⟨y, hy⟩ : ∃ y, o.getD it0 = y := ⟨_, rfl⟩
  have Hy := Lib.hid hy
  rw [hy]
  clear hy
  go_wp2_with fail
  change bodyPost _ _ _ _ _ (putI w3 (w.heap.size + 1) y)
  have hby := HT3.out.put y
  have HBz := Lib.hid (putI_below HB3.out (Nat.le_succ _) y)
  generalize putI w3 (w.heap.size + 1) y = V at *
  have y0 := hby.t.c0
  have y1 := hby.t.c1
  have y2 := hby.t.c2
  have y3 := hby.t.c3
  exact bodyPost_ret (v := .tuple #[itV y, .bool o.isSome]) (by simp [results, Tryz.results69, go_sem, y0, y1, y2, y3]) rfl ⟨by rw [Hy.out], HBz.out⟩
end Go.Proofs.YtenkeodfijladaaGreatDoor

namespace Go.Proofs.YtenkeodfijladaaGreatDoor
open Go.RowKit

/-- Stripes that are those that came in (s, f), or of block B and above: the call's own. -/
def OldOwn (w' : World) (B : Nat) (s : Sl) (f : Nat → List It) (s' : Sl) (f' : Nat → List It) : Prop := (s' = s ∧ ∀ i, i < 8 → f' i = f i) ∨ OwnM w' B s' f'
theorem OldOwn.rd {w w' : World} {B : Nat} {s s' : Sl} {f f' : Nat → List It} (h : OldOwn w' B s f s' f') (hr : RdM w s f) (hb : Below w.heap.size w w') : RdM w' s' f' := by
  rcases h with ⟨rfl, h⟩ | h
  · exact fun i hi => by rw [h i hi]; exact (hr i hi).below hb
  · exact h.rd
theorem OldOwn.refl (w : World) (B : Nat) (s : Sl) (f : Nat → List It) : OldOwn w B s f s f := .inl ⟨rfl, fun _ _ => rfl⟩
theorem OldOwn.nil (w : World) (B : Nat) (s : Sl) (f : Nat → List It) : OldOwn w B s f Sl.nil (fun _ => []) := .inr (OwnM.nil w B)
theorem OldOwn.keep {w w' : World} {B : Nat} {s s' : Sl} {f f' : Nat → List It} (h : OldOwn w B s f s' f') (hb : Below w.heap.size w w') : OldOwn w' B s f s' f' := h.imp id fun h => h.keep hb
theorem OldOwn.mono {w : World} {B B' : Nat} {s s' : Sl} {f f' : Nat → List It} (h : OldOwn w B s f s' f') (hb : B' ≤ B) : OldOwn w B' s f s' f' := h.imp id fun h => h.mono hb
/-- One change behind another. -/
theorem OldOwn.step {w1 w2 : World} {B B1 : Nat} {s s1 s2 : Sl} {f f1 f2 : Nat → List It} (h : OldOwn w1 B s f s1 f1) (h2 : OldOwn w2 B1 s1 f1 s2 f2) (hb : Below w1.heap.size w1 w2) (hB : B ≤ B1) : OldOwn w2 B s f s2 f2 := by
  rcases h2 with ⟨rfl, e⟩ | h2
  · rcases h with ⟨rfl, e1⟩ | h
    · exact .inl ⟨rfl, fun i hi => (e i hi).trans (e1 i hi)⟩
    · exact .inr fun i hi => by rw [e i hi]; exact own_keep (h i hi) hb
  · exact .inr (h2.mono hB)
set_option maxRecDepth 100000 in
set_option maxHeartbeats 8000000 in
theorem rputM_own (s : Sl) (M : Mp) (x : It) (w : World) (h : RdM w s M.st) (hs : ∀ i, i < 8 → (M.st i).length ≤ 9000) :
    Calls Tryz.prog 38 #[mapV s M.live M.garb, itV x] w fun e w' => (∃ s', e = .returned (mapV s' (rputM M x).live (rputM M x).garb) ∧ OldOwn w' w.heap.size s M.st s' (rputM M x).st) ∧ Below w.heap.size w w' := by
  have hs2 : ∀ i, i < 8 → (M.st i).length ≤ 10000 := fun i hi => Nat.le_trans (hs i hi) (by decide)
  have HV := Lib.hid (fun W h => rvalidM_any s M W h (fun i hi => Nat.le_trans (hs i hi) (by decide)))
  obtain ⟨W0, hW0⟩ : ∃ W0, ((w.alloc (.cells (mapC s M.live M.garb) 25)).alloc (boxC x)).alloc (.cells (mapC Sl.nil 0 0) 25) = W0 := ⟨_, rfl⟩
  have HX0 := Lib.hid (show BoxM W0 w.heap.size s M.live M.garb from hW0 ▸ (((BoxM.new w s M.live M.garb 25).below (below_box _ x)).below (below_map _ Sl.nil 0 0 25)))
  have HI0 := Lib.hid (show BoxI W0 (w.heap.size + 1) x from hW0 ▸ (by have := (BoxI.new (w.alloc (.cells (mapC s M.live M.garb) 25)) x).below (below_map _ Sl.nil 0 0 25); simpa using this))
  have HY0 := Lib.hid (show BoxM W0 (w.heap.size + 2) Sl.nil 0 0 from hW0 ▸ (by have := BoxM.new ((w.alloc (.cells (mapC s M.live M.garb) 25)).alloc (boxC x)) Sl.nil 0 0 25; simpa using this))
  have HB0 := Lib.hid (show Below w.heap.size w W0 from hW0 ▸ bstep (bstep (below_map w s M.live M.garb 25) (below_box _ x)) (below_map _ Sl.nil 0 0 25))
  have HW00 := Lib.hid hW0
  clear hW0
  have Hr := Lib.hid h
  have HVi := Lib.hid (fun W => rvalidI_any x W)
  have HGe := Lib.hid (fun W h => rgetM_any s M x.key W h hs2)
  have HIt := Lib.hid (fun W h => ritemsM_any s M W h hs2)
  have HPt := Lib.hid (fun v W h => rput_any v (itemsM M) x W h (Nat.le_trans (itemsM_len hs2) (by decide)))
  rw [srt_of_asc (itemsM_asc M)] at HPt
  have hil : (itemsM M).length ≤ 72000 := by
    unfold itemsM
    split
    · exact Nat.le_trans (srt_length _) (cat_le (M := M) (B := 9000) hs 8 (Nat.le_refl _))
    · simp
  have HFr := Lib.hid (fun v g W h => rfromM_any v (ins (itemsM M) x) g W h (Nat.le_trans (ins_length x _) (by omega)))
  have HSo := Lib.hid (fun hv : vldM M = true => (⟨((vldM_iff M).1 hv).g0, ((vldM_iff M).1 hv).g1⟩ : _ ∧ _))
  have HGs := Lib.hid (fun y (hy : getM M x.key = some y) => (getM_some hy).2.2.2)
  have HW1 := Lib.hid (show vldM M = true ∧ okB x = true ∧ M.garb + (szO (getM M x.key) : Int) ≤ 1099511627776 → rputM M x = fromM (ins (itemsM M) x) (M.garb + (szO (getM M x.key) : Int)) from fun h => by unfold rputM; exact if_pos h)
  have HW2 := Lib.hid (show ¬ (vldM M = true ∧ okB x = true ∧ M.garb + (szO (getM M x.key) : Int) ≤ 1099511627776) → rputM M x = M from fun h => by unfold rputM; exact if_neg h)
  clear h hs hs2 hil
  generalize getM M x.key = o at *
  generalize rputM M x = WM at *
  generalize vldM M = vb at *
  generalize okB x = ob at *
  generalize itemsM M = I at *
  obtain ⟨f, L, G⟩ := M
  dsimp only at *
  go_enter Tryz.func38, Tryz.ntmps38
  go_upto_region 1 with fail
  have hW0 := HW00.out
  rw [show ((w.alloc (.cells (mapC s L G) 25)).alloc (boxC x)).alloc (.cells #[.slice none 0 0, .slice none 0 0, .slice none 0 0, .slice none 0 0, .slice none 0 0, .slice none 0 0, .slice none 0 0, .slice none 0 0, .int .i64 0, .int .i64 0] 25) = W0 from hW0]
  clear hW0 HW00
  have c0 := HX0.out.c0
  have c1 := HX0.out.c1
  have c2 := HX0.out.c2
  have c3 := HX0.out.c3
  have c4 := HX0.out.c4
  have c5 := HX0.out.c5
  have c6 := HX0.out.c6
  have c7 := HX0.out.c7
  have c8 := HX0.out.cl
  have c9 := HX0.out.cg
  have cF := HX0.out.f
  go_wp2_with fail
  refine (HV.out _ (Hr.out.below HB0.out)).mono ?_; rintro e w1 ⟨rfl, hb1⟩
  have HX1 := Lib.hid (HX0.out.below hb1)
  have HI1 := Lib.hid (HI0.out.below hb1)
  have HY1 := Lib.hid (HY0.out.below hb1)
  have HB1 := Lib.hid (bstep HB0.out hb1)
  clear c0 c1 c2 c3 c4 c5 c6 c7 c8 c9 cF hb1 HX0 HI0 HY0 HB0 HV
  cases vb
  · have HW := Lib.hid (HW2.out (fun e => by cases e.1))
    have c0 := HX1.out.c0
    have c1 := HX1.out.c1
    have c2 := HX1.out.c2
    have c3 := HX1.out.c3
    have c4 := HX1.out.c4
    have c5 := HX1.out.c5
    have c6 := HX1.out.c6
    have c7 := HX1.out.c7
    have c8 := HX1.out.cl
    have c9 := HX1.out.cg
    have cF := HX1.out.f
    have d0 := HY1.out.c0
    have d1 := HY1.out.c1
    have d2 := HY1.out.c2
    have d3 := HY1.out.c3
    have d4 := HY1.out.c4
    have d5 := HY1.out.c5
    have d6 := HY1.out.c6
    have d7 := HY1.out.c7
    have d8 := HY1.out.cl
    have d9 := HY1.out.cg
    have dF := HY1.out.f
    go_wp2_with fail
    change bodyPost _ _ _ _ _ (putM w1 (w.heap.size + 2) s L G)
    have hby := HY1.out.all s L G
    have HBz := Lib.hid (putM_below HB1.out (show w.heap.size ≤ w.heap.size + 2 by omega) s L G)
    have HRz := Lib.hid (Hr.out.below HBz.out)
    generalize putM w1 (w.heap.size + 2) s L G = V9 at *
    exact bodyPost_ret (v := mapV s L G) (by simp [results, Tryz.results38, go_sem, hby.c0, hby.c1, hby.c2, hby.c3, hby.c4, hby.c5, hby.c6, hby.c7, hby.cl, hby.cg]) rfl ⟨⟨s, by rw [HW.out], .inl ⟨rfl, fun i _ => by rw [HW.out]⟩⟩, HBz.out⟩
  · skip
    have i0 := HI1.out.t.c0
    have i1 := HI1.out.t.c1
    have i2 := HI1.out.t.c2
    have i3 := HI1.out.t.c3
    have iF := HI1.out.f
    go_wp2_with fail
    refine (HVi.out _).mono ?_; rintro e w2 ⟨rfl, hb2⟩
    have HX2 := Lib.hid (HX1.out.below hb2)
    have HI2 := Lib.hid (HI1.out.below hb2)
    have HY2 := Lib.hid (HY1.out.below hb2)
    have HB2 := Lib.hid (bstep HB1.out hb2)
    clear i0 i1 i2 i3 iF hb2 HX1 HI1 HY1 HB1 HVi
    cases ob
    · have HW := Lib.hid (HW2.out (fun e => by cases e.2.1))
      have c0 := HX2.out.c0
      have c1 := HX2.out.c1
      have c2 := HX2.out.c2
      have c3 := HX2.out.c3
      have c4 := HX2.out.c4
      have c5 := HX2.out.c5
      have c6 := HX2.out.c6
      have c7 := HX2.out.c7
      have c8 := HX2.out.cl
      have c9 := HX2.out.cg
      have cF := HX2.out.f
      have d0 := HY2.out.c0
      have d1 := HY2.out.c1
      have d2 := HY2.out.c2
      have d3 := HY2.out.c3
      have d4 := HY2.out.c4
      have d5 := HY2.out.c5
      have d6 := HY2.out.c6
      have d7 := HY2.out.c7
      have d8 := HY2.out.cl
      have d9 := HY2.out.cg
      have dF := HY2.out.f
      go_wp2_with fail
      change bodyPost _ _ _ _ _ (putM w2 (w.heap.size + 2) s L G)
      have hby := HY2.out.all s L G
      have HBz := Lib.hid (putM_below HB2.out (show w.heap.size ≤ w.heap.size + 2 by omega) s L G)
      have HRz := Lib.hid (Hr.out.below HBz.out)
      generalize putM w2 (w.heap.size + 2) s L G = V9 at *
      exact bodyPost_ret (v := mapV s L G) (by simp [results, Tryz.results38, go_sem, hby.c0, hby.c1, hby.c2, hby.c3, hby.c4, hby.c5, hby.c6, hby.c7, hby.cl, hby.cg]) rfl ⟨⟨s, by rw [HW.out], .inl ⟨rfl, fun i _ => by rw [HW.out]⟩⟩, HBz.out⟩
    · obtain ⟨hG0, hG1⟩ := HSo.out trivial
      have c0 := HX2.out.c0
      have c1 := HX2.out.c1
      have c2 := HX2.out.c2
      have c3 := HX2.out.c3
      have c4 := HX2.out.c4
      have c5 := HX2.out.c5
      have c6 := HX2.out.c6
      have c7 := HX2.out.c7
      have c8 := HX2.out.cl
      have c9 := HX2.out.cg
      have cF := HX2.out.f
      have i0 := HI2.out.t.c0
      have i1 := HI2.out.t.c1
      have i2 := HI2.out.t.c2
      have i3 := HI2.out.t.c3
      have iF := HI2.out.f
      have HGe2 := Lib.hid (HGe.out w2 (Hr.out.below HB2.out))
      go_wp2_with fail
      refine HGe2.out.mono ?_; rintro e w3 ⟨rfl, hb3⟩
      have hb3' := bstep hb3 (below_box w3 (o.getD it0))
      have HX3 := Lib.hid (HX2.out.below hb3')
      have HI3 := Lib.hid (HI2.out.below hb3')
      have HY3 := Lib.hid (HY2.out.below hb3')
      have HB3 := Lib.hid (bstep HB2.out hb3')
      have HJ3 := Lib.hid (BoxI.new w3 (o.getD it0))
      have hlow : w.heap.size + 2 < w3.heap.size := (HY2.out.below hb3).lt
      clear i0 i1 i2 i3 iF c0 c1 c2 c3 c4 c5 c6 c7 c8 c9 cF hb3 hb3' HX2 HI2 HY2 HB2 HGe2
      go_upto_if 24 with fail
      obtain ⟨W3, hW3⟩ : ∃ W3, w3.alloc (boxC (o.getD it0)) = W3 := ⟨_, rfl⟩
      rw [hW3] at HX3 HI3 HY3 HB3 HJ3
      rw [show w3.alloc (.cells #[.int .u64 (o.getD it0).key, .int .u32 (o.getD it0).ck, .int .i64 (o.getD it0).off, .int .i64 (o.getD it0).size] 77) = W3 from hW3]
      clear hW3
      have hd4 : szO o ≤ 4127 := szO_le o
      go_cut [5] (fun sv wx => sv = .int .i64 (szO o : Int) ∧ W3 = wx)
      case first =>
        cases o with
        | none =>
          go_wp2_with fail
          go_meet
          case rel => exact ⟨rfl, rfl⟩
        | some y =>
          have hj := HJ3.out
          rw [show (some y).getD it0 = y from rfl] at hj
          have i0 := hj.t.c0
          have i1 := hj.t.c1
          have i2 := hj.t.c2
          have i3 := hj.t.c3
          have iF := hj.f
          have HSz := Lib.hid (fun W => rsizeZ y.size (HGs.out y rfl) W)
          have hE := Lib.hid (show ((szO (some y) : Nat) : Int) = ((szN y.size.toNat : Nat) : Int) from rfl)
          generalize szN y.size.toNat = z at *
          clear hj
          go_wp2_with fail
          refine (HSz.out _).mono ?_; rintro e w4 ⟨rfl, rfl⟩
          go_wp2_with fail
          go_meet
          case rel => exact ⟨by rw [hE.out], rfl⟩
      case rest =>
        obtain ⟨rfl, rfl⟩ := hcut
        clear HJ3
        generalize szO o = d at *
        have j1 : IntKind.i64.wrap (G + (d : Int)) = G + (d : Int) := IntWalk.i64_in _ (by omega)
        by_cases hgo : G + (d : Int) ≤ 1099511627776
        · have HW := Lib.hid (HW1.out ⟨trivial, trivial, hgo⟩)
          have g1 : decide (1099511627776 < G + (d : Int)) = false := by simp; omega
          have HFq := Lib.hid (fun v W h => HFr.out v (G + (d : Int)) W h)
          generalize fromM (ins I x) (G + (d : Int)) = FM at *
          clear HFr
          have c0 := HX3.out.c0
          have c1 := HX3.out.c1
          have c2 := HX3.out.c2
          have c3 := HX3.out.c3
          have c4 := HX3.out.c4
          have c5 := HX3.out.c5
          have c6 := HX3.out.c6
          have c7 := HX3.out.c7
          have c8 := HX3.out.cl
          have c9 := HX3.out.cg
          have cF := HX3.out.f
          go_upto_region 9 with fail
          have HSX := Lib.hid (show ∀ WV, Below W3.heap.size W3 WV → WV.cell? ⟨w.heap.size, 0, none⟩ = some (.slice (s.a 0) (s.n 0) (s.c 0)) ∧ WV.cell? ⟨w.heap.size, 1, none⟩ = some (.slice (s.a 1) (s.n 1) (s.c 1)) ∧ WV.cell? ⟨w.heap.size, 2, none⟩ = some (.slice (s.a 2) (s.n 2) (s.c 2)) ∧ WV.cell? ⟨w.heap.size, 3, none⟩ = some (.slice (s.a 3) (s.n 3) (s.c 3)) ∧ WV.cell? ⟨w.heap.size, 4, none⟩ = some (.slice (s.a 4) (s.n 4) (s.c 4)) ∧ WV.cell? ⟨w.heap.size, 5, none⟩ = some (.slice (s.a 5) (s.n 5) (s.c 5)) ∧ WV.cell? ⟨w.heap.size, 6, none⟩ = some (.slice (s.a 6) (s.n 6) (s.c 6)) ∧ WV.cell? ⟨w.heap.size, 7, none⟩ = some (.slice (s.a 7) (s.n 7) (s.c 7)) ∧ WV.cell? ⟨w.heap.size, 8, none⟩ = some (.int .i64 L) ∧ WV.cell? ⟨w.heap.size, 9, none⟩ = some (.int .i64 G) ∧ WV.cell? ⟨w.heap.size + 1, 0, none⟩ = some (.int .u64 x.key) ∧ WV.cell? ⟨w.heap.size + 1, 1, none⟩ = some (.int .u32 x.ck) ∧ WV.cell? ⟨w.heap.size + 1, 2, none⟩ = some (.int .i64 x.off) ∧ WV.cell? ⟨w.heap.size + 1, 3, none⟩ = some (.int .i64 x.size) from fun WV hb => ⟨(HX3.out.below hb).c0, (HX3.out.below hb).c1, (HX3.out.below hb).c2, (HX3.out.below hb).c3, (HX3.out.below hb).c4, (HX3.out.below hb).c5, (HX3.out.below hb).c6, (HX3.out.below hb).c7, (HX3.out.below hb).cl, (HX3.out.below hb).cg, (HI3.out.below hb).t.c0, (HI3.out.below hb).t.c1, (HI3.out.below hb).t.c2, (HI3.out.below hb).t.c3⟩)
          have HSt := Lib.hid (fun (WV : World) (u0 u1 u2 u3 u4 u5 u6 u7 u8 u9 : Value) (h : Below W3.heap.size W3 WV) => show ((((((((((WV.setCell ⟨w.heap.size + 2, 0, none⟩ u0).setCell ⟨w.heap.size + 2, 1, none⟩ u1).setCell ⟨w.heap.size + 2, 2, none⟩ u2).setCell ⟨w.heap.size + 2, 3, none⟩ u3).setCell ⟨w.heap.size + 2, 4, none⟩ u4).setCell ⟨w.heap.size + 2, 5, none⟩ u5).setCell ⟨w.heap.size + 2, 6, none⟩ u6).setCell ⟨w.heap.size + 2, 7, none⟩ u7).setCell ⟨w.heap.size + 2, 8, none⟩ u8).setCell ⟨w.heap.size + 2, 9, none⟩ u9).cell? ⟨w.heap.size, 0, none⟩ = some (.slice (s.a 0) (s.n 0) (s.c 0)) ∧ ((((((((((WV.setCell ⟨w.heap.size + 2, 0, none⟩ u0).setCell ⟨w.heap.size + 2, 1, none⟩ u1).setCell ⟨w.heap.size + 2, 2, none⟩ u2).setCell ⟨w.heap.size + 2, 3, none⟩ u3).setCell ⟨w.heap.size + 2, 4, none⟩ u4).setCell ⟨w.heap.size + 2, 5, none⟩ u5).setCell ⟨w.heap.size + 2, 6, none⟩ u6).setCell ⟨w.heap.size + 2, 7, none⟩ u7).setCell ⟨w.heap.size + 2, 8, none⟩ u8).setCell ⟨w.heap.size + 2, 9, none⟩ u9).cell? ⟨w.heap.size, 1, none⟩ = some (.slice (s.a 1) (s.n 1) (s.c 1)) ∧ ((((((((((WV.setCell ⟨w.heap.size + 2, 0, none⟩ u0).setCell ⟨w.heap.size + 2, 1, none⟩ u1).setCell ⟨w.heap.size + 2, 2, none⟩ u2).setCell ⟨w.heap.size + 2, 3, none⟩ u3).setCell ⟨w.heap.size + 2, 4, none⟩ u4).setCell ⟨w.heap.size + 2, 5, none⟩ u5).setCell ⟨w.heap.size + 2, 6, none⟩ u6).setCell ⟨w.heap.size + 2, 7, none⟩ u7).setCell ⟨w.heap.size + 2, 8, none⟩ u8).setCell ⟨w.heap.size + 2, 9, none⟩ u9).cell? ⟨w.heap.size, 2, none⟩ = some (.slice (s.a 2) (s.n 2) (s.c 2)) ∧ ((((((((((WV.setCell ⟨w.heap.size + 2, 0, none⟩ u0).setCell ⟨w.heap.size + 2, 1, none⟩ u1).setCell ⟨w.heap.size + 2, 2, none⟩ u2).setCell ⟨w.heap.size + 2, 3, none⟩ u3).setCell ⟨w.heap.size + 2, 4, none⟩ u4).setCell ⟨w.heap.size + 2, 5, none⟩ u5).setCell ⟨w.heap.size + 2, 6, none⟩ u6).setCell ⟨w.heap.size + 2, 7, none⟩ u7).setCell ⟨w.heap.size + 2, 8, none⟩ u8).setCell ⟨w.heap.size + 2, 9, none⟩ u9).cell? ⟨w.heap.size, 3, none⟩ = some (.slice (s.a 3) (s.n 3) (s.c 3)) ∧ ((((((((((WV.setCell ⟨w.heap.size + 2, 0, none⟩ u0).setCell ⟨w.heap.size + 2, 1, none⟩ u1).setCell ⟨w.heap.size + 2, 2, none⟩ u2).setCell ⟨w.heap.size + 2, 3, none⟩ u3).setCell ⟨w.heap.size + 2, 4, none⟩ u4).setCell ⟨w.heap.size + 2, 5, none⟩ u5).setCell ⟨w.heap.size + 2, 6, none⟩ u6).setCell ⟨w.heap.size + 2, 7, none⟩ u7).setCell ⟨w.heap.size + 2, 8, none⟩ u8).setCell ⟨w.heap.size + 2, 9, none⟩ u9).cell? ⟨w.heap.size, 4, none⟩ = some (.slice (s.a 4) (s.n 4) (s.c 4)) ∧ ((((((((((WV.setCell ⟨w.heap.size + 2, 0, none⟩ u0).setCell ⟨w.heap.size + 2, 1, none⟩ u1).setCell ⟨w.heap.size + 2, 2, none⟩ u2).setCell ⟨w.heap.size + 2, 3, none⟩ u3).setCell ⟨w.heap.size + 2, 4, none⟩ u4).setCell ⟨w.heap.size + 2, 5, none⟩ u5).setCell ⟨w.heap.size + 2, 6, none⟩ u6).setCell ⟨w.heap.size + 2, 7, none⟩ u7).setCell ⟨w.heap.size + 2, 8, none⟩ u8).setCell ⟨w.heap.size + 2, 9, none⟩ u9).cell? ⟨w.heap.size, 5, none⟩ = some (.slice (s.a 5) (s.n 5) (s.c 5)) ∧ ((((((((((WV.setCell ⟨w.heap.size + 2, 0, none⟩ u0).setCell ⟨w.heap.size + 2, 1, none⟩ u1).setCell ⟨w.heap.size + 2, 2, none⟩ u2).setCell ⟨w.heap.size + 2, 3, none⟩ u3).setCell ⟨w.heap.size + 2, 4, none⟩ u4).setCell ⟨w.heap.size + 2, 5, none⟩ u5).setCell ⟨w.heap.size + 2, 6, none⟩ u6).setCell ⟨w.heap.size + 2, 7, none⟩ u7).setCell ⟨w.heap.size + 2, 8, none⟩ u8).setCell ⟨w.heap.size + 2, 9, none⟩ u9).cell? ⟨w.heap.size, 6, none⟩ = some (.slice (s.a 6) (s.n 6) (s.c 6)) ∧ ((((((((((WV.setCell ⟨w.heap.size + 2, 0, none⟩ u0).setCell ⟨w.heap.size + 2, 1, none⟩ u1).setCell ⟨w.heap.size + 2, 2, none⟩ u2).setCell ⟨w.heap.size + 2, 3, none⟩ u3).setCell ⟨w.heap.size + 2, 4, none⟩ u4).setCell ⟨w.heap.size + 2, 5, none⟩ u5).setCell ⟨w.heap.size + 2, 6, none⟩ u6).setCell ⟨w.heap.size + 2, 7, none⟩ u7).setCell ⟨w.heap.size + 2, 8, none⟩ u8).setCell ⟨w.heap.size + 2, 9, none⟩ u9).cell? ⟨w.heap.size, 7, none⟩ = some (.slice (s.a 7) (s.n 7) (s.c 7)) ∧ ((((((((((WV.setCell ⟨w.heap.size + 2, 0, none⟩ u0).setCell ⟨w.heap.size + 2, 1, none⟩ u1).setCell ⟨w.heap.size + 2, 2, none⟩ u2).setCell ⟨w.heap.size + 2, 3, none⟩ u3).setCell ⟨w.heap.size + 2, 4, none⟩ u4).setCell ⟨w.heap.size + 2, 5, none⟩ u5).setCell ⟨w.heap.size + 2, 6, none⟩ u6).setCell ⟨w.heap.size + 2, 7, none⟩ u7).setCell ⟨w.heap.size + 2, 8, none⟩ u8).setCell ⟨w.heap.size + 2, 9, none⟩ u9).cell? ⟨w.heap.size, 8, none⟩ = some (.int .i64 L) ∧ ((((((((((WV.setCell ⟨w.heap.size + 2, 0, none⟩ u0).setCell ⟨w.heap.size + 2, 1, none⟩ u1).setCell ⟨w.heap.size + 2, 2, none⟩ u2).setCell ⟨w.heap.size + 2, 3, none⟩ u3).setCell ⟨w.heap.size + 2, 4, none⟩ u4).setCell ⟨w.heap.size + 2, 5, none⟩ u5).setCell ⟨w.heap.size + 2, 6, none⟩ u6).setCell ⟨w.heap.size + 2, 7, none⟩ u7).setCell ⟨w.heap.size + 2, 8, none⟩ u8).setCell ⟨w.heap.size + 2, 9, none⟩ u9).cell? ⟨w.heap.size, 9, none⟩ = some (.int .i64 G) ∧ ((((((((((WV.setCell ⟨w.heap.size + 2, 0, none⟩ u0).setCell ⟨w.heap.size + 2, 1, none⟩ u1).setCell ⟨w.heap.size + 2, 2, none⟩ u2).setCell ⟨w.heap.size + 2, 3, none⟩ u3).setCell ⟨w.heap.size + 2, 4, none⟩ u4).setCell ⟨w.heap.size + 2, 5, none⟩ u5).setCell ⟨w.heap.size + 2, 6, none⟩ u6).setCell ⟨w.heap.size + 2, 7, none⟩ u7).setCell ⟨w.heap.size + 2, 8, none⟩ u8).setCell ⟨w.heap.size + 2, 9, none⟩ u9).cell? ⟨w.heap.size + 1, 0, none⟩ = some (.int .u64 x.key) ∧ ((((((((((WV.setCell ⟨w.heap.size + 2, 0, none⟩ u0).setCell ⟨w.heap.size + 2, 1, none⟩ u1).setCell ⟨w.heap.size + 2, 2, none⟩ u2).setCell ⟨w.heap.size + 2, 3, none⟩ u3).setCell ⟨w.heap.size + 2, 4, none⟩ u4).setCell ⟨w.heap.size + 2, 5, none⟩ u5).setCell ⟨w.heap.size + 2, 6, none⟩ u6).setCell ⟨w.heap.size + 2, 7, none⟩ u7).setCell ⟨w.heap.size + 2, 8, none⟩ u8).setCell ⟨w.heap.size + 2, 9, none⟩ u9).cell? ⟨w.heap.size + 1, 1, none⟩ = some (.int .u32 x.ck) ∧ ((((((((((WV.setCell ⟨w.heap.size + 2, 0, none⟩ u0).setCell ⟨w.heap.size + 2, 1, none⟩ u1).setCell ⟨w.heap.size + 2, 2, none⟩ u2).setCell ⟨w.heap.size + 2, 3, none⟩ u3).setCell ⟨w.heap.size + 2, 4, none⟩ u4).setCell ⟨w.heap.size + 2, 5, none⟩ u5).setCell ⟨w.heap.size + 2, 6, none⟩ u6).setCell ⟨w.heap.size + 2, 7, none⟩ u7).setCell ⟨w.heap.size + 2, 8, none⟩ u8).setCell ⟨w.heap.size + 2, 9, none⟩ u9).cell? ⟨w.heap.size + 1, 2, none⟩ = some (.int .i64 x.off) ∧ ((((((((((WV.setCell ⟨w.heap.size + 2, 0, none⟩ u0).setCell ⟨w.heap.size + 2, 1, none⟩ u1).setCell ⟨w.heap.size + 2, 2, none⟩ u2).setCell ⟨w.heap.size + 2, 3, none⟩ u3).setCell ⟨w.heap.size + 2, 4, none⟩ u4).setCell ⟨w.heap.size + 2, 5, none⟩ u5).setCell ⟨w.heap.size + 2, 6, none⟩ u6).setCell ⟨w.heap.size + 2, 7, none⟩ u7).setCell ⟨w.heap.size + 2, 8, none⟩ u8).setCell ⟨w.heap.size + 2, 9, none⟩ u9).cell? ⟨w.heap.size + 1, 3, none⟩ = some (.int .i64 x.size) from by
            have h1 := (((((((((((HX3.out.below h).set_ne (p := ⟨w.heap.size + 2, 0, none⟩) (show w.heap.size + 2 ≠ w.heap.size by omega) u0).set_ne (p := ⟨w.heap.size + 2, 1, none⟩) (show w.heap.size + 2 ≠ w.heap.size by omega) u1).set_ne (p := ⟨w.heap.size + 2, 2, none⟩) (show w.heap.size + 2 ≠ w.heap.size by omega) u2).set_ne (p := ⟨w.heap.size + 2, 3, none⟩) (show w.heap.size + 2 ≠ w.heap.size by omega) u3).set_ne (p := ⟨w.heap.size + 2, 4, none⟩) (show w.heap.size + 2 ≠ w.heap.size by omega) u4).set_ne (p := ⟨w.heap.size + 2, 5, none⟩) (show w.heap.size + 2 ≠ w.heap.size by omega) u5).set_ne (p := ⟨w.heap.size + 2, 6, none⟩) (show w.heap.size + 2 ≠ w.heap.size by omega) u6).set_ne (p := ⟨w.heap.size + 2, 7, none⟩) (show w.heap.size + 2 ≠ w.heap.size by omega) u7).set_ne (p := ⟨w.heap.size + 2, 8, none⟩) (show w.heap.size + 2 ≠ w.heap.size by omega) u8).set_ne (p := ⟨w.heap.size + 2, 9, none⟩) (show w.heap.size + 2 ≠ w.heap.size by omega) u9)
            have h2 := (((((((((((HI3.out.below h).set_ne (p := ⟨w.heap.size + 2, 0, none⟩) (show w.heap.size + 2 ≠ w.heap.size + 1 by omega) u0).set_ne (p := ⟨w.heap.size + 2, 1, none⟩) (show w.heap.size + 2 ≠ w.heap.size + 1 by omega) u1).set_ne (p := ⟨w.heap.size + 2, 2, none⟩) (show w.heap.size + 2 ≠ w.heap.size + 1 by omega) u2).set_ne (p := ⟨w.heap.size + 2, 3, none⟩) (show w.heap.size + 2 ≠ w.heap.size + 1 by omega) u3).set_ne (p := ⟨w.heap.size + 2, 4, none⟩) (show w.heap.size + 2 ≠ w.heap.size + 1 by omega) u4).set_ne (p := ⟨w.heap.size + 2, 5, none⟩) (show w.heap.size + 2 ≠ w.heap.size + 1 by omega) u5).set_ne (p := ⟨w.heap.size + 2, 6, none⟩) (show w.heap.size + 2 ≠ w.heap.size + 1 by omega) u6).set_ne (p := ⟨w.heap.size + 2, 7, none⟩) (show w.heap.size + 2 ≠ w.heap.size + 1 by omega) u7).set_ne (p := ⟨w.heap.size + 2, 8, none⟩) (show w.heap.size + 2 ≠ w.heap.size + 1 by omega) u8).set_ne (p := ⟨w.heap.size + 2, 9, none⟩) (show w.heap.size + 2 ≠ w.heap.size + 1 by omega) u9)
            exact ⟨(h1).c0, (h1).c1, (h1).c2, (h1).c3, (h1).c4, (h1).c5, (h1).c6, (h1).c7, (h1).cl, (h1).cg, (h2).t.c0, (h2).t.c1, (h2).t.c2, (h2).t.c3⟩)
          have HYc := Lib.hid (fun (WV : World) (hb : Below W3.heap.size W3 WV) => HY3.out.below hb)
          have hit : itV x = .agg #[.int .u64 x.key, .int .u32 x.ck, .int .i64 x.off, .int .i64 x.size] := rfl
          rw [hit] at HPt
          have HIt2 := Lib.hid (fun W (hb : Below W3.heap.size W3 W) => HIt.out W (Hr.out.below (bstep HB3.out hb)))
          clear c0 c1 c2 c3 c4 c5 c6 c7 c8 c9 cF hit
          go_wp2_with fail
          go_region_held3 (fun w' => w'.cell? ⟨w.heap.size, 0, none⟩ = some (.slice (s.a 0) (s.n 0) (s.c 0)) ∧ w'.cell? ⟨w.heap.size, 1, none⟩ = some (.slice (s.a 1) (s.n 1) (s.c 1)) ∧ w'.cell? ⟨w.heap.size, 2, none⟩ = some (.slice (s.a 2) (s.n 2) (s.c 2)) ∧ w'.cell? ⟨w.heap.size, 3, none⟩ = some (.slice (s.a 3) (s.n 3) (s.c 3)) ∧ w'.cell? ⟨w.heap.size, 4, none⟩ = some (.slice (s.a 4) (s.n 4) (s.c 4)) ∧ w'.cell? ⟨w.heap.size, 5, none⟩ = some (.slice (s.a 5) (s.n 5) (s.c 5)) ∧ w'.cell? ⟨w.heap.size, 6, none⟩ = some (.slice (s.a 6) (s.n 6) (s.c 6)) ∧ w'.cell? ⟨w.heap.size, 7, none⟩ = some (.slice (s.a 7) (s.n 7) (s.c 7)) ∧ w'.cell? ⟨w.heap.size, 8, none⟩ = some (.int .i64 L) ∧ w'.cell? ⟨w.heap.size, 9, none⟩ = some (.int .i64 G) ∧ w'.cell? ⟨w.heap.size + 1, 0, none⟩ = some (.int .u64 x.key) ∧ w'.cell? ⟨w.heap.size + 1, 1, none⟩ = some (.int .u32 x.ck) ∧ w'.cell? ⟨w.heap.size + 1, 2, none⟩ = some (.int .i64 x.off) ∧ w'.cell? ⟨w.heap.size + 1, 3, none⟩ = some (.int .i64 x.size))
            (first | with_reducible exact HSt.out _ _ _ _ _ _ _ _ _ _ _ (bstep (bstep (bstep (Below.refl _ _).drew hba) hbb) hbc) | with_reducible exact HSX.out _ (bstep (Below.refl _ _).drew hba) | with_reducible exact HSX.out _ (bstep (bstep (Below.refl _ _).drew hba) hbb) | with_reducible exact HSX.out _ (bstep (bstep (bstep (Below.refl _ _).drew hba) hbb) hbc) | exact HSX.out _ (Below.refl _ _).drew)
            (first | (go_at_call 68; (with_reducible refine (HIt2.out _ (Below.refl _ _).drew).mono ?_); rintro e wa ⟨va, rfl, howna, hba⟩) | (go_at_call 73; (with_reducible refine (HPt.out _ _ (OwnT.rd howna)).mono ?_); rintro e wb ⟨vb, rfl, hownb, hbb⟩) | (go_at_call 70; (with_reducible refine (HFq.out _ _ (OwnT.rd hownb)).mono ?_); rintro e wc ⟨⟨sc, rfl, hownc⟩, hbc⟩; have hyc := HYc.out _ (bstep (bstep (bstep (Below.refl _ _).drew hba) hbb) hbc); have d0 := hyc.c0; have d1 := hyc.c1; have d2 := hyc.c2; have d3 := hyc.c3; have d4 := hyc.c4; have d5 := hyc.c5; have d6 := hyc.c6; have d7 := hyc.c7; have d8 := hyc.cl; have d9 := hyc.cg; have dF := hyc.f))
          have hbd := bstep (bstep (bstep (Below.refl _ _).drew hba) hbb) hbc
          have hlo : w.heap.size + 2 < wb.heap.size := Nat.lt_of_lt_of_le HY3.out.lt (bstep (Below.refl W3.heap.size W3).drew (bstep hba hbb)).size
          have HYz := Lib.hid hyc
          have HBz := Lib.hid (bstep HB3.out hbd)
          have HOz := Lib.hid hownc
          clear d0 d1 d2 d3 d4 d5 d6 d7 d8 d9 dF hyc hbd hba hbb hbc howna hownb hownc
          go_wp2_with fail
          change bodyPost _ _ _ _ _ (putM wc (w.heap.size + 2) sc FM.live FM.garb)
          have hby := HYz.out.all sc FM.live FM.garb
          have HRq := Lib.hid ((HOz.out.putM (b := w.heap.size + 2) hlo sc FM.live FM.garb).mono (show w.heap.size ≤ wb.heap.size by omega))
          have HBq := Lib.hid (putM_below HBz.out (show w.heap.size ≤ w.heap.size + 2 by omega) sc FM.live FM.garb)
          generalize putM wc (w.heap.size + 2) sc FM.live FM.garb = V9 at *
          exact bodyPost_ret (v := mapV sc FM.live FM.garb) (by simp [results, Tryz.results38, go_sem, hby.c0, hby.c1, hby.c2, hby.c3, hby.c4, hby.c5, hby.c6, hby.c7, hby.cl, hby.cg]) rfl ⟨⟨sc, by rw [HW.out], .inr (by rw [HW.out]; exact HRq.out)⟩, HBq.out⟩
        · have HW := Lib.hid (HW2.out (fun e => hgo e.2.2))
          have g1 : decide (1099511627776 < G + (d : Int)) = true := by simp; omega
          have c0 := HX3.out.c0
          have c1 := HX3.out.c1
          have c2 := HX3.out.c2
          have c3 := HX3.out.c3
          have c4 := HX3.out.c4
          have c5 := HX3.out.c5
          have c6 := HX3.out.c6
          have c7 := HX3.out.c7
          have c8 := HX3.out.cl
          have c9 := HX3.out.cg
          have cF := HX3.out.f
          have d0 := HY3.out.c0
          have d1 := HY3.out.c1
          have d2 := HY3.out.c2
          have d3 := HY3.out.c3
          have d4 := HY3.out.c4
          have d5 := HY3.out.c5
          have d6 := HY3.out.c6
          have d7 := HY3.out.c7
          have d8 := HY3.out.cl
          have d9 := HY3.out.cg
          have dF := HY3.out.f
          go_wp2_with fail
          change bodyPost _ _ _ _ _ (putM W3 (w.heap.size + 2) s L G)
          have hby := HY3.out.all s L G
          have HBz := Lib.hid (putM_below HB3.out (show w.heap.size ≤ w.heap.size + 2 by omega) s L G)
          have HRz := Lib.hid (Hr.out.below HBz.out)
          generalize putM W3 (w.heap.size + 2) s L G = V9 at *
          exact bodyPost_ret (v := mapV s L G) (by simp [results, Tryz.results38, go_sem, hby.c0, hby.c1, hby.c2, hby.c3, hby.c4, hby.c5, hby.c6, hby.c7, hby.cl, hby.cg]) rfl ⟨⟨s, by rw [HW.out], .inl ⟨rfl, fun i _ => by rw [HW.out]⟩⟩, HBz.out⟩
theorem rputM_any (s : Sl) (M : Mp) (x : It) (w : World) (h : RdM w s M.st) (hs : ∀ i, i < 8 → (M.st i).length ≤ 9000) :
    Calls Tryz.prog 38 #[mapV s M.live M.garb, itV x] w fun e w' => (∃ s', e = .returned (mapV s' (rputM M x).live (rputM M x).garb) ∧ RdM w' s' (rputM M x).st) ∧ Below w.heap.size w w' := by
  refine (rputM_own s M x w h hs).mono ?_
  rintro e w' ⟨⟨s', rfl, ho⟩, hb⟩
  exact ⟨⟨s', rfl, ho.rd h hb⟩, hb⟩
end Go.Proofs.YtenkeodfijladaaGreatDoor

namespace Go.Proofs.YtenkeodfijladaaGreatDoor
open Go.RowKit

set_option maxRecDepth 100000 in
set_option maxHeartbeats 8000000 in
theorem rdelM_own (s : Sl) (M : Mp) (key : Int) (w : World) (h : RdM w s M.st) (hs : ∀ i, i < 8 → (M.st i).length ≤ 9000) :
    Calls Tryz.prog 37 #[mapV s M.live M.garb, .int .u64 key] w fun e w' => (∃ s', e = .returned (mapV s' (rdelM M key).live (rdelM M key).garb) ∧ OldOwn w' w.heap.size s M.st s' (rdelM M key).st) ∧ Below w.heap.size w w' := by
  have hs2 : ∀ i, i < 8 → (M.st i).length ≤ 10000 := fun i hi => Nat.le_trans (hs i hi) (by decide)
  obtain ⟨W0, hW0⟩ : ∃ W0, (w.alloc (.cells (mapC s M.live M.garb) 25)).alloc (.cells (mapC Sl.nil 0 0) 25) = W0 := ⟨_, rfl⟩
  have HX0 := Lib.hid (show BoxM W0 w.heap.size s M.live M.garb from hW0 ▸ ((BoxM.new w s M.live M.garb 25).below (below_map _ Sl.nil 0 0 25)))
  have HY0 := Lib.hid (show BoxM W0 (w.heap.size + 1) Sl.nil 0 0 from hW0 ▸ (by have := BoxM.new (w.alloc (.cells (mapC s M.live M.garb) 25)) Sl.nil 0 0 25; simpa using this))
  have HB0 := Lib.hid (show Below w.heap.size w W0 from hW0 ▸ bstep (below_map w s M.live M.garb 25) (below_map _ Sl.nil 0 0 25))
  have HW00 := Lib.hid hW0
  clear hW0
  have Hr := Lib.hid h
  have HGe := Lib.hid (fun W h => rgetM_any s M key W h hs2)
  have HIt := Lib.hid (fun W h => ritemsM_any s M W h hs2)
  have HDr := Lib.hid (fun v W h => rdrop_any v (itemsM M) key W h (Nat.le_trans (itemsM_len hs2) (by decide)))
  rw [srt_of_asc (itemsM_asc M)] at HDr
  have hil : (itemsM M).length ≤ 72000 := by
    unfold itemsM
    split
    · exact Nat.le_trans (srt_length _) (cat_le (M := M) (B := 9000) hs 8 (Nat.le_refl _))
    · simp
  have HFr := Lib.hid (fun v g W h => rfromM_any v (drp (itemsM M) key) g W h (Nat.le_trans (drp_length _ key) (by omega)))
  have HGs := Lib.hid (fun y (hy : getM M key = some y) => (⟨(getM_some hy).2.2.2, ((vldM_iff M).1 (getM_some hy).1).g0, ((vldM_iff M).1 (getM_some hy).1).g1⟩ : _ ∧ _ ∧ _))
  have HW0 := Lib.hid (show getM M key = none → rdelM M key = M from fun h => by unfold rdelM; rw [h])
  have HW1 := Lib.hid (show ∀ y, getM M key = some y → M.garb + (lenO y : Int) ≤ 1099511627776 → rdelM M key = fromM (drp (itemsM M) key) (M.garb + (lenO y : Int)) from fun y h h2 => by unfold rdelM; rw [h]; exact if_pos h2)
  have HW2 := Lib.hid (show ∀ y, getM M key = some y → ¬ M.garb + (lenO y : Int) ≤ 1099511627776 → rdelM M key = M from fun y h h2 => by unfold rdelM; rw [h]; exact if_neg h2)
  clear h hs hs2 hil
  generalize getM M key = o at *
  generalize rdelM M key = WM at *
  generalize itemsM M = I at *
  obtain ⟨f, L, G⟩ := M
  dsimp only at *
  go_enter Tryz.func37, Tryz.ntmps37
  go_upto_region 1 with fail
  have hW0 := HW00.out
  rw [show (w.alloc (.cells (mapC s L G) 25)).alloc (.cells #[.slice none 0 0, .slice none 0 0, .slice none 0 0, .slice none 0 0, .slice none 0 0, .slice none 0 0, .slice none 0 0, .slice none 0 0, .int .i64 0, .int .i64 0] 25) = W0 from hW0]
  clear hW0 HW00
  have c0 := HX0.out.c0
  have c1 := HX0.out.c1
  have c2 := HX0.out.c2
  have c3 := HX0.out.c3
  have c4 := HX0.out.c4
  have c5 := HX0.out.c5
  have c6 := HX0.out.c6
  have c7 := HX0.out.c7
  have c8 := HX0.out.cl
  have c9 := HX0.out.cg
  have cF := HX0.out.f
  have HGe0 := Lib.hid (HGe.out W0 (Hr.out.below HB0.out))
  go_wp2_with fail
  refine HGe0.out.mono ?_; rintro e w3 ⟨rfl, hb3⟩
  have hb3' := bstep hb3 (below_box w3 (o.getD it0))
  have HX3 := Lib.hid (HX0.out.below hb3')
  have HY3 := Lib.hid (HY0.out.below hb3')
  have HB3 := Lib.hid (bstep HB0.out hb3')
  have HJ3 := Lib.hid (BoxI.new w3 (o.getD it0))
  have hlow : w.heap.size + 1 < w3.heap.size := (HY0.out.below hb3).lt
  clear c0 c1 c2 c3 c4 c5 c6 c7 c8 c9 cF hb3 hb3' HX0 HY0 HB0 HGe0
  go_upto_region 2 with fail
  obtain ⟨W3, hW3⟩ : ∃ W3, w3.alloc (boxC (o.getD it0)) = W3 := ⟨_, rfl⟩
  rw [hW3] at HX3 HY3 HB3 HJ3
  rw [show w3.alloc (.cells #[.int .u64 (o.getD it0).key, .int .u32 (o.getD it0).ck, .int .i64 (o.getD it0).off, .int .i64 (o.getD it0).size] 77) = W3 from hW3]
  clear hW3
  generalize w3.heap.size = bj at *
  cases o with
  | none =>
    have HW := Lib.hid (HW0.out rfl)
    clear HW1 HW2 HGs
    go_quiet (fail)
    have HXq := Lib.hid (HX3.out.below (below_drewN (Below.refl _ _) nq))
    have HYq := Lib.hid (HY3.out.below (below_drewN (Below.refl _ _) nq))
    have HBq := Lib.hid (below_drewN HB3.out nq)
    generalize W3.drewN nq = W4 at *
    have c0 := HXq.out.c0
    have c1 := HXq.out.c1
    have c2 := HXq.out.c2
    have c3 := HXq.out.c3
    have c4 := HXq.out.c4
    have c5 := HXq.out.c5
    have c6 := HXq.out.c6
    have c7 := HXq.out.c7
    have c8 := HXq.out.cl
    have c9 := HXq.out.cg
    have cF := HXq.out.f
    have d0 := HYq.out.c0
    have d1 := HYq.out.c1
    have d2 := HYq.out.c2
    have d3 := HYq.out.c3
    have d4 := HYq.out.c4
    have d5 := HYq.out.c5
    have d6 := HYq.out.c6
    have d7 := HYq.out.c7
    have d8 := HYq.out.cl
    have d9 := HYq.out.cg
    have dF := HYq.out.f
    go_wp2_with fail
    change bodyPost _ _ _ _ _ (putM W4 (w.heap.size + 1) s L G)
    have hby := HYq.out.all s L G
    have HBz := Lib.hid (putM_below HBq.out (show w.heap.size ≤ w.heap.size + 1 by omega) s L G)
    have HRz := Lib.hid (Hr.out.below HBz.out)
    generalize putM W4 (w.heap.size + 1) s L G = V9 at *
    exact bodyPost_ret (v := mapV s L G) (by simp [results, Tryz.results37, go_sem, hby.c0, hby.c1, hby.c2, hby.c3, hby.c4, hby.c5, hby.c6, hby.c7, hby.cl, hby.cg]) rfl ⟨⟨s, by rw [HW.out], .inl ⟨rfl, fun i _ => by rw [HW.out]⟩⟩, HBz.out⟩
  | some y =>
    obtain ⟨hy0, hG0, hG1⟩ := HGs.out y rfl
    have HSz := Lib.hid (fun W => show Calls Tryz.prog 35 #[.int .i64 y.size] W fun e w' => e = .returned (.int .i64 (lenO y : Int)) ∧ W = w' from rsizeZ y.size hy0 W)
    have HW1y := Lib.hid (HW1.out y rfl)
    have HW2y := Lib.hid (HW2.out y rfl)
    have HJy := Lib.hid (show BoxI W3 bj y from HJ3.out)
    have hd4 := lenO_le y
    clear HW0 HW1 HW2 HGs hy0 HJ3
    generalize lenO y = d at *
    have HSu := Lib.hid (fun u : BelowBy W3 => show Calls Tryz.prog 35 #[.int .i64 y.size] u.w' fun e w' => e = .returned (.int .i64 (d : Int)) ∧ Below u.w'.heap.size u.w' w' from (HSz.out u.w').mono fun e w' h => ⟨h.1, by rw [← h.2]; exact Below.refl _ _⟩)
    have j1 : IntKind.i64.wrap (G + (d : Int)) = G + (d : Int) := IntWalk.i64_in _ (by omega)
    have c0 := HX3.out.c0
    have c1 := HX3.out.c1
    have c2 := HX3.out.c2
    have c3 := HX3.out.c3
    have c4 := HX3.out.c4
    have c5 := HX3.out.c5
    have c6 := HX3.out.c6
    have c7 := HX3.out.c7
    have c8 := HX3.out.cl
    have c9 := HX3.out.cg
    have cF := HX3.out.f
    have i0 := HJy.out.t.c0
    have i1 := HJy.out.t.c1
    have i2 := HJy.out.t.c2
    have i3 := HJy.out.t.c3
    have iF := HJy.out.f
    have f9 := cell_by c9
    have k3 := cell_by i3
    clear c0 c1 c2 c3 c4 c5 c6 c7 c8 c9 cF i0 i1 i2 i3 iF
    refine wp_region_below (by kernel_rfl) (by kernel_rfl) ?_
    repeat (go_big_quiet_step (exact calls_by (HSu.out _)))
    refine wpQuiet_nil ?_
    intro _ hw'
    obtain ⟨u, hw'⟩ := hw'
    subst hw'
    have HX4 := Lib.hid (HX3.out.below u.h)
    have HY4 := Lib.hid (HY3.out.below u.h)
    have HB4 := Lib.hid (bstep HB3.out u.h)
    have HJ4 := Lib.hid (HJy.out.below u.h)
    generalize u.w' = W4 at *
    clear f9 k3 HSu HX3 HY3 HB3 HJy
    by_cases hgo : G + (d : Int) ≤ 1099511627776
    · have HW := Lib.hid (HW1y.out hgo)
      have g1 : decide (1099511627776 < G + (d : Int)) = false := by simp; omega
      have HFq := Lib.hid (fun v W h => HFr.out v (G + (d : Int)) W h)
      generalize fromM (drp I key) (G + (d : Int)) = FM at *
      clear HFr
      have HSX := Lib.hid (show ∀ WV, Below W4.heap.size W4 WV → WV.cell? ⟨w.heap.size, 0, none⟩ = some (.slice (s.a 0) (s.n 0) (s.c 0)) ∧ WV.cell? ⟨w.heap.size, 1, none⟩ = some (.slice (s.a 1) (s.n 1) (s.c 1)) ∧ WV.cell? ⟨w.heap.size, 2, none⟩ = some (.slice (s.a 2) (s.n 2) (s.c 2)) ∧ WV.cell? ⟨w.heap.size, 3, none⟩ = some (.slice (s.a 3) (s.n 3) (s.c 3)) ∧ WV.cell? ⟨w.heap.size, 4, none⟩ = some (.slice (s.a 4) (s.n 4) (s.c 4)) ∧ WV.cell? ⟨w.heap.size, 5, none⟩ = some (.slice (s.a 5) (s.n 5) (s.c 5)) ∧ WV.cell? ⟨w.heap.size, 6, none⟩ = some (.slice (s.a 6) (s.n 6) (s.c 6)) ∧ WV.cell? ⟨w.heap.size, 7, none⟩ = some (.slice (s.a 7) (s.n 7) (s.c 7)) ∧ WV.cell? ⟨w.heap.size, 8, none⟩ = some (.int .i64 L) ∧ WV.cell? ⟨w.heap.size, 9, none⟩ = some (.int .i64 G) ∧ WV.cell? ⟨bj, 0, none⟩ = some (.int .u64 y.key) ∧ WV.cell? ⟨bj, 1, none⟩ = some (.int .u32 y.ck) ∧ WV.cell? ⟨bj, 2, none⟩ = some (.int .i64 y.off) ∧ WV.cell? ⟨bj, 3, none⟩ = some (.int .i64 y.size) from fun WV hb => ⟨(HX4.out.below hb).c0, (HX4.out.below hb).c1, (HX4.out.below hb).c2, (HX4.out.below hb).c3, (HX4.out.below hb).c4, (HX4.out.below hb).c5, (HX4.out.below hb).c6, (HX4.out.below hb).c7, (HX4.out.below hb).cl, (HX4.out.below hb).cg, (HJ4.out.below hb).t.c0, (HJ4.out.below hb).t.c1, (HJ4.out.below hb).t.c2, (HJ4.out.below hb).t.c3⟩)
      have HSt := Lib.hid (fun (WV : World) (u0 u1 u2 u3 u4 u5 u6 u7 u8 u9 : Value) (h : Below W4.heap.size W4 WV) => show ((((((((((WV.setCell ⟨w.heap.size + 1, 0, none⟩ u0).setCell ⟨w.heap.size + 1, 1, none⟩ u1).setCell ⟨w.heap.size + 1, 2, none⟩ u2).setCell ⟨w.heap.size + 1, 3, none⟩ u3).setCell ⟨w.heap.size + 1, 4, none⟩ u4).setCell ⟨w.heap.size + 1, 5, none⟩ u5).setCell ⟨w.heap.size + 1, 6, none⟩ u6).setCell ⟨w.heap.size + 1, 7, none⟩ u7).setCell ⟨w.heap.size + 1, 8, none⟩ u8).setCell ⟨w.heap.size + 1, 9, none⟩ u9).cell? ⟨w.heap.size, 0, none⟩ = some (.slice (s.a 0) (s.n 0) (s.c 0)) ∧ ((((((((((WV.setCell ⟨w.heap.size + 1, 0, none⟩ u0).setCell ⟨w.heap.size + 1, 1, none⟩ u1).setCell ⟨w.heap.size + 1, 2, none⟩ u2).setCell ⟨w.heap.size + 1, 3, none⟩ u3).setCell ⟨w.heap.size + 1, 4, none⟩ u4).setCell ⟨w.heap.size + 1, 5, none⟩ u5).setCell ⟨w.heap.size + 1, 6, none⟩ u6).setCell ⟨w.heap.size + 1, 7, none⟩ u7).setCell ⟨w.heap.size + 1, 8, none⟩ u8).setCell ⟨w.heap.size + 1, 9, none⟩ u9).cell? ⟨w.heap.size, 1, none⟩ = some (.slice (s.a 1) (s.n 1) (s.c 1)) ∧ ((((((((((WV.setCell ⟨w.heap.size + 1, 0, none⟩ u0).setCell ⟨w.heap.size + 1, 1, none⟩ u1).setCell ⟨w.heap.size + 1, 2, none⟩ u2).setCell ⟨w.heap.size + 1, 3, none⟩ u3).setCell ⟨w.heap.size + 1, 4, none⟩ u4).setCell ⟨w.heap.size + 1, 5, none⟩ u5).setCell ⟨w.heap.size + 1, 6, none⟩ u6).setCell ⟨w.heap.size + 1, 7, none⟩ u7).setCell ⟨w.heap.size + 1, 8, none⟩ u8).setCell ⟨w.heap.size + 1, 9, none⟩ u9).cell? ⟨w.heap.size, 2, none⟩ = some (.slice (s.a 2) (s.n 2) (s.c 2)) ∧ ((((((((((WV.setCell ⟨w.heap.size + 1, 0, none⟩ u0).setCell ⟨w.heap.size + 1, 1, none⟩ u1).setCell ⟨w.heap.size + 1, 2, none⟩ u2).setCell ⟨w.heap.size + 1, 3, none⟩ u3).setCell ⟨w.heap.size + 1, 4, none⟩ u4).setCell ⟨w.heap.size + 1, 5, none⟩ u5).setCell ⟨w.heap.size + 1, 6, none⟩ u6).setCell ⟨w.heap.size + 1, 7, none⟩ u7).setCell ⟨w.heap.size + 1, 8, none⟩ u8).setCell ⟨w.heap.size + 1, 9, none⟩ u9).cell? ⟨w.heap.size, 3, none⟩ = some (.slice (s.a 3) (s.n 3) (s.c 3)) ∧ ((((((((((WV.setCell ⟨w.heap.size + 1, 0, none⟩ u0).setCell ⟨w.heap.size + 1, 1, none⟩ u1).setCell ⟨w.heap.size + 1, 2, none⟩ u2).setCell ⟨w.heap.size + 1, 3, none⟩ u3).setCell ⟨w.heap.size + 1, 4, none⟩ u4).setCell ⟨w.heap.size + 1, 5, none⟩ u5).setCell ⟨w.heap.size + 1, 6, none⟩ u6).setCell ⟨w.heap.size + 1, 7, none⟩ u7).setCell ⟨w.heap.size + 1, 8, none⟩ u8).setCell ⟨w.heap.size + 1, 9, none⟩ u9).cell? ⟨w.heap.size, 4, none⟩ = some (.slice (s.a 4) (s.n 4) (s.c 4)) ∧ ((((((((((WV.setCell ⟨w.heap.size + 1, 0, none⟩ u0).setCell ⟨w.heap.size + 1, 1, none⟩ u1).setCell ⟨w.heap.size + 1, 2, none⟩ u2).setCell ⟨w.heap.size + 1, 3, none⟩ u3).setCell ⟨w.heap.size + 1, 4, none⟩ u4).setCell ⟨w.heap.size + 1, 5, none⟩ u5).setCell ⟨w.heap.size + 1, 6, none⟩ u6).setCell ⟨w.heap.size + 1, 7, none⟩ u7).setCell ⟨w.heap.size + 1, 8, none⟩ u8).setCell ⟨w.heap.size + 1, 9, none⟩ u9).cell? ⟨w.heap.size, 5, none⟩ = some (.slice (s.a 5) (s.n 5) (s.c 5)) ∧ ((((((((((WV.setCell ⟨w.heap.size + 1, 0, none⟩ u0).setCell ⟨w.heap.size + 1, 1, none⟩ u1).setCell ⟨w.heap.size + 1, 2, none⟩ u2).setCell ⟨w.heap.size + 1, 3, none⟩ u3).setCell ⟨w.heap.size + 1, 4, none⟩ u4).setCell ⟨w.heap.size + 1, 5, none⟩ u5).setCell ⟨w.heap.size + 1, 6, none⟩ u6).setCell ⟨w.heap.size + 1, 7, none⟩ u7).setCell ⟨w.heap.size + 1, 8, none⟩ u8).setCell ⟨w.heap.size + 1, 9, none⟩ u9).cell? ⟨w.heap.size, 6, none⟩ = some (.slice (s.a 6) (s.n 6) (s.c 6)) ∧ ((((((((((WV.setCell ⟨w.heap.size + 1, 0, none⟩ u0).setCell ⟨w.heap.size + 1, 1, none⟩ u1).setCell ⟨w.heap.size + 1, 2, none⟩ u2).setCell ⟨w.heap.size + 1, 3, none⟩ u3).setCell ⟨w.heap.size + 1, 4, none⟩ u4).setCell ⟨w.heap.size + 1, 5, none⟩ u5).setCell ⟨w.heap.size + 1, 6, none⟩ u6).setCell ⟨w.heap.size + 1, 7, none⟩ u7).setCell ⟨w.heap.size + 1, 8, none⟩ u8).setCell ⟨w.heap.size + 1, 9, none⟩ u9).cell? ⟨w.heap.size, 7, none⟩ = some (.slice (s.a 7) (s.n 7) (s.c 7)) ∧ ((((((((((WV.setCell ⟨w.heap.size + 1, 0, none⟩ u0).setCell ⟨w.heap.size + 1, 1, none⟩ u1).setCell ⟨w.heap.size + 1, 2, none⟩ u2).setCell ⟨w.heap.size + 1, 3, none⟩ u3).setCell ⟨w.heap.size + 1, 4, none⟩ u4).setCell ⟨w.heap.size + 1, 5, none⟩ u5).setCell ⟨w.heap.size + 1, 6, none⟩ u6).setCell ⟨w.heap.size + 1, 7, none⟩ u7).setCell ⟨w.heap.size + 1, 8, none⟩ u8).setCell ⟨w.heap.size + 1, 9, none⟩ u9).cell? ⟨w.heap.size, 8, none⟩ = some (.int .i64 L) ∧ ((((((((((WV.setCell ⟨w.heap.size + 1, 0, none⟩ u0).setCell ⟨w.heap.size + 1, 1, none⟩ u1).setCell ⟨w.heap.size + 1, 2, none⟩ u2).setCell ⟨w.heap.size + 1, 3, none⟩ u3).setCell ⟨w.heap.size + 1, 4, none⟩ u4).setCell ⟨w.heap.size + 1, 5, none⟩ u5).setCell ⟨w.heap.size + 1, 6, none⟩ u6).setCell ⟨w.heap.size + 1, 7, none⟩ u7).setCell ⟨w.heap.size + 1, 8, none⟩ u8).setCell ⟨w.heap.size + 1, 9, none⟩ u9).cell? ⟨w.heap.size, 9, none⟩ = some (.int .i64 G) ∧ ((((((((((WV.setCell ⟨w.heap.size + 1, 0, none⟩ u0).setCell ⟨w.heap.size + 1, 1, none⟩ u1).setCell ⟨w.heap.size + 1, 2, none⟩ u2).setCell ⟨w.heap.size + 1, 3, none⟩ u3).setCell ⟨w.heap.size + 1, 4, none⟩ u4).setCell ⟨w.heap.size + 1, 5, none⟩ u5).setCell ⟨w.heap.size + 1, 6, none⟩ u6).setCell ⟨w.heap.size + 1, 7, none⟩ u7).setCell ⟨w.heap.size + 1, 8, none⟩ u8).setCell ⟨w.heap.size + 1, 9, none⟩ u9).cell? ⟨bj, 0, none⟩ = some (.int .u64 y.key) ∧ ((((((((((WV.setCell ⟨w.heap.size + 1, 0, none⟩ u0).setCell ⟨w.heap.size + 1, 1, none⟩ u1).setCell ⟨w.heap.size + 1, 2, none⟩ u2).setCell ⟨w.heap.size + 1, 3, none⟩ u3).setCell ⟨w.heap.size + 1, 4, none⟩ u4).setCell ⟨w.heap.size + 1, 5, none⟩ u5).setCell ⟨w.heap.size + 1, 6, none⟩ u6).setCell ⟨w.heap.size + 1, 7, none⟩ u7).setCell ⟨w.heap.size + 1, 8, none⟩ u8).setCell ⟨w.heap.size + 1, 9, none⟩ u9).cell? ⟨bj, 1, none⟩ = some (.int .u32 y.ck) ∧ ((((((((((WV.setCell ⟨w.heap.size + 1, 0, none⟩ u0).setCell ⟨w.heap.size + 1, 1, none⟩ u1).setCell ⟨w.heap.size + 1, 2, none⟩ u2).setCell ⟨w.heap.size + 1, 3, none⟩ u3).setCell ⟨w.heap.size + 1, 4, none⟩ u4).setCell ⟨w.heap.size + 1, 5, none⟩ u5).setCell ⟨w.heap.size + 1, 6, none⟩ u6).setCell ⟨w.heap.size + 1, 7, none⟩ u7).setCell ⟨w.heap.size + 1, 8, none⟩ u8).setCell ⟨w.heap.size + 1, 9, none⟩ u9).cell? ⟨bj, 2, none⟩ = some (.int .i64 y.off) ∧ ((((((((((WV.setCell ⟨w.heap.size + 1, 0, none⟩ u0).setCell ⟨w.heap.size + 1, 1, none⟩ u1).setCell ⟨w.heap.size + 1, 2, none⟩ u2).setCell ⟨w.heap.size + 1, 3, none⟩ u3).setCell ⟨w.heap.size + 1, 4, none⟩ u4).setCell ⟨w.heap.size + 1, 5, none⟩ u5).setCell ⟨w.heap.size + 1, 6, none⟩ u6).setCell ⟨w.heap.size + 1, 7, none⟩ u7).setCell ⟨w.heap.size + 1, 8, none⟩ u8).setCell ⟨w.heap.size + 1, 9, none⟩ u9).cell? ⟨bj, 3, none⟩ = some (.int .i64 y.size) from by
        have h1 := (((((((((((HX4.out.below h).set_ne (p := ⟨w.heap.size + 1, 0, none⟩) (show w.heap.size + 1 ≠ w.heap.size by omega) u0).set_ne (p := ⟨w.heap.size + 1, 1, none⟩) (show w.heap.size + 1 ≠ w.heap.size by omega) u1).set_ne (p := ⟨w.heap.size + 1, 2, none⟩) (show w.heap.size + 1 ≠ w.heap.size by omega) u2).set_ne (p := ⟨w.heap.size + 1, 3, none⟩) (show w.heap.size + 1 ≠ w.heap.size by omega) u3).set_ne (p := ⟨w.heap.size + 1, 4, none⟩) (show w.heap.size + 1 ≠ w.heap.size by omega) u4).set_ne (p := ⟨w.heap.size + 1, 5, none⟩) (show w.heap.size + 1 ≠ w.heap.size by omega) u5).set_ne (p := ⟨w.heap.size + 1, 6, none⟩) (show w.heap.size + 1 ≠ w.heap.size by omega) u6).set_ne (p := ⟨w.heap.size + 1, 7, none⟩) (show w.heap.size + 1 ≠ w.heap.size by omega) u7).set_ne (p := ⟨w.heap.size + 1, 8, none⟩) (show w.heap.size + 1 ≠ w.heap.size by omega) u8).set_ne (p := ⟨w.heap.size + 1, 9, none⟩) (show w.heap.size + 1 ≠ w.heap.size by omega) u9)
        have h2 := (((((((((((HJ4.out.below h).set_ne (p := ⟨w.heap.size + 1, 0, none⟩) (show w.heap.size + 1 ≠ bj by omega) u0).set_ne (p := ⟨w.heap.size + 1, 1, none⟩) (show w.heap.size + 1 ≠ bj by omega) u1).set_ne (p := ⟨w.heap.size + 1, 2, none⟩) (show w.heap.size + 1 ≠ bj by omega) u2).set_ne (p := ⟨w.heap.size + 1, 3, none⟩) (show w.heap.size + 1 ≠ bj by omega) u3).set_ne (p := ⟨w.heap.size + 1, 4, none⟩) (show w.heap.size + 1 ≠ bj by omega) u4).set_ne (p := ⟨w.heap.size + 1, 5, none⟩) (show w.heap.size + 1 ≠ bj by omega) u5).set_ne (p := ⟨w.heap.size + 1, 6, none⟩) (show w.heap.size + 1 ≠ bj by omega) u6).set_ne (p := ⟨w.heap.size + 1, 7, none⟩) (show w.heap.size + 1 ≠ bj by omega) u7).set_ne (p := ⟨w.heap.size + 1, 8, none⟩) (show w.heap.size + 1 ≠ bj by omega) u8).set_ne (p := ⟨w.heap.size + 1, 9, none⟩) (show w.heap.size + 1 ≠ bj by omega) u9)
        exact ⟨(h1).c0, (h1).c1, (h1).c2, (h1).c3, (h1).c4, (h1).c5, (h1).c6, (h1).c7, (h1).cl, (h1).cg, (h2).t.c0, (h2).t.c1, (h2).t.c2, (h2).t.c3⟩)
      have HYc := Lib.hid (fun (WV : World) (hb : Below W4.heap.size W4 WV) => HY4.out.below hb)
      have HIt2 := Lib.hid (fun W (hb : Below W4.heap.size W4 W) => HIt.out W (Hr.out.below (bstep HB4.out hb)))
      go_wp2_with fail
      go_region_held3 (fun w' => w'.cell? ⟨w.heap.size, 0, none⟩ = some (.slice (s.a 0) (s.n 0) (s.c 0)) ∧ w'.cell? ⟨w.heap.size, 1, none⟩ = some (.slice (s.a 1) (s.n 1) (s.c 1)) ∧ w'.cell? ⟨w.heap.size, 2, none⟩ = some (.slice (s.a 2) (s.n 2) (s.c 2)) ∧ w'.cell? ⟨w.heap.size, 3, none⟩ = some (.slice (s.a 3) (s.n 3) (s.c 3)) ∧ w'.cell? ⟨w.heap.size, 4, none⟩ = some (.slice (s.a 4) (s.n 4) (s.c 4)) ∧ w'.cell? ⟨w.heap.size, 5, none⟩ = some (.slice (s.a 5) (s.n 5) (s.c 5)) ∧ w'.cell? ⟨w.heap.size, 6, none⟩ = some (.slice (s.a 6) (s.n 6) (s.c 6)) ∧ w'.cell? ⟨w.heap.size, 7, none⟩ = some (.slice (s.a 7) (s.n 7) (s.c 7)) ∧ w'.cell? ⟨w.heap.size, 8, none⟩ = some (.int .i64 L) ∧ w'.cell? ⟨w.heap.size, 9, none⟩ = some (.int .i64 G) ∧ w'.cell? ⟨bj, 0, none⟩ = some (.int .u64 y.key) ∧ w'.cell? ⟨bj, 1, none⟩ = some (.int .u32 y.ck) ∧ w'.cell? ⟨bj, 2, none⟩ = some (.int .i64 y.off) ∧ w'.cell? ⟨bj, 3, none⟩ = some (.int .i64 y.size))
        (first | with_reducible exact HSt.out _ _ _ _ _ _ _ _ _ _ _ (bstep (bstep (bstep (Below.refl _ _).drew hba) hbb) hbc) | with_reducible exact HSX.out _ (bstep (Below.refl _ _).drew hba) | with_reducible exact HSX.out _ (bstep (bstep (Below.refl _ _).drew hba) hbb) | with_reducible exact HSX.out _ (bstep (bstep (bstep (Below.refl _ _).drew hba) hbb) hbc) | exact HSX.out _ (Below.refl _ _).drew)
        (first | (go_at_call 68; (with_reducible refine (HIt2.out _ (Below.refl _ _).drew).mono ?_); rintro e wa ⟨va, rfl, howna, hba⟩) | (go_at_call 71; (with_reducible refine (HDr.out _ _ (OwnT.rd howna)).mono ?_); rintro e wb ⟨vb, rfl, hownb, hbb⟩) | (go_at_call 35; (with_reducible refine (HSz.out _).mono ?_); rintro e wd ⟨rfl, rfl⟩) | (go_at_call 70; (with_reducible refine (HFq.out _ _ (OwnT.rd hownb)).mono ?_); rintro e wc ⟨⟨sc, rfl, hownc⟩, hbc⟩; have hyc := HYc.out _ (bstep (bstep (bstep (Below.refl _ _).drew hba) hbb) hbc); have d0 := hyc.c0; have d1 := hyc.c1; have d2 := hyc.c2; have d3 := hyc.c3; have d4 := hyc.c4; have d5 := hyc.c5; have d6 := hyc.c6; have d7 := hyc.c7; have d8 := hyc.cl; have d9 := hyc.cg; have dF := hyc.f))
      have hbd := bstep (bstep (bstep (Below.refl _ _).drew hba) hbb) hbc
      have hlo : w.heap.size + 1 < wb.heap.size := Nat.lt_of_lt_of_le HY4.out.lt (bstep (Below.refl W4.heap.size W4).drew (bstep hba hbb)).size
      have HYz := Lib.hid hyc
      have HBz := Lib.hid (bstep HB4.out hbd)
      have HOz := Lib.hid hownc
      clear d0 d1 d2 d3 d4 d5 d6 d7 d8 d9 dF hyc hbd hba hbb hbc howna hownb hownc
      go_wp2_with fail
      change bodyPost _ _ _ _ _ (putM wc (w.heap.size + 1) sc FM.live FM.garb)
      have hby := HYz.out.all sc FM.live FM.garb
      have HRq := Lib.hid ((HOz.out.putM (b := w.heap.size + 1) hlo sc FM.live FM.garb).mono (show w.heap.size ≤ wb.heap.size by omega))
      have HBq := Lib.hid (putM_below HBz.out (show w.heap.size ≤ w.heap.size + 1 by omega) sc FM.live FM.garb)
      generalize putM wc (w.heap.size + 1) sc FM.live FM.garb = V9 at *
      exact bodyPost_ret (v := mapV sc FM.live FM.garb) (by simp [results, Tryz.results37, go_sem, hby.c0, hby.c1, hby.c2, hby.c3, hby.c4, hby.c5, hby.c6, hby.c7, hby.cl, hby.cg]) rfl ⟨⟨sc, by rw [HW.out], .inr (by rw [HW.out]; exact HRq.out)⟩, HBq.out⟩
    · have HW := Lib.hid (HW2y.out (by omega))
      have g1 : decide (1099511627776 < G + (d : Int)) = true := by simp; omega
      have c0 := HX4.out.c0
      have c1 := HX4.out.c1
      have c2 := HX4.out.c2
      have c3 := HX4.out.c3
      have c4 := HX4.out.c4
      have c5 := HX4.out.c5
      have c6 := HX4.out.c6
      have c7 := HX4.out.c7
      have c8 := HX4.out.cl
      have c9 := HX4.out.cg
      have cF := HX4.out.f
      have d0 := HY4.out.c0
      have d1 := HY4.out.c1
      have d2 := HY4.out.c2
      have d3 := HY4.out.c3
      have d4 := HY4.out.c4
      have d5 := HY4.out.c5
      have d6 := HY4.out.c6
      have d7 := HY4.out.c7
      have d8 := HY4.out.cl
      have d9 := HY4.out.cg
      have dF := HY4.out.f
      go_wp2_with fail
      change bodyPost _ _ _ _ _ (putM W4 (w.heap.size + 1) s L G)
      have hby := HY4.out.all s L G
      have HBz := Lib.hid (putM_below HB4.out (show w.heap.size ≤ w.heap.size + 1 by omega) s L G)
      have HRz := Lib.hid (Hr.out.below HBz.out)
      generalize putM W4 (w.heap.size + 1) s L G = V9 at *
      exact bodyPost_ret (v := mapV s L G) (by simp [results, Tryz.results37, go_sem, hby.c0, hby.c1, hby.c2, hby.c3, hby.c4, hby.c5, hby.c6, hby.c7, hby.cl, hby.cg]) rfl ⟨⟨s, by rw [HW.out], .inl ⟨rfl, fun i _ => by rw [HW.out]⟩⟩, HBz.out⟩
theorem rdelM_any (s : Sl) (M : Mp) (key : Int) (w : World) (h : RdM w s M.st) (hs : ∀ i, i < 8 → (M.st i).length ≤ 9000) :
    Calls Tryz.prog 37 #[mapV s M.live M.garb, .int .u64 key] w fun e w' => (∃ s', e = .returned (mapV s' (rdelM M key).live (rdelM M key).garb) ∧ RdM w' s' (rdelM M key).st) ∧ Below w.heap.size w w' := by
  refine (rdelM_own s M key w h hs).mono ?_
  rintro e w' ⟨⟨s', rfl, ho⟩, hb⟩
  exact ⟨⟨s', rfl, ho.rd h hb⟩, hb⟩
end Go.Proofs.YtenkeodfijladaaGreatDoor

namespace Go.Proofs.YtenkeodfijladaaGreatDoor
open Go.RowKit

theorem BoxM.setG {W : World} {b : Nat} {s : Sl} {l g : Int} (h : BoxM W b s l g) (g' : Int) : BoxM (W.setCell ⟨b, 9, none⟩ (.int .i64 g')) b s l g' := by
  have hg := h.cg
  refine ⟨fun j hj => ?_, ?_, by simp [go_sem, hg], fun i => by simp [h.f]⟩
  · have := h.c j hj
    exact (World.cell?_setCell_other (h := fun e => by injection e with _ e _; omega) ..).trans this
  · exact (World.cell?_setCell_other (h := fun e => by injection e with _ e _; omega) ..).trans h.cl
set_option maxRecDepth 100000 in
set_option maxHeartbeats 8000000 in
/-- The map keeps the stripes that came in. -/
theorem rwasteM_any (s : Sl) (M : Mp) (n : Int) (w : World) (h : RdM w s M.st) (hs : ∀ i, i < 8 → (M.st i).length ≤ 10000) :
    Calls Tryz.prog 36 #[mapV s M.live M.garb, .int .i64 n] w fun e w' => e = .returned (mapV s (wasteM M n).live (wasteM M n).garb) ∧ Below w.heap.size w w' := by
  have HV := Lib.hid (fun W h => rvalidM_any s M W h (fun i hi => Nat.le_trans (hs i hi) (by decide)))
  obtain ⟨W0, hW0⟩ : ∃ W0, (w.alloc (.cells (mapC s M.live M.garb) 25)).alloc (.cells (mapC Sl.nil 0 0) 25) = W0 := ⟨_, rfl⟩
  have HBx := Lib.hid (show BoxM W0 w.heap.size s M.live M.garb from hW0 ▸ ((BoxM.new w s M.live M.garb 25).below (below_map _ Sl.nil 0 0 25)))
  have HBy := Lib.hid (show BoxM W0 (w.heap.size + 1) Sl.nil 0 0 from hW0 ▸ (by have := BoxM.new (w.alloc (.cells (mapC s M.live M.garb) 25)) Sl.nil 0 0 25; simpa using this))
  have HB0 := Lib.hid (show Below w.heap.size w W0 from hW0 ▸ bstep (below_map w s M.live M.garb 25) (below_map _ Sl.nil 0 0 25))
  have HW00 := Lib.hid hW0
  clear hW0
  have Hr := Lib.hid h
  have HVl := Lib.hid (fun hv : vldM M = true => (⟨((vldM_iff M).1 hv).g0, ((vldM_iff M).1 hv).g1⟩ : _ ∧ _))
  have HW := Lib.hid (show wasteM M n = if vldM M = true ∧ 0 ≤ n ∧ n ≤ 1099511627776 - M.garb then ⟨M.st, M.live, M.garb + n⟩ else M from rfl)
  clear h hs
  generalize vldM M = vb at *
  generalize wasteM M n = WM at *
  obtain ⟨f, L, G⟩ := M
  dsimp only at *
  go_enter Tryz.func36, Tryz.ntmps36
  go_upto_region 1 with fail
  have hW0 := HW00.out
  rw [show (w.alloc (.cells (mapC s L G) 25)).alloc (.cells #[.slice none 0 0, .slice none 0 0, .slice none 0 0, .slice none 0 0, .slice none 0 0, .slice none 0 0, .slice none 0 0, .slice none 0 0, .int .i64 0, .int .i64 0] 25) = W0 from hW0]
  clear hW0 HW00
  have c0 := HBx.out.c0
  have c1 := HBx.out.c1
  have c2 := HBx.out.c2
  have c3 := HBx.out.c3
  have c4 := HBx.out.c4
  have c5 := HBx.out.c5
  have c6 := HBx.out.c6
  have c7 := HBx.out.c7
  have c8 := HBx.out.cl
  have c9 := HBx.out.cg
  have cF := HBx.out.f
  have HVi := Lib.hid (HV.out W0 (Hr.out.below HB0.out))
  clear HV
  by_cases hok : vb = true ∧ 0 ≤ n ∧ n ≤ 1099511627776 - G
  · rw [if_pos hok] at HW
    obtain ⟨rfl, h1, h2⟩ := hok
    obtain ⟨hG0, hG1⟩ := HVl.out rfl
    have g1 : decide (0 ≤ n) = true := by simpa using h1
    have j1 : IntKind.i64.wrap (1099511627776 - G) = 1099511627776 - G := IntWalk.i64_in _ (by omega)
    have j2 : IntKind.i64.wrap (G + n) = G + n := IntWalk.i64_in _ (by omega)
    have g2 : decide (n ≤ 1099511627776 - G) = true := by simpa using h2
    go_wp2_with fail
    refine HVi.out.mono ?_; rintro e w1 ⟨rfl, hb1⟩
    have HX1 := Lib.hid (HBx.out.below hb1)
    have HY1 := Lib.hid (HBy.out.below hb1)
    have HB1 := Lib.hid (bstep HB0.out hb1)
    clear c0 c1 c2 c3 c4 c5 c6 c7 c8 c9 cF hb1
    have c0 := HX1.out.c0
    have c1 := HX1.out.c1
    have c2 := HX1.out.c2
    have c3 := HX1.out.c3
    have c4 := HX1.out.c4
    have c5 := HX1.out.c5
    have c6 := HX1.out.c6
    have c7 := HX1.out.c7
    have c8 := HX1.out.cl
    have c9 := HX1.out.cg
    have cF := HX1.out.f
    go_upto_region 3 with fail
    obtain ⟨V5, hV5⟩ : ∃ V5, w1.setCell ⟨w.heap.size, 9, none⟩ (.int .i64 (G + n)) = V5 := ⟨_, rfl⟩
    have HX5 := Lib.hid (show BoxM V5 w.heap.size s L (G + n) from hV5 ▸ HX1.out.setG (G + n))
    have HY5 := Lib.hid (show BoxM V5 (w.heap.size + 1) Sl.nil 0 0 from hV5 ▸ HY1.out.set_ne (p := ⟨w.heap.size, 9, none⟩) (show w.heap.size ≠ w.heap.size + 1 by omega) _)
    have HB5 := Lib.hid (show Below w.heap.size w V5 from hV5 ▸ HB1.out.setCell (p := ⟨w.heap.size, 9, none⟩) (Nat.le_refl _) _)
    rw [hV5]
    clear c0 c1 c2 c3 c4 c5 c6 c7 c8 c9 cF hV5 HX1 HY1 HB1
    have c0 := HX5.out.c0
    have c1 := HX5.out.c1
    have c2 := HX5.out.c2
    have c3 := HX5.out.c3
    have c4 := HX5.out.c4
    have c5 := HX5.out.c5
    have c6 := HX5.out.c6
    have c7 := HX5.out.c7
    have c8 := HX5.out.cl
    have c9 := HX5.out.cg
    have cF := HX5.out.f
    have d0 := HY5.out.c0
    have d1 := HY5.out.c1
    have d2 := HY5.out.c2
    have d3 := HY5.out.c3
    have d4 := HY5.out.c4
    have d5 := HY5.out.c5
    have d6 := HY5.out.c6
    have d7 := HY5.out.c7
    have d8 := HY5.out.cl
    have d9 := HY5.out.cg
    have dF := HY5.out.f
    go_wp2_with fail
    change bodyPost _ _ _ _ _ (putM V5 (w.heap.size + 1) s L (G + n))
    have hby := HY5.out.all s L (G + n)
    have HBz := Lib.hid (putM_below HB5.out (show w.heap.size ≤ w.heap.size + 1 by omega) s L (G + n))
    generalize putM V5 (w.heap.size + 1) s L (G + n) = V9 at *
    exact bodyPost_ret (v := mapV s L (G + n)) (by simp [results, Tryz.results36, go_sem, hby.c0, hby.c1, hby.c2, hby.c3, hby.c4, hby.c5, hby.c6, hby.c7, hby.cl, hby.cg]) rfl ⟨by rw [HW.out], HBz.out⟩
  · rw [if_neg hok] at HW
    have HFin := Lib.hid (fun (V : World) (hb : Below W0.heap.size W0 V) => show _ ∧ _ ∧ _ from ⟨HBx.out.below hb, HBy.out.below hb, bstep HB0.out hb⟩)
    have hcs : (vb = false) ∨ (vb = true ∧ n < 0) ∨ (vb = true ∧ 0 ≤ n ∧ 1099511627776 - G < n) := by
      cases vb
      · exact .inl rfl
      · by_cases h1 : 0 ≤ n
        · exact .inr (.inr ⟨rfl, h1, by have : ¬ n ≤ 1099511627776 - G := fun e => hok ⟨rfl, h1, e⟩; omega⟩)
        · exact .inr (.inl ⟨rfl, by omega⟩)
    clear hok
    rcases hcs with rfl | ⟨rfl, h1⟩ | ⟨rfl, h1, h2⟩
    · go_wp2_with fail
      refine HVi.out.mono ?_; rintro e w1 ⟨rfl, hb1⟩
      obtain ⟨hx, hy, hb⟩ := HFin.out _ hb1
      have HX5 := Lib.hid hx
      have HY5 := Lib.hid hy
      have HB5 := Lib.hid hb
      clear c0 c1 c2 c3 c4 c5 c6 c7 c8 c9 cF hb1 hx hy hb
      have c0 := HX5.out.c0
      have c1 := HX5.out.c1
      have c2 := HX5.out.c2
      have c3 := HX5.out.c3
      have c4 := HX5.out.c4
      have c5 := HX5.out.c5
      have c6 := HX5.out.c6
      have c7 := HX5.out.c7
      have c8 := HX5.out.cl
      have c9 := HX5.out.cg
      have cF := HX5.out.f
      have d0 := HY5.out.c0
      have d1 := HY5.out.c1
      have d2 := HY5.out.c2
      have d3 := HY5.out.c3
      have d4 := HY5.out.c4
      have d5 := HY5.out.c5
      have d6 := HY5.out.c6
      have d7 := HY5.out.c7
      have d8 := HY5.out.cl
      have d9 := HY5.out.cg
      have dF := HY5.out.f
      go_wp2_with fail
      change bodyPost _ _ _ _ _ (putM w1 (w.heap.size + 1) s L G)
      have hby := HY5.out.all s L G
      have HBz := Lib.hid (putM_below HB5.out (show w.heap.size ≤ w.heap.size + 1 by omega) s L G)
      generalize putM w1 (w.heap.size + 1) s L G = V9 at *
      exact bodyPost_ret (v := mapV s L G) (by simp [results, Tryz.results36, go_sem, hby.c0, hby.c1, hby.c2, hby.c3, hby.c4, hby.c5, hby.c6, hby.c7, hby.cl, hby.cg]) rfl ⟨by rw [HW.out], HBz.out⟩
    · have g1 : decide (0 ≤ n) = false := by simp; omega
      go_wp2_with fail
      refine HVi.out.mono ?_; rintro e w1 ⟨rfl, hb1⟩
      obtain ⟨hx, hy, hb⟩ := HFin.out _ hb1
      have HX5 := Lib.hid hx
      have HY5 := Lib.hid hy
      have HB5 := Lib.hid hb
      clear c0 c1 c2 c3 c4 c5 c6 c7 c8 c9 cF hb1 hx hy hb
      have c0 := HX5.out.c0
      have c1 := HX5.out.c1
      have c2 := HX5.out.c2
      have c3 := HX5.out.c3
      have c4 := HX5.out.c4
      have c5 := HX5.out.c5
      have c6 := HX5.out.c6
      have c7 := HX5.out.c7
      have c8 := HX5.out.cl
      have c9 := HX5.out.cg
      have cF := HX5.out.f
      have d0 := HY5.out.c0
      have d1 := HY5.out.c1
      have d2 := HY5.out.c2
      have d3 := HY5.out.c3
      have d4 := HY5.out.c4
      have d5 := HY5.out.c5
      have d6 := HY5.out.c6
      have d7 := HY5.out.c7
      have d8 := HY5.out.cl
      have d9 := HY5.out.cg
      have dF := HY5.out.f
      go_wp2_with fail
      change bodyPost _ _ _ _ _ (putM w1 (w.heap.size + 1) s L G)
      have hby := HY5.out.all s L G
      have HBz := Lib.hid (putM_below HB5.out (show w.heap.size ≤ w.heap.size + 1 by omega) s L G)
      generalize putM w1 (w.heap.size + 1) s L G = V9 at *
      exact bodyPost_ret (v := mapV s L G) (by simp [results, Tryz.results36, go_sem, hby.c0, hby.c1, hby.c2, hby.c3, hby.c4, hby.c5, hby.c6, hby.c7, hby.cl, hby.cg]) rfl ⟨by rw [HW.out], HBz.out⟩
    · obtain ⟨hG0, hG1⟩ := HVl.out rfl
      have g1 : decide (0 ≤ n) = true := by simpa using h1
      have j1 : IntKind.i64.wrap (1099511627776 - G) = 1099511627776 - G := IntWalk.i64_in _ (by omega)
      have g2 : decide (n ≤ 1099511627776 - G) = false := by simp; omega
      go_wp2_with fail
      refine HVi.out.mono ?_; rintro e w1 ⟨rfl, hb1⟩
      obtain ⟨hx, hy, hb⟩ := HFin.out _ hb1
      have HX5 := Lib.hid hx
      have HY5 := Lib.hid hy
      have HB5 := Lib.hid hb
      clear c0 c1 c2 c3 c4 c5 c6 c7 c8 c9 cF hb1 hx hy hb
      have c0 := HX5.out.c0
      have c1 := HX5.out.c1
      have c2 := HX5.out.c2
      have c3 := HX5.out.c3
      have c4 := HX5.out.c4
      have c5 := HX5.out.c5
      have c6 := HX5.out.c6
      have c7 := HX5.out.c7
      have c8 := HX5.out.cl
      have c9 := HX5.out.cg
      have cF := HX5.out.f
      have d0 := HY5.out.c0
      have d1 := HY5.out.c1
      have d2 := HY5.out.c2
      have d3 := HY5.out.c3
      have d4 := HY5.out.c4
      have d5 := HY5.out.c5
      have d6 := HY5.out.c6
      have d7 := HY5.out.c7
      have d8 := HY5.out.cl
      have d9 := HY5.out.cg
      have dF := HY5.out.f
      go_wp2_with fail
      change bodyPost _ _ _ _ _ (putM w1 (w.heap.size + 1) s L G)
      have hby := HY5.out.all s L G
      have HBz := Lib.hid (putM_below HB5.out (show w.heap.size ≤ w.heap.size + 1 by omega) s L G)
      generalize putM w1 (w.heap.size + 1) s L G = V9 at *
      exact bodyPost_ret (v := mapV s L G) (by simp [results, Tryz.results36, go_sem, hby.c0, hby.c1, hby.c2, hby.c3, hby.c4, hby.c5, hby.c6, hby.c7, hby.cl, hby.cg]) rfl ⟨by rw [HW.out], HBz.out⟩
end Go.Proofs.YtenkeodfijladaaGreatDoor

namespace Go.Proofs.YtenkeodfijladaaGreatDoor
open Go.RowKit

def lightM (f : Nat → List It) : Bool := (List.range 8).all fun i => decide ((f i).length ≤ 10)
theorem lightM_no {f : Nat → List It} {i : Nat} (hi : i < 8) (h : ¬ (f i).length ≤ 10) : lightM f = false := by
  unfold lightM
  rw [List.all_eq_false]
  exact ⟨i, List.mem_range.2 hi, by simpa using h⟩
theorem lightM_yes {f : Nat → List It} (h : ∀ i, i < 8 → (f i).length ≤ 10) : lightM f = true := List.all_eq_true.2 fun i hi => decide_eq_true (h i (List.mem_range.1 hi))
theorem lightM_iff {f : Nat → List It} (h : lightM f = true) : ∀ i, i < 8 → (f i).length ≤ 10 := fun i hi => of_decide_eq_true (List.all_eq_true.1 h i (List.mem_range.2 hi))
/-! ### Same -/
theorem sameM_no {M N : Mp} {i : Nat} (hi : i < 8) (h : M.st i ≠ N.st i) : sameM M N = false := by
  unfold sameM
  have : (List.range 8).all (fun i => decide (M.st i = N.st i)) = false := by
    rw [List.all_eq_false]
    exact ⟨i, List.mem_range.2 hi, by simpa using h⟩
  rw [this]; rfl
theorem sameM_st {M N : Mp} (h : ∀ i, i < 8 → M.st i = N.st i) : sameM M N = ((M.live == N.live) && (M.garb == N.garb)) := by
  unfold sameM
  have : (List.range 8).all (fun i => decide (M.st i = N.st i)) = true := List.all_eq_true.2 fun i hi => decide_eq_true (h i (List.mem_range.1 hi))
  rw [this, Bool.true_and]
set_option maxRecDepth 100000 in
set_option maxHeartbeats 4000000 in
theorem sameM_any (s t : Sl) (M N : Mp) (w : World) (h : RdM w s M.st) (h2 : RdM w t N.st) :
    Calls Tryz.prog 39 #[mapV s M.live M.garb, mapV t N.live N.garb] w fun e w' => e = .returned (.bool (sameM M N)) ∧ Below w.heap.size w w' := by
  obtain ⟨W0, hW0⟩ : ∃ W0, (w.alloc (.cells (mapC s M.live M.garb) 25)).alloc (.cells (mapC t N.live N.garb) 25) = W0 := ⟨_, rfl⟩
  have HX := Lib.hid (show BoxM W0 w.heap.size s M.live M.garb from hW0 ▸ ((BoxM.new w s M.live M.garb 25).below (below_map _ t N.live N.garb 25)))
  have HY := Lib.hid (show BoxM W0 (w.heap.size + 1) t N.live N.garb from hW0 ▸ (by have := BoxM.new (w.alloc (.cells (mapC s M.live M.garb) 25)) t N.live N.garb 25; simpa using this))
  have HB := Lib.hid (show Below w.heap.size w W0 from hW0 ▸ bstep (below_map w s M.live M.garb 25) (below_map _ t N.live N.garb 25))
  have HW0 := Lib.hid hW0
  clear hW0
  have HSa := Lib.hid (fun i (hi : i < 8) W (hb : Below w.heap.size w W) => same_any (s.v i) (t.v i) (M.st i) (N.st i) W ((h i hi).below hb) ((h2 i hi).below hb))
  have HNo := Lib.hid (fun i (hi : i < 8) (h : M.st i ≠ N.st i) => sameM_no hi h)
  have HYes := Lib.hid (fun h => sameM_st (M := M) (N := N) h)
  clear h h2
  generalize sameM M N = r at *
  obtain ⟨f, L, G⟩ := M
  obtain ⟨g, L2, G2⟩ := N
  dsimp only at *
  go_enter Tryz.func39, Tryz.ntmps39
  go_upto_region 1 with fail
  have hW0 := HW0.out
  rw [show (w.alloc (.cells (mapC s L G) 25)).alloc (.cells (mapC t L2 G2) 25) = W0 from hW0]
  clear hW0 HW0
  go_wp2_with fail
  go_loopw [5] (fun iv W => ∃ i : Nat, iv = .int .i64 (i : Int) ∧ i ≤ 8 ∧ Hid (∀ j, j < i → f j = g j) ∧ Hid (Below W0.heap.size W0 W)) (fun iv _ => 8 - (intOf iv).toNat)
  case atStart => exact ⟨0, rfl, Nat.zero_le _, Lib.hid (fun j hj => by omega), Lib.hid (Below.refl _ _)⟩
  case round =>
    obtain ⟨i, rfl, hi, Hok, HBi⟩ := hrel
    by_cases hin : i < 8
    · have i1 : (i : Int) < 8 := by omega
      have ci := (HX.out.below HBi.out).c i hin
      have di := (HY.out.below HBi.out).c i hin
      rw [show s.v i = .slice (s.a i) (s.n i) (s.c i) from rfl] at ci
      rw [show t.v i = .slice (t.a i) (t.n i) (t.c i) from rfl] at di
      have HSi := Lib.hid (fun u : BelowBy wr => show Calls Tryz.prog 74 #[.slice (s.a i) (s.n i) (s.c i), .slice (t.a i) (t.n i) (t.c i)] u.w' fun e w' => e = .returned (.bool (decide (f i = g i))) ∧ Below u.w'.heap.size u.w' w' from HSa.out i hin u.w' (bstep HB.out (bstep HBi.out u.h)))
      have fi := cell_by ci
      have gi := cell_by di
      have HNi := Lib.hid (HNo.out i hin)
      clear ci di
      have HEq := Lib.hid (show decide (f i = g i) = true → ∀ j, j < i + 1 → f j = g j from fun h j hj => by
        by_cases e : j = i
        · rw [e]; exact of_decide_eq_true h
        · exact Hok.out j (by omega))
      have HNe := Lib.hid (show decide (f i = g i) = false → r = false from fun h => HNi.out (of_decide_eq_false h))
      generalize decide (f i = g i) = b at *
      go_wp2_with fail
      refine wp_region_below (by kernel_rfl) (by kernel_rfl) ?_
      repeat (go_big_quiet_step (exact calls_by (HSi.out _)))
      refine wpQuiet_nil ?_
      intro _ hw'
      obtain ⟨u, hw'⟩ := hw'
      subst hw'
      have HBu := Lib.hid (bstep HBi.out u.h)
      have HBz := Lib.hid (bstep HB.out HBu.out)
      generalize u.w' = V at *
      cases b
      · have HF := Lib.hid (HNe.out rfl)
        go_wp2_with fail
        go_ret
        exact ⟨ret_bool HF.out.symm, HBz.out⟩
      · have HE2 := Lib.hid (HEq.out rfl)
        go_wp2_with fail
        exact ⟨⟨i + 1, by go_num, by omega, HE2, HBu⟩, by simp [intOf]; omega⟩
    · obtain rfl : i = 8 := by omega
      have HF := Lib.hid (HYes.out Hok.out)
      have HXe := Lib.hid (HX.out.below HBi.out)
      have HYe := Lib.hid (HY.out.below HBi.out)
      have HBz := Lib.hid (bstep HB.out HBi.out)
      have c8 := HXe.out.cl
      have c9 := HXe.out.cg
      have d8 := HYe.out.cl
      have d9 := HYe.out.cg
      have HF2 := Lib.hid (show r = ((L == L2) && (G == G2)) from HF.out)
      generalize hl : (L == L2) = b1 at *
      cases b1
      · go_wp2_with fail
        go_ret
        exact ⟨ret_bool HF2.out.symm, HBz.out⟩
      · go_wp2_with fail
        go_ret
        exact ⟨ret_bool HF2.out.symm, HBz.out⟩
end Go.Proofs.YtenkeodfijladaaGreatDoor
