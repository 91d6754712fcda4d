/- slices.insertionSortCmpFunc at items. -/
import Derived.Test.YtenkeodfijladaaGreatDoorSr
namespace Go.Proofs.YtenkeodfijladaaGreatDoor
open Go.RowKit

theorem swp2_moved {q : List It} {j : Nat} (h0 : 0 < j) (hj : j < q.length) (hk : (iat q j).key < (iat q (j - 1)).key) : Moved q (swp2 q j (j - 1)) (j - 1) (j + 1) := by
  have M := rot_moved (d := q) (s := j - 1) (m := j) (e := j + 1) (by omega) (by omega) (by omega) (fun i i1 i2 k k1 k2 => by
    obtain rfl : i = j - 1 := by omega
    obtain rfl : k = j := by omega
    omega)
  have e : swp2 q j (j - 1) = rot q (j - 1) j (j + 1) := by
    refine list_ext (by rw [swp2_length, M.len]) fun i _ => ?_
    rw [swp2_at hj (by omega)]
    by_cases e1 : i = j - 1
    · rw [if_pos e1, rot_mid1 (by omega) (by omega) (by omega) (by omega) (by omega)]; congr 1; omega
    · rw [if_neg e1]
      by_cases e2 : i = j
      · rw [if_pos e2, rot_mid2 (by omega) (by omega) (by omega) (by omega) (by omega)]; congr 1; omega
      · rw [if_neg e2, M.out (by omega)]
  rw [e]; exact M
/-- The item at j is on its way down; all else of [a, i] is sorted. -/
structure Way (d q : List It) (a b i j : Nat) : Prop where
  mv : Moved d q a b
  rest : ∀ x y, a ≤ x → x < y → y ≤ i → x ≠ j → y ≠ j → (iat q x).key ≤ (iat q y).key
  up : ∀ y, j < y → y ≤ i → (iat q j).key ≤ (iat q y).key
  lo : a ≤ j
  hi : j ≤ i
  ib : i < b
theorem Way.start {d q : List It} {a b i : Nat} (m : Moved d q a b) (n : NdI q a i) (h : a ≤ i) (hb : i < b) : Way d q a b i i :=
  ⟨m, fun x y x1 xy y1 _ y2 => n x y x1 xy (by omega), fun y y1 y2 => by omega, h, Nat.le_refl _, hb⟩
theorem Way.done {d q : List It} {a b i j : Nat} (h : Way d q a b i j) (hs : j = a ∨ (iat q (j - 1)).key ≤ (iat q j).key) : NdI q a (i + 1) := fun x y x1 xy y2 => by
  by_cases e1 : x = j
  · subst e1; exact h.up y xy (by omega)
  · by_cases e2 : y = j
    · subst e2
      rcases hs with hs | hs
      · omega
      · by_cases e3 : x = y - 1
        · subst e3; exact hs
        · exact Int.le_trans (h.rest x (y - 1) x1 (by omega) (by have := h.hi; omega) e1 (by omega)) hs
    · exact h.rest x y x1 xy (by omega) e1 e2
theorem Way.step {d q : List It} {a b i j : Nat} (h : Way d q a b i j) (hb : b ≤ q.length) (ha : a < j) (hk : (iat q j).key < (iat q (j - 1)).key) : Way d (swp2 q j (j - 1)) a b i (j - 1) := by
  have hib := h.ib
  have hji := h.hi
  have at_ := swp2_at (d := q) (i := j) (j := j - 1) (by omega) (by omega)
  have M := swp2_moved (q := q) (j := j) (by omega) (by omega) hk
  refine ⟨h.mv.trans (M.wide (by omega) (by omega) (by omega)), fun x y x1 xy y1 x2 y2 => ?_, fun y y1 y2 => ?_, by omega, by omega, hib⟩
  · rw [at_, at_, if_neg x2, if_neg y2]
    by_cases e1 : x = j
    · rw [if_pos e1, if_neg (by omega)]; exact h.rest (j - 1) y (by omega) (by omega) y1 (by omega) (by omega)
    · rw [if_neg e1]
      by_cases e2 : y = j
      · rw [if_pos e2]; exact h.rest x (j - 1) x1 (by omega) (by omega) e1 (by omega)
      · rw [if_neg e2]; exact h.rest x y x1 xy y1 e1 e2
  · rw [at_, at_, if_pos rfl, if_neg (by omega)]
    by_cases e1 : y = j
    · rw [if_pos e1]; omega
    · rw [if_neg e1]; exact h.up y (by omega) y2
theorem grown_mono {a b : World} (h : a.grownBy b none) (r : Option Nat) : a.grownBy b r := ⟨h.os, h.tape, h.output, h.size, fun k hk _ => h.block k hk (by simp)⟩
set_option maxHeartbeats 1000000 in
theorem insertion_any (g n cap a b B : Nat) (d : List It) (w : World) (hown : w.ownsRow B 77 4 (.slice (some ⟨g, 0, none⟩) n cap) n (itsC d)) (hn : d.length = n) (hs : n ≤ 1000000) (h1 : a ≤ b) (h2 : b ≤ n) :
    Calls Tryz.prog 134 #[.slice (some ⟨g, 0, none⟩) n cap, .int .i64 (a : Int), .int .i64 (b : Int), .func (.func 117) #[] #[]] w fun e w' => e = .returned (.tuple #[]) ∧ ∃ d', w'.ownsRow B 77 4 (.slice (some ⟨g, 0, none⟩) n cap) n (itsC d') ∧ Moved d d' a b ∧ NdI d' a b ∧ w.grownBy w' (some g) := by
  have HO := Lib.hid hown
  have hgr : w.grownBy w (some g) := ⟨rfl, rfl, rfl, Nat.le_refl _, fun _ _ _ => rfl⟩
  have HG := Lib.hid hgr
  have HN := Lib.hid hn
  have HM := Lib.hid (Moved.refl d a b)
  have HL := Lib.hid (fun q (h : Moved d q a b) => h.len.trans hn)
  clear hown hgr hn
  go_enter Tryz.func134, Tryz.ntmps134
  go_wp2_with fail
  go_loopw [8] (fun iv wr => ∃ (i : Nat) (q : List It), iv = .int .i64 (i : Int) ∧ a < i ∧ (i ≤ b ∨ i = a + 1) ∧ Moved d q a b ∧ NdI q a i ∧ wr.ownsRow B 77 4 (.slice (some ⟨g, 0, none⟩) n cap) n (itsC q) ∧ w.grownBy wr (some g)) (fun iv _ => n + 1 - (intOf iv).toNat)
  case atStart => exact ⟨a + 1, d, by go_num, by omega, by omega, HM.out, fun i j i1 ij j2 => by omega, HO.out, HG.out⟩
  case round =>
    obtain ⟨i, q, rfl, hi, hib, hm, hnd, ho, hg⟩ := hrel
    have Hm := Lib.hid hm
    have Hnd := Lib.hid hnd
    have Ho := Lib.hid ho
    have Hg := Lib.hid hg
    clear hm hnd ho hg
    by_cases hlt : i < b
    · have HW := Lib.hid (Way.start Hm.out Hnd.out (by omega) hlt)
      go_wp2_with fail
      go_loopw [9] (fun jv wj => ∃ (j : Nat) (q : List It), jv = .int .i64 (j : Int) ∧ a ≤ j ∧ j ≤ i ∧ Way d q a b i j ∧ wj.ownsRow B 77 4 (.slice (some ⟨g, 0, none⟩) n cap) n (itsC q) ∧ w.grownBy wj (some g)) (fun jv _ => (intOf jv).toNat)
      case atStart => exact ⟨i, q, rfl, by omega, by omega, HW.out, Ho.out, Hg.out⟩
      case round =>
        obtain ⟨j, r, rfl, hja, hji, hw, ho, hg⟩ := hrel
        have Hw := Lib.hid hw
        have Ho := Lib.hid ho
        have Hg := Lib.hid hg
        have hlr := HL.out _ hw.mv
        have HLr := Lib.hid hlr
        clear hw ho hg hlr
        by_cases hgt : a < j
        · obtain ⟨_, _, e, c0, c1, c2, c3⟩ := (rd_rdT (own_rd Ho.out)).at (show j < n by omega)
          injection e with e; injection e with e1 e2; subst e1 e2
          obtain ⟨_, _, e, d0, d1, d2, d3⟩ := (rd_rdT (own_rd Ho.out)).at (show j - 1 < n by omega)
          injection e with e; injection e with e1 e2; subst e1 e2
          simp only [Nat.zero_add] at c0 c1 c2 c3 d0 d1 d2 d3
          have HV := Lib.hid (fun W => cmpf_any (iat r j) (iat r (j - 1)) W)
          have hcl := cmpI_lt (iat r j).key (iat r (j - 1)).key
          obtain ⟨x, hx⟩ : ∃ x, iat r j = x := ⟨_, rfl⟩
          obtain ⟨y, hy⟩ : ∃ y, iat r (j - 1) = y := ⟨_, rfl⟩
          have HXY := Lib.hid (And.intro hx hy)
          rw [hx] at c0 c1 c2 c3 HV hcl
          rw [hy] at d0 d1 d2 d3 HV hcl
          clear hx hy
          obtain ⟨c, hc⟩ : ∃ c, cmpI x.key y.key = c := ⟨_, rfl⟩
          rw [hc] at HV hcl
          clear hc
          have hcl := Lib.hid hcl
          have j1 : IntKind.i64.wrap ((j : Int) - 1) = (j : Int) - 1 := IntWalk.i64_in _ (by omega)
          have j2 : (0 : Int) ≤ (j : Int) - 1 := by omega
          have j3 : ((j : Int) - 1).toNat = j - 1 := by omega
          have j4 : (j : Int) - 1 < (n : Int) := by omega
          have j5 : (j : Int) < (n : Int) := by omega
          have f0 := cell_by c0
          have f1 := cell_by c1
          have f2 := cell_by c2
          have f3 := cell_by c3
          have f4 := cell_by d0
          have f5 := cell_by d1
          have f6 := cell_by d2
          have f7 := cell_by d3
          clear c0 c1 c2 c3 d0 d1 d2 d3
          by_cases hk : c < 0
          · have hkk : x.key < y.key := by have := hcl.out; rw [decide_eq_true hk] at this; exact of_decide_eq_true this.symm
            go_wp2_with fail
            refine wp_region_below (by kernel_rfl) (by kernel_rfl) ?_
            repeat (go_big_quiet_step ((exact calls_by (HV.out _))))
            refine wpQuiet_nil ?_
            intro _ hw'
            obtain ⟨p, hw'⟩ := hw'
            subst hw'
            have Hp := Lib.hid (own_keep Ho.out p.h)
            have Gp := Lib.hid (grown_tr Hg.out (grown_mono (grown_of p.h) (some g)))
            obtain ⟨_, _, e, c0, c1, c2, c3⟩ := (rd_rdT (own_rd Hp.out)).at (show j < n by omega)
            injection e with e; injection e with e1 e2; subst e1 e2
            obtain ⟨_, _, e, d0, d1, d2, d3⟩ := (rd_rdT (own_rd Hp.out)).at (show j - 1 < n by omega)
            injection e with e; injection e with e1 e2; subst e1 e2
            simp only [Nat.zero_add] at c0 c1 c2 c3 d0 d1 d2 d3
            rw [HXY.out.1] at c0 c1 c2 c3
            rw [HXY.out.2] at d0 d1 d2 d3
            have fz := fun k => Hp.out.frozenAt k
            have z0 := fz (j * 4)
            have z1 := fz (j * 4 + 1)
            have z2 := fz (j * 4 + 2)
            have z3 := fz (j * 4 + 3)
            have z4 := fz ((j - 1) * 4)
            have z5 := fz ((j - 1) * 4 + 1)
            have z6 := fz ((j - 1) * 4 + 2)
            have z7 := fz ((j - 1) * 4 + 3)
            clear fz f0 f1 f2 f3 f4 f5 f6 f7
            have HF := Lib.hid (own_swp Hp.out HLr.out (i := j) (j := j - 1) (by omega) (by omega) HXY.out.1 HXY.out.2)
            have HS := Lib.hid (Hw.out.step (by rw [HLr.out]; exact h2) hgt (by rw [HXY.out.1, HXY.out.2]; exact hkk))
            generalize p.w' = wp at *
            clear hkk
            go_wp2_with fail
            go_region_with (fail)
            all_goals go_wp2_with fail
            all_goals exact ⟨⟨j - 1, swp2 r j (j - 1), by go_num, by omega, by omega, HS.out, HF.out.1, grown_tr Gp.out HF.out.2⟩, by simp [intOf]; omega⟩
          · have hkk : ¬ x.key < y.key := by have := hcl.out; rw [decide_eq_false hk] at this; exact of_decide_eq_false this.symm
            have HD := Lib.hid (Hw.out.done (Or.inr (by rw [HXY.out.1, HXY.out.2]; omega)))
            have hkd : decide (c < 0) = false := decide_eq_false hk
            have hkd2 : decide (x.key < y.key) = false := decide_eq_false hkk
            clear hk
            go_wp2_with fail
            refine wp_region_below (by kernel_rfl) (by kernel_rfl) ?_
            repeat (go_big_quiet_step ((exact calls_by (HV.out _))))
            refine wpQuiet_nil ?_
            intro _ hw'
            obtain ⟨p, hw'⟩ := hw'
            subst hw'
            have Hp := Lib.hid (own_keep Ho.out p.h)
            have Gp := Lib.hid (grown_tr Hg.out (grown_mono (grown_of p.h) (some g)))
            generalize p.w' = wp at *
            go_wp2_with fail
            exact ⟨⟨i + 1, r, by go_num, by omega, by omega, Hw.out.mv, HD.out, Hp.out, Gp.out⟩, by simp [intOf]; omega⟩
        · obtain rfl : j = a := by omega
          have HD := Lib.hid (Hw.out.done (Or.inl rfl))
          go_wp2_with fail
          refine wp_region_below (by kernel_rfl) (by kernel_rfl) ?_
          repeat (go_big_quiet_step (fail))
          refine wpQuiet_nil ?_
          intro _ hw'
          obtain ⟨p, hw'⟩ := hw'
          subst hw'
          have Hp := Lib.hid (own_keep Ho.out p.h)
          have Gp := Lib.hid (grown_tr Hg.out (grown_mono (grown_of p.h) (some g)))
          generalize p.w' = wp at *
          go_wp2_with fail
          exact ⟨⟨i + 1, r, by go_num, by omega, by omega, Hw.out.mv, HD.out, Hp.out, Gp.out⟩, by simp [intOf]; omega⟩
    · have HD := Lib.hid (show NdI q a b from fun x y x1 xy y2 => Hnd.out x y x1 xy (by omega))
      go_wp2_with fail
      go_end0
      exact ⟨rfl, q, Ho.out, Hm.out, HD.out, Hg.out⟩
end Go.Proofs.YtenkeodfijladaaGreatDoor
