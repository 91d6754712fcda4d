/- Several texts in one, each over the last: awake of the law of package slot: the chapter's examples. SlotRoutes: the walk. -/
import Derived.Test.YtibddmnfplmonaaGG
namespace Go.Proofs.Ytibddmnfplmonaa
open Go.RowKit

theorem newL_len : ∀ p ∈ newL, ∀ j, j < 8 → (p.1.m.st j).length ≤ 10000 := fun p hp j _ => by
  have : p = (fresh 1, Sl.nil) := by simpa [newL] using hp
  subst this
  exact Nat.zero_le _
theorem allSl_new (i l : Int) (r : Bool) (hA : 0 ≤ i ∧ i < 4 ∧ 4136 ≤ l ∧ l ≤ 262144) (key : Int) : allSl ⟨i, l, r, gns newL⟩ key = [] := by
  rw [allSl_of rfl (new_vld i l r hA)]
  have e : getM (gat (gns newL) 0).m key = none := by
    show getM (fresh 1).m key = none
    unfold getM
    rw [if_pos (fresh_map 1)]
    rfl
  show allF (gns newL) key (0 + 1) = []
  rw [allF, e]
  rfl
set_option maxRecDepth 100000 in
set_option maxHeartbeats 4000000 in
theorem sawake_any (w : World) : Calls Try.prog 5 #[] w fun e w' => e = .returned (.bool true) ∧ Below w.heap.size w w' := by
  have HN := Lib.hid (fun W => new_slot 0 9000 (by decide) W)
  have HF := Lib.hid (fun b W (h : GAt W b 0 (fresh 1, Sl.nil)) => sfind_any 0 9000 false (some ⟨b, 0, none⟩) 1 1 newL W (newL_rd h) newL_len 1)
  rw [allSl_new 0 9000 false (by decide)] at HF
  have HR1 := Lib.hid (fun W => route_any 5 2 W (by decide) (by decide))
  rw [show routeI 5 2 = 1 by decide] at HR1
  have HR2 := Lib.hid (fun W => route_any 4294967296 2 W (by decide) (by decide))
  rw [show routeI 4294967296 2 = 1 by decide] at HR2
  have HT := Lib.hid (fun b W (h : GAt W b 0 (fresh 1, Sl.nil)) => sfits_yes 0 9000 false (some ⟨b, 0, none⟩) 1 1 newL W (newL_rd h) newL_len (new_vld 0 9000 false (by decide)) 4096 (Nat.le_refl _))
  rw [show decide ((pat newL (1 - 1)).1.size + ((szN 4096 : Nat) : Int) ≤ 9000) = true by decide, show ((4096 : Nat) : Int) = 4096 from rfl] at HT
  go_enter Try.func5, Try.ntmps5
  go_wp2_with fail
  refine (HN.out _).mono ?_
  rintro e w1 ⟨b, rfl, hbb, hg, hb⟩
  have HB := Lib.hid hb
  have HG := Lib.hid hg
  clear hb hg
  go_upto_region 2 with fail
  obtain ⟨W, hW⟩ : ∃ W, w1.alloc (.cells (sloC 0 9000 false (some ⟨b, 0, none⟩) 1 1) 30) = W := ⟨_, rfl⟩
  have HX := Lib.hid (show BoxV W w1.heap.size 0 9000 false (some ⟨b, 0, none⟩) 1 1 from hW ▸ BoxV.new w1 0 9000 false (some ⟨b, 0, none⟩) 1 1 30)
  have hb1 : Below w1.heap.size w1 W := hW ▸ below_slo w1 0 9000 false (some ⟨b, 0, none⟩) 1 1 30
  have HB2 := Lib.hid (bstep HB.out hb1)
  have HG2 := Lib.hid (HG.out.below hb1)
  change Code.wp _ _ _ _ (w1.alloc (.cells (sloC 0 9000 false (some ⟨b, 0, none⟩) 1 1) 30))
  rw [hW]
  clear hW hb1 HB HG
  generalize w1.heap.size = b1 at *
  clear w1
  have x0 := HX.out.c0
  have x1 := HX.out.c1
  have x2 := HX.out.c2
  have x3 := HX.out.c3
  go_wp2_with fail
  refine (HF.out _ _ HG2.out).mono ?_
  rintro e w2 ⟨rfl, hb2⟩
  have HB3 := Lib.hid (bstep HB2.out hb2)
  have HG3 := Lib.hid (HG2.out.below hb2)
  have HX3 := Lib.hid (HX.out.below hb2)
  clear x0 x1 x2 x3 hb2 HB2 HG2 HX
  go_upto_region 3 with fail
  obtain ⟨V, hV⟩ : ∃ V, w2.alloc (.cells (plC fnd0) 37) = V := ⟨_, rfl⟩
  have hb3 : Below w2.heap.size w2 V := hV ▸ (Below.refl _ w2).alloc (Nat.le_refl _) _
  have HB4 := Lib.hid (bstep HB3.out hb3)
  have HG4 := Lib.hid (HG3.out.below hb3)
  have HX4 := Lib.hid (HX3.out.below hb3)
  change Code.wp _ _ _ _ (w2.alloc (.cells (plC fnd0) 37))
  rw [hV]
  clear hV hb3 HB3 HG3 HX3
  have x0 := HX4.out.c0
  have x1 := HX4.out.c1
  have x2 := HX4.out.c2
  have x3 := HX4.out.c3
  go_wp2_with fail
  refine (HR1.out _).mono ?_
  rintro e w3 ⟨rfl, rfl⟩
  go_wp2_with fail
  refine (HR2.out _).mono ?_
  rintro e w3 ⟨rfl, rfl⟩
  go_wp2_with fail
  refine (HT.out _ _ HG4.out).mono ?_
  rintro e w3 ⟨rfl, hb⟩
  have HB5 := Lib.hid (bstep HB4.out hb)
  clear hb
  go_wp2_with fail
  go_ret
  exact ⟨rfl, HB5.out⟩
end Go.Proofs.Ytibddmnfplmonaa

namespace Go.Proofs.Ytibddmnfplmonaa
open Go.RowKit

theorem routes_walk (a b : Int) (w : World) (ha : (Lit.int .u32 a).wf = true) (hb : (Lit.int .u8 b).wf = true) : Calls Try.prog 3 #[.int .u32 a, .int .u8 b] w fun e w' => e = .returned (.bool true) ∧ Below w.heap.size w w' := by
  obtain ⟨h0, h1⟩ := bounds_of_u32 ha
  obtain ⟨m, rfl, hm⟩ := nat_of_u8 hb
  obtain ⟨k, rfl⟩ : ∃ k : Nat, a = (k : Int) := ⟨a.toNat, by omega⟩
  clear ha hb h0
  have hn1 : 1 ≤ 1 + (m : Int) % 4 := by omega
  have hn4 : 1 + (m : Int) % 4 ≤ 4 := by omega
  have HR := Lib.hid (fun W => route_any (k : Int) (1 + (m : Int) % 4) W hn1 (by omega))
  have HR2 := Lib.hid (fun W => route_any ((k : Int) + 1) (1 + (m : Int) % 4) W hn1 (by omega))
  have HA := Lib.hid (fun W => sawake_any W)
  have hr := routeI_low (k := k) (by omega) hn1 hn4
  have hr0 : 0 ≤ routeI (k : Int) (1 + (m : Int) % 4) ∧ routeI (k : Int) (1 + (m : Int) % 4) < 1 + (m : Int) % 4 := by rw [hr]; exact ⟨Int.emod_nonneg _ (by omega), Int.emod_lt_of_pos _ (by omega)⟩
  have ht : (0 ≤ routeI ((k : Int) + 1) (1 + (m : Int) % 4) ∧ routeI ((k : Int) + 1) (1 + (m : Int) % 4) < 1 + (m : Int) % 4) ∧ ((k : Int) = 4294967295 ∨ routeI ((k : Int) + 1) (1 + (m : Int) % 4) = (routeI (k : Int) (1 + (m : Int) % 4) + 1) % (1 + (m : Int) % 4)) := by
    by_cases hk : (k : Int) = 4294967295
    · rw [hk]
      exact ⟨routeI_high hn1 hn4, .inl rfl⟩
    · have h2 := routeI_low (k := k + 1) (by omega) hn1 hn4
      rw [Int.natCast_add, Int.natCast_one] at h2
      rw [h2, hr]
      exact ⟨⟨Int.emod_nonneg _ (by omega), Int.emod_lt_of_pos _ (by omega)⟩, .inr (by rw [Int.emod_add_emod])⟩
  clear hr
  generalize routeI (k : Int) (1 + (m : Int) % 4) = r at *
  generalize routeI ((k : Int) + 1) (1 + (m : Int) % 4) = s at *
  obtain ⟨hr1, hr2⟩ := hr0
  obtain ⟨⟨hs1, hs2⟩, hq⟩ := ht
  go_enter Try.func3, Try.ntmps3
  go_wp2_with fail
  refine (HR.out _).mono ?_
  rintro e w1 ⟨rfl, rfl⟩
  go_wp2_with fail
  refine (HR2.out _).mono ?_
  rintro e w1 ⟨rfl, rfl⟩
  have d1 : decide (r < 0) = false := by simp; omega
  have d2 : decide (1 + (m : Int) % 4 ≤ r) = false := by simp; omega
  have d3 : decide (s < 0) = false := by simp; omega
  have d4 : decide (1 + (m : Int) % 4 ≤ s) = false := by simp; omega
  by_cases hk : (k : Int) = 4294967295
  · have d5 : decide ((k : Int) = 4294967295) = true := decide_eq_true hk
    go_wp2_with fail
    refine (HA.out _).mono ?_
    rintro e w1 ⟨rfl, hb⟩
    go_wp2_with fail
    go_ret
    exact ⟨rfl, hb⟩
  · have d5 : decide ((k : Int) = 4294967295) = false := by simp; omega
    have hq2 := hq.resolve_left hk
    clear hq
    go_wp2_with fail
    refine (HA.out _).mono ?_
    rintro e w1 ⟨rfl, hb⟩
    go_wp2_with fail
    go_ret
    exact ⟨rfl, hb⟩
end Go.Proofs.Ytibddmnfplmonaa
