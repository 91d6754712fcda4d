/- Fresh of any number; numbers stored in a generation's box. -/
import Derived.Test.YtenkeodfijladaaGreatDoorGR
import Derived.Test.YtenkeodfijladaaGreatDoorGJ
namespace Go.Proofs.YtenkeodfijladaaGreatDoor
open Go.RowKit

set_option maxRecDepth 100000 in
set_option maxHeartbeats 4000000 in
theorem fresh_no (num : Int) (hn : ¬ (1 ≤ num ∧ num ≤ 8)) (w : World) : Calls Tryz.prog 23 #[.int .i64 num] w fun e w' => e = .returned (.tuple #[genV 0 0 0 0 Sl.nil 0 0, .int .i64 1]) ∧ Below w.heap.size w w' := by
  have HV := Lib.hid (fun W => gvalid_any (fresh num) Sl.nil W (rdM_nil W) (fun _ _ => Nat.zero_le _))
  rw [vldG_not (fun h => hn ((fresh_vld num).1 h))] at HV
  dsimp only [fresh] at HV
  have HN := Lib.hid (fun W => new_any W)
  have HB := Lib.hid (below_gen w 0 0 0 0 Sl.nil 0 0 43)
  have HR := Lib.hid (BoxG.new w 0 0 0 0 Sl.nil 0 0 43)
  clear hn
  generalize hnil : Sl.nil = s0 at *
  have HNil := Lib.hid hnil
  clear hnil
  go_enter Tryz.func23, Tryz.ntmps23
  go_wp2_with fail
  refine (HN.out _).mono ?_
  rintro e w1 ⟨rfl, hb1⟩
  obtain ⟨W0, hW0⟩ : ∃ W0, w.alloc (.cells (genC 0 0 0 0 s0 0 0) 43) = W0 := ⟨_, rfl⟩
  have hb1' : Below (w.alloc (.cells (genC 0 0 0 0 s0 0 0) 43)).heap.size (w.alloc (.cells (genC 0 0 0 0 s0 0 0) 43)) w1 := by
    rw [← HNil.out]; exact hb1
  rw [hW0] at hb1' HB HR
  have HB1 := Lib.hid (bstep HB.out hb1')
  have HR1 := Lib.hid (HR.out.below hb1')
  clear hb1 hb1' HB HR hW0
  have hlR := HR1.out.lt
  generalize hb0 : w.heap.size = b0 at *
  have E0 := Lib.hid hb0
  clear hb0
  go_upto_region 2 with fail
  obtain ⟨W, hW⟩ : ∃ W, w1.alloc (.cells (genC num 0 1 16 s0 0 0) 43) = W := ⟨_, rfl⟩
  have HX := Lib.hid (BoxG.new w1 num 0 1 16 s0 0 0 43)
  have HBx := Lib.hid (below_gen w1 num 0 1 16 s0 0 0 43)
  change Code.wp _ _ _ _ (w1.alloc (.cells (genC num 0 1 16 s0 0 0) 43))
  rw [hW] at HX HBx ⊢
  clear hW
  have HR2 := Lib.hid (HR1.out.below HBx.out)
  have HB2 := Lib.hid (bup HB1.out (Nat.le_of_lt hlR) HBx.out)
  have hlX := HX.out.lt
  have m0 := HX.out.n0
  have m1 := HX.out.n1
  have m2 := HX.out.n2
  have m3 := HX.out.n3
  have m4 := HX.out.c0
  have m5 := HX.out.c1
  have m6 := HX.out.c2
  have m7 := HX.out.c3
  have m8 := HX.out.c4
  have m9 := HX.out.c5
  have m10 := HX.out.c6
  have m11 := HX.out.c7
  have m12 := HX.out.cl
  have m13 := HX.out.cg
  go_wp2_with fail
  refine (HV.out _).mono ?_
  rintro e w2 ⟨rfl, hb2⟩
  clear m0 m1 m2 m3 m4 m5 m6 m7 m8 m9 m10 m11 m12 m13
  have HX3 := Lib.hid (HX.out.below hb2)
  have HR3 := Lib.hid (HR2.out.below hb2)
  have HB3 := Lib.hid (bup HB2.out (Nat.le_of_lt HR2.out.lt) hb2)
  have hlR3 := HR3.out.lt
  have hlX3 := HX3.out.lt
  have hne : b0 ≠ w1.heap.size := by omega
  clear hb2 HX HR2 HB2 HV HN HR1 HB1 HBx hlX
  generalize w1.heap.size = b1 at *
  have m0 := HX3.out.n0
  have m1 := HX3.out.n1
  have m2 := HX3.out.n2
  have m3 := HX3.out.n3
  have m4 := HX3.out.c0
  have m5 := HX3.out.c1
  have m6 := HX3.out.c2
  have m7 := HX3.out.c3
  have m8 := HX3.out.c4
  have m9 := HX3.out.c5
  have m10 := HX3.out.c6
  have m11 := HX3.out.c7
  have m12 := HX3.out.cl
  have m13 := HX3.out.cg
  have d0 := HR3.out.n0
  have d1 := HR3.out.n1
  have d2 := HR3.out.n2
  have d3 := HR3.out.n3
  have d4 := HR3.out.c0
  have d5 := HR3.out.c1
  have d6 := HR3.out.c2
  have d7 := HR3.out.c3
  have d8 := HR3.out.c4
  have d9 := HR3.out.c5
  have d10 := HR3.out.c6
  have d11 := HR3.out.c7
  have d12 := HR3.out.cl
  have d13 := HR3.out.cg
  have F := HR3.out.f
  go_wp2_with fail
  change bodyPost _ _ _ _ _ (pts w2 b0 (genL 0 0 0 0 Sl.nil 0 0))
  have hby := HR3.out.all 0 0 0 0 Sl.nil 0 0
  have HBz := Lib.hid (pts_below (B := b0) (Nat.le_refl _) (genL 0 0 0 0 Sl.nil 0 0) HB3.out)
  generalize pts w2 b0 (genL 0 0 0 0 Sl.nil 0 0) = V at *
  exact bodyPost_ret (v := .tuple #[genV 0 0 0 0 Sl.nil 0 0, .int .i64 1]) (by simp [results, Tryz.results23, go_sem, hby.n0, hby.n1, hby.n2, hby.n3, hby.c0, hby.c1, hby.c2, hby.c3, hby.c4, hby.c5, hby.c6, hby.c7, hby.cl, hby.cg]) rfl ⟨by rw [← HNil.out], by rw [E0.out]; exact HBz.out⟩
theorem pfresh_any (n : Int) (w : World) : Calls Tryz.prog 23 #[.int .i64 n] w (GOwn w (freshG n)) := by
  by_cases h : 1 ≤ n ∧ n ≤ 8
  · refine (fresh_any n h w).mono ?_
    rintro e w' ⟨rfl, hb⟩
    unfold freshG
    rw [if_pos h]
    exact ⟨⟨Sl.nil, rfl, OwnM.nil _ _⟩, hb⟩
  · refine (fresh_no n h w).mono ?_
    rintro e w' ⟨rfl, hb⟩
    unfold freshG
    rw [if_neg h]
    exact ⟨⟨Sl.nil, rfl, OwnM.nil _ _⟩, hb⟩
theorem BoxG.num0 {W : World} {b : Nat} {n r md z : Int} {s : Sl} {l g : Int} (h : BoxG W b n r md z s l g) (n' : Int) : BoxG (Go.Proofs.YtenkeodfijladaaGreatDoor.pts W b [(0, .int .i64 n')]) b n' r md z s l g := by
  have a3 := h.n0
  have ne : ∀ i, i ≠ 0 → ∀ u, W.cell? ⟨b, i, none⟩ = some u → (Go.Proofs.YtenkeodfijladaaGreatDoor.pts W b [(0, .int .i64 n')]).cell? ⟨b, i, none⟩ = some u := fun i hi u hu => (World.cell?_setCell_other (h := fun e => hi (by injection e with _ e _; exact e.symm)) ..).trans hu
  exact ⟨by simp [Go.Proofs.YtenkeodfijladaaGreatDoor.pts, go_sem, a3], ne 1 (by decide) _ h.n1, ne 2 (by decide) _ h.n2, ne 3 (by decide) _ h.n3, fun j hj => ne (4 + j) (by omega) _ (h.c j hj), ne 12 (by decide) _ h.cl, ne 13 (by decide) _ h.cg, fun i => (pts_frozen _ _ W).trans (h.f i)⟩
theorem BoxG.num1' {W : World} {b : Nat} {n r md z : Int} {s : Sl} {l g : Int} (h : BoxG W b n r md z s l g) (n' : Int) : BoxG (Go.Proofs.YtenkeodfijladaaGreatDoor.pts W b [(1, .int .i64 n')]) b n n' md z s l g := by
  have a3 := h.n1
  have ne : ∀ i, i ≠ 1 → ∀ u, W.cell? ⟨b, i, none⟩ = some u → (Go.Proofs.YtenkeodfijladaaGreatDoor.pts W b [(1, .int .i64 n')]).cell? ⟨b, i, none⟩ = some u := fun i hi u hu => (World.cell?_setCell_other (h := fun e => hi (by injection e with _ e _; exact e.symm)) ..).trans hu
  exact ⟨ne 0 (by decide) _ h.n0, by simp [Go.Proofs.YtenkeodfijladaaGreatDoor.pts, go_sem, a3], ne 2 (by decide) _ h.n2, ne 3 (by decide) _ h.n3, fun j hj => ne (4 + j) (by omega) _ (h.c j hj), ne 12 (by decide) _ h.cl, ne 13 (by decide) _ h.cg, fun i => (pts_frozen _ _ W).trans (h.f i)⟩
theorem BoxG.num13 {W : World} {b : Nat} {n r md z : Int} {s : Sl} {l g : Int} (h : BoxG W b n r md z s l g) (n' : Int) : BoxG (Go.Proofs.YtenkeodfijladaaGreatDoor.pts W b [(13, .int .i64 n')]) b n r md z s l n' := by
  have a3 := h.cg
  have ne : ∀ i, i ≠ 13 → ∀ u, W.cell? ⟨b, i, none⟩ = some u → (Go.Proofs.YtenkeodfijladaaGreatDoor.pts W b [(13, .int .i64 n')]).cell? ⟨b, i, none⟩ = some u := fun i hi u hu => (World.cell?_setCell_other (h := fun e => hi (by injection e with _ e _; exact e.symm)) ..).trans hu
  exact ⟨ne 0 (by decide) _ h.n0, ne 1 (by decide) _ h.n1, ne 2 (by decide) _ h.n2, ne 3 (by decide) _ h.n3, fun j hj => ne (4 + j) (by omega) _ (h.c j hj), ne 12 (by decide) _ h.cl, by simp [Go.Proofs.YtenkeodfijladaaGreatDoor.pts, go_sem, a3], fun i => (pts_frozen _ _ W).trans (h.f i)⟩
theorem i64_and15 (n : Int) : bits .and .i64 n 15 = n % 16 := by
  have hm : (BitVec.ofInt 64 15).toNat = 2 ^ 4 - 1 := by decide
  have key : (BitVec.ofInt 64 n &&& BitVec.ofInt 64 15).toNat = (n % ((2 ^ 64 : Nat) : Int)).toNat % 2 ^ 4 := by
    rw [BitVec.toNat_and, BitVec.toNat_ofInt, hm, Nat.and_two_pow_sub_one_eq_mod]
  show IntKind.i64.wrap ((BitVec.ofInt 64 n &&& BitVec.ofInt 64 15).toNat : Nat) = n % 16
  rw [key, IntKind.wrap_i64]
  omega
theorem tmod_b (n : Int) (k : Int) (hk : 0 < k) : ∃ d, n.tmod k = d ∧ -k < d ∧ d < k := ⟨_, rfl, by have := Int.lt_tmod_of_pos n hk; omega, Int.tmod_lt_of_pos n hk⟩
/-- The case that a number of any size picks. -/
theorem pick6 (n : Int) : ∃ k, (n.tmod 6 + 6).tmod 6 = k ∧ (n.tmod 6 + 6) % 6 = k ∧ -6 < n.tmod 6 ∧ n.tmod 6 < 6 ∧ (k = 0 ∨ k = 1 ∨ k = 2 ∨ k = 3 ∨ k = 4 ∨ k = 5) := by
  have h1 := Int.tmod_lt_of_pos n (show (0 : Int) < 6 by decide)
  have h2 := Int.lt_tmod_of_pos n (show (0 : Int) < 6 by decide)
  refine ⟨(n.tmod 6 + 6) % 6, ?_, rfl, by omega, h1, by omega⟩
  rw [Int.tmod_eq_emod_of_nonneg (by omega)]
end Go.Proofs.YtenkeodfijladaaGreatDoor
