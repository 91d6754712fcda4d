/- Several texts in one, each over the last: Fresh of any number; numbers stored in a generation's box. GenerationValid: the walk. Printed by genJv.py. GenerationValid for the values that come in. -/
import Derived.Test.YthomhflkldhdaaaGreatDoorGR
import Derived.Test.YthomhflkldhdaaaGreatDoorGJ
import Derived.Test.YthomhflkldhdaaaGreatDoorGP
namespace Go.Proofs.YthomhflkldhdaaaGreatDoor
open Go.RowKit

set_option maxRecDepth 100000 in
set_option maxHeartbeats 4000000 in
theorem fresh_no (num : Int) (hn : ¬ (1 ≤ num ∧ num ≤ 8)) (w : World) : Calls Tryz.prog 15 #[.int .i64 num] w fun e w' => e = .returned (.tuple #[genV 0 0 0 0 Sl.nil 0 0, .int .i64 1]) ∧ Below w.heap.size w w' := by
  have HV := Lib.hid (fun W => gvalid_any (fresh num) Sl.nil W (rdM_nil W) (fun _ _ => Nat.zero_le _))
  rw [vldG_not (fun h => hn ((fresh_vld num).1 h))] at HV
  dsimp only [fresh] at HV
  have HN := Lib.hid (fun W => new_any W)
  have HB := Lib.hid (below_gen w 0 0 0 0 Sl.nil 0 0 35)
  have HR := Lib.hid (BoxG.new w 0 0 0 0 Sl.nil 0 0 35)
  clear hn
  generalize hnil : Sl.nil = s0 at *
  have HNil := Lib.hid hnil
  clear hnil
  go_enter Tryz.func15, Tryz.ntmps15
  go_wp2_with fail
  refine (HN.out _).mono ?_
  rintro e w1 ⟨rfl, hb1⟩
  obtain ⟨W0, hW0⟩ : ∃ W0, w.alloc (.cells (genC 0 0 0 0 s0 0 0) 35) = W0 := ⟨_, rfl⟩
  have hb1' : Below (w.alloc (.cells (genC 0 0 0 0 s0 0 0) 35)).heap.size (w.alloc (.cells (genC 0 0 0 0 s0 0 0) 35)) w1 := by
    rw [← HNil.out]; exact hb1
  rw [hW0] at hb1' HB HR
  have HB1 := Lib.hid (bstep HB.out hb1')
  have HR1 := Lib.hid (HR.out.below hb1')
  clear hb1 hb1' HB HR hW0
  have hlR := HR1.out.lt
  generalize hb0 : w.heap.size = b0 at *
  have E0 := Lib.hid hb0
  clear hb0
  go_upto_region 2 with fail
  obtain ⟨W, hW⟩ : ∃ W, w1.alloc (.cells (genC num 0 1 16 s0 0 0) 35) = W := ⟨_, rfl⟩
  have HX := Lib.hid (BoxG.new w1 num 0 1 16 s0 0 0 35)
  have HBx := Lib.hid (below_gen w1 num 0 1 16 s0 0 0 35)
  change Code.wp _ _ _ _ (w1.alloc (.cells (genC num 0 1 16 s0 0 0) 35))
  rw [hW] at HX HBx ⊢
  clear hW
  have HR2 := Lib.hid (HR1.out.below HBx.out)
  have HB2 := Lib.hid (bup HB1.out (Nat.le_of_lt hlR) HBx.out)
  have hlX := HX.out.lt
  have m0 := HX.out.n0
  have m1 := HX.out.n1
  have m2 := HX.out.n2
  have m3 := HX.out.n3
  have m4 := HX.out.c0
  have m5 := HX.out.c1
  have m6 := HX.out.c2
  have m7 := HX.out.c3
  have m8 := HX.out.c4
  have m9 := HX.out.c5
  have m10 := HX.out.c6
  have m11 := HX.out.c7
  have m12 := HX.out.cl
  have m13 := HX.out.cg
  go_wp2_with fail
  refine (HV.out _).mono ?_
  rintro e w2 ⟨rfl, hb2⟩
  clear m0 m1 m2 m3 m4 m5 m6 m7 m8 m9 m10 m11 m12 m13
  have HX3 := Lib.hid (HX.out.below hb2)
  have HR3 := Lib.hid (HR2.out.below hb2)
  have HB3 := Lib.hid (bup HB2.out (Nat.le_of_lt HR2.out.lt) hb2)
  have hlR3 := HR3.out.lt
  have hlX3 := HX3.out.lt
  have hne : b0 ≠ w1.heap.size := by omega
  clear hb2 HX HR2 HB2 HV HN HR1 HB1 HBx hlX
  generalize w1.heap.size = b1 at *
  have m0 := HX3.out.n0
  have m1 := HX3.out.n1
  have m2 := HX3.out.n2
  have m3 := HX3.out.n3
  have m4 := HX3.out.c0
  have m5 := HX3.out.c1
  have m6 := HX3.out.c2
  have m7 := HX3.out.c3
  have m8 := HX3.out.c4
  have m9 := HX3.out.c5
  have m10 := HX3.out.c6
  have m11 := HX3.out.c7
  have m12 := HX3.out.cl
  have m13 := HX3.out.cg
  have d0 := HR3.out.n0
  have d1 := HR3.out.n1
  have d2 := HR3.out.n2
  have d3 := HR3.out.n3
  have d4 := HR3.out.c0
  have d5 := HR3.out.c1
  have d6 := HR3.out.c2
  have d7 := HR3.out.c3
  have d8 := HR3.out.c4
  have d9 := HR3.out.c5
  have d10 := HR3.out.c6
  have d11 := HR3.out.c7
  have d12 := HR3.out.cl
  have d13 := HR3.out.cg
  have F := HR3.out.f
  go_wp2_with fail
  change bodyPost _ _ _ _ _ (pts w2 b0 (genL 0 0 0 0 Sl.nil 0 0))
  have hby := HR3.out.all 0 0 0 0 Sl.nil 0 0
  have HBz := Lib.hid (pts_below (B := b0) (Nat.le_refl _) (genL 0 0 0 0 Sl.nil 0 0) HB3.out)
  generalize pts w2 b0 (genL 0 0 0 0 Sl.nil 0 0) = V at *
  exact bodyPost_ret (v := .tuple #[genV 0 0 0 0 Sl.nil 0 0, .int .i64 1]) (by simp [results, Tryz.results15, go_sem, hby.n0, hby.n1, hby.n2, hby.n3, hby.c0, hby.c1, hby.c2, hby.c3, hby.c4, hby.c5, hby.c6, hby.c7, hby.cl, hby.cg]) rfl ⟨by rw [← HNil.out], by rw [E0.out]; exact HBz.out⟩
theorem pfresh_any (n : Int) (w : World) : Calls Tryz.prog 15 #[.int .i64 n] w (GOwn w (freshG n)) := by
  by_cases h : 1 ≤ n ∧ n ≤ 8
  · refine (fresh_any n h w).mono ?_
    rintro e w' ⟨rfl, hb⟩
    unfold freshG
    rw [if_pos h]
    exact ⟨⟨Sl.nil, rfl, OwnM.nil _ _⟩, hb⟩
  · refine (fresh_no n h w).mono ?_
    rintro e w' ⟨rfl, hb⟩
    unfold freshG
    rw [if_neg h]
    exact ⟨⟨Sl.nil, rfl, OwnM.nil _ _⟩, hb⟩
theorem BoxG.num0 {W : World} {b : Nat} {n r md z : Int} {s : Sl} {l g : Int} (h : BoxG W b n r md z s l g) (n' : Int) : BoxG (Go.Proofs.YthomhflkldhdaaaGreatDoor.pts W b [(0, .int .i64 n')]) b n' r md z s l g := by
  have a3 := h.n0
  have ne : ∀ i, i ≠ 0 → ∀ u, W.cell? ⟨b, i, none⟩ = some u → (Go.Proofs.YthomhflkldhdaaaGreatDoor.pts W b [(0, .int .i64 n')]).cell? ⟨b, i, none⟩ = some u := fun i hi u hu => (World.cell?_setCell_other (h := fun e => hi (by injection e with _ e _; exact e.symm)) ..).trans hu
  exact ⟨by simp [Go.Proofs.YthomhflkldhdaaaGreatDoor.pts, go_sem, a3], ne 1 (by decide) _ h.n1, ne 2 (by decide) _ h.n2, ne 3 (by decide) _ h.n3, fun j hj => ne (4 + j) (by omega) _ (h.c j hj), ne 12 (by decide) _ h.cl, ne 13 (by decide) _ h.cg, fun i => (pts_frozen _ _ W).trans (h.f i)⟩
theorem BoxG.num1' {W : World} {b : Nat} {n r md z : Int} {s : Sl} {l g : Int} (h : BoxG W b n r md z s l g) (n' : Int) : BoxG (Go.Proofs.YthomhflkldhdaaaGreatDoor.pts W b [(1, .int .i64 n')]) b n n' md z s l g := by
  have a3 := h.n1
  have ne : ∀ i, i ≠ 1 → ∀ u, W.cell? ⟨b, i, none⟩ = some u → (Go.Proofs.YthomhflkldhdaaaGreatDoor.pts W b [(1, .int .i64 n')]).cell? ⟨b, i, none⟩ = some u := fun i hi u hu => (World.cell?_setCell_other (h := fun e => hi (by injection e with _ e _; exact e.symm)) ..).trans hu
  exact ⟨ne 0 (by decide) _ h.n0, by simp [Go.Proofs.YthomhflkldhdaaaGreatDoor.pts, go_sem, a3], ne 2 (by decide) _ h.n2, ne 3 (by decide) _ h.n3, fun j hj => ne (4 + j) (by omega) _ (h.c j hj), ne 12 (by decide) _ h.cl, ne 13 (by decide) _ h.cg, fun i => (pts_frozen _ _ W).trans (h.f i)⟩
theorem BoxG.num13 {W : World} {b : Nat} {n r md z : Int} {s : Sl} {l g : Int} (h : BoxG W b n r md z s l g) (n' : Int) : BoxG (Go.Proofs.YthomhflkldhdaaaGreatDoor.pts W b [(13, .int .i64 n')]) b n r md z s l n' := by
  have a3 := h.cg
  have ne : ∀ i, i ≠ 13 → ∀ u, W.cell? ⟨b, i, none⟩ = some u → (Go.Proofs.YthomhflkldhdaaaGreatDoor.pts W b [(13, .int .i64 n')]).cell? ⟨b, i, none⟩ = some u := fun i hi u hu => (World.cell?_setCell_other (h := fun e => hi (by injection e with _ e _; exact e.symm)) ..).trans hu
  exact ⟨ne 0 (by decide) _ h.n0, ne 1 (by decide) _ h.n1, ne 2 (by decide) _ h.n2, ne 3 (by decide) _ h.n3, fun j hj => ne (4 + j) (by omega) _ (h.c j hj), ne 12 (by decide) _ h.cl, by simp [Go.Proofs.YthomhflkldhdaaaGreatDoor.pts, go_sem, a3], fun i => (pts_frozen _ _ W).trans (h.f i)⟩
theorem i64_and15 (n : Int) : bits .and .i64 n 15 = n % 16 := by
  have hm : (BitVec.ofInt 64 15).toNat = 2 ^ 4 - 1 := by decide
  have key : (BitVec.ofInt 64 n &&& BitVec.ofInt 64 15).toNat = (n % ((2 ^ 64 : Nat) : Int)).toNat % 2 ^ 4 := by
    rw [BitVec.toNat_and, BitVec.toNat_ofInt, hm, Nat.and_two_pow_sub_one_eq_mod]
  show IntKind.i64.wrap ((BitVec.ofInt 64 n &&& BitVec.ofInt 64 15).toNat : Nat) = n % 16
  rw [key, IntKind.wrap_i64]
  omega
theorem tmod_b (n : Int) (k : Int) (hk : 0 < k) : ∃ d, n.tmod k = d ∧ -k < d ∧ d < k := ⟨_, rfl, by have := Int.lt_tmod_of_pos n hk; omega, Int.tmod_lt_of_pos n hk⟩
/-- The case that a number of any size picks. -/
theorem pick6 (n : Int) : ∃ k, (n.tmod 6 + 6).tmod 6 = k ∧ (n.tmod 6 + 6) % 6 = k ∧ -6 < n.tmod 6 ∧ n.tmod 6 < 6 ∧ (k = 0 ∨ k = 1 ∨ k = 2 ∨ k = 3 ∨ k = 4 ∨ k = 5) := by
  have h1 := Int.tmod_lt_of_pos n (show (0 : Int) < 6 by decide)
  have h2 := Int.lt_tmod_of_pos n (show (0 : Int) < 6 by decide)
  refine ⟨(n.tmod 6 + 6) % 6, ?_, rfl, by omega, h1, by omega⟩
  rw [Int.tmod_eq_emod_of_nonneg (by omega)]
end Go.Proofs.YthomhflkldhdaaaGreatDoor

namespace Go.Proofs.YthomhflkldhdaaaGreatDoor
open Go.RowKit

set_option maxRecDepth 100000 in
set_option maxHeartbeats 32000000 in
theorem valid_walk12 (q : Sl × Gn) (v : Value) (ns : List (Nd × Value)) (mode which by_ : Int) (w : World) (h0 : RdM w q.1 q.2.m.st) (h : RdN w v ns) (hwf : ∀ p ∈ ns, p.1.Wf) :
    Calls Tryz.prog 3 #[genV q.2.num q.2.rev q.2.mode q.2.size q.1 q.2.m.live q.2.m.garb, v, .int .i64 mode, .int .i64 which, .int .i64 by_] w fun e w' => e = .returned (.bool true) ∧ Below w.heap.size w w' := by
  obtain ⟨sR, gR⟩ := q
  dsimp only at *
  have HLi := Lib.hid (fun W hb => glight_any gR.num gR.rev gR.mode gR.size sR gR.m.live gR.m.garb gR.m.st W (h0.below hb))
  have HLq := Lib.hid (fun h => lightG_iff (f := gR.m.st) h)
  have HMa := Lib.hid (fun W (hb : Below w.heap.size w W) => made_any v ns mode W (h.below hb) hwf)
  have hgv : VldG (madeG (ns.map (·.1)) mode) := madeG_vld _ _
  have hgl : ∀ i, i < 8 → ((madeG (ns.map (·.1)) mode).m.st i).length ≤ 10 := fun i hi => madeM_len _ _ _ i hi
  have hsz : (madeG (ns.map (·.1)) mode).size ≤ 41286 := by
    show (madeM _ _ _).size ≤ _
    rw [madeM_size]
    have := szL_smL (ns.map (·.1))
    omega
  have hsm := hgv.small
  have hs16 := hgv.size.1
  obtain ⟨va, vc, rfl, hv1, hv2⟩ := h.shape
  clear h hwf
  generalize madeG (ns.map (·.1)) mode = gA at *
  generalize ns.length = n at *
  have HVA := Lib.hid (fun s W h => gvalid_any gA s W h (fun i hi => Nat.le_trans (hgl i hi) (by decide)))
  rw [(vldG_iff gA).2 hgv] at HVA
  have HV := Lib.hid (fun (g : Gn) (hl : ∀ i, i < 8 → (g.m.st i).length ≤ 100) s W h => gvalid_any g s W h (fun i hi => Nat.le_trans (hl i hi) (by decide)))
  have HRV := Lib.hid (fun (g : Gn) (hl : ∀ i, i < 8 → (g.m.st i).length ≤ 100) s W h => rgvalid_any g s W h (fun i hi => Nat.le_trans (hl i hi) (by decide)))
  have HGi := Lib.hid (fun a b c d s L G W => ggiven_any a b c d s L G W)
  have HPF := Lib.hid (fun W => pfresh_any by_ W)
  have HRF := Lib.hid (fun W => rfresh_any by_ W)
  have HTo := Lib.hid (fun a b c d s L G W => gtold_any a b c d s L G W)
  have HSa := Lib.hid (fun (g : Gn) s t W h1 h2 => gsame_any g s t W h1 h2)
  have HAw := Lib.hid (fun W => gawake_any W)
  have HB := Lib.hid (Below.refl w.heap.size w)
  have HR := Lib.hid h0
  clear h0
  obtain ⟨an, ar, am, az, ⟨af, aL, aG⟩⟩ := gA
  obtain ⟨rn, rr, rm, rz, ⟨rf, rL, rG⟩⟩ := gR
  generalize freshG by_ = FR at *
  obtain ⟨er, ⟨fn, fr, fm, fz, ⟨ff, fL, fG⟩⟩⟩ := FR
  dsimp only at *
  obtain ⟨l0, g0, l1, g1⟩ := hsm
  obtain ⟨kw, hk1, hk2, hk3, hk4, hkc⟩ := pick6 which
  have h15 := i64_and15 by_
  have HRf := Lib.hid (show ∀ W, Calls Tryz.prog 16 #[.int .i64 by_] W (GR W er fn fr fm fz ff fL fG) from fun W => HRF.out W)
  have HPf := Lib.hid (show ∀ W, Calls Tryz.prog 15 #[.int .i64 by_] W (GR W er fn fr fm fz ff fL fG) from fun W => HPF.out W)
  have HSf := Lib.hid (show ∀ s t W, RdM W s ff → RdM W t ff → Calls Tryz.prog 18 #[genV fn fr fm fz s fL fG, genV fn fr fm fz t fL fG] W (fun e w' => e = .returned (.bool true) ∧ Below W.heap.size W w') from fun s t W h1 h2 => HSa.out ⟨fn, fr, fm, fz, ⟨ff, fL, fG⟩⟩ s t W h1 h2)
  clear HPF HRF HSa
  obtain ⟨W0, hW0⟩ : ∃ W0, w.alloc (.cells (genC rn rr rm rz sR rL rG) 27) = W0 := ⟨_, rfl⟩
  have X5 := Lib.hid (show BoxG W0 w.heap.size rn rr rm rz sR rL rG from hW0 ▸ BoxG.new w rn rr rm rz sR rL rG 27)
  replace HB := Lib.hid (show Below w.heap.size w W0 from hW0 ▸ below_gen w rn rr rm rz sR rL rG 27)
  go_enter Tryz.func3, Tryz.ntmps3
  go_upto_region 1 with fail
  clear hW0
  have x0 := X5.out.n0
  have x1 := X5.out.n1
  have x2 := X5.out.n2
  have x3 := X5.out.n3
  have x4 := X5.out.c0
  have x5 := X5.out.c1
  have x6 := X5.out.c2
  have x7 := X5.out.c3
  have x8 := X5.out.c4
  have x9 := X5.out.c5
  have x10 := X5.out.c6
  have x11 := X5.out.c7
  have x12 := X5.out.cl
  have x13 := X5.out.cg
  go_wp2_with fail
  refine (HLi.out W0 HB.out).mono ?_
  rintro e w1 ⟨rfl, hb⟩
  clear x0 x1 x2 x3 x4 x5 x6 x7 x8 x9 x10 x11 x12 x13
  replace HB := Lib.hid (bstep HB.out hb)
  replace X5 := Lib.hid (X5.out.below hb)
  clear hb HLi
  generalize hli : lightG rf = lb at *
  cases lb
  · clear hli
    go_wp2_with fail
    refine (HAw.out _).mono ?_
    rintro e w2 ⟨rfl, hb⟩
    have HBz := Lib.hid (bstep HB.out hb)
    go_wp2_with fail
    go_ret
    exact ⟨rfl, HBz.out⟩
  · have hrl := HLq.out rfl
    clear hli HLq
    have HV1 := Lib.hid (HV.out ⟨rn, rr, rm, rz, ⟨rf, rL, rG⟩⟩ (fun i hi => Nat.le_trans (hrl i hi) (by decide)))
    have HR1 := Lib.hid (HRV.out ⟨rn, rr, rm, rz, ⟨rf, rL, rG⟩⟩ (fun i hi => Nat.le_trans (hrl i hi) (by decide)))
    dsimp only at HV1 HR1
    generalize vldG ⟨rn, rr, rm, rz, ⟨rf, rL, rG⟩⟩ = vr at *
    clear hrl
    go_wp2_with fail
    refine (HMa.out w1 HB.out).mono ?_
    rintro e w2 ⟨⟨sA, rfl, ho⟩, hb⟩
    dsimp only
    replace HB := Lib.hid (bstep HB.out hb)
    replace X5 := Lib.hid (X5.out.below hb)
    have RA := Lib.hid (ho.mono (Nat.zero_le _))
    clear ho hb HMa
    go_upto_region 4 with fail
    change Code.wp _ _ _ _ (w2.alloc (.cells (genC an ar am az sA aL aG) 27))
    have hbq := below_gen w2 an ar am az sA aL aG 27
    replace HB := Lib.hid (bstep HB.out hbq)
    replace X5 := Lib.hid (X5.out.below hbq)
    replace RA := Lib.hid (RA.out.keep hbq)
    have X11 := Lib.hid (BoxG.new w2 an ar am az sA aL aG 27)
    clear hbq
    generalize w2.alloc (.cells (genC an ar am az sA aL aG) 27) = w3 at *
    generalize w2.heap.size = b11 at *
    have x0 := X11.out.n0
    have x1 := X11.out.n1
    have x2 := X11.out.n2
    have x3 := X11.out.n3
    have x4 := X11.out.c0
    have x5 := X11.out.c1
    have x6 := X11.out.c2
    have x7 := X11.out.c3
    have x8 := X11.out.c4
    have x9 := X11.out.c5
    have x10 := X11.out.c6
    have x11 := X11.out.c7
    have x12 := X11.out.cl
    have x13 := X11.out.cg
    go_wp2_with fail
    refine (HGi.out an ar am az sA aL aG _).mono ?_
    rintro e w4 ⟨rfl, hb⟩
    clear x0 x1 x2 x3 x4 x5 x6 x7 x8 x9 x10 x11 x12 x13
    replace HB := Lib.hid (bstep HB.out hb)
    replace X5 := Lib.hid (X5.out.below hb)
    replace RA := Lib.hid (RA.out.keep hb)
    replace X11 := Lib.hid (X11.out.below hb)
    clear hb
    go_wp2_with fail
    refine (HVA.out sA _ RA.out.rd).mono ?_
    rintro e w5 ⟨rfl, hb⟩
    replace HB := Lib.hid (bstep HB.out hb)
    replace X5 := Lib.hid (X5.out.below hb)
    replace RA := Lib.hid (RA.out.keep hb)
    replace X11 := Lib.hid (X11.out.below hb)
    clear hb HVA
    have x0 := X11.out.n0
    have x1 := X11.out.n1
    have x2 := X11.out.n2
    have x3 := X11.out.n3
    have x4 := X11.out.c0
    have x5 := X11.out.c1
    have x6 := X11.out.c2
    have x7 := X11.out.c3
    have x8 := X11.out.c4
    have x9 := X11.out.c5
    have x10 := X11.out.c6
    have x11 := X11.out.c7
    have x12 := X11.out.cl
    have x13 := X11.out.cg
    have hw5 : w.heap.size ≤ w5.heap.size := HB.out.size
    have h5a : w.heap.size < w5.heap.size := X5.out.lt
    go_upto_region 7 with fail
    change Code.wp _ _ _ _ (w5.alloc (.cells (genC an ar am az sA aL aG) 27))
    have hbq := below_gen w5 an ar am az sA aL aG 27
    replace HB := Lib.hid (bstep HB.out hbq)
    replace X5 := Lib.hid (X5.out.below hbq)
    replace RA := Lib.hid (RA.out.keep hbq)
    replace X11 := Lib.hid (X11.out.below hbq)
    have X12 := Lib.hid (BoxG.new w5 an ar am az sA aL aG 27)
    have TX12 := Lib.hid (BlkT.new 27 w5 (genC an ar am az sA aL aG))
    clear hbq
    generalize w5.alloc (.cells (genC an ar am az sA aL aG) 27) = w6 at *
    generalize w5.heap.size = b12 at *
    clear x0 x1 x2 x3 x4 x5 x6 x7 x8 x9 x10 x11 x12 x13
    clear X11
    iterate 16 (first | go_values | go_skip | go_guarded | go_step | go_upon | go_back)
    go_cut [33] (fun _ wx => ∃ (g2 : Gn) (s2 : Sl), (∀ i, i < 8 → (g2.m.st i).length ≤ 100) ∧ Hid (BoxG wx b12 g2.num g2.rev g2.mode g2.size s2 g2.m.live g2.m.garb) ∧ Hid (OwnM wx 0 s2 g2.m.st) ∧ Hid (BoxG wx w.heap.size rn rr rm rz sR rL rG) ∧ Hid (Below w.heap.size w wx))
    case first =>
      rcases hkc with rfl | rfl | rfl | rfl | rfl | rfl
      · obtain ⟨d, hd, hd1, hd2⟩ := tmod_b by_ 40 (by decide)
        have x0 := X12.out.n0
        have x1 := X12.out.n1
        have x2 := X12.out.n2
        have x3 := X12.out.n3
        have x4 := X12.out.c0
        have x5 := X12.out.c1
        have x6 := X12.out.c2
        have x7 := X12.out.c3
        have x8 := X12.out.c4
        have x9 := X12.out.c5
        have x10 := X12.out.c6
        have x11 := X12.out.c7
        have x12 := X12.out.cl
        have x13 := X12.out.cg
        have xf := X12.out.f
        have X12b := Lib.hid (X12.out.num3 (az + d))
        have X5b := Lib.hid (X5.out.pts_ne (show w.heap.size ≠ b12 by omega) [(3, .int .i64 (az + d))])
        have RAb := Lib.hid (RA.out.pts_neG (TX12.out.ne (by decide) RA.out) [(3, .int .i64 (az + d))])
        have HBb := Lib.hid (pts_below (B := w.heap.size) (b := b12) (by omega) [(3, .int .i64 (az + d))] HB.out)
        have HLN : ∀ i, i < 8 → (af i).length ≤ 100 := fun i hi => Nat.le_trans (hgl i hi) (by decide)
        go_wp2_with fail
        go_meet
        case rel => exact ⟨⟨an, ar, am, az + d, ⟨af, aL, aG⟩⟩, sA, HLN, X12b, RAb, X5b, HBb⟩
      · obtain ⟨d, hd, hd1, hd2⟩ := tmod_b by_ 12 (by decide)
        have x0 := X12.out.n0
        have x1 := X12.out.n1
        have x2 := X12.out.n2
        have x3 := X12.out.n3
        have x4 := X12.out.c0
        have x5 := X12.out.c1
        have x6 := X12.out.c2
        have x7 := X12.out.c3
        have x8 := X12.out.c4
        have x9 := X12.out.c5
        have x10 := X12.out.c6
        have x11 := X12.out.c7
        have x12 := X12.out.cl
        have x13 := X12.out.cg
        have xf := X12.out.f
        have X12b := Lib.hid (X12.out.num0 d)
        have X5b := Lib.hid (X5.out.pts_ne (show w.heap.size ≠ b12 by omega) [(0, .int .i64 d)])
        have RAb := Lib.hid (RA.out.pts_neG (TX12.out.ne (by decide) RA.out) [(0, .int .i64 d)])
        have HBb := Lib.hid (pts_below (B := w.heap.size) (b := b12) (by omega) [(0, .int .i64 d)] HB.out)
        have HLN : ∀ i, i < 8 → (af i).length ≤ 100 := fun i hi => Nat.le_trans (hgl i hi) (by decide)
        go_wp2_with fail
        go_meet
        case rel => exact ⟨⟨d, ar, am, az, ⟨af, aL, aG⟩⟩, sA, HLN, X12b, RAb, X5b, HBb⟩
      · obtain ⟨d, hd, hd1, hd2⟩ := tmod_b by_ 3 (by decide)
        have x0 := X12.out.n0
        have x1 := X12.out.n1
        have x2 := X12.out.n2
        have x3 := X12.out.n3
        have x4 := X12.out.c0
        have x5 := X12.out.c1
        have x6 := X12.out.c2
        have x7 := X12.out.c3
        have x8 := X12.out.c4
        have x9 := X12.out.c5
        have x10 := X12.out.c6
        have x11 := X12.out.c7
        have x12 := X12.out.cl
        have x13 := X12.out.cg
        have xf := X12.out.f
        have X12b := Lib.hid (X12.out.num13 (aG + d))
        have X5b := Lib.hid (X5.out.pts_ne (show w.heap.size ≠ b12 by omega) [(13, .int .i64 (aG + d))])
        have RAb := Lib.hid (RA.out.pts_neG (TX12.out.ne (by decide) RA.out) [(13, .int .i64 (aG + d))])
        have HBb := Lib.hid (pts_below (B := w.heap.size) (b := b12) (by omega) [(13, .int .i64 (aG + d))] HB.out)
        have HLN : ∀ i, i < 8 → (af i).length ≤ 100 := fun i hi => Nat.le_trans (hgl i hi) (by decide)
        go_wp2_with fail
        go_meet
        case rel => exact ⟨⟨an, ar, am, az, ⟨af, aL, aG + d⟩⟩, sA, HLN, X12b, RAb, X5b, HBb⟩
      · obtain ⟨d, hd, hd1, hd2⟩ := tmod_b by_ 5 (by decide)
        have x0 := X12.out.n0
        have x1 := X12.out.n1
        have x2 := X12.out.n2
        have x3 := X12.out.n3
        have x4 := X12.out.c0
        have x5 := X12.out.c1
        have x6 := X12.out.c2
        have x7 := X12.out.c3
        have x8 := X12.out.c4
        have x9 := X12.out.c5
        have x10 := X12.out.c6
        have x11 := X12.out.c7
        have x12 := X12.out.cl
        have x13 := X12.out.cg
        have xf := X12.out.f
        have X12b := Lib.hid (X12.out.num2 d)
        have X5b := Lib.hid (X5.out.pts_ne (show w.heap.size ≠ b12 by omega) [(2, .int .i64 d)])
        have RAb := Lib.hid (RA.out.pts_neG (TX12.out.ne (by decide) RA.out) [(2, .int .i64 d)])
        have HBb := Lib.hid (pts_below (B := w.heap.size) (b := b12) (by omega) [(2, .int .i64 d)] HB.out)
        have HLN : ∀ i, i < 8 → (af i).length ≤ 100 := fun i hi => Nat.le_trans (hgl i hi) (by decide)
        go_wp2_with fail
        go_meet
        case rel => exact ⟨⟨an, ar, d, az, ⟨af, aL, aG⟩⟩, sA, HLN, X12b, RAb, X5b, HBb⟩
      · have x0 := X12.out.n0
        have x1 := X12.out.n1
        have x2 := X12.out.n2
        have x3 := X12.out.n3
        have x4 := X12.out.c0
        have x5 := X12.out.c1
        have x6 := X12.out.c2
        have x7 := X12.out.c3
        have x8 := X12.out.c4
        have x9 := X12.out.c5
        have x10 := X12.out.c6
        have x11 := X12.out.c7
        have x12 := X12.out.cl
        have x13 := X12.out.cg
        have xf := X12.out.f
        have X12b := Lib.hid (X12.out.num1' by_)
        have X5b := Lib.hid (X5.out.pts_ne (show w.heap.size ≠ b12 by omega) [(1, .int .i64 by_)])
        have RAb := Lib.hid (RA.out.pts_neG (TX12.out.ne (by decide) RA.out) [(1, .int .i64 by_)])
        have HBb := Lib.hid (pts_below (B := w.heap.size) (b := b12) (by omega) [(1, .int .i64 by_)] HB.out)
        have HLN : ∀ i, i < 8 → (af i).length ≤ 100 := fun i hi => Nat.le_trans (hgl i hi) (by decide)
        go_wp2_with fail
        go_meet
        case rel => exact ⟨⟨an, by_, am, az, ⟨af, aL, aG⟩⟩, sA, HLN, X12b, RAb, X5b, HBb⟩
      · have hoff : 0 ≤ by_ % 16 ∧ by_ % 16 < 16 := by omega
        obtain ⟨ho1, ho2⟩ := hoff
        have HPu := Lib.hid (rput_ins sA ⟨af, aL, aG⟩ ⟨99, 0, 16 + 8 * (by_ % 16), 0⟩ w6 RA.out.rd (fun i hi => Nat.le_trans (hgl i hi) (by decide)))
        have HLN := insM_len8 ⟨af, aL, aG⟩ ⟨99, 0, 16 + 8 * (by_ % 16), 0⟩ hgl
        generalize insM ⟨af, aL, aG⟩ ⟨99, 0, 16 + 8 * (by_ % 16), 0⟩ = M5 at *
        obtain ⟨bf, bL, bG⟩ := M5
        dsimp only at HPu HLN
        have x4 := X12.out.c0
        have x5 := X12.out.c1
        have x6 := X12.out.c2
        have x7 := X12.out.c3
        have x8 := X12.out.c4
        have x9 := X12.out.c5
        have x10 := X12.out.c6
        have x11 := X12.out.c7
        have x12 := X12.out.cl
        have x13 := X12.out.cg
        go_wp2_with fail
        refine (HPu.out).mono ?_
        rintro e w6b ⟨⟨sB, rfl, ho⟩, hb⟩
        have RB := Lib.hid (show OwnM w6b 0 sB bf from by
          rcases ho with ⟨rfl, hf⟩ | ho
          · exact (RA.out.keep hb).eqM hf
          · exact ho.mono (Nat.zero_le _))
        replace HB := Lib.hid (bstep HB.out hb)
        replace X5 := Lib.hid (X5.out.below hb)
        replace X12 := Lib.hid (X12.out.below hb)
        replace TX12 := Lib.hid (TX12.out.below hb)
        clear hb ho HPu RA x4 x5 x6 x7 x8 x9 x10 x11 x12 x13
        have RA := RB
        clear RB
        have x0 := X12.out.n0
        have x1 := X12.out.n1
        have x2 := X12.out.n2
        have x3 := X12.out.n3
        have x4 := X12.out.c0
        have x5 := X12.out.c1
        have x6 := X12.out.c2
        have x7 := X12.out.c3
        have x8 := X12.out.c4
        have x9 := X12.out.c5
        have x10 := X12.out.c6
        have x11 := X12.out.c7
        have x12 := X12.out.cl
        have x13 := X12.out.cg
        have xf := X12.out.f
        have X12b := Lib.hid (X12.out.map sB bL bG)
        have X5b := Lib.hid (X5.out.pts_ne (show w.heap.size ≠ b12 by omega) (mapL sB bL bG))
        have RAb := Lib.hid (RA.out.pts_neG (TX12.out.ne (by decide) RA.out) (mapL sB bL bG))
        have HBb := Lib.hid (pts_below (B := w.heap.size) (b := b12) (by omega) (mapL sB bL bG) HB.out)
        replace HLN : ∀ i, i < 8 → (bf i).length ≤ 100 := fun i hi => Nat.le_trans (HLN i hi) (by decide)
        go_wp2_with fail
        go_meet
        case rel => exact ⟨⟨an, ar, am, az, ⟨bf, bL, bG⟩⟩, sB, HLN, X12b, RAb, X5b, HBb⟩
    case rest =>
      clear X5 RA HB X12 TX12 hgl
      obtain ⟨g2, sH, HLN, X12, RA, X5, HB⟩ := hcut
      obtain ⟨en, er_, em, ez, ⟨ef, eL, eG⟩⟩ := g2
      dsimp only at HLN X12 RA
      generalize hwc : wc = w7 at *
      clear hwc
      have HV2 := Lib.hid (HV.out ⟨en, er_, em, ez, ⟨ef, eL, eG⟩⟩ HLN)
      have HR2 := Lib.hid (HRV.out ⟨en, er_, em, ez, ⟨ef, eL, eG⟩⟩ HLN)
      dsimp only at HV2 HR2
      generalize vldG ⟨en, er_, em, ez, ⟨ef, eL, eG⟩⟩ = vh at *
      clear HV HRV HLN
      go_wp2_with fail
      refine (HPf.out _).mono ?_
      rintro e v1 ⟨⟨s13, rfl, ho⟩, hb⟩
      replace HB := Lib.hid (bstep HB.out hb)
      replace X5 := Lib.hid (X5.out.below hb)
      replace X12 := Lib.hid (X12.out.below hb)
      replace RA := Lib.hid (RA.out.keep hb)
      have R13 := Lib.hid (ho.mono (Nat.zero_le _))
      clear ho hb HPf
      go_upto_region 21 with fail
      change Code.wp _ _ _ _ (v1.alloc (.cells (genC fn fr fm fz s13 fL fG) 35))
      have hbq := below_gen v1 fn fr fm fz s13 fL fG 35
      replace HB := Lib.hid (bstep HB.out hbq)
      replace X5 := Lib.hid (X5.out.below hbq)
      replace X12 := Lib.hid (X12.out.below hbq)
      replace RA := Lib.hid (RA.out.keep hbq)
      replace R13 := Lib.hid (R13.out.keep hbq)
      have X13 := Lib.hid (BoxG.new v1 fn fr fm fz s13 fL fG 35)
      clear hbq
      generalize v1.alloc (.cells (genC fn fr fm fz s13 fL fG) 35) = v2 at *
      generalize v1.heap.size = b13 at *
      go_wp2_with fail
      refine (HRf.out _).mono ?_
      rintro e v3 ⟨⟨s15, rfl, ho⟩, hb⟩
      replace HB := Lib.hid (bstep HB.out hb)
      replace X5 := Lib.hid (X5.out.below hb)
      replace X12 := Lib.hid (X12.out.below hb)
      replace RA := Lib.hid (RA.out.keep hb)
      replace R13 := Lib.hid (R13.out.keep hb)
      replace X13 := Lib.hid (X13.out.below hb)
      have R15 := Lib.hid (ho.mono (Nat.zero_le _))
      clear ho hb HRf
      go_upto_region 22 with fail
      change Code.wp _ _ _ _ (v3.alloc (.cells (genC fn fr fm fz s15 fL fG) 27))
      have hbq := below_gen v3 fn fr fm fz s15 fL fG 27
      replace HB := Lib.hid (bstep HB.out hbq)
      replace X5 := Lib.hid (X5.out.below hbq)
      replace X12 := Lib.hid (X12.out.below hbq)
      replace RA := Lib.hid (RA.out.keep hbq)
      replace R13 := Lib.hid (R13.out.keep hbq)
      replace X13 := Lib.hid (X13.out.below hbq)
      replace R15 := Lib.hid (R15.out.keep hbq)
      have X15 := Lib.hid (BoxG.new v3 fn fr fm fz s15 fL fG 27)
      clear hbq
      generalize v3.alloc (.cells (genC fn fr fm fz s15 fL fG) 27) = v4 at *
      generalize v3.heap.size = b15 at *
      have a0 := cell_by X5.out.n0
      have a1 := cell_by X5.out.n1
      have a2 := cell_by X5.out.n2
      have a3 := cell_by X5.out.n3
      have a4 := cell_by X5.out.c0
      have a5 := cell_by X5.out.c1
      have a6 := cell_by X5.out.c2
      have a7 := cell_by X5.out.c3
      have a8 := cell_by X5.out.c4
      have a9 := cell_by X5.out.c5
      have a10 := cell_by X5.out.c6
      have a11 := cell_by X5.out.c7
      have a12 := cell_by X5.out.cl
      have a13 := cell_by X5.out.cg
      have b0 := cell_by X12.out.n0
      have b1 := cell_by X12.out.n1
      have b2 := cell_by X12.out.n2
      have b3 := cell_by X12.out.n3
      have b4 := cell_by X12.out.c0
      have b5 := cell_by X12.out.c1
      have b6 := cell_by X12.out.c2
      have b7 := cell_by X12.out.c3
      have b8 := cell_by X12.out.c4
      have b9 := cell_by X12.out.c5
      have b10 := cell_by X12.out.c6
      have b11 := cell_by X12.out.c7
      have b12 := cell_by X12.out.cl
      have b13 := cell_by X12.out.cg
      have c0 := cell_by X13.out.n0
      have c1 := cell_by X13.out.n1
      have c2 := cell_by X13.out.n2
      have c3 := cell_by X13.out.n3
      have c4 := cell_by X13.out.c0
      have c5 := cell_by X13.out.c1
      have c6 := cell_by X13.out.c2
      have c7 := cell_by X13.out.c3
      have c8 := cell_by X13.out.c4
      have c9 := cell_by X13.out.c5
      have c10 := cell_by X13.out.c6
      have c11 := cell_by X13.out.c7
      have c12 := cell_by X13.out.cl
      have c13 := cell_by X13.out.cg
      have d0 := cell_by X15.out.n0
      have d1 := cell_by X15.out.n1
      have d2 := cell_by X15.out.n2
      have d3 := cell_by X15.out.n3
      have d4 := cell_by X15.out.c0
      have d5 := cell_by X15.out.c1
      have d6 := cell_by X15.out.c2
      have d7 := cell_by X15.out.c3
      have d8 := cell_by X15.out.c4
      have d9 := cell_by X15.out.c5
      have d10 := cell_by X15.out.c6
      have d11 := cell_by X15.out.c7
      have d12 := cell_by X15.out.cl
      have d13 := cell_by X15.out.cg
      have C1 := Lib.hid (fun u : BelowBy v4 => HGi.out rn rr rm rz sR rL rG u.w')
      have C2 := Lib.hid (fun u : BelowBy v4 => HV1.out sR u.w' (HR.out.below (bstep HB.out u.h)))
      have C3 := Lib.hid (fun u : BelowBy v4 => HR1.out sR u.w' (HR.out.below (bstep HB.out u.h)))
      have C4 := Lib.hid (fun u : BelowBy v4 => HGi.out en er_ em ez sH eL eG u.w')
      have C5 := Lib.hid (fun u : BelowBy v4 => HV2.out sH u.w' (RA.out.rd.below u.h))
      have C6 := Lib.hid (fun u : BelowBy v4 => HR2.out sH u.w' (RA.out.rd.below u.h))
      have C7 := Lib.hid (fun u : BelowBy v4 => HTo.out fn fr fm fz s13 fL fG u.w')
      have C8 := Lib.hid (fun u : BelowBy v4 => HSf.out s13 s15 u.w' (R13.out.rd.below u.h) (R15.out.rd.below u.h))
      have C9 := Lib.hid (fun u : BelowBy v4 => HAw.out u.w')
      clear HGi HV1 HR1 HV2 HR2 HTo HSf HAw
      go_wp2_with fail
      refine wp_region_below (by kernel_rfl) (by kernel_rfl) ?_
      repeat (go_big_quiet_step (first | with_reducible exact calls_by (C1.out _) | with_reducible exact calls_by (C2.out _) | with_reducible exact calls_by (C3.out _) | with_reducible exact calls_by (C4.out _) | with_reducible exact calls_by (C5.out _) | with_reducible exact calls_by (C6.out _) | with_reducible exact calls_by (C7.out _) | with_reducible exact calls_by (C8.out _) | with_reducible exact calls_by (C9.out _)))
      refine wpQuiet_nil ?_
      intro _ hw'
      obtain ⟨u, hw'⟩ := hw'
      subst hw'
      have HBz := Lib.hid (bstep HB.out u.h)
      generalize u.w' = V at *
      go_wp2_with fail
      go_ret
      exact ⟨rfl, HBz.out⟩
end Go.Proofs.YthomhflkldhdaaaGreatDoor

namespace Go.Proofs.YthomhflkldhdaaaGreatDoor
open Go.RowKit

theorem valid_open12 (q : Sl × Gn) (a : Option Addr) (n cap : Nat) (mode which by_ : Int) (w : World) (h0 : RdM w q.1 q.2.m.st ∧ GnWf q.2) (h : ∃ l : List (Nd × Value), RdN w (.slice a n cap) l ∧ ∀ x ∈ l, x.1.Wf)
    (_ : (Lit.int .i64 mode).wf = true) (_ : (Lit.int .i64 which).wf = true) (_ : (Lit.int .i64 by_).wf = true) :
    Calls Tryz.prog 3 #[.agg (genC q.2.num q.2.rev q.2.mode q.2.size q.1 q.2.m.live q.2.m.garb), .slice a n cap, .int .i64 mode, .int .i64 which, .int .i64 by_] w fun e w' => e = .returned (.bool true) ∧ Below w.heap.size w w' := by
  obtain ⟨l, h1, h2⟩ := h
  exact valid_walk12 q _ l mode which by_ w h0.1 h1 h2
end Go.Proofs.YthomhflkldhdaaaGreatDoor
