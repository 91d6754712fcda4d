/- Several texts in one, each over the last: GenerationModes: the walk. Printed by genJm.py. GenerationModes for the needles that come in. -/
import Derived.Test.YthomhflkldhdaaaGreatDoorGR
import Derived.Test.YthomhflkldhdaaaGreatDoorGJ
import Derived.Test.YthomhflkldhdaaaGreatDoorGS
import Derived.Test.YthomhflkldhdaaaGreatDoorGO
import Derived.Deep.RegionHeld3
import Derived.Test.YthomhflkldhdaaaGreatDoorGP
namespace Go.Proofs.YthomhflkldhdaaaGreatDoor
open Go.RowKit

theorem turn_no {g : Gn} (h : VldG g) {k : Int} (hm : g.mode ≠ k) : turnG g k = (12, gn0) := by
  unfold turnG
  rw [if_pos ((vldG_iff g).2 h), if_neg hm]
theorem turn_yes {g : Gn} (h : VldG g) {k : Int} (hm : g.mode = k) : turnG g k = (0, { g with mode := k + 1 }) := by
  unfold turnG
  rw [if_pos ((vldG_iff g).2 h), if_pos hm]
theorem VldG.md {g : Gn} (h : VldG g) {k : Int} (hk : 1 ≤ k ∧ k ≤ 3) : VldG { g with mode := k } := ⟨h.num, h.rev, hk, h.size, h.m, h.ends, h.sum⟩
theorem add_no {g : Gn} (h : VldG g) (hm : g.mode ≠ 1) : addG g [] = (12, gn0) := by
  unfold addG
  rw [if_pos ⟨(vldG_iff g).2 h, rfl⟩, if_neg hm]
theorem kill_yes {g : Gn} (h : VldG g) (hm : g.mode ≠ 1) (l : List Int) : killG g l = (0, { g with m := l.foldl delM g.m }) := by
  unfold killG
  rw [if_pos ((vldG_iff g).2 h), if_neg hm]
theorem getM_gone {g : Gn} (h : VldG g) (k : Int) : getM (delM g.m k) k = none := by
  have hs := h.small
  rw [getM_del ((vldM_iff _).1 h.m) (by have := szO_le (getM g.m k); omega), if_pos rfl]
theorem rdN_nil0 (w : World) : RdN w (.slice none 0 0) [] := ⟨own_rd (World.ownsRow_nil w 0 72 4), fun p hp => by cases hp⟩
theorem rdU_lit (w : World) : RdU (w.alloc (.cells #[.int .u64 1] 38)) (.slice (some ⟨w.heap.size, 0, none⟩) 1 1) [1] := Rd.new w 1 [.int .u64 1] 38 1 rfl (by decide)
set_option maxRecDepth 100000 in
set_option maxHeartbeats 16000000 in
theorem modes_walk (v : Value) (ns : List (Nd × Value)) (w : World) (h : RdN w v ns) (hwf : ∀ p ∈ ns, p.1.Wf) :
    Calls Tryz.prog 7 #[v] w fun e w' => e = .returned (.bool true) ∧ Below w.heap.size w w' := by
  have HMa := Lib.hid (fun W (hb : Below w.heap.size w W) => made_any v ns 0 W (h.below hb) hwf)
  have hA1 : VldG (madeG (ns.map (·.1)) 0) := madeG_vld _ _
  have hA2 : (madeG (ns.map (·.1)) 0).mode = 1 := rfl
  have hA3 : ∀ i, i < 8 → ((madeG (ns.map (·.1)) 0).m.st i).length ≤ 10 := fun i hi => madeM_len _ _ _ i hi
  obtain ⟨va, vc, rfl, hv1, hv2⟩ := h.shape
  clear h hwf
  generalize madeG (ns.map (·.1)) 0 = gA at *
  generalize ns.length = n at *
  have hl : ∀ i, i < 8 → (gA.m.st i).length ≤ 10000 := fun i hi => Nat.le_trans (hA3 i hi) (by decide)
  have hl9 : ∀ i, i < 8 → (gA.m.st i).length ≤ 9000 := fun i hi => Nat.le_trans (hA3 i hi) (by decide)
  have hB := hA1.md (k := 2) (by decide)
  have hC := hA1.md (k := 3) (by decide)
  obtain ⟨an, ar, am, az, ⟨af, aL, aG⟩⟩ := gA
  dsimp only at *
  subst hA2
  have HZ1 := Lib.hid (show ∀ s W, RdM W s af → Calls Tryz.prog 36 #[genV an ar 1 az s aL aG] W (GR W 12 0 0 0 0 (fun _ => []) 0 0) from fun s W h => by
    have := seal_any ⟨an, ar, 1, az, ⟨af, aL, aG⟩⟩ s W h hl
    rw [turn_no hA1 (k := 2) (show (1 : Int) ≠ 2 by decide)] at this
    exact this)
  have HZ2 := Lib.hid (show ∀ s W, RdM W s af → Calls Tryz.prog 37 #[genV an ar 1 az s aL aG] W (GR W 0 an ar 2 az af aL aG) from fun s W h => by
    have := freeze_any ⟨an, ar, 1, az, ⟨af, aL, aG⟩⟩ s W h hl
    rw [turn_yes hA1 (k := 1) rfl] at this
    exact this)
  have HZ3 := Lib.hid (show ∀ s W, RdM W s af → Calls Tryz.prog 37 #[genV an ar 2 az s aL aG] W (GR W 12 0 0 0 0 (fun _ => []) 0 0) from fun s W h => by
    have := freeze_any ⟨an, ar, 2, az, ⟨af, aL, aG⟩⟩ s W h hl
    rw [turn_no hB (k := 1) (show (2 : Int) ≠ 1 by decide)] at this
    exact this)
  have HZ4 := Lib.hid (show ∀ s W, RdM W s af → Calls Tryz.prog 27 #[genV an ar 2 az s aL aG, .slice none 0 0] W (GR W 12 0 0 0 0 (fun _ => []) 0 0) from fun s W h => by
    have := add_any ⟨an, ar, 2, az, ⟨af, aL, aG⟩⟩ s (.slice none 0 0) [] 10 W h hA3 (rdN_nil0 W) (by decide)
    rw [show ([] : List (Nd × Value)).map (·.1) = [] from rfl, add_no hB (show (2 : Int) ≠ 1 by decide)] at this
    exact this)
  have HZ5 := Lib.hid (show ∀ s W, RdM W s af → Calls Tryz.prog 36 #[genV an ar 2 az s aL aG] W (GR W 0 an ar 3 az af aL aG) from fun s W h => by
    have := seal_any ⟨an, ar, 2, az, ⟨af, aL, aG⟩⟩ s W h hl
    rw [turn_yes hB (k := 2) rfl] at this
    exact this)
  have HZ6 := Lib.hid (show ∀ s W, RdM W s af → Calls Tryz.prog 36 #[genV an ar 3 az s aL aG] W (GR W 12 0 0 0 0 (fun _ => []) 0 0) from fun s W h => by
    have := seal_any ⟨an, ar, 3, az, ⟨af, aL, aG⟩⟩ s W h hl
    rw [turn_no hC (k := 2) (show (3 : Int) ≠ 2 by decide)] at this
    exact this)
  have hkl : ∀ i, i < 8 → ((delM ⟨af, aL, aG⟩ 1).st i).length ≤ 10000 := fun i hi => delM_len8 ⟨af, aL, aG⟩ 1 hl i hi
  have hgone := getM_gone hA1 1
  dsimp only at hgone
  obtain ⟨M, hM⟩ : ∃ M, delM ⟨af, aL, aG⟩ 1 = M := ⟨_, rfl⟩
  have HZ7 := Lib.hid (show ∀ s W v, RdM W s af → RdU W v [1] → Calls Tryz.prog 38 #[genV an ar 3 az s aL aG, v] W (GR W 0 an ar 3 az M.st M.live M.garb) from fun s W v h h2 => by
    have := kill_any ⟨an, ar, 3, az, ⟨af, aL, aG⟩⟩ s v [1] W h hl9 h2 (by decide)
    rw [kill_yes hC (show (3 : Int) ≠ 1 by decide), show ([1] : List Int).foldl delM (⟨af, aL, aG⟩ : Mp) = M from hM] at this
    exact this)
  rw [hM] at hkl hgone
  clear hM
  have HZ8 := Lib.hid (show ∀ s W, RdM W s M.st → Calls Tryz.prog 39 #[mapV s M.live M.garb, .int .u64 1] W (fun e w' => e = .returned (.tuple #[itV it0, .bool false]) ∧ Below W.heap.size W w') from fun s W h => by
    have := getM_any s M 1 W h hkl
    rw [hgone] at this
    exact this)
  have HIt := Lib.hid (fun s W (h : RdM W s af) => itemsM_any s ⟨af, aL, aG⟩ W h hl)
  dsimp only at HIt
  generalize itemsM ⟨af, aL, aG⟩ = I1 at *
  have HSm := Lib.hid (fun va vb W h h2 => same_any va vb I1 I1 W h h2)
  rw [decide_eq_true (rfl : I1 = I1)] at HSm
  obtain ⟨kf, kL, kG⟩ := M
  dsimp only at *
  have HAw := Lib.hid (fun W => gawake_any W)
  have HGi := Lib.hid (fun s W => ggiven_any an ar 1 az s aL aG W)
  clear hA1 hA3 hl hl9 hB hC hkl hgone
  have HB := Lib.hid (Below.refl w.heap.size w)
  go_enter Tryz.func7, Tryz.ntmps7
  go_wp2_with fail
  refine (HMa.out w HB.out).mono ?_
  rintro e w1 ⟨⟨sA, rfl, ho⟩, hb⟩
  dsimp only
  replace HB := Lib.hid (bstep HB.out hb)
  have RA := Lib.hid ho.rd
  clear ho hb HMa
  go_wp2_with fail
  refine (HGi.out sA _).mono ?_
  rintro e w2 ⟨rfl, hb⟩
  replace HB := Lib.hid (bstep HB.out hb)
  replace RA := Lib.hid (RA.out.below hb)
  clear hb HGi
  go_upto_region 2 with fail
  change Code.wp _ _ _ _ (w2.alloc (.cells (genC an ar 1 az sA aL aG) 35))
  have hbq := below_gen w2 an ar 1 az sA aL aG 35
  replace HB := Lib.hid (bstep HB.out hbq)
  replace RA := Lib.hid (RA.out.below hbq)
  have XA := Lib.hid (BoxG.new w2 an ar 1 az sA aL aG 35)
  clear hbq
  generalize w2.alloc (.cells (genC an ar 1 az sA aL aG) 35) = w3 at *
  generalize w2.heap.size = bA at *
  have x0 := XA.out.n0
  have x1 := XA.out.n1
  have x2 := XA.out.n2
  have x3 := XA.out.n3
  have x4 := XA.out.c0
  have x5 := XA.out.c1
  have x6 := XA.out.c2
  have x7 := XA.out.c3
  have x8 := XA.out.c4
  have x9 := XA.out.c5
  have x10 := XA.out.c6
  have x11 := XA.out.c7
  have x12 := XA.out.cl
  have x13 := XA.out.cg
  go_wp2_with fail
  refine (HZ1.out sA w3 RA.out).mono ?_
  rintro e w4a ⟨⟨s1, rfl, ho⟩, hb⟩
  clear x0 x1 x2 x3 x4 x5 x6 x7 x8 x9 x10 x11 x12 x13
  replace HB := Lib.hid (bstep HB.out hb)
  replace RA := Lib.hid (RA.out.below hb)
  replace XA := Lib.hid (XA.out.below hb)
  clear ho hb HZ1
  go_upto_region 3 with fail
  change Code.wp _ _ _ _ (w4a.alloc (.cells (genC 0 0 0 0 s1 0 0) 35))
  have hbq := below_gen w4a 0 0 0 0 s1 0 0 35
  replace HB := Lib.hid (bstep HB.out hbq)
  replace RA := Lib.hid (RA.out.below hbq)
  replace XA := Lib.hid (XA.out.below hbq)
  clear hbq
  generalize w4a.alloc (.cells (genC 0 0 0 0 s1 0 0) 35) = w4 at *
  generalize w4a.heap.size = b4 at *
  have x0 := XA.out.n0
  have x1 := XA.out.n1
  have x2 := XA.out.n2
  have x3 := XA.out.n3
  have x4 := XA.out.c0
  have x5 := XA.out.c1
  have x6 := XA.out.c2
  have x7 := XA.out.c3
  have x8 := XA.out.c4
  have x9 := XA.out.c5
  have x10 := XA.out.c6
  have x11 := XA.out.c7
  have x12 := XA.out.cl
  have x13 := XA.out.cg
  go_wp2_with fail
  refine (HZ2.out sA w4 RA.out).mono ?_
  rintro e w6a ⟨⟨sB, rfl, ho⟩, hb⟩
  clear x0 x1 x2 x3 x4 x5 x6 x7 x8 x9 x10 x11 x12 x13
  replace HB := Lib.hid (bstep HB.out hb)
  replace RA := Lib.hid (RA.out.below hb)
  replace XA := Lib.hid (XA.out.below hb)
  have RB := Lib.hid ho.rd
  clear ho hb HZ2
  go_upto_region 4 with fail
  change Code.wp _ _ _ _ (w6a.alloc (.cells (genC an ar 2 az sB aL aG) 35))
  have hbq := below_gen w6a an ar 2 az sB aL aG 35
  replace HB := Lib.hid (bstep HB.out hbq)
  replace RA := Lib.hid (RA.out.below hbq)
  replace XA := Lib.hid (XA.out.below hbq)
  replace RB := Lib.hid (RB.out.below hbq)
  have XB := Lib.hid (BoxG.new w6a an ar 2 az sB aL aG 35)
  clear hbq
  generalize w6a.alloc (.cells (genC an ar 2 az sB aL aG) 35) = w5 at *
  generalize w6a.heap.size = b6 at *
  have x0 := XB.out.n0
  have x1 := XB.out.n1
  have x2 := XB.out.n2
  have x3 := XB.out.n3
  have x4 := XB.out.c0
  have x5 := XB.out.c1
  have x6 := XB.out.c2
  have x7 := XB.out.c3
  have x8 := XB.out.c4
  have x9 := XB.out.c5
  have x10 := XB.out.c6
  have x11 := XB.out.c7
  have x12 := XB.out.cl
  have x13 := XB.out.cg
  go_wp2_with fail
  refine (HZ3.out sB w5 RB.out).mono ?_
  rintro e w8a ⟨⟨s2, rfl, ho⟩, hb⟩
  clear x0 x1 x2 x3 x4 x5 x6 x7 x8 x9 x10 x11 x12 x13
  replace HB := Lib.hid (bstep HB.out hb)
  replace RA := Lib.hid (RA.out.below hb)
  replace XA := Lib.hid (XA.out.below hb)
  replace RB := Lib.hid (RB.out.below hb)
  replace XB := Lib.hid (XB.out.below hb)
  clear ho hb HZ3
  go_upto_region 5 with fail
  change Code.wp _ _ _ _ (w8a.alloc (.cells (genC 0 0 0 0 s2 0 0) 35))
  have hbq := below_gen w8a 0 0 0 0 s2 0 0 35
  replace HB := Lib.hid (bstep HB.out hbq)
  replace RA := Lib.hid (RA.out.below hbq)
  replace XA := Lib.hid (XA.out.below hbq)
  replace RB := Lib.hid (RB.out.below hbq)
  replace XB := Lib.hid (XB.out.below hbq)
  clear hbq
  generalize w8a.alloc (.cells (genC 0 0 0 0 s2 0 0) 35) = w6 at *
  generalize w8a.heap.size = b8 at *
  have x0 := XB.out.n0
  have x1 := XB.out.n1
  have x2 := XB.out.n2
  have x3 := XB.out.n3
  have x4 := XB.out.c0
  have x5 := XB.out.c1
  have x6 := XB.out.c2
  have x7 := XB.out.c3
  have x8 := XB.out.c4
  have x9 := XB.out.c5
  have x10 := XB.out.c6
  have x11 := XB.out.c7
  have x12 := XB.out.cl
  have x13 := XB.out.cg
  go_wp2_with fail
  refine (HZ4.out sB w6 RB.out).mono ?_
  rintro e w10a ⟨⟨s3, rfl, ho⟩, hb⟩
  clear x0 x1 x2 x3 x4 x5 x6 x7 x8 x9 x10 x11 x12 x13
  replace HB := Lib.hid (bstep HB.out hb)
  replace RA := Lib.hid (RA.out.below hb)
  replace XA := Lib.hid (XA.out.below hb)
  replace RB := Lib.hid (RB.out.below hb)
  replace XB := Lib.hid (XB.out.below hb)
  clear ho hb HZ4
  go_upto_region 6 with fail
  change Code.wp _ _ _ _ (w10a.alloc (.cells (genC 0 0 0 0 s3 0 0) 35))
  have hbq := below_gen w10a 0 0 0 0 s3 0 0 35
  replace HB := Lib.hid (bstep HB.out hbq)
  replace RA := Lib.hid (RA.out.below hbq)
  replace XA := Lib.hid (XA.out.below hbq)
  replace RB := Lib.hid (RB.out.below hbq)
  replace XB := Lib.hid (XB.out.below hbq)
  clear hbq
  generalize w10a.alloc (.cells (genC 0 0 0 0 s3 0 0) 35) = w7 at *
  generalize w10a.heap.size = b10 at *
  have x0 := XB.out.n0
  have x1 := XB.out.n1
  have x2 := XB.out.n2
  have x3 := XB.out.n3
  have x4 := XB.out.c0
  have x5 := XB.out.c1
  have x6 := XB.out.c2
  have x7 := XB.out.c3
  have x8 := XB.out.c4
  have x9 := XB.out.c5
  have x10 := XB.out.c6
  have x11 := XB.out.c7
  have x12 := XB.out.cl
  have x13 := XB.out.cg
  go_wp2_with fail
  refine (HZ5.out sB w7 RB.out).mono ?_
  rintro e w12a ⟨⟨sC, rfl, ho⟩, hb⟩
  clear x0 x1 x2 x3 x4 x5 x6 x7 x8 x9 x10 x11 x12 x13
  replace HB := Lib.hid (bstep HB.out hb)
  replace RA := Lib.hid (RA.out.below hb)
  replace XA := Lib.hid (XA.out.below hb)
  replace RB := Lib.hid (RB.out.below hb)
  replace XB := Lib.hid (XB.out.below hb)
  have RC := Lib.hid ho.rd
  clear ho hb HZ5
  go_upto_region 7 with fail
  change Code.wp _ _ _ _ (w12a.alloc (.cells (genC an ar 3 az sC aL aG) 35))
  have hbq := below_gen w12a an ar 3 az sC aL aG 35
  replace HB := Lib.hid (bstep HB.out hbq)
  replace RA := Lib.hid (RA.out.below hbq)
  replace XA := Lib.hid (XA.out.below hbq)
  replace RB := Lib.hid (RB.out.below hbq)
  replace XB := Lib.hid (XB.out.below hbq)
  replace RC := Lib.hid (RC.out.below hbq)
  have XC := Lib.hid (BoxG.new w12a an ar 3 az sC aL aG 35)
  clear hbq
  generalize w12a.alloc (.cells (genC an ar 3 az sC aL aG) 35) = w8 at *
  generalize w12a.heap.size = b12 at *
  clear XB RB
  have x0 := XC.out.n0
  have x1 := XC.out.n1
  have x2 := XC.out.n2
  have x3 := XC.out.n3
  have x4 := XC.out.c0
  have x5 := XC.out.c1
  have x6 := XC.out.c2
  have x7 := XC.out.c3
  have x8 := XC.out.c4
  have x9 := XC.out.c5
  have x10 := XC.out.c6
  have x11 := XC.out.c7
  have x12 := XC.out.cl
  have x13 := XC.out.cg
  go_wp2_with fail
  refine (HZ6.out sC w8 RC.out).mono ?_
  rintro e w14a ⟨⟨s4, rfl, ho⟩, hb⟩
  clear x0 x1 x2 x3 x4 x5 x6 x7 x8 x9 x10 x11 x12 x13
  replace HB := Lib.hid (bstep HB.out hb)
  replace RA := Lib.hid (RA.out.below hb)
  replace XA := Lib.hid (XA.out.below hb)
  replace RC := Lib.hid (RC.out.below hb)
  replace XC := Lib.hid (XC.out.below hb)
  clear ho hb HZ6
  go_upto_region 8 with fail
  change Code.wp _ _ _ _ (w14a.alloc (.cells (genC 0 0 0 0 s4 0 0) 35))
  have hbq := below_gen w14a 0 0 0 0 s4 0 0 35
  replace HB := Lib.hid (bstep HB.out hbq)
  replace RA := Lib.hid (RA.out.below hbq)
  replace XA := Lib.hid (XA.out.below hbq)
  replace RC := Lib.hid (RC.out.below hbq)
  replace XC := Lib.hid (XC.out.below hbq)
  clear hbq
  generalize w14a.alloc (.cells (genC 0 0 0 0 s4 0 0) 35) = w9 at *
  generalize w14a.heap.size = b14 at *
  have x0 := XC.out.n0
  have x1 := XC.out.n1
  have x2 := XC.out.n2
  have x3 := XC.out.n3
  have x4 := XC.out.c0
  have x5 := XC.out.c1
  have x6 := XC.out.c2
  have x7 := XC.out.c3
  have x8 := XC.out.c4
  have x9 := XC.out.c5
  have x10 := XC.out.c6
  have x11 := XC.out.c7
  have x12 := XC.out.cl
  have x13 := XC.out.cg
  have hbq := (Below.refl w9.heap.size w9).alloc (Nat.le_refl _) (.cells #[.int .u64 1] 38)
  have HL := Lib.hid (rdU_lit w9)
  have RC9 := Lib.hid (RC.out.below hbq)
  go_wp2_with fail
  refine (HZ7.out sC _ _ RC9.out HL.out).mono ?_
  rintro e w16a ⟨⟨sK, rfl, ho⟩, hb⟩
  replace hb := bstep hbq hb
  clear x0 x1 x2 x3 x4 x5 x6 x7 x8 x9 x10 x11 x12 x13
  replace HB := Lib.hid (bstep HB.out hb)
  replace RA := Lib.hid (RA.out.below hb)
  replace XA := Lib.hid (XA.out.below hb)
  replace RC := Lib.hid (RC.out.below hb)
  replace XC := Lib.hid (XC.out.below hb)
  have RK := Lib.hid ho.rd
  clear ho hb hbq HL RC9 HZ7
  go_upto_region 9 with fail
  change Code.wp _ _ _ _ (w16a.alloc (.cells (genC an ar 3 az sK kL kG) 35))
  have hbq := below_gen w16a an ar 3 az sK kL kG 35
  replace HB := Lib.hid (bstep HB.out hbq)
  replace RA := Lib.hid (RA.out.below hbq)
  replace XA := Lib.hid (XA.out.below hbq)
  replace RC := Lib.hid (RC.out.below hbq)
  replace XC := Lib.hid (XC.out.below hbq)
  replace RK := Lib.hid (RK.out.below hbq)
  have XK := Lib.hid (BoxG.new w16a an ar 3 az sK kL kG 35)
  clear hbq
  generalize w16a.alloc (.cells (genC an ar 3 az sK kL kG) 35) = w17 at *
  generalize w16a.heap.size = bK at *
  have x0 := XK.out.n0
  have x1 := XK.out.n1
  have x2 := XK.out.n2
  have x3 := XK.out.n3
  have x4 := XK.out.c0
  have x5 := XK.out.c1
  have x6 := XK.out.c2
  have x7 := XK.out.c3
  have x8 := XK.out.c4
  have x9 := XK.out.c5
  have x10 := XK.out.c6
  have x11 := XK.out.c7
  have x12 := XK.out.cl
  have x13 := XK.out.cg
  go_wp2_with fail
  refine (HZ8.out sK w17 RK.out).mono ?_
  rintro e w18 ⟨rfl, hb⟩
  clear x0 x1 x2 x3 x4 x5 x6 x7 x8 x9 x10 x11 x12 x13
  replace HB := Lib.hid (bstep HB.out hb)
  replace RA := Lib.hid (RA.out.below hb)
  replace XA := Lib.hid (XA.out.below hb)
  replace RC := Lib.hid (RC.out.below hb)
  replace XC := Lib.hid (XC.out.below hb)
  replace RK := Lib.hid (RK.out.below hb)
  replace XK := Lib.hid (XK.out.below hb)
  clear hb HZ8
  clear XK RK
  go_upto_region 10 with fail
  change Code.wp _ _ _ _ (w18.alloc (.cells #[.int .u64 0, .int .u32 0, .int .i64 0, .int .i64 0] 41))
  have hbq := (Below.refl w18.heap.size w18).alloc (Nat.le_refl _) (.cells #[.int .u64 0, .int .u32 0, .int .i64 0, .int .i64 0] 41)
  replace HB := Lib.hid (bstep HB.out hbq)
  replace RA := Lib.hid (RA.out.below hbq)
  replace XA := Lib.hid (XA.out.below hbq)
  replace RC := Lib.hid (RC.out.below hbq)
  replace XC := Lib.hid (XC.out.below hbq)
  clear hbq
  generalize w18.alloc (.cells #[.int .u64 0, .int .u32 0, .int .i64 0, .int .i64 0] 41) = V at *
  have hz : (az == az) = true := beq_self_eq_true az
  have HIa := Lib.hid (fun W (hb : Below V.heap.size V W) => HIt.out sC W (RC.out.below hb))
  have HIb := Lib.hid (fun W (hb : Below V.heap.size V W) => HIt.out sA W (RA.out.below hb))
  have HSX := Lib.hid (show ∀ WV, Below V.heap.size V WV → WV.cell? ⟨b12, 4, none⟩ = some (.slice (sC.a 0) (sC.n 0) (sC.c 0)) ∧ WV.cell? ⟨b12, 5, none⟩ = some (.slice (sC.a 1) (sC.n 1) (sC.c 1)) ∧ WV.cell? ⟨b12, 6, none⟩ = some (.slice (sC.a 2) (sC.n 2) (sC.c 2)) ∧ WV.cell? ⟨b12, 7, none⟩ = some (.slice (sC.a 3) (sC.n 3) (sC.c 3)) ∧ WV.cell? ⟨b12, 8, none⟩ = some (.slice (sC.a 4) (sC.n 4) (sC.c 4)) ∧ WV.cell? ⟨b12, 9, none⟩ = some (.slice (sC.a 5) (sC.n 5) (sC.c 5)) ∧ WV.cell? ⟨b12, 10, none⟩ = some (.slice (sC.a 6) (sC.n 6) (sC.c 6)) ∧ WV.cell? ⟨b12, 11, none⟩ = some (.slice (sC.a 7) (sC.n 7) (sC.c 7)) ∧ WV.cell? ⟨b12, 12, none⟩ = some (.int .i64 aL) ∧ WV.cell? ⟨b12, 13, none⟩ = some (.int .i64 aG) ∧ WV.cell? ⟨b12, 3, none⟩ = some (.int .i64 az) ∧ WV.cell? ⟨bA, 4, none⟩ = some (.slice (sA.a 0) (sA.n 0) (sA.c 0)) ∧ WV.cell? ⟨bA, 5, none⟩ = some (.slice (sA.a 1) (sA.n 1) (sA.c 1)) ∧ WV.cell? ⟨bA, 6, none⟩ = some (.slice (sA.a 2) (sA.n 2) (sA.c 2)) ∧ WV.cell? ⟨bA, 7, none⟩ = some (.slice (sA.a 3) (sA.n 3) (sA.c 3)) ∧ WV.cell? ⟨bA, 8, none⟩ = some (.slice (sA.a 4) (sA.n 4) (sA.c 4)) ∧ WV.cell? ⟨bA, 9, none⟩ = some (.slice (sA.a 5) (sA.n 5) (sA.c 5)) ∧ WV.cell? ⟨bA, 10, none⟩ = some (.slice (sA.a 6) (sA.n 6) (sA.c 6)) ∧ WV.cell? ⟨bA, 11, none⟩ = some (.slice (sA.a 7) (sA.n 7) (sA.c 7)) ∧ WV.cell? ⟨bA, 12, none⟩ = some (.int .i64 aL) ∧ WV.cell? ⟨bA, 13, none⟩ = some (.int .i64 aG) ∧ WV.cell? ⟨bA, 3, none⟩ = some (.int .i64 az) from fun WV hb => ⟨(XC.out.below hb).c0, (XC.out.below hb).c1, (XC.out.below hb).c2, (XC.out.below hb).c3, (XC.out.below hb).c4, (XC.out.below hb).c5, (XC.out.below hb).c6, (XC.out.below hb).c7, (XC.out.below hb).cl, (XC.out.below hb).cg, (XC.out.below hb).n3, (XA.out.below hb).c0, (XA.out.below hb).c1, (XA.out.below hb).c2, (XA.out.below hb).c3, (XA.out.below hb).c4, (XA.out.below hb).c5, (XA.out.below hb).c6, (XA.out.below hb).c7, (XA.out.below hb).cl, (XA.out.below hb).cg, (XA.out.below hb).n3⟩)
  go_wp2_with fail
  go_region_held3 (fun w' => w'.cell? ⟨b12, 4, none⟩ = some (.slice (sC.a 0) (sC.n 0) (sC.c 0)) ∧ w'.cell? ⟨b12, 5, none⟩ = some (.slice (sC.a 1) (sC.n 1) (sC.c 1)) ∧ w'.cell? ⟨b12, 6, none⟩ = some (.slice (sC.a 2) (sC.n 2) (sC.c 2)) ∧ w'.cell? ⟨b12, 7, none⟩ = some (.slice (sC.a 3) (sC.n 3) (sC.c 3)) ∧ w'.cell? ⟨b12, 8, none⟩ = some (.slice (sC.a 4) (sC.n 4) (sC.c 4)) ∧ w'.cell? ⟨b12, 9, none⟩ = some (.slice (sC.a 5) (sC.n 5) (sC.c 5)) ∧ w'.cell? ⟨b12, 10, none⟩ = some (.slice (sC.a 6) (sC.n 6) (sC.c 6)) ∧ w'.cell? ⟨b12, 11, none⟩ = some (.slice (sC.a 7) (sC.n 7) (sC.c 7)) ∧ w'.cell? ⟨b12, 12, none⟩ = some (.int .i64 aL) ∧ w'.cell? ⟨b12, 13, none⟩ = some (.int .i64 aG) ∧ w'.cell? ⟨b12, 3, none⟩ = some (.int .i64 az) ∧ w'.cell? ⟨bA, 4, none⟩ = some (.slice (sA.a 0) (sA.n 0) (sA.c 0)) ∧ w'.cell? ⟨bA, 5, none⟩ = some (.slice (sA.a 1) (sA.n 1) (sA.c 1)) ∧ w'.cell? ⟨bA, 6, none⟩ = some (.slice (sA.a 2) (sA.n 2) (sA.c 2)) ∧ w'.cell? ⟨bA, 7, none⟩ = some (.slice (sA.a 3) (sA.n 3) (sA.c 3)) ∧ w'.cell? ⟨bA, 8, none⟩ = some (.slice (sA.a 4) (sA.n 4) (sA.c 4)) ∧ w'.cell? ⟨bA, 9, none⟩ = some (.slice (sA.a 5) (sA.n 5) (sA.c 5)) ∧ w'.cell? ⟨bA, 10, none⟩ = some (.slice (sA.a 6) (sA.n 6) (sA.c 6)) ∧ w'.cell? ⟨bA, 11, none⟩ = some (.slice (sA.a 7) (sA.n 7) (sA.c 7)) ∧ w'.cell? ⟨bA, 12, none⟩ = some (.int .i64 aL) ∧ w'.cell? ⟨bA, 13, none⟩ = some (.int .i64 aG) ∧ w'.cell? ⟨bA, 3, none⟩ = some (.int .i64 az))
    (first | with_reducible exact HSX.out _ (bstep (bstep (bstep (bstep (Below.refl _ _).drew hba) hbb) hbc) hbe) | with_reducible exact HSX.out _ (bstep (bstep (bstep (Below.refl _ _).drew hba) hbb) hbc) | with_reducible exact HSX.out _ (bstep (bstep (Below.refl _ _).drew hba) hbb) | with_reducible exact HSX.out _ (bstep (Below.refl _ _).drew hba) | exact HSX.out _ (Below.refl _ _).drew)
    (first | (go_at_call 34; (with_reducible refine (HIa.out _ (Below.refl _ _).drew).mono ?_); rintro e wa ⟨va1, rfl, howna, hba⟩) | (go_at_call 34; (with_reducible refine (HIb.out _ (bstep (Below.refl _ _).drew hba)).mono ?_); rintro e wb ⟨vb1, rfl, hownb, hbb⟩) | (go_at_call 33; (with_reducible refine (HSm.out _ _ _ (OwnT.rd (own_keep howna hbb)) (OwnT.rd hownb)).mono ?_); rintro e wc ⟨rfl, hbc⟩) | (go_at_call 10; (with_reducible refine (HAw.out _).mono ?_); rintro e we ⟨rfl, hbe⟩))
  rename_i hHeld
  clear hHeld
  have HBz := Lib.hid (bstep HB.out (bstep (bstep (bstep (bstep (Below.refl _ _).drew hba) hbb) hbc) hbe))
  clear hba hbb hbc hbe howna hownb
  go_wp2_with fail
  go_ret
  exact ⟨rfl, HBz.out⟩
end Go.Proofs.YthomhflkldhdaaaGreatDoor

namespace Go.Proofs.YthomhflkldhdaaaGreatDoor
open Go.RowKit

theorem modes_open (a : Option Addr) (n cap : Nat) (w : World) (h : ∃ l : List (Nd × Value), RdN w (.slice a n cap) l ∧ ∀ x ∈ l, x.1.Wf) :
    Calls Tryz.prog 7 #[.slice a n cap] w fun e w' => e = .returned (.bool true) ∧ Below w.heap.size w w' := by
  obtain ⟨l, h1, h2⟩ := h
  exact modes_walk _ l w h1 h2
end Go.Proofs.YthomhflkldhdaaaGreatDoor
