/- Several texts in one, each over the last: Fresh of any number; numbers stored in a generation's box. GenerationScans: the walk. Printed by genJr.py. What is known of a slice of items that came in. What is known of an item that came in by value. What is known of a needle map that came in by value. What is known of needles, of keys and of a generation that came in. GenerationScans for the needles that come in. -/
import Derived.Test.YthomhflkldhdaaaGreatDoorGR
import Derived.Test.YthomhflkldhdaaaGreatDoorGJ
import Derived.Test.YthomhflkldhdaaaGreatDoorGS
import Derived.Test.YthomhflkldhdaaaGreatDoorGV
import Derived.Test.YthomhflkldhdaaaGreatDoorIt
import Derived.Deep.Slices
import Derived.Deep.SlicePairs
import Derived.ChangeArms
import Derived.Test.YthomhflkldhdaaaGreatDoorGA
import Derived.Test.YthomhflkldhdaaaGreatDoorGN
import Derived.Test.YthomhflkldhdaaaGreatDoorGD
namespace Go.Proofs.YthomhflkldhdaaaGreatDoor
open Go.RowKit

set_option maxRecDepth 100000 in
set_option maxHeartbeats 4000000 in
theorem fresh_no (num : Int) (hn : ¬ (1 ≤ num ∧ num ≤ 8)) (w : World) : Calls Tryz.prog 15 #[.int .i64 num] w fun e w' => e = .returned (.tuple #[genV 0 0 0 0 Sl.nil 0 0, .int .i64 1]) ∧ Below w.heap.size w w' := by
  have HV := Lib.hid (fun W => gvalid_any (fresh num) Sl.nil W (rdM_nil W) (fun _ _ => Nat.zero_le _))
  rw [vldG_not (fun h => hn ((fresh_vld num).1 h))] at HV
  dsimp only [fresh] at HV
  have HN := Lib.hid (fun W => new_any W)
  have HB := Lib.hid (below_gen w 0 0 0 0 Sl.nil 0 0 35)
  have HR := Lib.hid (BoxG.new w 0 0 0 0 Sl.nil 0 0 35)
  clear hn
  generalize hnil : Sl.nil = s0 at *
  have HNil := Lib.hid hnil
  clear hnil
  go_enter Tryz.func15, Tryz.ntmps15
  go_wp2_with fail
  refine (HN.out _).mono ?_
  rintro e w1 ⟨rfl, hb1⟩
  obtain ⟨W0, hW0⟩ : ∃ W0, w.alloc (.cells (genC 0 0 0 0 s0 0 0) 35) = W0 := ⟨_, rfl⟩
  have hb1' : Below (w.alloc (.cells (genC 0 0 0 0 s0 0 0) 35)).heap.size (w.alloc (.cells (genC 0 0 0 0 s0 0 0) 35)) w1 := by
    rw [← HNil.out]; exact hb1
  rw [hW0] at hb1' HB HR
  have HB1 := Lib.hid (bstep HB.out hb1')
  have HR1 := Lib.hid (HR.out.below hb1')
  clear hb1 hb1' HB HR hW0
  have hlR := HR1.out.lt
  generalize hb0 : w.heap.size = b0 at *
  have E0 := Lib.hid hb0
  clear hb0
  go_upto_region 2 with fail
  obtain ⟨W, hW⟩ : ∃ W, w1.alloc (.cells (genC num 0 1 16 s0 0 0) 35) = W := ⟨_, rfl⟩
  have HX := Lib.hid (BoxG.new w1 num 0 1 16 s0 0 0 35)
  have HBx := Lib.hid (below_gen w1 num 0 1 16 s0 0 0 35)
  change Code.wp _ _ _ _ (w1.alloc (.cells (genC num 0 1 16 s0 0 0) 35))
  rw [hW] at HX HBx ⊢
  clear hW
  have HR2 := Lib.hid (HR1.out.below HBx.out)
  have HB2 := Lib.hid (bup HB1.out (Nat.le_of_lt hlR) HBx.out)
  have hlX := HX.out.lt
  have m0 := HX.out.n0
  have m1 := HX.out.n1
  have m2 := HX.out.n2
  have m3 := HX.out.n3
  have m4 := HX.out.c0
  have m5 := HX.out.c1
  have m6 := HX.out.c2
  have m7 := HX.out.c3
  have m8 := HX.out.c4
  have m9 := HX.out.c5
  have m10 := HX.out.c6
  have m11 := HX.out.c7
  have m12 := HX.out.cl
  have m13 := HX.out.cg
  go_wp2_with fail
  refine (HV.out _).mono ?_
  rintro e w2 ⟨rfl, hb2⟩
  clear m0 m1 m2 m3 m4 m5 m6 m7 m8 m9 m10 m11 m12 m13
  have HX3 := Lib.hid (HX.out.below hb2)
  have HR3 := Lib.hid (HR2.out.below hb2)
  have HB3 := Lib.hid (bup HB2.out (Nat.le_of_lt HR2.out.lt) hb2)
  have hlR3 := HR3.out.lt
  have hlX3 := HX3.out.lt
  have hne : b0 ≠ w1.heap.size := by omega
  clear hb2 HX HR2 HB2 HV HN HR1 HB1 HBx hlX
  generalize w1.heap.size = b1 at *
  have m0 := HX3.out.n0
  have m1 := HX3.out.n1
  have m2 := HX3.out.n2
  have m3 := HX3.out.n3
  have m4 := HX3.out.c0
  have m5 := HX3.out.c1
  have m6 := HX3.out.c2
  have m7 := HX3.out.c3
  have m8 := HX3.out.c4
  have m9 := HX3.out.c5
  have m10 := HX3.out.c6
  have m11 := HX3.out.c7
  have m12 := HX3.out.cl
  have m13 := HX3.out.cg
  have d0 := HR3.out.n0
  have d1 := HR3.out.n1
  have d2 := HR3.out.n2
  have d3 := HR3.out.n3
  have d4 := HR3.out.c0
  have d5 := HR3.out.c1
  have d6 := HR3.out.c2
  have d7 := HR3.out.c3
  have d8 := HR3.out.c4
  have d9 := HR3.out.c5
  have d10 := HR3.out.c6
  have d11 := HR3.out.c7
  have d12 := HR3.out.cl
  have d13 := HR3.out.cg
  have F := HR3.out.f
  go_wp2_with fail
  change bodyPost _ _ _ _ _ (pts w2 b0 (genL 0 0 0 0 Sl.nil 0 0))
  have hby := HR3.out.all 0 0 0 0 Sl.nil 0 0
  have HBz := Lib.hid (pts_below (B := b0) (Nat.le_refl _) (genL 0 0 0 0 Sl.nil 0 0) HB3.out)
  generalize pts w2 b0 (genL 0 0 0 0 Sl.nil 0 0) = V at *
  exact bodyPost_ret (v := .tuple #[genV 0 0 0 0 Sl.nil 0 0, .int .i64 1]) (by simp [results, Tryz.results15, go_sem, hby.n0, hby.n1, hby.n2, hby.n3, hby.c0, hby.c1, hby.c2, hby.c3, hby.c4, hby.c5, hby.c6, hby.c7, hby.cl, hby.cg]) rfl ⟨by rw [← HNil.out], by rw [E0.out]; exact HBz.out⟩
theorem pfresh_any (n : Int) (w : World) : Calls Tryz.prog 15 #[.int .i64 n] w (GOwn w (freshG n)) := by
  by_cases h : 1 ≤ n ∧ n ≤ 8
  · refine (fresh_any n h w).mono ?_
    rintro e w' ⟨rfl, hb⟩
    unfold freshG
    rw [if_pos h]
    exact ⟨⟨Sl.nil, rfl, OwnM.nil _ _⟩, hb⟩
  · refine (fresh_no n h w).mono ?_
    rintro e w' ⟨rfl, hb⟩
    unfold freshG
    rw [if_neg h]
    exact ⟨⟨Sl.nil, rfl, OwnM.nil _ _⟩, hb⟩
theorem BoxG.num0 {W : World} {b : Nat} {n r md z : Int} {s : Sl} {l g : Int} (h : BoxG W b n r md z s l g) (n' : Int) : BoxG (Go.Proofs.YthomhflkldhdaaaGreatDoor.pts W b [(0, .int .i64 n')]) b n' r md z s l g := by
  have a3 := h.n0
  have ne : ∀ i, i ≠ 0 → ∀ u, W.cell? ⟨b, i, none⟩ = some u → (Go.Proofs.YthomhflkldhdaaaGreatDoor.pts W b [(0, .int .i64 n')]).cell? ⟨b, i, none⟩ = some u := fun i hi u hu => (World.cell?_setCell_other (h := fun e => hi (by injection e with _ e _; exact e.symm)) ..).trans hu
  exact ⟨by simp [Go.Proofs.YthomhflkldhdaaaGreatDoor.pts, go_sem, a3], ne 1 (by decide) _ h.n1, ne 2 (by decide) _ h.n2, ne 3 (by decide) _ h.n3, fun j hj => ne (4 + j) (by omega) _ (h.c j hj), ne 12 (by decide) _ h.cl, ne 13 (by decide) _ h.cg, fun i => (pts_frozen _ _ W).trans (h.f i)⟩
theorem BoxG.num1' {W : World} {b : Nat} {n r md z : Int} {s : Sl} {l g : Int} (h : BoxG W b n r md z s l g) (n' : Int) : BoxG (Go.Proofs.YthomhflkldhdaaaGreatDoor.pts W b [(1, .int .i64 n')]) b n n' md z s l g := by
  have a3 := h.n1
  have ne : ∀ i, i ≠ 1 → ∀ u, W.cell? ⟨b, i, none⟩ = some u → (Go.Proofs.YthomhflkldhdaaaGreatDoor.pts W b [(1, .int .i64 n')]).cell? ⟨b, i, none⟩ = some u := fun i hi u hu => (World.cell?_setCell_other (h := fun e => hi (by injection e with _ e _; exact e.symm)) ..).trans hu
  exact ⟨ne 0 (by decide) _ h.n0, by simp [Go.Proofs.YthomhflkldhdaaaGreatDoor.pts, go_sem, a3], ne 2 (by decide) _ h.n2, ne 3 (by decide) _ h.n3, fun j hj => ne (4 + j) (by omega) _ (h.c j hj), ne 12 (by decide) _ h.cl, ne 13 (by decide) _ h.cg, fun i => (pts_frozen _ _ W).trans (h.f i)⟩
theorem BoxG.num13 {W : World} {b : Nat} {n r md z : Int} {s : Sl} {l g : Int} (h : BoxG W b n r md z s l g) (n' : Int) : BoxG (Go.Proofs.YthomhflkldhdaaaGreatDoor.pts W b [(13, .int .i64 n')]) b n r md z s l n' := by
  have a3 := h.cg
  have ne : ∀ i, i ≠ 13 → ∀ u, W.cell? ⟨b, i, none⟩ = some u → (Go.Proofs.YthomhflkldhdaaaGreatDoor.pts W b [(13, .int .i64 n')]).cell? ⟨b, i, none⟩ = some u := fun i hi u hu => (World.cell?_setCell_other (h := fun e => hi (by injection e with _ e _; exact e.symm)) ..).trans hu
  exact ⟨ne 0 (by decide) _ h.n0, ne 1 (by decide) _ h.n1, ne 2 (by decide) _ h.n2, ne 3 (by decide) _ h.n3, fun j hj => ne (4 + j) (by omega) _ (h.c j hj), ne 12 (by decide) _ h.cl, by simp [Go.Proofs.YthomhflkldhdaaaGreatDoor.pts, go_sem, a3], fun i => (pts_frozen _ _ W).trans (h.f i)⟩
theorem i64_and15 (n : Int) : bits .and .i64 n 15 = n % 16 := by
  have hm : (BitVec.ofInt 64 15).toNat = 2 ^ 4 - 1 := by decide
  have key : (BitVec.ofInt 64 n &&& BitVec.ofInt 64 15).toNat = (n % ((2 ^ 64 : Nat) : Int)).toNat % 2 ^ 4 := by
    rw [BitVec.toNat_and, BitVec.toNat_ofInt, hm, Nat.and_two_pow_sub_one_eq_mod]
  show IntKind.i64.wrap ((BitVec.ofInt 64 n &&& BitVec.ofInt 64 15).toNat : Nat) = n % 16
  rw [key, IntKind.wrap_i64]
  omega
theorem tmod_b (n : Int) (k : Int) (hk : 0 < k) : ∃ d, n.tmod k = d ∧ -k < d ∧ d < k := ⟨_, rfl, by have := Int.lt_tmod_of_pos n hk; omega, Int.tmod_lt_of_pos n hk⟩
/-- The case that a number of any size picks. -/
theorem pick6 (n : Int) : ∃ k, (n.tmod 6 + 6).tmod 6 = k ∧ (n.tmod 6 + 6) % 6 = k ∧ -6 < n.tmod 6 ∧ n.tmod 6 < 6 ∧ (k = 0 ∨ k = 1 ∨ k = 2 ∨ k = 3 ∨ k = 4 ∨ k = 5) := by
  have h1 := Int.tmod_lt_of_pos n (show (0 : Int) < 6 by decide)
  have h2 := Int.lt_tmod_of_pos n (show (0 : Int) < 6 by decide)
  refine ⟨(n.tmod 6 + 6) % 6, ?_, rfl, by omega, h1, by omega⟩
  rw [Int.tmod_eq_emod_of_nonneg (by omega)]
end Go.Proofs.YthomhflkldhdaaaGreatDoor

namespace Go.Proofs.YthomhflkldhdaaaGreatDoor
open Go.RowKit

theorem ndec_nil' : (ndec []).1 ≠ 0 := by
  intro h
  have := (ndec_size h).2.1
  have := (ndec_size h).1
  simp at *
  omega
theorem nsum_ge' : ∀ k : List Nd, k.length ≤ nsum k
  | [] => by simp [nsum]
  | x :: k => by
    have ih := nsum_ge' k
    have := nsz_bounds x.data.length
    rw [nsum_cons, List.length_cons]
    omega
theorem open_fileK (k : List Nd) (hk : ∀ x ∈ k, x.ok ∧ x.Wf) : openF (fileB k) = (0, fsup, recsOf 16 k, 16 + nsum k) := by
  have e : fileB k = senc fsup ++ (nencs k ++ []) := by rw [List.append_nil]; rfl
  have hd : sdec (fileB k) = (0, fsup) := by rw [e]; exact sdec_enc fsup_ok _
  have hr := recs_enc k ((fileB k).length + 1) (fileB k) (senc fsup) [] e (by have := nsum_ge' k; rw [fileB_length]; omega) hk ndec_nil'
  rw [senc_length] at hr
  unfold openF
  rw [hd, if_pos rfl, hr]
theorem smN_wf {x : Nd} (h : x.Wf) : (smN x).Wf := by
  obtain ⟨h1, h2⟩ := h
  refine ⟨?_, h2⟩
  show x.key % 8 < _
  omega
theorem smL_wf {l : List (Nd × Value)} (h : ∀ p ∈ l, p.1.Wf) : ∀ x ∈ smL (l.map (·.1)), x.Wf := fun x hx => by
  obtain ⟨y, hy, rfl⟩ := List.mem_map.1 hx
  obtain ⟨p, hp, rfl⟩ := List.mem_map.1 (List.mem_of_mem_take hy)
  exact smN_wf (h p hp)
set_option maxRecDepth 100000 in
theorem len_need (ra : Option Addr) (n rc : Nat) (W : World) : Sem.run Tryz.prog (Builtin.len_ #[28] 3 #[.slice ra n rc]) W = Result.ok (.int .i64 (n : Int)) W := by
  exact rfl
theorem needs_one {es : List (Nd × Value)} (h : ∀ p ∈ es, ∃ a n c, p.2 = .slice a n c) : ∀ u ∈ needsC es, u.oneCell' = true := fun u hu => by
  obtain ⟨p, hp, hu⟩ := List.mem_flatMap.1 hu
  obtain ⟨a, n, c, e⟩ := h p hp
  obtain ⟨x, v⟩ := p
  dsimp only at e
  subst e
  exact need_one x a n c u hu
set_option maxRecDepth 100000 in
set_option maxHeartbeats 32000000 in
theorem scans_walk (v vm : Value) (ns ms : List (Nd × Value)) (w : World) (h : RdN w v ns) (hwf : ∀ p ∈ ns, p.1.Wf) (hm : RdN w vm ms) (hmwf : ∀ p ∈ ms, p.1.Wf) :
    Calls Tryz.prog 5 #[v, vm] w fun e w' => e = .returned (.bool true) ∧ Below w.heap.size w w' := by
  have HSn := Lib.hid (fun W (hb : Below w.heap.size w W) => (gsmall_any v ns W (h.below hb) hwf).mono fun e w' hq => SmRes.nd hq (h.below hb))
  have HSm := Lib.hid (fun W (hb : Below w.heap.size w W) => (gsmall_any vm ms W (hm.below hb) hmwf).mono fun e w' hq => SmRes.nd hq (hm.below hb))
  have HSnR := Lib.hid (fun W (hb : Below w.heap.size w W) => gsmall_any v ns W (h.below hb) hwf)
  have HSmR := Lib.hid (fun W (hb : Below w.heap.size w W) => gsmall_any vm ms W (hm.below hb) hmwf)
  have HN := Lib.hid h
  have HM := Lib.hid hm
  have hN1 := smL_len (ns.map (·.1))
  have hM1 := smL_len (ms.map (·.1))
  have hNo := smL_ok (ns.map (·.1))
  have hMo := smL_ok (ms.map (·.1))
  have hNw := smL_wf hwf
  have hMw := smL_wf hmwf
  have hNz := szL_smL (ns.map (·.1))
  have hMz := szL_smL (ms.map (·.1))
  obtain ⟨va, vc, rfl, hv1, hv2⟩ := h.shape
  obtain ⟨ma, mc, rfl, hm1, hm2⟩ := hm.shape
  clear h hm hwf hmwf
  generalize hSN : smL (ns.map (·.1)) = SN at *
  generalize hSM : smL (ms.map (·.1)) = SM at *
  have HSN := Lib.hid hSN
  have HSM := Lib.hid hSM
  clear hSN hSM
  generalize ns.length = n at *
  generalize ms.length = mn at *
  have hA : VldG (addAll (fresh 1) SN) := addAll_vld SN (fresh_vld' (by decide)) hNo (by show (16 : Int) + _ ≤ _; omega)
  have hAm : (addAll (fresh 1) SN).mode = 1 := (addAll_num _ _).2.2
  have hAz : (addAll (fresh 1) SN).size = 16 + (szL SN : Int) := addAll_size _ _
  have hAl : ∀ i, i < 8 → ((addAll (fresh 1) SN).m.st i).length ≤ 10 := fun i hi => by
    have := addAll_len SN (fresh 1) (n := 0) (fun _ _ => Nat.le_refl _) i hi
    omega
  have hAB : addAll (addAll (fresh 1) SN) SM = addAll (fresh 1) (SN ++ SM) := by unfold addAll; rw [List.foldl_append]
  have hKo : ∀ x ∈ SN ++ SM, x.ok ∧ x.Wf := fun x hx => by
    rcases List.mem_append.1 hx with hx | hx
    · exact ⟨hNo x hx, hNw x hx⟩
    · exact ⟨hMo x hx, hMw x hx⟩
  have hsc := scan_gen 1 (by decide) (SN ++ SM) (fun x hx => (hKo x hx).1) (by rw [szL_append]; omega)
  have HBl := Lib.hid (show ∀ i, i < 8 → ((addAll (fresh 1) (SN ++ SM)).m.st i).length ≤ 10000 from fun i hi => by
    have := addAll_len (SN ++ SM) (fresh 1) (n := 0) (fun _ _ => Nat.le_refl _) i hi
    rw [List.length_append] at this
    omega)
  have HAd1 := Lib.hid (show ∀ lv es W, RdN W lv es → es.map (·.1) = SN → Calls Tryz.prog 27 #[genV 1 0 1 16 Sl.nil 0 0, lv] W (GOwn W (0, addAll (fresh 1) SN)) from fun lv es W h1 h2 => by
    have hle : es.length ≤ 10 := by have := congrArg List.length h2; rw [List.length_map] at this; omega
    have := add_any (fresh 1) Sl.nil lv es 0 W (rdM_nil W) (fun _ _ => Nat.le_refl _) h1 (by omega)
    rw [h2, addG_ok (fresh_vld' (by decide)) rfl hNo (by show (16 : Int) + _ ≤ _; omega)] at this
    exact this)
  have HAd2 := Lib.hid (show ∀ s lv es W, RdM W s (addAll (fresh 1) SN).m.st → RdN W lv es → es.map (·.1) = SM → Calls Tryz.prog 27 #[genV (addAll (fresh 1) SN).num (addAll (fresh 1) SN).rev (addAll (fresh 1) SN).mode (addAll (fresh 1) SN).size s (addAll (fresh 1) SN).m.live (addAll (fresh 1) SN).m.garb, lv] W (GOwn W (0, addAll (fresh 1) (SN ++ SM))) from fun s lv es W h0 h1 h2 => by
    have hle : es.length ≤ 10 := by have := congrArg List.length h2; rw [List.length_map] at this; omega
    have := add_any (addAll (fresh 1) SN) s lv es 10 W h0 hAl h1 (by omega)
    rw [h2, addG_ok hA hAm hMo (by rw [hAz]; omega), hAB] at this
    exact this)
  have hnA := addAll_num SN (fresh 1)
  have hnB := addAll_num (SN ++ SM) (fresh 1)
  have HFr := Lib.hid (fun W => fresh_any 1 (by decide) W)
  have HAw := Lib.hid (fun W => gawake_any W)
  have HFile := Lib.hid (open_fileK (SN ++ SM) hKo)
  have HKl := Lib.hid (show ∀ j, (fileB ((SN ++ SM).take j)).length ≤ 100000 from fun j => by
    have := nsum_le (k := (SN ++ SM).take j) (fun x hx => (hKo x (List.mem_of_mem_take hx)).1)
    rw [fileB_length]
    have h2 : ((SN ++ SM).take j).length ≤ 20 := by rw [List.length_take, List.length_append]; omega
    have := Nat.mul_le_mul_left 4128 h2
    omega)
  have HKo := Lib.hid hKo
  have hKl : (SN ++ SM).length = SN.length + SM.length := List.length_append ..
  clear hA hAm hAl hAB hKo hNo hMo hNw hMw hAz
  obtain ⟨gA, hgA⟩ : ∃ gA, addAll (fresh 1) SN = gA := ⟨_, rfl⟩
  obtain ⟨gB, hgB⟩ : ∃ gB, addAll (fresh 1) (SN ++ SM) = gB := ⟨_, rfl⟩
  rw [hgA] at HAd1 HAd2 hnA
  rw [hgB] at HAd2 hsc hnB HBl
  clear hgA hgB
  obtain ⟨an, ar, am, az, ⟨af, aL, aG⟩⟩ := gA
  obtain ⟨bn, br, bm, bz, ⟨bf, bL, bG⟩⟩ := gB
  dsimp only [fresh] at hnA hnB
  dsimp only at *
  obtain ⟨e1, e2, e3⟩ := hnA
  obtain ⟨e4, e5, e6⟩ := hnB
  subst e1 e2 e3 e4 e5 e6
  obtain ⟨hs1, hs2, hs3, hs4⟩ := hsc
  have HIt := Lib.hid (fun s W (h : RdM W s bf) => itemsM_any s ⟨bf, bL, bG⟩ W h HBl.out)
  rw [hs2] at HIt
  dsimp only at HIt
  subst hs1 hs3 hs4
  clear hs2
  generalize 16 + nsum (SN ++ SM) = zz at *
  have HRi := Lib.hid (fun v es W (h : RdR W v es) (h2 : es.map (·.1) = recsOf 16 (SN ++ SM)) => ritems_any v es W h (by have := congrArg List.length h2; rw [List.length_map, recsOf_length, hKl] at this; omega))
  have HRb := Lib.hid (fun v es W (h : RdR W v es) (h2 : es.map (·.1) = recsOf 16 (SN ++ SM)) => rbytes_any v es W h (by have := congrArg List.length h2; rw [List.length_map, recsOf_length, hKl] at this; omega))
  have HSa := Lib.hid (fun va vb W h h2 => same_any va vb (itemsP (recsOf 16 (SN ++ SM))) (itemsP (recsOf 16 (SN ++ SM))) W h h2)
  rw [decide_eq_true (rfl : itemsP (recsOf 16 (SN ++ SM)) = itemsP (recsOf 16 (SN ++ SM)))] at HSa
  have HEs := Lib.hid (fun W => rsenc_any fsup W fsup_ok)
  have HB := Lib.hid (Below.refl w.heap.size w)
  go_enter Tryz.func5, Tryz.ntmps5
  go_wp2_with fail
  refine (HFr.out _).mono ?_
  rintro e w1 ⟨rfl, hb⟩
  replace HB := Lib.hid (bstep HB.out hb)
  clear hb HFr
  go_upto_region 2 with fail
  change Code.wp _ _ _ _ (w1.alloc (.cells (genC 1 0 1 16 Sl.nil 0 0) 35))
  have hbq := below_gen w1 1 0 1 16 Sl.nil 0 0 35
  replace HB := Lib.hid (bstep HB.out hbq)
  have X5 := Lib.hid (BoxG.new w1 1 0 1 16 Sl.nil 0 0 35)
  clear hbq
  generalize w1.alloc (.cells (genC 1 0 1 16 Sl.nil 0 0) 35) = w2 at *
  generalize w1.heap.size = b5 at *
  have HAA := Lib.hid (show ∀ lv es W, Below w2.heap.size w2 W → RdN W lv es → es.map (·.1) = SN → Calls Tryz.prog 27 #[genV 1 0 1 16 Sl.nil 0 0, lv] W (GR W 0 1 0 1 az af aL aG) from fun lv es W _ h2 h3 => HAd1.out lv es W h2 h3)
  go_cut [7, 8] (fun vb ve wx => ∃ b s, vb = .pointer (some ⟨b, 0, none⟩) ∧ ve = .int .i64 0 ∧ w2.heap.size ≤ b ∧ Hid (BoxG wx b 1 0 1 az s aL aG) ∧ Hid (OwnM wx 0 s af) ∧ Hid (BlkT 35 wx b) ∧ Hid (Below w2.heap.size w2 wx))
  case first =>
    refine wp_region_late [eqS (genV 1 0 1 16 Sl.nil 0 0), eqS (.slice va n vc), needL (SN), tupS 0 1 0 1 az af aL aG, tupS 0 1 0 1 az af aL aG, genS 1 0 1 az af aL aG, eqS (.int .i64 0), boxGS 35 w2.heap.size] [7] 118 6 (by kernel_rfl) (by kernel_rfl) rfl rfl (by decide) (by rfl) (by kernel_rfl) (fun f => by simp [frm, dstOf, Act.put]; exact rfl) ?_ ?_ ?_
    · refine ⟨?_, ?_, ?_, ?_, ?_, ?_, ?_, ?_, trivial⟩
      · intro f w1 hb hd
        clear hd
        dsimp only
        have hx := X5.out.below hb
        have q0 := hx.n0
        have q1 := hx.n1
        have q2 := hx.n2
        have q3 := hx.n3
        have q4 := hx.c0
        have q5 := hx.c1
        have q6 := hx.c2
        have q7 := hx.c3
        have q8 := hx.c4
        have q9 := hx.c5
        have q10 := hx.c6
        have q11 := hx.c7
        have q12 := hx.cl
        have q13 := hx.cg
        clear hx
        go_wp2_with fail
        exact ⟨rfl, Below.refl _ _, fun t ht => by injection ht with ht; subst ht; exact ⟨rfl, fun h => by simp at h⟩⟩
      · intro f w1 hb hd
        clear hd
        dsimp only
        go_wp2_with fail
        exact ⟨rfl, Below.refl _ _, fun t ht => by injection ht with ht; subst ht; exact ⟨rfl, fun h => by simp at h⟩⟩
      · intro f w1 hb hd
        have d1 : f 1 = (.slice va n vc) := hd 1 (by kernel_rfl)
        clear hd
        dsimp only
        rw [d1]
        go_wp2_with fail
        refine (HSn.out w1 (bstep HB.out hb)).mono ?_
        rintro e w9 ⟨qa, qn, qc, es, rfl, hrd, hes, hb9⟩
        go_wp2_with fail
        exact ⟨rfl, hb9, fun t ht => by injection ht with ht; subst ht; exact ⟨⟨qa, qn, qc, es, rfl, hrd, hes⟩, fun h => by simp at h⟩⟩
      · intro f w1 hb hd
        have d0 : f 0 = (genV 1 0 1 16 Sl.nil 0 0) := hd 0 (by kernel_rfl)
        obtain ⟨a2, n2, c2, e2, d2, r2, m2⟩ := show ∃ a n c es, f 2 = .slice a n c ∧ RdN w1 (.slice a n c) es ∧ es.map (·.1) = SN from hd 2 (by kernel_rfl)
        clear hd
        dsimp only
        rw [d0]
        rw [d2]
        go_wp2_with fail
        refine (HAA.out _ e2 w1 hb r2 m2).mono ?_
        rintro e w9 ⟨⟨s9, rfl, ho9⟩, hb9⟩
        go_wp2_with fail
        exact ⟨rfl, hb9, fun t ht => by injection ht with ht; subst ht; exact ⟨⟨s9, rfl, ho9.mono (Nat.zero_le _)⟩, fun h => by simp at h⟩⟩
      · intro f w1 hb hd
        obtain ⟨s3, d3, r3⟩ := show ∃ s, f 3 = .tuple #[genV 1 0 1 az s aL aG, .int .i64 0] ∧ OwnM w1 0 s af from hd 3 (by kernel_rfl)
        clear hd
        dsimp only
        rw [d3]
        go_wp2_with fail
        exact ⟨rfl, Below.refl _ _, fun t ht => by injection ht with ht; subst ht; exact ⟨⟨s3, rfl, r3⟩, fun h => by simp at h⟩⟩
      · intro f w1 hb hd
        obtain ⟨s4, d4, r4⟩ := show ∃ s, f 4 = .tuple #[genV 1 0 1 az s aL aG, .int .i64 0] ∧ OwnM w1 0 s af from hd 4 (by kernel_rfl)
        clear hd
        dsimp only
        rw [d4]
        go_wp2_with fail
        exact ⟨rfl, Below.refl _ _, fun t ht => by injection ht with ht; subst ht; exact ⟨⟨s4, rfl, r4⟩, fun h => by simp at h⟩⟩
      · intro f w1 hb hd
        obtain ⟨s4, d4, r4⟩ := show ∃ s, f 4 = .tuple #[genV 1 0 1 az s aL aG, .int .i64 0] ∧ OwnM w1 0 s af from hd 4 (by kernel_rfl)
        clear hd
        dsimp only
        rw [d4]
        go_wp2_with fail
        exact ⟨rfl, Below.refl _ _, fun t ht => by injection ht with ht; subst ht; exact ⟨rfl, fun h => by simp at h⟩⟩
      · intro f w1 hb hd
        clear hd
        dsimp only
        have hbs := hb.size
        have hnw := BoxG.new w1 0 0 0 0 Sl.nil 0 0 35
        have hty := BlkT.new 35 w1 (genC 0 0 0 0 Sl.nil 0 0)
        go_wp2_with fail
        exact ⟨rfl, below_gen w1 0 0 0 0 Sl.nil 0 0 35, fun t ht => by injection ht with ht; subst ht; exact ⟨⟨_, rfl, hbs, hnw, hty⟩, fun _ => ⟨Nat.le_refl _, by simp [blk]⟩⟩⟩
    · intro f w5 hb hd hff
      clear hff
      obtain ⟨s5, d5, r5⟩ := show ∃ s, f 5 = genV 1 0 1 az s aL aG ∧ OwnM w5 0 s af from hd 5 (show 5 < 8 by decide)
      have d6 : f 6 = .int .i64 0 := hd 6 (show 6 < 8 by decide)
      obtain ⟨b7, d7, lo7, bx7, ty7⟩ := show ∃ b, f 7 = .pointer (some ⟨b, 0, none⟩) ∧ w2.heap.size ≤ b ∧ BoxG w5 b 0 0 0 0 Sl.nil 0 0 ∧ BlkT 35 w5 b from hd 7 (show 7 < 8 by decide)
      try dsimp only
      rw [d5, d6, d7]
      clear hd d5 d6 d7
      have hbn := Lib.hid (pts_below (B := w2.heap.size) (b := b7) lo7 (genL 1 0 1 az s5 aL aG) hb)
      have HX5 := Lib.hid bx7
      have HL5 := Lib.hid lo7
      have HN5 := Lib.hid (bx7.all 1 0 1 az s5 aL aG)
      have HR5 := Lib.hid (r5.pts_neG (ty7.ne (by decide) r5) (genL 1 0 1 az s5 aL aG))
      have HT5 := Lib.hid (ty7.pts (c := b7) (genL 1 0 1 az s5 aL aG))
      clear bx7 r5 ty7 hb lo7
      generalize f 0 = zq0, f 1 = zq1, f 2 = zq2, f 3 = zq3, f 4 = zq4
      clear f
      have x0 := HX5.out.n0
      have x1 := HX5.out.n1
      have x2 := HX5.out.n2
      have x3 := HX5.out.n3
      have x4 := HX5.out.c0
      have x5 := HX5.out.c1
      have x6 := HX5.out.c2
      have x7 := HX5.out.c3
      have x8 := HX5.out.c4
      have x9 := HX5.out.c5
      have x10 := HX5.out.c6
      have x11 := HX5.out.c7
      have x12 := HX5.out.cl
      have x13 := HX5.out.cg
      have xf := HX5.out.f
      change wpList _ _ _ (_ :: _ :: []) _ _
      go_wp2_with fail
      go_meet
      case rel => exact ⟨b7, s5, rfl, rfl, HL5.out, HN5, HR5, HT5, hbn⟩
    · intro f w5 hb hd hff
      clear hff
      obtain ⟨s5, d5, r5⟩ := show ∃ s, f 5 = genV 1 0 1 az s aL aG ∧ OwnM w5 0 s af from hd 5 (show 5 < 8 by decide) (show 5 ≠ 6 by decide)
      obtain ⟨s4, d4, r4⟩ := show ∃ s, f 4 = .tuple #[genV 1 0 1 az s aL aG, .int .i64 0] ∧ OwnM w5 0 s af from hd 4 (show 4 < 8 by decide) (show 4 ≠ 6 by decide)
      clear r4
      obtain ⟨b7, d7, lo7, bx7, ty7⟩ := show ∃ b, f 7 = .pointer (some ⟨b, 0, none⟩) ∧ w2.heap.size ≤ b ∧ BoxG w5 b 0 0 0 0 Sl.nil 0 0 ∧ BlkT 35 w5 b from hd 7 (show 7 < 8 by decide) (show 7 ≠ 6 by decide)
      try dsimp only
      rw [d4, d5, d7]
      clear hd d4 d5 d7
      have hbn := Lib.hid (pts_below (B := w2.heap.size) (b := b7) lo7 (genL 1 0 1 az s5 aL aG) hb)
      have HX5 := Lib.hid bx7
      have HL5 := Lib.hid lo7
      have HN5 := Lib.hid (bx7.all 1 0 1 az s5 aL aG)
      have HR5 := Lib.hid (r5.pts_neG (ty7.ne (by decide) r5) (genL 1 0 1 az s5 aL aG))
      have HT5 := Lib.hid (ty7.pts (c := b7) (genL 1 0 1 az s5 aL aG))
      clear bx7 r5 ty7 hb lo7
      generalize f 0 = zq0, f 1 = zq1, f 2 = zq2, f 3 = zq3, f 6 = zq6
      clear f
      have x0 := HX5.out.n0
      have x1 := HX5.out.n1
      have x2 := HX5.out.n2
      have x3 := HX5.out.n3
      have x4 := HX5.out.c0
      have x5 := HX5.out.c1
      have x6 := HX5.out.c2
      have x7 := HX5.out.c3
      have x8 := HX5.out.c4
      have x9 := HX5.out.c5
      have x10 := HX5.out.c6
      have x11 := HX5.out.c7
      have x12 := HX5.out.cl
      have x13 := HX5.out.cg
      have xf := HX5.out.f
      change wpList _ _ _ (_ :: _ :: _ :: []) _ _
      go_wp2_with fail
      go_meet
      case rel => exact ⟨b7, s5, rfl, rfl, HL5.out, HN5, HR5, HT5, hbn⟩
  case rest =>
    obtain ⟨bXF, sXF, rfl, rfl, loXF, XF, RXF, TXF, hbn⟩ := hcut
    generalize hwc : wc = w3 at *
    clear hwc
    replace HB := Lib.hid (bstep HB.out hbn.out)
    replace X5 := Lib.hid (X5.out.below hbn.out)
    clear hbn
    clear X5
    clear HAA HAd1
    have HAA := Lib.hid (show ∀ lv es W, Below w3.heap.size w3 W → RdN W lv es → es.map (·.1) = SM → Calls Tryz.prog 27 #[genV 1 0 1 az sXF aL aG, lv] W (GR W 0 1 0 1 (zz : Nat) bf (liveP (recsOf 16 (SN ++ SM)) : Nat) (restP (recsOf 16 (SN ++ SM)) : Nat)) from fun lv es W hb h2 h3 => HAd2.out sXF lv es W (RXF.out.rd.below hb) h2 h3)
    go_upto_region 3 with fail
    go_cut [9, 10] (fun vb ve wx => ∃ b s, vb = .pointer (some ⟨b, 0, none⟩) ∧ ve = .int .i64 0 ∧ w3.heap.size ≤ b ∧ Hid (BoxG wx b 1 0 1 (zz : Nat) s (liveP (recsOf 16 (SN ++ SM)) : Nat) (restP (recsOf 16 (SN ++ SM)) : Nat)) ∧ Hid (OwnM wx 0 s bf) ∧ Hid (BlkT 35 wx b) ∧ Hid (Below w3.heap.size w3 wx))
    case first =>
      refine wp_region_late [eqS (genV 1 0 1 az sXF aL aG), eqS (.slice ma mn mc), needL (SM), tupS 0 1 0 1 (zz : Nat) bf (liveP (recsOf 16 (SN ++ SM)) : Nat) (restP (recsOf 16 (SN ++ SM)) : Nat), tupS 0 1 0 1 (zz : Nat) bf (liveP (recsOf 16 (SN ++ SM)) : Nat) (restP (recsOf 16 (SN ++ SM)) : Nat), genS 1 0 1 (zz : Nat) bf (liveP (recsOf 16 (SN ++ SM)) : Nat) (restP (recsOf 16 (SN ++ SM)) : Nat), eqS (.int .i64 0), boxGS 35 w3.heap.size] [7] 118 6 (by kernel_rfl) (by kernel_rfl) rfl rfl (by decide) (by rfl) (by kernel_rfl) (fun f => by simp [frm, dstOf, Act.put]; exact rfl) ?_ ?_ ?_
      · refine ⟨?_, ?_, ?_, ?_, ?_, ?_, ?_, ?_, trivial⟩
        · intro f w1 hb hd
          clear hd
          dsimp only
          have hx := XF.out.below hb
          have q0 := hx.n0
          have q1 := hx.n1
          have q2 := hx.n2
          have q3 := hx.n3
          have q4 := hx.c0
          have q5 := hx.c1
          have q6 := hx.c2
          have q7 := hx.c3
          have q8 := hx.c4
          have q9 := hx.c5
          have q10 := hx.c6
          have q11 := hx.c7
          have q12 := hx.cl
          have q13 := hx.cg
          clear hx
          go_wp2_with fail
          exact ⟨rfl, Below.refl _ _, fun t ht => by injection ht with ht; subst ht; exact ⟨rfl, fun h => by simp at h⟩⟩
        · intro f w1 hb hd
          clear hd
          dsimp only
          go_wp2_with fail
          exact ⟨rfl, Below.refl _ _, fun t ht => by injection ht with ht; subst ht; exact ⟨rfl, fun h => by simp at h⟩⟩
        · intro f w1 hb hd
          have d1 : f 1 = (.slice ma mn mc) := hd 1 (by kernel_rfl)
          clear hd
          dsimp only
          rw [d1]
          go_wp2_with fail
          refine (HSm.out w1 (bstep HB.out hb)).mono ?_
          rintro e w9 ⟨qa, qn, qc, es, rfl, hrd, hes, hb9⟩
          go_wp2_with fail
          exact ⟨rfl, hb9, fun t ht => by injection ht with ht; subst ht; exact ⟨⟨qa, qn, qc, es, rfl, hrd, hes⟩, fun h => by simp at h⟩⟩
        · intro f w1 hb hd
          have d0 : f 0 = (genV 1 0 1 az sXF aL aG) := hd 0 (by kernel_rfl)
          obtain ⟨a2, n2, c2, e2, d2, r2, m2⟩ := show ∃ a n c es, f 2 = .slice a n c ∧ RdN w1 (.slice a n c) es ∧ es.map (·.1) = SM from hd 2 (by kernel_rfl)
          clear hd
          dsimp only
          rw [d0]
          rw [d2]
          go_wp2_with fail
          refine (HAA.out _ e2 w1 hb r2 m2).mono ?_
          rintro e w9 ⟨⟨s9, rfl, ho9⟩, hb9⟩
          go_wp2_with fail
          exact ⟨rfl, hb9, fun t ht => by injection ht with ht; subst ht; exact ⟨⟨s9, rfl, ho9.mono (Nat.zero_le _)⟩, fun h => by simp at h⟩⟩
        · intro f w1 hb hd
          obtain ⟨s3, d3, r3⟩ := show ∃ s, f 3 = .tuple #[genV 1 0 1 (zz : Nat) s (liveP (recsOf 16 (SN ++ SM)) : Nat) (restP (recsOf 16 (SN ++ SM)) : Nat), .int .i64 0] ∧ OwnM w1 0 s bf from hd 3 (by kernel_rfl)
          clear hd
          dsimp only
          rw [d3]
          go_wp2_with fail
          exact ⟨rfl, Below.refl _ _, fun t ht => by injection ht with ht; subst ht; exact ⟨⟨s3, rfl, r3⟩, fun h => by simp at h⟩⟩
        · intro f w1 hb hd
          obtain ⟨s4, d4, r4⟩ := show ∃ s, f 4 = .tuple #[genV 1 0 1 (zz : Nat) s (liveP (recsOf 16 (SN ++ SM)) : Nat) (restP (recsOf 16 (SN ++ SM)) : Nat), .int .i64 0] ∧ OwnM w1 0 s bf from hd 4 (by kernel_rfl)
          clear hd
          dsimp only
          rw [d4]
          go_wp2_with fail
          exact ⟨rfl, Below.refl _ _, fun t ht => by injection ht with ht; subst ht; exact ⟨⟨s4, rfl, r4⟩, fun h => by simp at h⟩⟩
        · intro f w1 hb hd
          obtain ⟨s4, d4, r4⟩ := show ∃ s, f 4 = .tuple #[genV 1 0 1 (zz : Nat) s (liveP (recsOf 16 (SN ++ SM)) : Nat) (restP (recsOf 16 (SN ++ SM)) : Nat), .int .i64 0] ∧ OwnM w1 0 s bf from hd 4 (by kernel_rfl)
          clear hd
          dsimp only
          rw [d4]
          go_wp2_with fail
          exact ⟨rfl, Below.refl _ _, fun t ht => by injection ht with ht; subst ht; exact ⟨rfl, fun h => by simp at h⟩⟩
        · intro f w1 hb hd
          clear hd
          dsimp only
          have hbs := hb.size
          have hnw := BoxG.new w1 0 0 0 0 Sl.nil 0 0 35
          have hty := BlkT.new 35 w1 (genC 0 0 0 0 Sl.nil 0 0)
          go_wp2_with fail
          exact ⟨rfl, below_gen w1 0 0 0 0 Sl.nil 0 0 35, fun t ht => by injection ht with ht; subst ht; exact ⟨⟨_, rfl, hbs, hnw, hty⟩, fun _ => ⟨Nat.le_refl _, by simp [blk]⟩⟩⟩
      · intro f w5 hb hd hff
        clear hff
        obtain ⟨s5, d5, r5⟩ := show ∃ s, f 5 = genV 1 0 1 (zz : Nat) s (liveP (recsOf 16 (SN ++ SM)) : Nat) (restP (recsOf 16 (SN ++ SM)) : Nat) ∧ OwnM w5 0 s bf from hd 5 (show 5 < 8 by decide)
        have d6 : f 6 = .int .i64 0 := hd 6 (show 6 < 8 by decide)
        obtain ⟨b7, d7, lo7, bx7, ty7⟩ := show ∃ b, f 7 = .pointer (some ⟨b, 0, none⟩) ∧ w3.heap.size ≤ b ∧ BoxG w5 b 0 0 0 0 Sl.nil 0 0 ∧ BlkT 35 w5 b from hd 7 (show 7 < 8 by decide)
        try dsimp only
        rw [d5, d6, d7]
        clear hd d5 d6 d7
        have hbn := Lib.hid (pts_below (B := w3.heap.size) (b := b7) lo7 (genL 1 0 1 (zz : Nat) s5 (liveP (recsOf 16 (SN ++ SM)) : Nat) (restP (recsOf 16 (SN ++ SM)) : Nat)) hb)
        have HX5 := Lib.hid bx7
        have HL5 := Lib.hid lo7
        have HN5 := Lib.hid (bx7.all 1 0 1 (zz : Nat) s5 (liveP (recsOf 16 (SN ++ SM)) : Nat) (restP (recsOf 16 (SN ++ SM)) : Nat))
        have HR5 := Lib.hid (r5.pts_neG (ty7.ne (by decide) r5) (genL 1 0 1 (zz : Nat) s5 (liveP (recsOf 16 (SN ++ SM)) : Nat) (restP (recsOf 16 (SN ++ SM)) : Nat)))
        have HT5 := Lib.hid (ty7.pts (c := b7) (genL 1 0 1 (zz : Nat) s5 (liveP (recsOf 16 (SN ++ SM)) : Nat) (restP (recsOf 16 (SN ++ SM)) : Nat)))
        clear bx7 r5 ty7 hb lo7
        generalize f 0 = zq0, f 1 = zq1, f 2 = zq2, f 3 = zq3, f 4 = zq4
        clear f
        have x0 := HX5.out.n0
        have x1 := HX5.out.n1
        have x2 := HX5.out.n2
        have x3 := HX5.out.n3
        have x4 := HX5.out.c0
        have x5 := HX5.out.c1
        have x6 := HX5.out.c2
        have x7 := HX5.out.c3
        have x8 := HX5.out.c4
        have x9 := HX5.out.c5
        have x10 := HX5.out.c6
        have x11 := HX5.out.c7
        have x12 := HX5.out.cl
        have x13 := HX5.out.cg
        have xf := HX5.out.f
        change wpList _ _ _ (_ :: _ :: []) _ _
        go_wp2_with fail
        go_meet
        case rel => exact ⟨b7, s5, rfl, rfl, HL5.out, HN5, HR5, HT5, hbn⟩
      · intro f w5 hb hd hff
        clear hff
        obtain ⟨s5, d5, r5⟩ := show ∃ s, f 5 = genV 1 0 1 (zz : Nat) s (liveP (recsOf 16 (SN ++ SM)) : Nat) (restP (recsOf 16 (SN ++ SM)) : Nat) ∧ OwnM w5 0 s bf from hd 5 (show 5 < 8 by decide) (show 5 ≠ 6 by decide)
        obtain ⟨s4, d4, r4⟩ := show ∃ s, f 4 = .tuple #[genV 1 0 1 (zz : Nat) s (liveP (recsOf 16 (SN ++ SM)) : Nat) (restP (recsOf 16 (SN ++ SM)) : Nat), .int .i64 0] ∧ OwnM w5 0 s bf from hd 4 (show 4 < 8 by decide) (show 4 ≠ 6 by decide)
        clear r4
        obtain ⟨b7, d7, lo7, bx7, ty7⟩ := show ∃ b, f 7 = .pointer (some ⟨b, 0, none⟩) ∧ w3.heap.size ≤ b ∧ BoxG w5 b 0 0 0 0 Sl.nil 0 0 ∧ BlkT 35 w5 b from hd 7 (show 7 < 8 by decide) (show 7 ≠ 6 by decide)
        try dsimp only
        rw [d4, d5, d7]
        clear hd d4 d5 d7
        have hbn := Lib.hid (pts_below (B := w3.heap.size) (b := b7) lo7 (genL 1 0 1 (zz : Nat) s5 (liveP (recsOf 16 (SN ++ SM)) : Nat) (restP (recsOf 16 (SN ++ SM)) : Nat)) hb)
        have HX5 := Lib.hid bx7
        have HL5 := Lib.hid lo7
        have HN5 := Lib.hid (bx7.all 1 0 1 (zz : Nat) s5 (liveP (recsOf 16 (SN ++ SM)) : Nat) (restP (recsOf 16 (SN ++ SM)) : Nat))
        have HR5 := Lib.hid (r5.pts_neG (ty7.ne (by decide) r5) (genL 1 0 1 (zz : Nat) s5 (liveP (recsOf 16 (SN ++ SM)) : Nat) (restP (recsOf 16 (SN ++ SM)) : Nat)))
        have HT5 := Lib.hid (ty7.pts (c := b7) (genL 1 0 1 (zz : Nat) s5 (liveP (recsOf 16 (SN ++ SM)) : Nat) (restP (recsOf 16 (SN ++ SM)) : Nat)))
        clear bx7 r5 ty7 hb lo7
        generalize f 0 = zq0, f 1 = zq1, f 2 = zq2, f 3 = zq3, f 6 = zq6
        clear f
        have x0 := HX5.out.n0
        have x1 := HX5.out.n1
        have x2 := HX5.out.n2
        have x3 := HX5.out.n3
        have x4 := HX5.out.c0
        have x5 := HX5.out.c1
        have x6 := HX5.out.c2
        have x7 := HX5.out.c3
        have x8 := HX5.out.c4
        have x9 := HX5.out.c5
        have x10 := HX5.out.c6
        have x11 := HX5.out.c7
        have x12 := HX5.out.cl
        have x13 := HX5.out.cg
        have xf := HX5.out.f
        change wpList _ _ _ (_ :: _ :: _ :: []) _ _
        go_wp2_with fail
        go_meet
        case rel => exact ⟨b7, s5, rfl, rfl, HL5.out, HN5, HR5, HT5, hbn⟩
    case rest =>
      obtain ⟨bXG, sXG, rfl, rfl, loXG, XG, RXG, TXG, hbn⟩ := hcut
      generalize hwc : wc = w4 at *
      clear hwc
      replace HB := Lib.hid (bstep HB.out hbn.out)
      replace XF := Lib.hid (XF.out.below hbn.out)
      replace RXF := Lib.hid (RXF.out.keep hbn.out)
      replace TXF := Lib.hid (TXF.out.below hbn.out)
      clear hbn
      clear XF RXF TXF TXG
      clear HAA HAd2 HSn HSm
      go_wp2_with fail
      refine (HEs.out w4).mono ?_
      rintro e w5 ⟨v1, rfl, hown, hb⟩
      have HO1 := Lib.hid hown
      have HB4 := Lib.hid hb
      clear hown hb HEs
      have HBw := Lib.hid (fun W (hb : Below w4.heap.size w4 W) => bstep HB.out hb)
      go_wp2_with fail
      refine (HSnR.out w5 (HBw.out _ HB4.out)).mono ?_
      rintro e w6 ⟨l1, es1, rfl, ho1, he1, hd1, hb6⟩
      have hz5 : w4.heap.size ≤ w5.heap.size := HB4.out.size
      have HB6 := Lib.hid (bstep HB4.out hb6)
      have HR1 := Lib.hid (World.ownsRow.mono ho1 hz5)
      have HO6 := Lib.hid (own_keep HO1.out hb6)
      clear ho1 hb6 HO1 HB4
      go_wp2_with fail
      refine (HSmR.out w6 (HBw.out _ HB6.out)).mono ?_
      rintro e w7 ⟨l2, es2, rfl, ho2, he2, hd2, hb7⟩
      have HB7 := Lib.hid (bstep HB6.out hb7)
      have HR17 := Lib.hid (own_keep HR1.out hb7)
      have HO7 := Lib.hid (own_keep HO6.out hb7)
      have HR27 := Lib.hid (own_rd ho2)
      have HDat := Lib.hid (show ∀ p ∈ es1 ++ es2, ∀ W, Below w.heap.size w W → RdB W p.2 p.1.data from fun p hp W hb => by
        rcases List.mem_append.1 hp with hp | hp
        · exact hd1 p hp W (HN.out.below hb).dat
        · exact hd2 p hp W (HM.out.below hb).dat)
      have HOne := Lib.hid (needs_one (es := es2) (fun p hp => by
        obtain ⟨a, c, e, _⟩ := (hd2 p hp w7 (HM.out.below (HBw.out _ HB7.out)).dat).shape0
        exact ⟨a, _, c, e⟩))
      have HEK := Lib.hid (show (es1 ++ es2).map (·.1) = SN ++ SM from by rw [List.map_append, he1, he2, HSN.out, HSM.out])
      have hk1 : es1.length ≤ 10 := by have := congrArg List.length (he1.trans HSN.out); rw [List.length_map] at this; omega
      have hk2 : es2.length ≤ 10 := by have := congrArg List.length (he2.trans HSM.out); rw [List.length_map] at this; omega
      obtain ⟨a1, c1, hl1, _⟩ := own_form HR1.out
      obtain ⟨a2, c2, hl2, _⟩ := own_form ho2
      subst hl1 hl2
      have hz7 : w4.heap.size ≤ w7.heap.size := HB7.out.size
      clear ho2 hd1 hd2 he1 he2 hb7 HB6 HR1 HO6 HSnR HSmR HN HM
      generalize hq1 : es1.length = k1 at *
      generalize hq2 : es2.length = k2 at *
      have Hq1 := Lib.hid hq1
      have Hq2 := Lib.hid hq2
      clear hq1 hq2
      have hnk : k1 + k2 ≤ 20 := by omega
      have hkL : (SN ++ SM).length = k1 + k2 := by rw [← HEK.out, List.length_map, List.length_append, Hq1.out, Hq2.out]
      obtain ⟨nK, hnK⟩ : ∃ nK, k1 + k2 = nK := ⟨_, rfl⟩
      rw [hnK] at hnk hkL
      have HnKe := Lib.hid hnK
      clear hnK hKl
      go_wp2_with (at_builtin; go_must (refine wpList_app (n := k1) (m := k2) rfl (.tmp 47) (.tmp 49) 28 rfl elemN w4.heap.size rfl HR17.out (by rfl) HR27.out HOne.out (by unfold maxLen; omega) (by omega) hz7 ?_); intro v8 w8 hown8 hgr8 hv8; clear hv8; rw [HnKe.out] at hown8; obtain ⟨ra, rc, hv8, _⟩ := own_form hown8; subst hv8)
      have HB8 := Lib.hid (own_below HB7.out HR17.out hz7 hgr8)
      have HO8 := Lib.hid (HO7.out.kept hgr8 (own_ne HO7.out HR17.out (by decide)))
      have HR8 := Lib.hid (show w8.ownsRow w4.heap.size 72 4 (.slice ra nK rc) nK (needsC (es1 ++ es2)) from by unfold needsC at hown8 ⊢; rw [List.flatMap_append]; exact hown8)
      clear hown8 hgr8 HR17 HR27 HO7 HB7 HOne
      have HnK := Lib.hid (show (es1 ++ es2).length = nK from by rw [List.length_append, Hq1.out, Hq2.out]; exact HnKe.out)
      generalize es1 ++ es2 = ES at *
      clear Hq1 Hq2 HnKe
      generalize SN ++ SM = K at *
      have HKx := Lib.hid (show ∀ i, i < nK → (nat' ES i).1.ok ∧ (nat' ES i).1.Wf from fun i hi => HKo.out _ (by rw [← HEK.out]; exact List.mem_map_of_mem (nat'_mem (by rw [HnK.out]; exact hi))))
      have HS := Lib.hid (show ∀ i, i < nK → fileB (K.take (i + 1)) = fileB (K.take i) ++ nenc (nat' ES i).1 from fun i hi => by
        rw [← HEK.out, map_snoc' (by rw [HnK.out]; exact hi), fileB, fileB, nencs_snoc, List.append_assoc])
      have HEnd := Lib.hid (show K.take nK = K from List.take_of_length_le (by omega))
      have H0 := Lib.hid (show fileB (K.take 0) = senc fsup by simp [fileB, nencs])
      clear hkL HKo
      go_loopw [11, 52] (fun bv iv W => ∃ (i m : Nat), iv = .int .i64 (i : Int) ∧ i ≤ nK ∧ m ≤ 100000 ∧ Hid (m = (fileB (K.take i)).length) ∧ Hid (W.ownsRow w4.heap.size 5 1 bv m ((fileB (K.take i)).map byteV)) ∧ Hid (W.ownsRow w4.heap.size 72 4 (.slice ra nK rc) nK (needsC ES)) ∧ Hid (Below w4.heap.size w4 W)) (fun _ iv _ => nK - (intOf iv).toNat)
      case atStart => exact ⟨0, _, rfl, Nat.zero_le _, HKl.out 0, Lib.hid rfl, Lib.hid (by rw [H0.out]; exact HO8.out), HR8, HB8⟩
      case round =>
        clear HO8 HR8 HB8
        obtain ⟨i, m, rfl, hi, hm, HmE, HOb, HOr, HBk⟩ := hrel
        have hsz : w4.heap.size ≤ wr.heap.size := HBk.out.size
        by_cases hin : i < nK
        · have i1 : (i : Int) < (nK : Int) := by omega
          have hrd : RdN wr (.slice ra nK rc) ES := ⟨by rw [HnK.out]; exact own_rd HOr.out, fun p hp => HDat.out p hp wr (HBw.out _ HBk.out)⟩
          obtain ⟨pb, poff, rfl, hx, c0, c1, c2, c3⟩ := hrd.at hin
          obtain ⟨hko, hkw⟩ := HKx.out i hin
          have HS1 := Lib.hid (HS.out i hin)
          have HL1 := Lib.hid (HKl.out (i + 1))
          clear hrd
          generalize nat' ES i = X at *
          obtain ⟨x, dv⟩ := X
          dsimp only at *
          obtain ⟨xa, xc, rfl, hx1, hx2⟩ := hx.shape0
          have hbn := below_nd wr x (.slice xa x.data.length xc)
          have HD := Lib.hid (BoxD.new wr x (.slice xa x.data.length xc))
          have HEn := Lib.hid (rnenc_any x (.slice xa x.data.length xc) _ hko hkw (RdL.below hx hbn))
          have HNl := Lib.hid (nenc_length x)
          have hbd := nsz_bounds x.data.length
          have hxl := hko.1
          replace HOb := Lib.hid (own_keep HOb.out hbn)
          replace HOr := Lib.hid (own_keep HOr.out hbn)
          replace HBk := Lib.hid (bup HBk.out hsz hbn)
          go_upto_region 8 with fail
          change Code.wp _ _ _ _ (wr.alloc (.cells (ndC x (.slice xa x.data.length xc)) 72))
          clear c0 c1 c2 c3 hx hko hkw hbn hsz
          generalize wr.alloc (.cells (ndC x (.slice xa x.data.length xc)) 72) = W1 at *
          have hsz1 : w4.heap.size ≤ W1.heap.size := HBk.out.size
          have d0 := HD.out.c0
          have d1 := HD.out.c1
          have d2 := HD.out.c2
          have d3 := HD.out.c3
          generalize hs : nsz x.data.length = s at *
          generalize x.data.length = xl at *
          go_wp2_with fail
          refine HEn.out.mono ?_; rintro e w2 ⟨v2, rfl, hown2, hb2⟩
          have HOb2 := Lib.hid (own_keep HOb.out hb2)
          have HOr2 := Lib.hid (own_keep HOr.out hb2)
          have HB2 := Lib.hid (bup HBk.out hsz1 hb2)
          have hs2 : w4.heap.size ≤ w2.heap.size := HB2.out.size
          have HR2 := Lib.hid (show Rd w2 1 v2 s ((nenc x).map byteV) by have := hown2.rd; unfold RdB RdL at this; rw [HNl.out] at this; exact this)
          clear hown2 hb2 HEn d0 d1 d2 d3 HD HOb HOr HBk hs
          go_wp2_with (at_builtin; go_must (refine wpList_app (n := m) (m := s) rfl (.tmp 61) (.tmp 62) 66 rfl elemB w4.heap.size rfl HOb2.out (by rfl) HR2.out (bytes_one _) (by unfold maxLen; omega) (by omega) hs2 ?_); intro v3 w3b hown3 hgr3 hv3; clear hv3)
          have HB3 := Lib.hid (own_below HB2.out HOb2.out hs2 hgr3)
          have HOr3 := Lib.hid (HOr2.out.kept hgr3 (own_ne HOr2.out HOb2.out (by decide)))
          have HOb3 := Lib.hid (show w3b.ownsRow w4.heap.size 5 1 v3 (m + s) ((fileB (K.take (i + 1))).map byteV) by rw [HS1.out, List.map_append]; exact hown3)
          have HSz := Lib.hid (show (fileB (K.take (i + 1))).length = m + s by rw [HS1.out, List.length_append, HNl.out, ← HmE.out])
          have hm3 : m + s ≤ 100000 := by have := HL1.out; rw [HSz.out] at this; exact this
          clear hown3 hgr3
          go_wp2_with fail
          exact ⟨⟨i + 1, m + s, by go_num, by omega, hm3, Lib.hid HSz.out.symm, HOb3, HOr3, HB3⟩, by simp [intOf]; omega⟩
        · have i1 : ¬ (i : Int) < (nK : Int) := by omega
          have hin2 : i = nK := by omega
          obtain ⟨fa, fc, hbv, _⟩ := own_form HOb.out
          subst hbv
          have HRb0 := Lib.hid (show RdB wr (.slice fa m fc) (fileB K) from by have := HOb.out; rw [hin2, HEnd.out] at this; exact (ownB_of this rfl).rd)
          have HFl := Lib.hid (show (fileB K).length ≤ 1000000 from by have := HKl.out nK; rw [HEnd.out] at this; omega)
          have HRo := Lib.hid (ropen_any (.slice fa m fc) (fileB K) wr HRb0.out HFl.out)
          rw [HFile.out] at HRo
          dsimp only at HRo
          rw [hin2]
          clear hin2 HmE HOb HOr hi
          have XGk := Lib.hid (XG.out.below HBk.out)
          have RGk := Lib.hid (RXG.out.keep HBk.out)
          clear XG RXG
          go_wp2_with fail
          refine HRo.out.mono ?_
          rintro e x1 ⟨⟨lr, er, rfl, hor, her⟩, hb⟩
          have hbq := (Below.refl x1.heap.size x1).alloc (Nat.le_refl _) (.cells #[.int .i64 (fsup.slot : Int), .int .i64 (fsup.gen : Int), .int .i64 (fsup.rev : Int)] 70)
          have hbz := bstep hb hbq
          replace XGk := Lib.hid (XGk.out.below hbz)
          replace RGk := Lib.hid (RGk.out.keep hbz)
          have HBz := Lib.hid (bup HBk.out hsz hbz)
          have HRr := Lib.hid (hor.rd.below hbq)
          have HErr := Lib.hid her
          clear hor her hb HBk HRo HRb0 hbz
          go_upto_region 12 with fail
          change Code.wp _ _ _ _ (x1.alloc (.cells #[.int .i64 (fsup.slot : Int), .int .i64 (fsup.gen : Int), .int .i64 (fsup.rev : Int)] 70))
          clear hbq
          generalize x1.alloc (.cells #[.int .i64 (fsup.slot : Int), .int .i64 (fsup.gen : Int), .int .i64 (fsup.rev : Int)] 70) = x2 at *
          have HRb1 := Lib.hid (HRb.out lr er x2 HRr.out HErr.out)
          rw [HErr.out] at HRb1
          go_wp2_with fail
          refine HRb1.out.mono ?_
          rintro e x3 ⟨rfl, hb⟩
          replace XGk := Lib.hid (XGk.out.below hb)
          replace RGk := Lib.hid (RGk.out.keep hb)
          have HBy := Lib.hid (bup HBz.out (HBz.out.size) hb)
          replace HRr := Lib.hid (HRr.out.below hb)
          clear hb HBz HRb1 HRb
          have y3 := XGk.out.n3
          have y4 := XGk.out.c0
          have y5 := XGk.out.c1
          have y6 := XGk.out.c2
          have y7 := XGk.out.c3
          have y8 := XGk.out.c4
          have y9 := XGk.out.c5
          have y10 := XGk.out.c6
          have y11 := XGk.out.c7
          have y12 := XGk.out.cl
          have y13 := XGk.out.cg
          generalize liveP (recsOf 16 K) = lv at *
          generalize restP (recsOf 16 K) = gv at *
          go_wp2_with fail
          refine (HIt.out sXG x3 RGk.out.rd).mono ?_
          rintro e x4 ⟨vi, rfl, hoi, hb⟩
          have HR4 := Lib.hid (HRr.out.below hb)
          have HBx := Lib.hid (bup HBy.out HBy.out.size hb)
          have HI4 := Lib.hid hoi
          clear hoi hb HRr HBy
          go_wp2_with fail
          refine (HRi.out lr er x4 HR4.out HErr.out).mono ?_
          rintro e x5 ⟨vj, rfl, hoj, hb⟩
          rw [HErr.out] at hoj
          have HI5 := Lib.hid (own_keep HI4.out hb)
          have HJ5 := Lib.hid hoj
          have HBv := Lib.hid (bup HBx.out HBx.out.size hb)
          clear hoj hb HI4 HBx
          go_wp2_with fail
          refine (HSa.out vi vj x5 (OwnT.rd HI5.out) (OwnT.rd HJ5.out)).mono ?_
          rintro e x6 ⟨rfl, hb⟩
          have HBu := Lib.hid (bup HBv.out HBv.out.size hb)
          clear hb HI5 HJ5
          go_wp2_with fail
          refine (HAw.out _).mono ?_
          rintro e x7 ⟨rfl, hb⟩
          have HBt := Lib.hid (bup HBu.out HBu.out.size hb)
          have HBs := Lib.hid (HBw.out _ HBt.out)
          go_wp2_with fail
          go_ret
          exact ⟨rfl, HBs.out⟩
end Go.Proofs.YthomhflkldhdaaaGreatDoor

namespace Go.Proofs.YthomhflkldhdaaaGreatDoor
open Go.RowKit Go.ChangeShapes Go.WideShapes Go.Deep

theorem structT : ∃ f0 f1 f2 f3, Tryz.prog.underlying 41 = some (.struct #[f0, f1, f2, f3]) ∧ (f0.offset = 0 ∧ f1.offset = 1 ∧ f2.offset = 2 ∧ f3.offset = 3) ∧ f0.type = 38 ∧ f1.type = 39 ∧ f2.type = 2 ∧ f3.type = 3 :=
  ⟨_, _, _, _, Tryz.underlying41, ⟨rfl, rfl, rfl, rfl⟩, rfl, rfl, rfl, rfl⟩
theorem cellsOfT : Tryz.prog.cellsOf 41 = 4 := by kernel_rfl
theorem cellsOf_u64 : Tryz.prog.cellsOf 38 = 1 := by kernel_rfl
theorem cellsOf_u32 : Tryz.prog.cellsOf 39 = 1 := by kernel_rfl
theorem cellsOf_i64 : Tryz.prog.cellsOf 2 = 1 := by kernel_rfl
theorem cellsOf_int : Tryz.prog.cellsOf 3 = 1 := by kernel_rfl
section
variable {H : Type} {enc : TypeId × Value → H} {w : World}
theorem one_of {cs : List Value} {i : Nat} {u : Value} (h : (cs.drop i).take 1 = [u]) : cs[i]? = some u := by
  have h1 : ((cs.drop i).take 1)[0]? = some u := by rw [h]; rfl
  rw [List.getElem?_take, if_pos (by decide), List.getElem?_drop, Nat.add_zero] at h1
  exact h1
theorem open_item {fuel : Nat} {cs : List Value} {x : DataW H × List MemPlace} (h : DataW.trod enc Tryz.prog w 0 (fun _ => true) true fuel 41 cs = some x) : ∃ y : It, cs = itC y ∧ y.Wf := by
  obtain ⟨f0, f1, f2, f3, hs, ⟨o0, o1, o2, o3⟩, t0, t1, t2, t3⟩ := structT
  obtain ⟨xs, n, _, _, hlen, hxl, hf⟩ := DataW.trod_struct hs h
  rw [cellsOfT] at hlen
  have hx : xs.length = 4 := by simpa using hxl
  have g : ∀ j (hj : j < 4), xs[j]? = some (xs[j]'(by omega)) := fun j hj => List.getElem?_eq_getElem (by omega)
  have h0 := (hf 0 f0 rfl).trans (g 0 (by omega))
  have h1 := (hf 1 f1 rfl).trans (g 1 (by omega))
  have h2 := (hf 2 f2 rfl).trans (g 2 (by omega))
  have h3 := (hf 3 f3 rfl).trans (g 3 (by omega))
  rw [t0, o0, cellsOf_u64] at h0
  rw [t1, o1, cellsOf_u32] at h1
  rw [t2, o2, cellsOf_i64] at h2
  rw [t3, o3, cellsOf_int] at h3
  obtain ⟨k, e0, _, w0⟩ := DataW.trod_int Tryz.underlying38 h0
  obtain ⟨c, e1, _, w1⟩ := DataW.trod_int Tryz.underlying39 h1
  obtain ⟨o, e2, _, w2⟩ := DataW.trod_int Tryz.underlying2 h2
  obtain ⟨s, e3, _, w3⟩ := DataW.trod_int Tryz.underlying3 h3
  have d0 := one_of e0
  have d1 := one_of e1
  have d2 := one_of e2
  have d3 := one_of e3
  have b0 := bounds_of_u64 w0
  have b1 := bounds_of_u32 w1
  have b2 := bounds_of_i64 w2
  have b3 := bounds_of_i64 w3
  refine ⟨⟨k, c, o, s⟩, ?_, show 0 ≤ k ∧ k < 18446744073709551616 ∧ 0 ≤ c ∧ c < 4294967296 ∧ -9223372036854775808 ≤ o ∧ o ≤ 9223372036854775807 ∧ -9223372036854775808 ≤ s ∧ s ≤ 9223372036854775807 by omega⟩
  match cs, hlen, d0, d1, d2, d3 with
  | [a, b, c', d], _, d0, d1, d2, d3 =>
    simp at d0 d1 d2 d3
    subst d0 d1 d2 d3
    rfl
theorem open_items {a : Option Addr} {n cap : Nat} {d : DataW H} {p : List MemPlace} (h : DataW.Trod enc Tryz.prog w 0 (fun _ => true) true 22 (.slice a n cap) d p) :
    ∃ l : List It, RdT w (.slice a n cap) l ∧ ∀ x ∈ l, x.Wf := by
  obtain ⟨fuel, hf⟩ := h
  rcases open_slice Tryz.underlying22 hf with ⟨hcs, _⟩ | ⟨x, len, cap', m, k, D, Pl, hcs, _, hl, hm, hmm, _, hx⟩
  · simp [Value.cells] at hcs
    obtain ⟨rfl, rfl, rfl⟩ := hcs
    exact ⟨[], RdS.nil 4 itC w, fun e he => by cases he⟩
  · simp [Value.cells] at hcs
    obtain ⟨rfl, rfl, rfl⟩ := hcs
    simp only [if_true] at hmm
    subst hmm
    rw [cellsOfT] at hx
    have each : ∀ i, i < n → ∃ y : It, (∀ j, j < 4 → w.cell? (x.add (i * 4 + j)) = (itC y)[j]?) ∧ y.Wf := fun i hi => by
      obtain ⟨cs', h1, h2⟩ := hx i (by omega)
      obtain ⟨y, rfl, hy⟩ := open_item h2
      obtain ⟨_, _, hc⟩ := World.cells?_some h1
      exact ⟨y, fun j hj => by rw [← hc j hj, Go.Deep.add_add], hy⟩
    obtain ⟨E, hE⟩ := choose_lt each
    refine ⟨(List.range n).map E, rd_rdT (n := n) ⟨by rw [itsC_length]; simp, some x, m, by simp, by simpa using hl, hm, fun h => by simp at h, fun hp => ?_⟩, fun e he => ?_⟩
    · have hn : 0 < n := by
        rw [itsC_length] at hp; simp at hp; omega
      obtain ⟨b, off, spot⟩ := x
      have hspot : spot = none := by
        have h0 : w.cell? ((⟨b, off, spot⟩ : Addr).add (0 * 4 + 0)) = some (.int .u64 (E 0).key) := ((hE 0 hn).1 0 (by omega)).trans rfl
        simpa [Addr.add] using World.cell?_spot h0
      subst hspot
      refine ⟨b, off, rfl, fun j u hj => ?_⟩
      have hjl : j < n * 4 := by
        have := (List.getElem?_eq_some_iff.1 hj).1
        rw [itsC_length] at this
        simpa using this
      have hat := flat_at 4 itC it0 ((List.range n).map E) (fun _ _ => rfl) (j / 4) (j % 4) (by simp; omega) (by omega)
      rw [show j / 4 * 4 + j % 4 = j by omega] at hat
      have hg : ((List.range n).map E).getD (j / 4) it0 = E (j / 4) := by
        rw [List.getD_eq_getElem?_getD, List.getElem?_map, List.getElem?_range (by omega)]; rfl
      rw [hg] at hat
      have hc := (hE (j / 4) (by omega)).1 (j % 4) (by omega)
      rw [show j / 4 * 4 + j % 4 = j by omega, addr_add] at hc
      rw [hc, ← hat]; exact hj
    · obtain ⟨i, hi, rfl⟩ := List.mem_map.1 he
      exact (hE i (List.mem_range.1 hi)).2
end
end Go.Proofs.YthomhflkldhdaaaGreatDoor

namespace Go.Proofs.YthomhflkldhdaaaGreatDoor
open Go.RowKit Go.ChangeShapes Go.WideShapes Go.Deep

theorem open_itemv {H : Type} {enc : TypeId × Value → H} {w : World} {cs : Array Value} {d : DataW H} {p : List MemPlace} (h : DataW.Trod enc Tryz.prog w 0 (fun _ => true) true 41 (.agg cs) d p) : ∃ y : It, cs = #[.int .u64 y.key, .int .u32 y.ck, .int .i64 y.off, .int .i64 y.size] ∧ y.Wf := by
  obtain ⟨fuel, hf⟩ := h
  obtain ⟨y, hy, hw⟩ := open_item hf
  have hy : cs.toList = itC y := hy
  exact ⟨y, by rw [← Array.toArray_toList (xs := cs), hy]; rfl, hw⟩
end Go.Proofs.YthomhflkldhdaaaGreatDoor

namespace Go.Proofs.YthomhflkldhdaaaGreatDoor
open Go.RowKit Go.ChangeShapes Go.WideShapes Go.Deep

theorem cellsOf_items : Tryz.prog.cellsOf 22 = 1 := by kernel_rfl
theorem cellsOf_strs : Tryz.prog.cellsOf 23 = 8 := by kernel_rfl
theorem cellsOf_map : Tryz.prog.cellsOf 25 = 10 := by kernel_rfl
theorem structM : ∃ f0 f1 f2, Tryz.prog.underlying 25 = some (.struct #[f0, f1, f2]) ∧ (f0.offset = 0 ∧ f1.offset = 8 ∧ f2.offset = 9) ∧ f0.type = 23 ∧ f1.type = 2 ∧ f2.type = 2 :=
  ⟨_, _, _, Tryz.underlying25, ⟨rfl, rfl, rfl⟩, rfl, rfl, rfl⟩
section
variable {H : Type} {enc : TypeId × Value → H} {w : World}
theorem open_items1 {fuel : Nat} {cs : List Value} {x : DataW H × List MemPlace} (h : DataW.trod enc Tryz.prog w 0 (fun _ => true) true fuel 22 cs = some x) :
    ∃ y : Option Addr × Nat × Nat × List It, cs = [.slice y.1 y.2.1 y.2.2.1] ∧ RdT w (.slice y.1 y.2.1 y.2.2.1) y.2.2.2 ∧ ∀ x ∈ y.2.2.2, x.Wf := by
  have key : ∀ a n c, cs = [.slice a n c] → ∃ y : Option Addr × Nat × Nat × List It, cs = [.slice y.1 y.2.1 y.2.2.1] ∧ RdT w (.slice y.1 y.2.1 y.2.2.1) y.2.2.2 ∧ ∀ x ∈ y.2.2.2, x.Wf := fun a n c e => by
    subst e
    obtain ⟨l, h1, h2⟩ := open_items (a := a) (n := n) (cap := c) (d := x.1) (p := x.2) ⟨fuel, h⟩
    exact ⟨(a, n, c, l), rfl, h1, h2⟩
  rcases DataW.trod_slice Tryz.underlying22 h with ⟨e, _⟩ | ⟨a, len, cap, _, _, _, _, e, _⟩
  · exact key _ _ _ e
  · exact key _ _ _ e
theorem open_map {fuel : Nat} {cs : List Value} {x : DataW H × List MemPlace} (h : DataW.trod enc Tryz.prog w 0 (fun _ => true) true fuel 25 cs = some x) :
    ∃ (s : Sl) (M : Mp), cs = (mapC s M.live M.garb).toList ∧ RdM w s M.st ∧ (∀ i, i < 8 → ∀ x ∈ M.st i, x.Wf) ∧ (-9223372036854775808 ≤ M.live ∧ M.live ≤ 9223372036854775807) ∧ (-9223372036854775808 ≤ M.garb ∧ M.garb ≤ 9223372036854775807) := by
  obtain ⟨f0, f1, f2, hs, ⟨o0, o1, o2⟩, t0, t1, t2⟩ := structM
  obtain ⟨xs, n, _, _, hlen, hxl, hf⟩ := DataW.trod_struct hs h
  rw [cellsOf_map] at hlen
  have hx : xs.length = 3 := by simpa using hxl
  have g : ∀ j (hj : j < 3), xs[j]? = some (xs[j]'(by omega)) := fun j hj => List.getElem?_eq_getElem (by omega)
  have h0 := (hf 0 f0 rfl).trans (g 0 (by omega))
  have h1 := (hf 1 f1 rfl).trans (g 1 (by omega))
  have h2 := (hf 2 f2 rfl).trans (g 2 (by omega))
  rw [t0, o0, cellsOf_strs, List.drop_zero] at h0
  rw [t1, o1, cellsOf_i64] at h1
  rw [t2, o2, cellsOf_i64] at h2
  obtain ⟨L, e1, _, w1⟩ := DataW.trod_int Tryz.underlying2 h1
  obtain ⟨G, e2, _, w2⟩ := DataW.trod_int Tryz.underlying2 h2
  obtain ⟨ys, m, _, _, _, hyl, hy⟩ := DataW.trod_array Tryz.underlying23 h0
  have each : ∀ i, i < 8 → ∃ y : Option Addr × Nat × Nat × List It, ((cs.take 8).drop i).take 1 = [.slice y.1 y.2.1 y.2.2.1] ∧ RdT w (.slice y.1 y.2.1 y.2.2.1) y.2.2.2 ∧ ∀ x ∈ y.2.2.2, x.Wf := fun i hi => by
    have h3 := hy i hi
    rw [cellsOf_items, Nat.mul_one, List.getElem?_eq_getElem (by omega)] at h3
    exact open_items1 h3
  obtain ⟨E, hE⟩ := choose_lt each
  refine ⟨⟨fun i => (E i).1, fun i => (E i).2.1, fun i => (E i).2.2.1⟩, ⟨fun i => (E i).2.2.2, L, G⟩, ?_, fun i hi => (hE i hi).2.1, fun i hi => (hE i hi).2.2, bounds_of_i64 w1, bounds_of_i64 w2⟩
  have d8 := one_of e1
  have d9 := one_of e2
  have d : ∀ i, i < 8 → cs[i]? = some (.slice (E i).1 (E i).2.1 (E i).2.2.1) := fun i hi => by
    have := one_of (hE i hi).1
    rw [List.getElem?_take, if_pos hi] at this
    exact this
  have d0 := d 0 (by omega)
  have d1 := d 1 (by omega)
  have d2 := d 2 (by omega)
  have d3 := d 3 (by omega)
  have d4 := d 4 (by omega)
  have d5 := d 5 (by omega)
  have d6 := d 6 (by omega)
  have d7 := d 7 (by omega)
  clear d hE each hy hf
  match cs, hlen, d0, d1, d2, d3, d4, d5, d6, d7, d8, d9 with
  | [a0, a1, a2, a3, a4, a5, a6, a7, a8, a9], _, d0, d1, d2, d3, d4, d5, d6, d7, d8, d9 =>
    simp at d0 d1 d2 d3 d4 d5 d6 d7 d8 d9
    subst d0 d1 d2 d3 d4 d5 d6 d7 d8 d9
    rfl
theorem open_mapv {cs : Array Value} {d : DataW H} {p : List MemPlace} (h : DataW.Trod enc Tryz.prog w 0 (fun _ => true) true 25 (.agg cs) d p) :
    ∃ y : Sl × Mp, cs = mapC y.1 y.2.live y.2.garb ∧ RdM w y.1 y.2.st ∧ (∀ i, i < 8 → ∀ x ∈ y.2.st i, x.Wf) ∧ (-9223372036854775808 ≤ y.2.live ∧ y.2.live ≤ 9223372036854775807) ∧ (-9223372036854775808 ≤ y.2.garb ∧ y.2.garb ≤ 9223372036854775807) := by
  obtain ⟨fuel, hf⟩ := h
  obtain ⟨s, M, h1, h2⟩ := open_map hf
  have h1 : cs.toList = (mapC s M.live M.garb).toList := h1
  exact ⟨(s, M), Array.ext' h1, h2⟩
end
end Go.Proofs.YthomhflkldhdaaaGreatDoor

namespace Go.Proofs.YthomhflkldhdaaaGreatDoor
open Go.RowKit Go.ChangeShapes Go.WideShapes Go.Deep

theorem rdN_nil' (w : World) : RdN w (.slice none 0 0) [] := ⟨own_rd (World.ownsRow_nil w 0 72 4), fun p hp => by cases hp⟩
theorem structN : ∃ f0 f1 f2 f3, Tryz.prog.underlying 72 = some (.struct #[f0, f1, f2, f3]) ∧ (f0.offset = 0 ∧ f1.offset = 1 ∧ f2.offset = 2 ∧ f3.offset = 3) ∧ f0.type = 38 ∧ f1.type = 39 ∧ f2.type = 4 ∧ f3.type = 66 :=
  ⟨_, _, _, _, Tryz.underlying72, ⟨rfl, rfl, rfl, rfl⟩, rfl, rfl, rfl, rfl⟩
theorem cellsOfN : Tryz.prog.cellsOf 72 = 4 := by kernel_rfl
theorem cellsOf_bool : Tryz.prog.cellsOf 4 = 1 := by kernel_rfl
theorem cellsOf_bytes : Tryz.prog.cellsOf 66 = 1 := by kernel_rfl
section
variable {H : Type} {enc : TypeId × Value → H} {w : World}
theorem open_bytes {fuel : Nat} {cs : List Value} {x : DataW H × List MemPlace} (h : DataW.trod enc Tryz.prog w 0 (fun _ => true) true fuel 66 cs = some x) : ∃ (v : Value) (l : List UInt8), cs = [v] ∧ RdB w v l := by
  rcases open_ints Tryz.underlying66 Tryz.underlying5 (by kernel_rfl) h with ⟨hcs, _⟩ | ⟨x, l, c, zs, hcs, _, hl, hm, hz, _, hcell, hwz⟩
  · exact ⟨_, [], hcs, RdB_nil w⟩
  · obtain ⟨r, _, hr⟩ := isRow_bytes (w := w) (a := some x) (len := l) (cap := c) (zs := zs) (.inr ⟨_, rfl, hl, hm, by simpa using hz, hcell, hwz⟩)
    exact ⟨_, r, hcs, hr⟩
theorem open_need {fuel : Nat} {cs : List Value} {x : DataW H × List MemPlace} (h : DataW.trod enc Tryz.prog w 0 (fun _ => true) true fuel 72 cs = some x) : ∃ y : Nd × Value, cs = needC y ∧ y.1.Wf ∧ RdB w y.2 y.1.data := by
  obtain ⟨f0, f1, f2, f3, hs, ⟨o0, o1, o2, o3⟩, t0, t1, t2, t3⟩ := structN
  obtain ⟨xs, n, _, _, hlen, hxl, hf⟩ := DataW.trod_struct hs h
  rw [cellsOfN] at hlen
  have hx : xs.length = 4 := by simpa using hxl
  have g : ∀ j (hj : j < 4), xs[j]? = some (xs[j]'(by omega)) := fun j hj => List.getElem?_eq_getElem (by omega)
  have h0 := (hf 0 f0 rfl).trans (g 0 (by omega))
  have h1 := (hf 1 f1 rfl).trans (g 1 (by omega))
  have h2 := (hf 2 f2 rfl).trans (g 2 (by omega))
  have h3 := (hf 3 f3 rfl).trans (g 3 (by omega))
  rw [t0, o0, cellsOf_u64] at h0
  rw [t1, o1, cellsOf_u32] at h1
  rw [t2, o2, cellsOf_bool] at h2
  rw [t3, o3, cellsOf_bytes] at h3
  obtain ⟨k, e0, _, w0⟩ := DataW.trod_int Tryz.underlying38 h0
  obtain ⟨c, e1, _, w1⟩ := DataW.trod_int Tryz.underlying39 h1
  obtain ⟨d, e2, _⟩ := DataW.trod_bool Tryz.underlying4 h2
  obtain ⟨v, l, e3, hr⟩ := open_bytes h3
  have d0 := one_of e0
  have d1 := one_of e1
  have d2 := one_of e2
  have d3 := one_of e3
  have b0 := bounds_of_u64 w0
  have b1 := bounds_of_u32 w1
  obtain ⟨k, rfl⟩ := Int.eq_ofNat_of_zero_le b0.1
  obtain ⟨c, rfl⟩ := Int.eq_ofNat_of_zero_le b1.1
  refine ⟨(⟨k, c, d, l⟩, v), ?_, show k < 18446744073709551616 ∧ c < 4294967296 by omega, hr⟩
  match cs, hlen, d0, d1, d2, d3 with
  | [a, b, c', d], _, d0, d1, d2, d3 =>
    simp at d0 d1 d2 d3
    subst d0 d1 d2 d3
    rfl
theorem open_needs {a : Option Addr} {n cap : Nat} {d : DataW H} {p : List MemPlace} (h : DataW.Trod enc Tryz.prog w 0 (fun _ => true) true 28 (.slice a n cap) d p) :
    ∃ l : List (Nd × Value), RdN w (.slice a n cap) l ∧ ∀ x ∈ l, x.1.Wf := by
  obtain ⟨fuel, hf⟩ := h
  rcases open_slice Tryz.underlying28 hf with ⟨hcs, _⟩ | ⟨x, len, cap', m, k, D, Pl, hcs, _, hl, hm, hmm, _, hx⟩
  · simp [Value.cells] at hcs
    obtain ⟨rfl, rfl, rfl⟩ := hcs
    exact ⟨[], rdN_nil' w, fun e he => by cases he⟩
  · simp [Value.cells] at hcs
    obtain ⟨rfl, rfl, rfl⟩ := hcs
    simp only [if_true] at hmm
    subst hmm
    rw [cellsOfN] at hx
    haveI : Inhabited (Nd × Value) := ⟨(nd0, .slice none 0 0)⟩
    have each : ∀ i, i < n → ∃ y : Nd × Value, (∀ j, j < 4 → w.cell? (x.add (i * 4 + j)) = (needC y)[j]?) ∧ y.1.Wf ∧ RdB w y.2 y.1.data := fun i hi => by
      obtain ⟨cs', h1, h2⟩ := hx i (by omega)
      obtain ⟨y, rfl, hy⟩ := open_need h2
      obtain ⟨_, _, hc⟩ := World.cells?_some h1
      exact ⟨y, fun j hj => by rw [← hc j hj, Go.Deep.add_add], hy⟩
    obtain ⟨E, hE⟩ := choose_lt each
    refine ⟨(List.range n).map E, ⟨?_, fun e he => ?_⟩, fun e he => ?_⟩
    · rw [List.length_map, List.length_range]
      refine ⟨by rw [needsC_length]; simp, some x, m, by simp, by simpa using hl, hm, fun h => by simp at h, fun hp => ?_⟩
      have hn : 0 < n := by
        rw [needsC_length] at hp; simp at hp; omega
      obtain ⟨b, off, spot⟩ := x
      have hspot : spot = none := by
        have h0 : w.cell? ((⟨b, off, spot⟩ : Addr).add (0 * 4 + 0)) = some (.int .u64 ((E 0).1.key : Int)) := ((hE 0 hn).1 0 (by omega)).trans rfl
        simpa [Addr.add] using World.cell?_spot h0
      subst hspot
      refine ⟨b, off, rfl, fun j u hj => ?_⟩
      have hjl : j < n * 4 := by
        have := (List.getElem?_eq_some_iff.1 hj).1
        rw [needsC_length] at this
        simpa using this
      have hat := flat_at 4 needC (nd0, .slice none 0 0) ((List.range n).map E) (fun _ _ => rfl) (j / 4) (j % 4) (by simp; omega) (by omega)
      rw [show j / 4 * 4 + j % 4 = j by omega] at hat
      have hg : ((List.range n).map E).getD (j / 4) (nd0, .slice none 0 0) = E (j / 4) := by
        rw [List.getD_eq_getElem?_getD, List.getElem?_map, List.getElem?_range (by omega)]; rfl
      rw [hg] at hat
      have hc := (hE (j / 4) (by omega)).1 (j % 4) (by omega)
      rw [show j / 4 * 4 + j % 4 = j by omega, addr_add] at hc
      rw [hc, ← hat]; exact hj
    · obtain ⟨i, hi, rfl⟩ := List.mem_map.1 he
      exact (hE i (List.mem_range.1 hi)).2.2
    · obtain ⟨i, hi, rfl⟩ := List.mem_map.1 he
      exact (hE i (List.mem_range.1 hi)).2.1
end
theorem cellsOf_gen : Tryz.prog.cellsOf 27 = 14 := by kernel_rfl
theorem cellsOf_int1 : Tryz.prog.cellsOf 3 = 1 := by kernel_rfl
theorem structG : ∃ f0 f1 f2 f3 f4, Tryz.prog.underlying 27 = some (.struct #[f0, f1, f2, f3, f4]) ∧ (f0.offset = 0 ∧ f1.offset = 1 ∧ f2.offset = 2 ∧ f3.offset = 3 ∧ f4.offset = 4) ∧ f0.type = 3 ∧ f1.type = 2 ∧ f2.type = 3 ∧ f3.type = 2 ∧ f4.type = 25 :=
  ⟨_, _, _, _, _, Tryz.underlying27, ⟨rfl, rfl, rfl, rfl, rfl⟩, rfl, rfl, rfl, rfl, rfl⟩
section
variable {H : Type} {enc : TypeId × Value → H} {w : World}
/-- What is known of a generation's values. -/
structure GnWf (g : Gn) : Prop where
  num : -9223372036854775808 ≤ g.num ∧ g.num ≤ 9223372036854775807
  rev : -9223372036854775808 ≤ g.rev ∧ g.rev ≤ 9223372036854775807
  mode : -9223372036854775808 ≤ g.mode ∧ g.mode ≤ 9223372036854775807
  size : -9223372036854775808 ≤ g.size ∧ g.size ≤ 9223372036854775807
  live : -9223372036854775808 ≤ g.m.live ∧ g.m.live ≤ 9223372036854775807
  garb : -9223372036854775808 ≤ g.m.garb ∧ g.m.garb ≤ 9223372036854775807
  its : ∀ i, i < 8 → ∀ x ∈ g.m.st i, x.Wf
theorem open_gen {fuel : Nat} {cs : List Value} {x : DataW H × List MemPlace} (h : DataW.trod enc Tryz.prog w 0 (fun _ => true) true fuel 27 cs = some x) :
    ∃ (s : Sl) (g : Gn), cs = (genC g.num g.rev g.mode g.size s g.m.live g.m.garb).toList ∧ RdM w s g.m.st ∧ GnWf g := by
  obtain ⟨f0, f1, f2, f3, f4, hs, ⟨o0, o1, o2, o3, o4⟩, t0, t1, t2, t3, t4⟩ := structG
  obtain ⟨xs, n, _, _, hlen, hxl, hf⟩ := DataW.trod_struct hs h
  rw [cellsOf_gen] at hlen
  have hx : xs.length = 5 := by simpa using hxl
  have g : ∀ j (hj : j < 5), xs[j]? = some (xs[j]'(by omega)) := fun j hj => List.getElem?_eq_getElem (by omega)
  have h0 := (hf 0 f0 rfl).trans (g 0 (by omega))
  have h1 := (hf 1 f1 rfl).trans (g 1 (by omega))
  have h2 := (hf 2 f2 rfl).trans (g 2 (by omega))
  have h3 := (hf 3 f3 rfl).trans (g 3 (by omega))
  have h4 := (hf 4 f4 rfl).trans (g 4 (by omega))
  rw [t0, o0, cellsOf_int1] at h0
  rw [t1, o1, cellsOf_i64] at h1
  rw [t2, o2, cellsOf_int1] at h2
  rw [t3, o3, cellsOf_i64] at h3
  rw [t4, o4, cellsOf_map] at h4
  obtain ⟨k0, e0, _, w0⟩ := DataW.trod_int Tryz.underlying3 h0
  obtain ⟨k1, e1, _, w1⟩ := DataW.trod_int Tryz.underlying2 h1
  obtain ⟨k2, e2, _, w2⟩ := DataW.trod_int Tryz.underlying3 h2
  obtain ⟨k3, e3, _, w3⟩ := DataW.trod_int Tryz.underlying2 h3
  obtain ⟨s, M, e4, hr, hi, hl, hg⟩ := open_map h4
  have d0 := one_of e0
  have d1 := one_of e1
  have d2 := one_of e2
  have d3 := one_of e3
  refine ⟨s, ⟨k0, k1, k2, k3, M⟩, ?_, hr, ⟨bounds_of_i64 w0, bounds_of_i64 w1, bounds_of_i64 w2, bounds_of_i64 w3, hl, hg, hi⟩⟩
  clear hf h0 h1 h2 h3 h4 hr hi hl hg e0 e1 e2 e3
  match cs, hlen, d0, d1, d2, d3, e4 with
  | [a0, a1, a2, a3, a4, a5, a6, a7, a8, a9, a10, a11, a12, a13], _, d0, d1, d2, d3, e4 =>
    simp at d0 d1 d2 d3 e4
    obtain ⟨rfl, rfl, rfl, rfl, rfl, rfl, rfl, rfl, rfl, rfl⟩ := e4
    subst d0 d1 d2 d3
    rfl
theorem open_genv {cs : Array Value} {d : DataW H} {p : List MemPlace} (h : DataW.Trod enc Tryz.prog w 0 (fun _ => true) true 27 (.agg cs) d p) :
    ∃ y : Sl × Gn, cs = genC y.2.num y.2.rev y.2.mode y.2.size y.1 y.2.m.live y.2.m.garb ∧ RdM w y.1 y.2.m.st ∧ GnWf y.2 := by
  obtain ⟨fuel, hf⟩ := h
  obtain ⟨s, g, h1, h2⟩ := open_gen hf
  have h1 : cs.toList = (genC g.num g.rev g.mode g.size s g.m.live g.m.garb).toList := h1
  exact ⟨(s, g), Array.ext' h1, h2⟩
end
end Go.Proofs.YthomhflkldhdaaaGreatDoor

namespace Go.Proofs.YthomhflkldhdaaaGreatDoor
open Go.RowKit

theorem scans_open (a : Option Addr) (n cap : Nat) (b : Option Addr) (m cap2 : Nat) (w : World) (h : ∃ l : List (Nd × Value), RdN w (.slice a n cap) l ∧ ∀ x ∈ l, x.1.Wf) (h2 : ∃ l : List (Nd × Value), RdN w (.slice b m cap2) l ∧ ∀ x ∈ l, x.1.Wf) :
    Calls Tryz.prog 5 #[.slice a n cap, .slice b m cap2] w fun e w' => e = .returned (.bool true) ∧ Below w.heap.size w w' := by
  obtain ⟨l, h1, hw⟩ := h
  obtain ⟨l2, h3, hw2⟩ := h2
  exact scans_walk _ _ l l2 w h1 hw h3 hw2
end Go.Proofs.YthomhflkldhdaaaGreatDoor
