/- Several texts in one, each over the last: GenerationSteps: the walk. Printed by genJs.py. GenerationSteps for the needles that come in. -/
import Derived.Test.YthomhflkldhdaaaGreatDoorGR
import Derived.Test.YthomhflkldhdaaaGreatDoorGJ
import Derived.Test.YthomhflkldhdaaaGreatDoorGS
import Derived.Test.YthomhflkldhdaaaGreatDoorGP
namespace Go.Proofs.YthomhflkldhdaaaGreatDoor
open Go.RowKit

theorem and24_small {k : Int} (h0 : 0 ≤ k) (h1 : k < 8) : bits .and .i64 k 24 = 0 := by
  have : k = 0 ∨ k = 1 ∨ k = 2 ∨ k = 3 ∨ k = 4 ∨ k = 5 ∨ k = 6 ∨ k = 7 := by omega
  rcases this with h | h | h | h | h | h | h | h <;> subst h <;> decide
theorem made_small (l : List Nd) {k : Int} (h0 : 0 ≤ k) (h1 : k < 8) : madeG l k = madeM (1 + k % 8) 1 l := by
  unfold madeG mdOf
  rw [and24_small h0 h1]
  rfl
theorem rdN_one (W : World) (x : Nd) (v : Value) (hd : RdB W v x.data) : RdN (W.alloc (.cells #[.int .u64 (x.key : Int), .int .u32 (x.ck : Int), .bool x.del, v] 72)) (.slice (some ⟨W.heap.size, 0, none⟩) 1 1) [(x, v)] := by
  refine ⟨Rd.newK' W.heap.size W rfl 4 (needC (x, v)) 72 1 rfl (by decide), fun p hp => ?_⟩
  rw [List.mem_singleton.1 hp]
  exact RdL.below hd ((Below.refl _ _).alloc (Nat.le_refl _) _)
theorem take_snocN {l : List Nd} {i : Nat} (h : i < l.length) : l.take (i + 1) = l.take i ++ [l.getD i nd0] := by
  rw [List.take_add_one, List.getElem?_eq_getElem h, List.getD_eq_getElem?_getD, List.getElem?_eq_getElem h]; rfl
set_option maxRecDepth 100000 in
set_option maxHeartbeats 16000000 in
theorem steps_walk (v : Value) (ns : List (Nd × Value)) (mode : Int) (w : World) (h : RdN w v ns) (hwf : ∀ p ∈ ns, p.1.Wf) :
    Calls Tryz.prog 6 #[v, .int .i64 mode] w fun e w' => e = .returned (.bool true) ∧ Below w.heap.size w w' := by
  have h7 := i64_and7 mode
  have hm8 : 0 ≤ mode % 8 ∧ mode % 8 < 8 := by omega
  obtain ⟨mk, hmk⟩ : ∃ mk, mode % 8 = mk := ⟨_, rfl⟩
  rw [hmk] at h7 hm8
  clear hmk
  have HMa := Lib.hid (fun W (hb : Below w.heap.size w W) => made_any v ns mk W (h.below hb) hwf)
  have hge := made_small (ns.map (·.1)) hm8.1 hm8.2
  have hgv : VldG (madeG (ns.map (·.1)) mk) := madeG_vld _ _
  have hgm : (madeG (ns.map (·.1)) mk).mode = 1 := by rw [hge]; rfl
  have hgl : ∀ i, i < 8 → ((madeG (ns.map (·.1)) mk).m.st i).length ≤ 10 := fun i hi => madeM_len _ _ _ i hi
  have hgz : (madeG (ns.map (·.1)) mk).size + (szL (smL (ns.map (·.1))) : Int) ≤ 1048576 := by
    rw [hge, madeM_size]
    have := szL_smL (ns.map (·.1))
    omega
  have hSok := smL_ok (ns.map (·.1))
  have hSl := smL_len (ns.map (·.1))
  have hSd := smL_dlen (ns.map (·.1))
  have HSm := Lib.hid (fun W (hb : Below w.heap.size w W) => (gsmall_any v ns W (h.below hb) hwf).mono fun e w' hq => SmRes.nd hq (h.below hb))
  have HSr := Lib.hid (fun W (hb : Below w.heap.size w W) => gsmall_any v ns W (h.below hb) hwf)
  have HN := Lib.hid h
  clear hm8 hge
  obtain ⟨va, vc, rfl, hv1, hv2⟩ := h.shape
  clear h hwf
  generalize hgA : madeG (ns.map (·.1)) mk = gA at *
  clear hgA
  generalize hSN : smL (ns.map (·.1)) = SN at *
  have HSN := Lib.hid hSN
  clear hSN
  generalize hnl : ns.length = n at *
  clear hnl
  -- the plain facts
  have hAl : ∀ i, addAll gA (SN.take i) = addAll gA (SN.take i) := fun _ => rfl
  have hTv : ∀ i, VldG (addAll gA (SN.take i)) := fun i => addAll_vld _ hgv (fun x hx => hSok x (List.mem_of_mem_take hx)) (by have := szL_take SN i; omega)
  have hTm : ∀ i, (addAll gA (SN.take i)).mode = 1 := fun i => (addAll_num _ _).2.2.trans hgm
  have hTl : ∀ i j, j < 8 → ((addAll gA (SN.take i)).m.st j).length ≤ 20 := fun i j hj => Nat.le_trans (addAll_len _ _ hgl j hj) (by rw [List.length_take]; omega)
  have hAll : ∀ i, i < 8 → ((addAll gA SN).m.st i).length ≤ 10000 := fun i hi => Nat.le_trans (addAll_len _ _ hgl i hi) (by omega)
  have hBv : VldG (addAll gA SN) := addAll_vld SN hgv hSok hgz
  have HAd := Lib.hid (show ∀ s lv es W, RdM W s gA.m.st → RdN W lv es → es.map (·.1) = SN → Calls Tryz.prog 27 #[genV gA.num gA.rev gA.mode gA.size s gA.m.live gA.m.garb, lv] W (GOwn W (0, addAll gA SN)) from fun s lv es W h1 h2 h3 => by
    have hle : es.length ≤ 10 := by have := congrArg List.length h3; rw [List.length_map] at this; omega
    have := add_any gA s lv es 10 W h1 hgl h2 (by omega)
    rw [h3, addG_ok hgv hgm hSok hgz] at this
    exact this)
  have HA1 := Lib.hid (show ∀ i, i < SN.length → ∀ s lv p W, RdM W s (addAll gA (SN.take i)).m.st → RdN W lv [p] → p.1 = SN.getD i nd0 → Calls Tryz.prog 27 #[genV (addAll gA (SN.take i)).num (addAll gA (SN.take i)).rev (addAll gA (SN.take i)).mode (addAll gA (SN.take i)).size s (addAll gA (SN.take i)).m.live (addAll gA (SN.take i)).m.garb, lv] W (GOwn W (0, addAll gA (SN.take (i + 1)))) from fun i hi s lv p W h1 h2 h3 => by
    have := add_any (addAll gA (SN.take i)) s lv [p] 20 W h1 (hTl i) h2 (show 20 + 1 ≤ 9000 by decide)
    rw [show ([p] : List (Nd × Value)).map (·.1) = [SN.getD i nd0] from by rw [← h3]; rfl] at this
    have hmem : SN.getD i nd0 ∈ SN := by rw [List.getD_eq_getElem?_getD, List.getElem?_eq_getElem hi]; exact List.getElem_mem hi
    have hz1 := szL_take SN (i + 1)
    rw [take_snocN hi, szL_snoc] at hz1
    rw [addG_ok (hTv i) (hTm i) (fun x hx => by rw [List.mem_singleton.1 hx]; exact hSok _ hmem) (by rw [addAll_size, szL_cons, szL_nil]; omega)] at this
    rw [take_snocN hi, addAll_snoc]
    exact this)
  have HVb := Lib.hid (fun s W (h : RdM W s (addAll gA SN).m.st) => gvalid_any (addAll gA SN) s W h hAll)
  rw [(vldG_iff _).2 hBv] at HVb
  have HSa := Lib.hid (fun s t W h1 h2 => gsame_any (addAll gA SN) s t W h1 h2)
  have HTk0 := Lib.hid (show addAll gA (SN.take 0) = gA from rfl)
  have HTkn := Lib.hid (show addAll gA (SN.take SN.length) = addAll gA SN from by rw [List.take_length])
  have HNu := Lib.hid (fun i => show (addAll gA (SN.take i)).num = gA.num ∧ (addAll gA (SN.take i)).rev = gA.rev ∧ (addAll gA (SN.take i)).mode = gA.mode from addAll_num _ _)
  have HNb := Lib.hid (show (addAll gA SN).num = gA.num ∧ (addAll gA SN).rev = gA.rev ∧ (addAll gA SN).mode = gA.mode from addAll_num _ _)
  have HTo := Lib.hid (fun s W => gtold_any gA.num gA.rev 1 (addAll gA SN).size s (addAll gA SN).m.live (addAll gA SN).m.garb W)
  have HAw := Lib.hid (fun W => gawake_any W)
  clear hAl hTv hTm hTl hAll hBv hgv hgl hgz hSok hSd
  obtain ⟨an, ar, am, az, ⟨af, aL, aG⟩⟩ := gA
  dsimp only at *
  subst hgm
  have HGi := Lib.hid (fun s W => ggiven_any an ar 1 az s aL aG W)
  obtain ⟨gB, hgB⟩ : ∃ gB, addAll ⟨an, ar, 1, az, ⟨af, aL, aG⟩⟩ SN = gB := ⟨_, rfl⟩
  obtain ⟨g0, hg0⟩ : ∃ g0 : Gn, (⟨an, ar, 1, az, ⟨af, aL, aG⟩⟩ : Gn) = g0 := ⟨_, rfl⟩
  rw [hgB] at HAd HVb HSa HTkn HNb HTo
  rw [hg0] at HA1 HTk0 HTkn HNu
  have HG0 := Lib.hid hg0.symm
  clear hgB hg0
  obtain ⟨bn, br, bm, bz, ⟨bf, bL, bG⟩⟩ := gB
  dsimp only at *
  obtain ⟨hb1, hb2, hb3⟩ := HNb.out
  replace hb1 := hb1.symm
  replace hb2 := hb2.symm
  subst hb1 hb2 hb3
  clear HNb
  have HB := Lib.hid (Below.refl w.heap.size w)
  go_enter Tryz.func6, Tryz.ntmps6
  go_wp2_with fail
  refine (HMa.out w HB.out).mono ?_
  rintro e w1 ⟨⟨sA, rfl, ho⟩, hb⟩
  dsimp only
  replace HB := Lib.hid (bstep HB.out hb)
  have RA := Lib.hid (ho.mono (Nat.zero_le _))
  clear ho hb HMa
  go_wp2_with fail
  refine (HGi.out sA _).mono ?_
  rintro e w2 ⟨rfl, hb⟩
  replace HB := Lib.hid (bstep HB.out hb)
  replace RA := Lib.hid (RA.out.keep hb)
  clear hb HGi
  have hA0 : w.heap.size ≤ w2.heap.size := HB.out.size
  go_upto_region 2 with fail
  change Code.wp _ _ _ _ (w2.alloc (.cells (genC an ar 1 az sA aL aG) 35))
  have hbq := below_gen w2 an ar 1 az sA aL aG 35
  replace HB := Lib.hid (bstep HB.out hbq)
  replace RA := Lib.hid (RA.out.keep hbq)
  have XA := Lib.hid (BoxG.new w2 an ar 1 az sA aL aG 35)
  have TXA := Lib.hid (BlkT.new 35 w2 (genC an ar 1 az sA aL aG))
  clear hbq
  generalize w2.alloc (.cells (genC an ar 1 az sA aL aG) 35) = w3 at *
  generalize w2.heap.size = bA at *
  have hA3 : bA < w3.heap.size := TXA.out.lt
  have HSm3 := Lib.hid (fun W (hb : Below w.heap.size w W) => HSm.out W hb)
  have HAdA := Lib.hid (show ∀ lv es W, Below w3.heap.size w3 W → RdN W lv es → es.map (·.1) = SN → Calls Tryz.prog 27 #[genV an ar 1 az sA aL aG, lv] W (GR W 0 an ar 1 bz bf bL bG) from fun lv es W hb h2 h3 => HAd.out sA lv es W (RA.out.rd.below hb) h2 h3)
  go_cut [6, 7] (fun vb ve wx => ∃ b s, vb = .pointer (some ⟨b, 0, none⟩) ∧ ve = .int .i64 0 ∧ w3.heap.size ≤ b ∧ Hid (BoxG wx b an ar 1 bz s bL bG) ∧ Hid (OwnM wx 0 s bf) ∧ Hid (BlkT 35 wx b) ∧ Hid (Below w3.heap.size w3 wx))
  case first =>
    refine wp_region_late [eqS (genV an ar 1 az sA aL aG), eqS (.slice va n vc), needL (SN), tupS 0 an ar 1 bz bf bL bG, tupS 0 an ar 1 bz bf bL bG, genS an ar 1 bz bf bL bG, eqS (.int .i64 0), boxGS 35 w3.heap.size] [7] 58 6 (by kernel_rfl) (by kernel_rfl) rfl rfl (by decide) (by rfl) (by kernel_rfl) (fun f => by simp [frm, dstOf, Act.put]; exact rfl) ?_ ?_ ?_
    · refine ⟨?_, ?_, ?_, ?_, ?_, ?_, ?_, ?_, trivial⟩
      · intro f w1 hb hd
        clear hd
        dsimp only
        have hx := XA.out.below hb
        have q0 := hx.n0
        have q1 := hx.n1
        have q2 := hx.n2
        have q3 := hx.n3
        have q4 := hx.c0
        have q5 := hx.c1
        have q6 := hx.c2
        have q7 := hx.c3
        have q8 := hx.c4
        have q9 := hx.c5
        have q10 := hx.c6
        have q11 := hx.c7
        have q12 := hx.cl
        have q13 := hx.cg
        clear hx
        go_wp2_with fail
        exact ⟨rfl, Below.refl _ _, fun t ht => by injection ht with ht; subst ht; exact ⟨rfl, fun h => by simp at h⟩⟩
      · intro f w1 hb hd
        clear hd
        dsimp only
        go_wp2_with fail
        exact ⟨rfl, Below.refl _ _, fun t ht => by injection ht with ht; subst ht; exact ⟨rfl, fun h => by simp at h⟩⟩
      · intro f w1 hb hd
        have d1 : f 1 = (.slice va n vc) := hd 1 (by kernel_rfl)
        clear hd
        dsimp only
        rw [d1]
        go_wp2_with fail
        refine (HSm3.out w1 (bstep HB.out hb)).mono ?_
        rintro e w9 ⟨qa, qn, qc, es, rfl, hrd, hes, hb9⟩
        go_wp2_with fail
        exact ⟨rfl, hb9, fun t ht => by injection ht with ht; subst ht; exact ⟨⟨qa, qn, qc, es, rfl, hrd, hes⟩, fun h => by simp at h⟩⟩
      · intro f w1 hb hd
        have d0 : f 0 = (genV an ar 1 az sA aL aG) := hd 0 (by kernel_rfl)
        obtain ⟨a2, n2, c2, e2, d2, r2, m2⟩ := show ∃ a n c es, f 2 = .slice a n c ∧ RdN w1 (.slice a n c) es ∧ es.map (·.1) = SN from hd 2 (by kernel_rfl)
        clear hd
        dsimp only
        rw [d0]
        rw [d2]
        go_wp2_with fail
        refine (HAdA.out _ e2 w1 hb r2 m2).mono ?_
        rintro e w9 ⟨⟨s9, rfl, ho9⟩, hb9⟩
        go_wp2_with fail
        exact ⟨rfl, hb9, fun t ht => by injection ht with ht; subst ht; exact ⟨⟨s9, rfl, ho9.mono (Nat.zero_le _)⟩, fun h => by simp at h⟩⟩
      · intro f w1 hb hd
        obtain ⟨s3, d3, r3⟩ := show ∃ s, f 3 = .tuple #[genV an ar 1 bz s bL bG, .int .i64 0] ∧ OwnM w1 0 s bf from hd 3 (by kernel_rfl)
        clear hd
        dsimp only
        rw [d3]
        go_wp2_with fail
        exact ⟨rfl, Below.refl _ _, fun t ht => by injection ht with ht; subst ht; exact ⟨⟨s3, rfl, r3⟩, fun h => by simp at h⟩⟩
      · intro f w1 hb hd
        obtain ⟨s4, d4, r4⟩ := show ∃ s, f 4 = .tuple #[genV an ar 1 bz s bL bG, .int .i64 0] ∧ OwnM w1 0 s bf from hd 4 (by kernel_rfl)
        clear hd
        dsimp only
        rw [d4]
        go_wp2_with fail
        exact ⟨rfl, Below.refl _ _, fun t ht => by injection ht with ht; subst ht; exact ⟨⟨s4, rfl, r4⟩, fun h => by simp at h⟩⟩
      · intro f w1 hb hd
        obtain ⟨s4, d4, r4⟩ := show ∃ s, f 4 = .tuple #[genV an ar 1 bz s bL bG, .int .i64 0] ∧ OwnM w1 0 s bf from hd 4 (by kernel_rfl)
        clear hd
        dsimp only
        rw [d4]
        go_wp2_with fail
        exact ⟨rfl, Below.refl _ _, fun t ht => by injection ht with ht; subst ht; exact ⟨rfl, fun h => by simp at h⟩⟩
      · intro f w1 hb hd
        clear hd
        dsimp only
        have hbs := hb.size
        have hnw := BoxG.new w1 0 0 0 0 Sl.nil 0 0 35
        have hty := BlkT.new 35 w1 (genC 0 0 0 0 Sl.nil 0 0)
        go_wp2_with fail
        exact ⟨rfl, below_gen w1 0 0 0 0 Sl.nil 0 0 35, fun t ht => by injection ht with ht; subst ht; exact ⟨⟨_, rfl, hbs, hnw, hty⟩, fun _ => ⟨Nat.le_refl _, by simp [blk]⟩⟩⟩
    · intro f w5 hb hd hff
      clear hff
      obtain ⟨s5, d5, r5⟩ := show ∃ s, f 5 = genV an ar 1 bz s bL bG ∧ OwnM w5 0 s bf from hd 5 (show 5 < 8 by decide)
      have d6 : f 6 = .int .i64 0 := hd 6 (show 6 < 8 by decide)
      obtain ⟨b7, d7, lo7, bx7, ty7⟩ := show ∃ b, f 7 = .pointer (some ⟨b, 0, none⟩) ∧ w3.heap.size ≤ b ∧ BoxG w5 b 0 0 0 0 Sl.nil 0 0 ∧ BlkT 35 w5 b from hd 7 (show 7 < 8 by decide)
      try dsimp only
      rw [d5, d6, d7]
      clear hd d5 d6 d7
      have hbn := Lib.hid (pts_below (B := w3.heap.size) (b := b7) lo7 (genL an ar 1 bz s5 bL bG) hb)
      have HX5 := Lib.hid bx7
      have HL5 := Lib.hid lo7
      have HN5 := Lib.hid (bx7.all an ar 1 bz s5 bL bG)
      have HR5 := Lib.hid (r5.pts_neG (ty7.ne (by decide) r5) (genL an ar 1 bz s5 bL bG))
      have HT5 := Lib.hid (ty7.pts (c := b7) (genL an ar 1 bz s5 bL bG))
      clear bx7 r5 ty7 hb lo7
      generalize f 0 = zq0, f 1 = zq1, f 2 = zq2, f 3 = zq3, f 4 = zq4
      clear f
      have x0 := HX5.out.n0
      have x1 := HX5.out.n1
      have x2 := HX5.out.n2
      have x3 := HX5.out.n3
      have x4 := HX5.out.c0
      have x5 := HX5.out.c1
      have x6 := HX5.out.c2
      have x7 := HX5.out.c3
      have x8 := HX5.out.c4
      have x9 := HX5.out.c5
      have x10 := HX5.out.c6
      have x11 := HX5.out.c7
      have x12 := HX5.out.cl
      have x13 := HX5.out.cg
      have xf := HX5.out.f
      change wpList _ _ _ (_ :: _ :: []) _ _
      go_wp2_with fail
      go_meet
      case rel => exact ⟨b7, s5, rfl, rfl, HL5.out, HN5, HR5, HT5, hbn⟩
    · intro f w5 hb hd hff
      clear hff
      obtain ⟨s5, d5, r5⟩ := show ∃ s, f 5 = genV an ar 1 bz s bL bG ∧ OwnM w5 0 s bf from hd 5 (show 5 < 8 by decide) (show 5 ≠ 6 by decide)
      obtain ⟨s4, d4, r4⟩ := show ∃ s, f 4 = .tuple #[genV an ar 1 bz s bL bG, .int .i64 0] ∧ OwnM w5 0 s bf from hd 4 (show 4 < 8 by decide) (show 4 ≠ 6 by decide)
      clear r4
      obtain ⟨b7, d7, lo7, bx7, ty7⟩ := show ∃ b, f 7 = .pointer (some ⟨b, 0, none⟩) ∧ w3.heap.size ≤ b ∧ BoxG w5 b 0 0 0 0 Sl.nil 0 0 ∧ BlkT 35 w5 b from hd 7 (show 7 < 8 by decide) (show 7 ≠ 6 by decide)
      try dsimp only
      rw [d4, d5, d7]
      clear hd d4 d5 d7
      have hbn := Lib.hid (pts_below (B := w3.heap.size) (b := b7) lo7 (genL an ar 1 bz s5 bL bG) hb)
      have HX5 := Lib.hid bx7
      have HL5 := Lib.hid lo7
      have HN5 := Lib.hid (bx7.all an ar 1 bz s5 bL bG)
      have HR5 := Lib.hid (r5.pts_neG (ty7.ne (by decide) r5) (genL an ar 1 bz s5 bL bG))
      have HT5 := Lib.hid (ty7.pts (c := b7) (genL an ar 1 bz s5 bL bG))
      clear bx7 r5 ty7 hb lo7
      generalize f 0 = zq0, f 1 = zq1, f 2 = zq2, f 3 = zq3, f 6 = zq6
      clear f
      have x0 := HX5.out.n0
      have x1 := HX5.out.n1
      have x2 := HX5.out.n2
      have x3 := HX5.out.n3
      have x4 := HX5.out.c0
      have x5 := HX5.out.c1
      have x6 := HX5.out.c2
      have x7 := HX5.out.c3
      have x8 := HX5.out.c4
      have x9 := HX5.out.c5
      have x10 := HX5.out.c6
      have x11 := HX5.out.c7
      have x12 := HX5.out.cl
      have x13 := HX5.out.cg
      have xf := HX5.out.f
      change wpList _ _ _ (_ :: _ :: _ :: []) _ _
      go_wp2_with fail
      go_meet
      case rel => exact ⟨b7, s5, rfl, rfl, HL5.out, HN5, HR5, HT5, hbn⟩
  case rest =>
    obtain ⟨bXF, sXF, rfl, rfl, loXF, XF, RXF, TXF, hbn⟩ := hcut
    generalize hwc : wc = w4 at *
    clear hwc
    replace HB := Lib.hid (bstep HB.out hbn.out)
    replace RA := Lib.hid (RA.out.keep hbn.out)
    replace XA := Lib.hid (XA.out.below hbn.out)
    replace TXA := Lib.hid (TXA.out.below hbn.out)
    clear hbn
    clear HSm HSm3 HAdA HAd
    go_wp2_with fail
    refine (HSr.out w4 HB.out).mono ?_
    rintro e w5 ⟨lv, es, rfl, hown, hes, hdat, hb⟩
    have HRow := Lib.hid hown
    have HTl : bA < w4.heap.size := TXA.out.lt
    have hneq : bXF ≠ bA := by omega
    replace HB := Lib.hid (bstep HB.out hb)
    replace RA := Lib.hid (RA.out.keep hb)
    replace XA := Lib.hid (XA.out.below hb)
    replace TXA := Lib.hid (TXA.out.below hb)
    replace XF := Lib.hid (XF.out.below hb)
    replace RXF := Lib.hid (RXF.out.keep hb)
    replace TXF := Lib.hid (TXF.out.below hb)
    obtain ⟨la, lc, rfl, hl1, hl2, _⟩ := own_form hown
    have HDt := Lib.hid hdat
    have HEs := Lib.hid (hes.trans HSN.out)
    have HEl := Lib.hid (show es.length = SN.length from by have := congrArg List.length (hes.trans HSN.out); rwa [List.length_map] at this)
    clear hown hes hdat hb HSr
    have HNa := Lib.hid (show ∀ i, i < es.length → (nat' es i).1 = SN.getD i nd0 from fun i hi => by
      rw [← HEs.out]
      unfold nat'
      rw [List.getD_eq_getElem?_getD, List.getElem?_eq_getElem hi, List.getD_eq_getElem?_getD, List.getElem?_map, List.getElem?_eq_getElem hi]
      rfl)
    have HOk := Lib.hid (show ∀ i, i < es.length → (nat' es i) ∈ es from fun i hi => nat'_mem hi)
    rw [← HEl.out] at HA1 HTkn
    have hn10 : es.length ≤ 10 := by rw [HEl.out]; exact hSl
    generalize w4.heap.size = B4 at *
    generalize hne : es.length = ne at *
    have Hne := Lib.hid hne
    clear hne HEl
    go_wp2_with fail
    go_loopw [27] (fun iv W => ∃ (i : Nat) (si : Sl), iv = .int .i64 (i : Int) ∧ i ≤ ne ∧ Hid (BoxG W bA (addAll g0 (SN.take i)).num (addAll g0 (SN.take i)).rev (addAll g0 (SN.take i)).mode (addAll g0 (SN.take i)).size si (addAll g0 (SN.take i)).m.live (addAll g0 (SN.take i)).m.garb) ∧ Hid (OwnM W 0 si (addAll g0 (SN.take i)).m.st) ∧ Hid (BlkT 35 W bA) ∧ Hid (BoxG W bXF an ar 1 bz sXF bL bG) ∧ Hid (OwnM W 0 sXF bf) ∧ Hid (BlkT 35 W bXF) ∧ Hid (W.ownsRow B4 72 4 (.slice la ne lc) ne (needsC es)) ∧ Hid (Below w.heap.size w W)) (fun iv _ => ne - (intOf iv).toNat)
    case atStart => exact ⟨0, sA, rfl, Nat.zero_le _, by rw [HTk0.out, HG0.out]; exact XA, by rw [HTk0.out, HG0.out]; exact RA, TXA, XF, RXF, TXF, HRow, HB⟩
    case round =>
      obtain ⟨i, si, rfl, hi, XG, RG, TG, XH, RH, TH, HRi, HBi⟩ := hrel
      clear XA RA TXA XF RXF TXF HRow HB
      have hBA : bA < wr.heap.size := TG.out.lt
      by_cases hlt : i < ne
      · have i1 : (i : Int) < (ne : Int) := by omega
        have hrdn : RdN wr (.slice la ne lc) es := by
          have hr := own_rd HRi.out
          refine ⟨by rw [Hne.out]; exact hr, fun p hp => HDt.out p hp wr (HN.out.below HBi.out).dat⟩
        obtain ⟨b, off, rfl, hd, c0, c1, c2, c3⟩ := hrdn.at hlt
        have HAi := Lib.hid (fun s lv p W h1 h2 h3 => HA1.out i hlt s lv p W h1 h2 h3)
        have HNi := Lib.hid (HNa.out i hlt)
        have HNu1 := Lib.hid (HNu.out i)
        have HNu2 := Lib.hid (HNu.out (i + 1))
        clear hrdn
        have HDd := Lib.hid hd
        clear hd
        generalize nat' es i = p at *
        obtain ⟨x, xv⟩ := p
        dsimp only at *
        obtain ⟨xa, xc, rfl, hx1, hx2⟩ := HDd.out.shape0
        obtain ⟨gi, hgi⟩ : ∃ gi, addAll g0 (SN.take i) = gi := ⟨_, rfl⟩
        obtain ⟨gj, hgj⟩ : ∃ gj, addAll g0 (SN.take (i + 1)) = gj := ⟨_, rfl⟩
        rw [hgi] at HAi XG RG HNu1
        rw [hgj] at HAi HNu2
        have HGj := Lib.hid hgj
        clear hgi hgj
        obtain ⟨in_, ir, im, iz, ⟨if_, iL, iG⟩⟩ := gi
        obtain ⟨jn, jr, jm, jz, ⟨jf, jL, jG⟩⟩ := gj
        dsimp only at *
        go_upto_region 6 with fail
        change Code.wp _ _ _ _ (wr.alloc (.cells (ndC x (.slice xa x.data.length xc)) 72))
        have hbn := below_nd wr x (.slice xa x.data.length xc)
        have HD := Lib.hid (BoxD.new wr x (.slice xa x.data.length xc))
        have HDx := Lib.hid (RdL.below HDd.out hbn)
        replace XG := Lib.hid (XG.out.below hbn)
        replace RG := Lib.hid (RG.out.keep hbn)
        replace TG := Lib.hid (TG.out.below hbn)
        replace XH := Lib.hid (XH.out.below hbn)
        replace RH := Lib.hid (RH.out.keep hbn)
        replace TH := Lib.hid (TH.out.below hbn)
        replace HRi := Lib.hid (own_keep HRi.out hbn)
        replace HBi := Lib.hid (bstep HBi.out hbn)
        clear hbn c0 c1 c2 c3 HDd
        generalize wr.alloc (.cells (ndC x (.slice xa x.data.length xc)) 72) = W1 at *
        have hba := (Below.refl W1.heap.size W1).alloc (Nat.le_refl _) (.cells #[.int .u64 (x.key : Int), .int .u32 (x.ck : Int), .bool x.del, .slice xa x.data.length xc] 72)
        have HC := Lib.hid (show Calls Tryz.prog 27 #[genV in_ ir im iz si iL iG, .slice (some ⟨W1.heap.size, 0, none⟩) 1 1] (W1.alloc (.cells #[.int .u64 (x.key : Int), .int .u32 (x.ck : Int), .bool x.del, .slice xa x.data.length xc] 72)) (GR (W1.alloc (.cells #[.int .u64 (x.key : Int), .int .u32 (x.ck : Int), .bool x.del, .slice xa x.data.length xc] 72)) 0 jn jr jm jz jf jL jG) from HAi.out si _ (x, .slice xa x.data.length xc) _ (RG.out.rd.below hba) (rdN_one W1 x _ HDx.out) HNi.out)
        have HBa := Lib.hid hba
        clear hba HAi HNi HDx
        have d0 := HD.out.c0
        have d1 := HD.out.c1
        have d2 := HD.out.c2
        have d3 := HD.out.c3
        generalize x.data.length = xm at *
        have x0 := XG.out.n0
        have x1 := XG.out.n1
        have x2 := XG.out.n2
        have x3 := XG.out.n3
        have x4 := XG.out.c0
        have x5 := XG.out.c1
        have x6 := XG.out.c2
        have x7 := XG.out.c3
        have x8 := XG.out.c4
        have x9 := XG.out.c5
        have x10 := XG.out.c6
        have x11 := XG.out.c7
        have x12 := XG.out.cl
        have x13 := XG.out.cg
        go_wp2_with fail
        refine (HC.out).mono ?_
        rintro e W3 ⟨⟨s3, rfl, ho⟩, hb3⟩
        replace hb3 := bstep HBa.out hb3
        clear d0 d1 d2 d3 HD HC HBa
        clear x0 x1 x2 x3 x4 x5 x6 x7 x8 x9 x10 x11 x12 x13
        replace XG := Lib.hid (XG.out.below hb3)
        replace RG := Lib.hid (RG.out.keep hb3)
        replace TG := Lib.hid (TG.out.below hb3)
        replace XH := Lib.hid (XH.out.below hb3)
        replace RH := Lib.hid (RH.out.keep hb3)
        replace TH := Lib.hid (TH.out.below hb3)
        replace HRi := Lib.hid (own_keep HRi.out hb3)
        replace HBi := Lib.hid (bstep HBi.out hb3)
        have HO := Lib.hid (ho.mono (Nat.zero_le _))
        clear ho hb3
        go_upto_region 7 with fail
        change Code.wp _ _ _ _ (W3.alloc (.cells (genC jn jr jm jz s3 jL jG) 35))
        have hbq := below_gen W3 jn jr jm jz s3 jL jG 35
        replace XG := Lib.hid (XG.out.below hbq)
        replace RG := Lib.hid (RG.out.keep hbq)
        replace TG := Lib.hid (TG.out.below hbq)
        replace XH := Lib.hid (XH.out.below hbq)
        replace RH := Lib.hid (RH.out.keep hbq)
        replace TH := Lib.hid (TH.out.below hbq)
        replace HRi := Lib.hid (own_keep HRi.out hbq)
        replace HBi := Lib.hid (bstep HBi.out hbq)
        replace HO := Lib.hid (HO.out.keep hbq)
        have XJ := Lib.hid (BoxG.new W3 jn jr jm jz s3 jL jG 35)
        clear hbq
        generalize W3.alloc (.cells (genC jn jr jm jz s3 jL jG) 35) = W4 at *
        generalize W3.heap.size = bJ at *
        have x0 := XG.out.n0
        have x1 := XG.out.n1
        have x2 := XG.out.n2
        have x3 := XG.out.n3
        have x4 := XG.out.c0
        have x5 := XG.out.c1
        have x6 := XG.out.c2
        have x7 := XG.out.c3
        have x8 := XG.out.c4
        have x9 := XG.out.c5
        have x10 := XG.out.c6
        have x11 := XG.out.c7
        have x12 := XG.out.cl
        have x13 := XG.out.cg
        have xf := XG.out.f
        have y0 := XJ.out.n0
        have y1 := XJ.out.n1
        have y2 := XJ.out.n2
        have y3 := XJ.out.n3
        have y4 := XJ.out.c0
        have y5 := XJ.out.c1
        have y6 := XJ.out.c2
        have y7 := XJ.out.c3
        have y8 := XJ.out.c4
        have y9 := XJ.out.c5
        have y10 := XJ.out.c6
        have y11 := XJ.out.c7
        have y12 := XJ.out.cl
        have y13 := XJ.out.cg
        go_upto_region 10 with fail
        change Code.wp _ _ _ _ (pts W4 bA (genL jn jr jm jz s3 jL jG))
        have XG5 := Lib.hid (XG.out.all jn jr jm jz s3 jL jG)
        have RG5 := Lib.hid (HO.out.pts_neG (TG.out.ne (by decide) HO.out) (genL jn jr jm jz s3 jL jG))
        have TG5 := Lib.hid (TG.out.pts (c := bA) (genL jn jr jm jz s3 jL jG))
        have XH5 := Lib.hid (XH.out.pts_ne hneq (genL jn jr jm jz s3 jL jG))
        have RH5 := Lib.hid (RH.out.pts_neG (TG.out.ne (by decide) RH.out) (genL jn jr jm jz s3 jL jG))
        have TH5 := Lib.hid (TH.out.pts (c := bA) (genL jn jr jm jz s3 jL jG))
        have HR5 := Lib.hid (own_pts_neG (b := bA) (fun e => by have := (World.ownsRow.lt HRi.out _ e).1; omega) (genL jn jr jm jz s3 jL jG) _ HRi.out)
        have HB5 := Lib.hid (pts_below (B := w.heap.size) (b := bA) hA0 (genL jn jr jm jz s3 jL jG) HBi.out)
        generalize pts W4 bA (genL jn jr jm jz s3 jL jG) = W5 at *
        clear XG RG TG XH RH TH HRi HBi HO XJ
        clear x0 x1 x2 x3 x4 x5 x6 x7 x8 x9 x10 x11 x12 x13 xf
        clear y0 y1 y2 y3 y4 y5 y6 y7 y8 y9 y10 y11 y12 y13
        go_wp2_with fail
        go_roundw
        case rel => exact ⟨i + 1, s3, by go_num, by omega, by rw [HGj.out]; exact XG5, by rw [HGj.out]; exact RG5, TG5, XH5, RH5, TH5, HR5, HB5⟩
        case measure => simp [intOf]; omega
      · have hin : i = ne := by omega
        rw [hin, HTkn.out] at XG RG
        rw [hin]
        clear hin hi
        dsimp only at XG RG
        have x0 := cell_by XG.out.n0
        have x1 := cell_by XG.out.n1
        have x2 := cell_by XG.out.n2
        have x3 := cell_by XG.out.n3
        have x4 := cell_by XG.out.c0
        have x5 := cell_by XG.out.c1
        have x6 := cell_by XG.out.c2
        have x7 := cell_by XG.out.c3
        have x8 := cell_by XG.out.c4
        have x9 := cell_by XG.out.c5
        have x10 := cell_by XG.out.c6
        have x11 := cell_by XG.out.c7
        have x12 := cell_by XG.out.cl
        have x13 := cell_by XG.out.cg
        have y0 := cell_by XH.out.n0
        have y1 := cell_by XH.out.n1
        have y2 := cell_by XH.out.n2
        have y3 := cell_by XH.out.n3
        have y4 := cell_by XH.out.c0
        have y5 := cell_by XH.out.c1
        have y6 := cell_by XH.out.c2
        have y7 := cell_by XH.out.c3
        have y8 := cell_by XH.out.c4
        have y9 := cell_by XH.out.c5
        have y10 := cell_by XH.out.c6
        have y11 := cell_by XH.out.c7
        have y12 := cell_by XH.out.cl
        have y13 := cell_by XH.out.cg
        have HT1 := Lib.hid (fun u : BelowBy wr => HTo.out sXF u.w')
        have HT2 := Lib.hid (fun u : BelowBy wr => HTo.out si u.w')
        have HS3 := Lib.hid (fun u : BelowBy wr => HSa.out sXF si u.w' (RH.out.rd.below u.h) (RG.out.rd.below u.h))
        have HV3 := Lib.hid (fun u : BelowBy wr => HVb.out sXF u.w' (RH.out.rd.below u.h))
        have HA3 := Lib.hid (fun u : BelowBy wr => HAw.out u.w')
        clear HTo HSa HVb HAw
        go_wp2_with fail
        refine wp_region_below (by kernel_rfl) (by kernel_rfl) ?_
        repeat (go_big_quiet_step (first | with_reducible exact calls_by (HT1.out _) | with_reducible exact calls_by (HT2.out _) | with_reducible exact calls_by (HS3.out _) | with_reducible exact calls_by (HV3.out _) | with_reducible exact calls_by (HA3.out _)))
        refine wpQuiet_nil ?_
        intro _ hw'
        obtain ⟨u, hw'⟩ := hw'
        subst hw'
        have HBz := Lib.hid (bstep HBi.out u.h)
        generalize u.w' = V at *
        go_wp2_with fail
        go_ret
        exact ⟨rfl, HBz.out⟩
end Go.Proofs.YthomhflkldhdaaaGreatDoor

namespace Go.Proofs.YthomhflkldhdaaaGreatDoor
open Go.RowKit

theorem steps_open (a : Option Addr) (n cap : Nat) (mode : Int) (w : World) (h : ∃ l : List (Nd × Value), RdN w (.slice a n cap) l ∧ ∀ x ∈ l, x.1.Wf) (_ : (Lit.int .i64 mode).wf = true) :
    Calls Tryz.prog 6 #[.slice a n cap, .int .i64 mode] w fun e w' => e = .returned (.bool true) ∧ Below w.heap.size w w' := by
  obtain ⟨l, h1, h2⟩ := h
  exact steps_walk _ l mode w h1 h2
end Go.Proofs.YthomhflkldhdaaaGreatDoor
