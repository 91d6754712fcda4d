/- Several texts in one, each over the last: SlotChanges: the walk. Printed by mkSkk.py. SlotChanges, from what the form gives of its arguments. -/
import Derived.Test.YtibddmnfplmonaaGreatSD
import Derived.Test.YtibddmnfplmonaaGreatOP
namespace Go.Proofs.YtibddmnfplmonaaGreat
open Go.RowKit

theorem rd_alien_grown {W W' : World} {b : Nat} {cs : Array Value} {t : TypeId} {sz n : Nat} {v : Value} {xs : List Value} (hr : Rd W sz v n xs) (h : BlkE W b cs t) (ha : 0 < xs.length → Alien cs xs) (hg : W.grownBy W' (some b)) : Rd W' sz v n xs := by
 obtain ⟨h0, a, cap, e, h1, h2, h3, h4⟩ := hr
 refine ⟨h0, a, cap, e, h1, h2, h3, fun hp => ?_⟩
 obtain ⟨b', off, e2, hc⟩ := h4 hp
 refine ⟨b', off, e2, fun j u hj => ?_⟩
 have hne : b' ≠ b := by
  rintro rfl
  obtain ⟨j', u', h5, h6⟩ := ha hp off
  have h7 := hc j' u' h5
  rw [h.cell_eq] at h7
  exact h6 h7
 exact hg.cell (hc j u hj) (fun e => hne (by injection e))
theorem RdM.genGrownE {W W' : World} {b : Nat} {t : TypeId} {s : Sl} {f : Nat → List It} {n' r' md z : Int} {s' : Sl} {l' g : Int} (h : RdM W s f) (hb : BlkE W b (genC n' r' md z s' l' g) t) (hg : W.grownBy W' (some b)) : RdM W' s f := fun j hj =>
 rd_rdT (n := (f j).length) (rd_alien_grown (rdT_rd (h j hj)) hb (fun hp => alien_itg _ _ _ _ _ _ _ _ hp) hg)
theorem own_new14 (w : World) (x : GP) (T : TypeId) (B : Nat) (hB : B ≤ w.heap.size) : (w.alloc (.cells (gpC x).toArray T)).ownsRow B T 14 (.slice (some ⟨w.heap.size, 0, none⟩) 1 1) 1 (gpC x) := ⟨rfl, .inr ⟨w.heap.size, 1, (gpC x).toArray, rfl, hB, heap_alloc_new w _, by decide, by decide, rfl, rfl⟩⟩
theorem BlkE.belowB {W W' : World} {b B : Nat} {cs : Array Value} {t : TypeId} (h : BlkE W b cs t) (hb : Below B W W') (hl : b < B) : BlkE W' b cs t := by
 unfold BlkE
 rw [hb.block b hl]; exact h
def chT (p : Slt) (fe : Int) : Sta := ⟨fun v w => ∃ a n c L, v = .tuple #[sloV p.id p.lim p.ro a n c, .int .i64 fe] ∧ RdG w (.slice a n c) L ∧ gns L = p.gens, fun _ _ _ hb ⟨a, n, c, L, h1, h2, h3⟩ => ⟨a, n, c, L, h1, h2.below hb, h3⟩⟩
def chV (p : Slt) : Sta := ⟨fun v w => ∃ a n c L, v = sloV p.id p.lim p.ro a n c ∧ RdG w (.slice a n c) L ∧ gns L = p.gens, fun _ _ _ hb ⟨a, n, c, L, h1, h2, h3⟩ => ⟨a, n, c, L, h1, h2.below hb, h3⟩⟩
def slG (i l : Int) (r : Bool) (n : Nat) (L : List GP) : Sta := ⟨fun v w => ∃ a c, v = sloV i l r a n c ∧ RdG w (.slice a n c) L, fun _ _ _ hb ⟨a, c, h1, h2⟩ => ⟨a, c, h1, h2.below hb⟩⟩
/-- Some slot in its block. -/
def AnyS (W : World) (b : Nat) (t : TypeId) : Prop := ∃ i l r a n c, BlkE W b (sloC i l r a n c) t
theorem AnyS.below {W W' : World} {b : Nat} {t : TypeId} (h : AnyS W b t) (hb : Below W.heap.size W W') : AnyS W' b t := by
 obtain ⟨i, l, r, a, n, c, h⟩ := h
 exact ⟨i, l, r, a, n, c, h.below hb⟩
theorem turnG_len {K : Nat} (g : Gn) (m : Int) (h : ∀ i, i < 8 → (g.m.st i).length ≤ K) : ∀ i, i < 8 → ((turnG g m).2.m.st i).length ≤ K := fun i hi => by
 unfold turnG
 split
 ·
  split
  ·
   exact h i hi
  ·
   exact Nat.zero_le _
 ·
  exact Nat.zero_le _
set_option maxRecDepth 100000 in
set_option maxHeartbeats 64000000 in
theorem schanges_law (i l : Int) (r : Bool) (a : Option Addr) (n c : Nat) (L : List GP) (v : Value) (ac : List AcP) (y : GP) (which : Int) (lv : Value) (nl : List (Nd × Value)) (w : World) (h : RdG w (.slice a n c) L) (hA : RdA w v ac) (hy : RdM w y.2 y.1.m.st) (hN : RdN w lv nl) (hWf : ∀ p ∈ nl, p.1.Wf) :
  Calls Tryz.prog 5 #[sloV i l r a n c, v, genV y.1.num y.1.rev y.1.mode y.1.size y.2 y.1.m.live y.1.m.garb, .int .i64 which, lv] w fun e w' => e = .returned (.bool true) ∧ Below w.heap.size w w' := by
 obtain ⟨va, vc, rfl, hv1, hv2⟩ := hA.shape
 obtain ⟨la, lc, rfl, hl1, hl2⟩ := hN.shape
 have HLi := Lib.hid (fun W (hb : Below w.heap.size w W) => slight_any i l r a n c L W (h.below hb))
 have HLy := Lib.hid (fun hl => lightSl_iff (L := L) hl)
 have HMa := Lib.hid (fun W (hb : Below w.heap.size w W) => smade_any _ ac W (hA.below hb))
 have HSm := Lib.hid (fun W (hb : Below w.heap.size w W) => (ssmall_any (.slice la nl.length lc) nl W (hN.below hb) hWf).mono fun e w' hq => Sm6R.nd hq (hN.below hb))
 have HAw := Lib.hid (fun W => sawake_any W)
 have HR0 := Lib.hid h
 have HLn := Lib.hid h.len
 have hsn := sm6L_len (nl.map (·.1))
 have HSd := Lib.hid (sm6L_dlen (nl.map (·.1)))
 obtain ⟨⟨gn, gr, gm, gz, ⟨gf, gL, gG⟩⟩, gs⟩ := y
 dsimp only at hy ⊢
 have HMg := Lib.hid hy
 generalize sm6L (nl.map (·.1)) = SN at *
 generalize ac.length = an at *
 generalize nl.length = nn at *
 clear h hA hv1 hv2 hl1 hl2 hN hWf hy
 have HLg := Lib.hid (fun W b (hb : Below w.heap.size w W) (hr : Rd W 14 (.slice (some ⟨b, 0, none⟩) 1 1) 1 (gpC ((⟨gn, gr, gm, gz, ⟨gf, gL, gG⟩⟩ : Gn), gs))) => slight_any 0 0 false (some ⟨b, 0, none⟩) 1 1 [((⟨gn, gr, gm, gz, ⟨gf, gL, gG⟩⟩ : Gn), gs)] W ⟨⟨fun x _ => gpC_len x, by
  rw [show [((⟨gn, gr, gm, gz, ⟨gf, gL, gG⟩⟩ : Gn), gs)].flatMap gpC = gpC ((⟨gn, gr, gm, gz, ⟨gf, gL, gG⟩⟩ : Gn), gs) from List.append_nil _]
  exact hr⟩, fun p hp => by rw [List.mem_singleton.1 hp]; exact HMg.out.below hb⟩)
 have HLz := Lib.hid (fun hl => lightSl_iff (L := [((⟨gn, gr, gm, gz, ⟨gf, gL, gG⟩⟩ : Gn), gs)]) hl)
 go_enter Tryz.func5, Tryz.ntmps5
 go_upto_region 1 with fail
 change Code.wp _ _ _ _ ((w.alloc (.cells (sloC i l r a n c) 24)).alloc (.cells (genC gn gr gm gz gs gL gG) 64))
 have HBx := Lib.hid ((BoxV.new w i l r a n c 24).below (below_gen (w.alloc (.cells (sloC i l r a n c) 24)) gn gr gm gz gs gL gG 64))
 have HB := Lib.hid (bstep (below_slo w i l r a n c 24) (below_gen (w.alloc (.cells (sloC i l r a n c) 24)) gn gr gm gz gs gL gG 64))
 have HBg := Lib.hid (show BoxG ((w.alloc (.cells (sloC i l r a n c) 24)).alloc (.cells (genC gn gr gm gz gs gL gG) 64)) (w.heap.size + 1) gn gr gm gz gs gL gG from by
  have := BoxG.new (w.alloc (.cells (sloC i l r a n c) 24)) gn gr gm gz gs gL gG 64
  rwa [World.size_alloc] at this)
 generalize (w.alloc (.cells (sloC i l r a n c) 24)).alloc (.cells (genC gn gr gm gz gs gL gG) 64) = W0 at *
 have k0 := HBx.out.c0
 have k1 := HBx.out.c1
 have k2 := HBx.out.c2
 have k3 := HBx.out.c3
 go_wp2_with fail
 refine (HLi.out W0 HB.out).mono ?_
 rintro e w1 ⟨rfl, hb⟩
 replace HBx := Lib.hid (HBx.out.below hb)
 replace HBg := Lib.hid (HBg.out.below hb)
 replace HB := Lib.hid (bstep HB.out hb)
 clear hb
 clear k0 k1 k2 k3 HLi
 generalize hli : lightSl L = lb at *
 cases lb
 ·
  clear hli
  go_wp2_with fail
  refine (HAw.out _).mono ?_
  rintro e wz ⟨rfl, hb⟩
  have HBz := Lib.hid (bstep HB.out hb)
  go_wp2_with fail
  go_ret
  exact ⟨rfl, HBz.out⟩
 ·
  have HLy2 := Lib.hid (HLy.out rfl)
  clear hli HLy
  have x0 := HBg.out.n0
  have x1 := HBg.out.n1
  have x2 := HBg.out.n2
  have x3 := HBg.out.n3
  have x4 := HBg.out.c0
  have x5 := HBg.out.c1
  have x6 := HBg.out.c2
  have x7 := HBg.out.c3
  have x8 := HBg.out.c4
  have x9 := HBg.out.c5
  have x10 := HBg.out.c6
  have x11 := HBg.out.c7
  have x12 := HBg.out.cl
  have x13 := HBg.out.cg
  have hbq := (Below.refl w1.heap.size w1).alloc (Nat.le_refl _) (.cells (gpC ((⟨gn, gr, gm, gz, ⟨gf, gL, gG⟩⟩ : Gn), gs)).toArray 64)
  have HRn := Lib.hid (Rd.newK' w1.heap.size w1 rfl 14 (gpC ((⟨gn, gr, gm, gz, ⟨gf, gL, gG⟩⟩ : Gn), gs)) 64 1 rfl (by decide))
  obtain ⟨w1a, hw1a⟩ : ∃ w1a, w1.alloc (.cells (gpC ((⟨gn, gr, gm, gz, ⟨gf, gL, gG⟩⟩ : Gn), gs)).toArray 64) = w1a := ⟨_, rfl⟩
  rw [hw1a] at hbq HRn
  have HH := Lib.hid hw1a
  clear hw1a
  go_wp2_with fail
  change Calls _ _ _ (w1.alloc (.cells (gpC ((⟨gn, gr, gm, gz, ⟨gf, gL, gG⟩⟩ : Gn), gs)).toArray 64)) _
  rw [HH.out]
  clear x0 x1 x2 x3 x4 x5 x6 x7 x8 x9 x10 x11 x12 x13
  replace HBx := Lib.hid (HBx.out.below hbq)
  replace HBg := Lib.hid (HBg.out.below hbq)
  replace HB := Lib.hid (bstep HB.out hbq)
  clear hbq
  refine (HLg.out w1a _ HB.out HRn.out).mono ?_
  rintro e w2 ⟨rfl, hb⟩
  replace HBx := Lib.hid (HBx.out.below hb)
  replace HBg := Lib.hid (HBg.out.below hb)
  replace HB := Lib.hid (bstep HB.out hb)
  clear hb
  clear HLg HRn HH
  generalize hli : lightSl [((⟨gn, gr, gm, gz, ⟨gf, gL, gG⟩⟩ : Gn), gs)] = lb at *
  cases lb
  ·
   clear hli
   go_wp2_with fail
   refine (HAw.out _).mono ?_
   rintro e wz ⟨rfl, hb⟩
   have HBz := Lib.hid (bstep HB.out hb)
   go_wp2_with fail
   go_ret
   exact ⟨rfl, HBz.out⟩
  ·
   have HGl := Lib.hid (show ∀ j, j < 8 → (gf j).length ≤ 8 from (HLz.out rfl).2 _ (List.mem_singleton.2 rfl))
   clear hli HLz
   go_upto_region 3 with fail
   refine wp_region_relz [eqS (sloV i l r a n c), eqS (.slice va an vc), slV (madeS ac) 8, twoS, eqS (.int .i64 2), eqS (.int .i64 0)] 136 (by kernel_rfl) (by kernel_rfl) (by kernel_rfl) (by rfl) (by kernel_rfl) (fun f => by simp [frm, dstOf, Act.put]; exact rfl) ?_ ?_
   ·
    refine ⟨?_, ?_, ?_, ?_, ?_, ?_, trivial⟩
    ·
     intro f w1 hb hd
     clear hd
     dsimp only
     have q0 := (HBx.out.below hb).c0
     have q1 := (HBx.out.below hb).c1
     have q2 := (HBx.out.below hb).c2
     have q3 := (HBx.out.below hb).c3
     go_wp2_with fail
     exact ⟨rfl, Below.refl _ _, fun t ht => by injection ht with ht; subst ht; exact ⟨rfl, fun h => by simp at h⟩⟩
    ·
     intro f w1 hb hd
     clear hd
     dsimp only
     go_wp2_with fail
     exact ⟨rfl, Below.refl _ _, fun t ht => by injection ht with ht; subst ht; exact ⟨rfl, fun h => by simp at h⟩⟩
    ·
     intro f w1 hb hd
     have d1 : f 1 = (.slice va an vc) := hd 1 (by kernel_rfl)
     clear hd
     dsimp only
     rw [d1]
     go_wp2_with fail
     refine (HMa.out w1 (bstep HB.out hb)).mono ?_
     rintro e w9 ⟨⟨ma, mn, mc, mL, rfl, hmr, hmg⟩, hb9⟩
     have hm8 : mn ≤ 8 := by rw [← hmr.len]; exact (made_len ac hmg).2.2
     go_wp2_with fail
     exact ⟨rfl, hb9, fun t ht => by injection ht with ht; subst ht; exact ⟨⟨ma, mn, mc, mL, rfl, hmr, hmg, hm8⟩, fun h => by simp at h⟩⟩
    ·
     intro f w1 hb hd
     have d0 : f 0 = (sloV i l r a n c) := hd 0 (by kernel_rfl)
     obtain ⟨a2, n2, c2, L2, d2, r2, g2, m2⟩ := show ∃ a n c L, f 2 = sloV (madeS ac).id (madeS ac).lim (madeS ac).ro a n c ∧ RdG w1 (.slice a n c) L ∧ gns L = (madeS ac).gens ∧ n ≤ 8 from hd 2 (by kernel_rfl)
     clear hd
     dsimp only
     rw [d0]
     rw [d2]
     have hbn := (Below.refl w1.heap.size w1).alloc (Nat.le_refl _) (.cells #[.int .i64 i, .int .i64 l, .bool r, .slice a n c, .int .i64 (madeS ac).id, .int .i64 (madeS ac).lim, .bool (madeS ac).ro, .slice a2 n2 c2] 24)
     have hE := BlkE.new w1 #[.int .i64 i, .int .i64 l, .bool r, .slice a n c, .int .i64 (madeS ac).id, .int .i64 (madeS ac).lim, .bool (madeS ac).ro, .slice a2 n2 c2] 24
     have h1 : SlIn (w1.alloc (.cells #[.int .i64 i, .int .i64 l, .bool r, .slice a n c, .int .i64 (madeS ac).id, .int .i64 (madeS ac).lim, .bool (madeS ac).ro, .slice a2 n2 c2] 24)) w1.heap.size 0 := ⟨i, l, r, a, n, c, L, ⟨hE.cell rfl, hE.cell rfl, hE.cell rfl, hE.cell rfl⟩, (HR0.out.below (bstep HB.out hb)).below hbn, fun p hp j hj => Nat.le_trans (HLy2.out.2 p hp j hj) (by decide), by rw [← HLn.out]; exact HLy2.out.1⟩
     have h2 : SlIn (w1.alloc (.cells #[.int .i64 i, .int .i64 l, .bool r, .slice a n c, .int .i64 (madeS ac).id, .int .i64 (madeS ac).lim, .bool (madeS ac).ro, .slice a2 n2 c2] 24)) w1.heap.size 1 := ⟨(madeS ac).id, (madeS ac).lim, (madeS ac).ro, a2, n2, c2, L2, ⟨hE.cell rfl, hE.cell rfl, hE.cell rfl, hE.cell rfl⟩, r2.below hbn, (made_len ac g2).1, by omega⟩
     have HBn := Lib.hid hbn
     have HT := Lib.hid (And.intro h1 h2)
     clear hbn hE h1 h2
     go_wp2_with fail
     refine ⟨rfl, HBn.out, ?_⟩
     intro t ht
     injection ht with ht
     subst ht
     exact ⟨⟨_, rfl, HT.out.1, HT.out.2⟩, fun h => by simp at h⟩
    ·
     intro f w1 hb hd
     obtain ⟨j3, d3, t3, u3⟩ := show ∃ j, f 3 = .slice (some ⟨j, 0, none⟩) 2 2 ∧ SlIn w1 j 0 ∧ SlIn w1 j 1 from hd 3 (by kernel_rfl)
     clear hd
     dsimp only
     rw [d3]
     go_wp2_with fail
     exact ⟨rfl, Below.refl _ _, fun t ht => by injection ht with ht; subst ht; exact ⟨rfl, fun h => by simp at h⟩⟩
    ·
     intro f w1 hb hd
     clear hd
     dsimp only
     go_wp2_with fail
     exact ⟨rfl, Below.refl _ _, fun t ht => by injection ht with ht; subst ht; exact ⟨rfl, fun h => by simp at h⟩⟩
   ·
    intro f w3 hb hA
    obtain ⟨bR, d3, HT0, HT1⟩ := show ∃ j, f 3 = .slice (some ⟨j, 0, none⟩) 2 2 ∧ SlIn w3 j 0 ∧ SlIn w3 j 1 from hA 3 (show 3 < 6 by decide)
    have d4 : f 4 = .int .i64 2 := hA 4 (show 4 < 6 by decide)
    have d5 : f 5 = .int .i64 0 := hA 5 (show 5 < 6 by decide)
    clear hA
    try dsimp only
    rw [d3, d4, d5]
    clear d3 d4 d5
    generalize f 0 = z0
    generalize f 1 = z1
    generalize f 2 = z2
    clear f
    have HIn := Lib.hid (show ∀ k, k < 2 → SlIn w3 bR k from fun k hk => by
     rcases (show k = 0 ∨ k = 1 by omega) with rfl | rfl
     ·
      exact HT0
     ·
      exact HT1)
    replace HB := Lib.hid (bstep HB.out hb)
    replace HBg := Lib.hid (HBg.out.below hb)
    clear hb HT0 HT1 HBx HR0 HLy2 HLn HMa
    clear L
    go_wp2_with fail
    go_loopw [42] (fun jv W => ∃ k : Nat, jv = .int .i64 (k : Int) ∧ k ≤ 2 ∧ Hid (Below w3.heap.size w3 W)) (fun jv _ => 2 - (intOf jv).toNat)
    case atStart => exact ⟨0, rfl, Nat.zero_le _, Lib.hid (Below.refl _ _)⟩
    case round =>
     obtain ⟨k, rfl, hk, HBk⟩ := hrel
     by_cases hlt : k < 2
     ·
      have j1 : (k : Int) < 2 := by omega
      obtain ⟨xi, xl, xr, xa, xn, xc, X, hSA, hXr, hXl, hxn⟩ := HIn.out k hlt
      have HX3 := Lib.hid hXr
      replace hSA := hSA.below HBk.out
      replace hXr := hXr.below HBk.out
      have HXr := Lib.hid hXr
      have HX48 := Lib.hid hXl
      have HXl := Lib.hid (le48 hXl)
      have HXn := Lib.hid hXr.len
      obtain ⟨c0, c1, c2, c3⟩ := hSA
      clear hXr hXl
      have hS3 := HBk.out.size
      go_upto_region 6 with fail
      change Code.wp _ _ _ _ (wr.alloc (.cells (sloC xi xl xr xa xn xc) 24))
      have hbq := below_slo wr xi xl xr xa xn xc 24
      have HS := Lib.hid (BlkE.new wr (sloC xi xl xr xa xn xc) 24)
      replace HXr := Lib.hid (HXr.out.below hbq)
      replace HBk := Lib.hid (bstep HBk.out hbq)
      clear hbq c0 c1 c2 c3
      generalize wr.alloc (.cells (sloC xi xl xr xa xn xc) 24) = v0 at *
      generalize hbS : wr.heap.size = bS at *
      clear hbS
      have k0 := (BlkE.slo HS.out).c0
      have k1 := (BlkE.slo HS.out).c1
      have k2 := (BlkE.slo HS.out).c2
      have k3 := (BlkE.slo HS.out).c3
      go_wp2_with fail
      refine (sgiven_any xi xl xr xa xn xc X v0 HXr.out (by omega)).mono ?_
      rintro e v1 ⟨⟨ga, gc, rfl, hgr⟩, hb⟩
      have HRo := Lib.hid (srot_any xi xl xr ga xn gc X v1 hgr HXl.out)
      clear k0 k1 k2 k3 hgr
      replace HBk := Lib.hid (bstep HBk.out hb)
      replace HXr := Lib.hid (HXr.out.below hb)
      replace HS := Lib.hid (HS.out.below hb)
      clear hb
      have HRr := Lib.hid (fun W (hb : Below v1.heap.size v1 W) => rrot_any xi xl xr xa xn xc X W (HXr.out.below hb) HXl.out)
      have hpl := rotS_len ⟨xi, xl, xr, gns X⟩
      generalize rotS ⟨xi, xl, xr, gns X⟩ = RT at *
      obtain ⟨⟨pi, pl, pr, pg⟩, fe⟩ := RT
      dsimp only at hpl
      have HB11 := Lib.hid (Below.refl v1.heap.size v1)
      go_wp2_with fail
      refine (HRo.out).mono ?_
      rintro e u1 ⟨⟨aa, am, acp, AL, rfl, hr9, hg9⟩, hb⟩
      dsimp only at hg9 ⊢
      have HAr := Lib.hid hr9
      have HAg := Lib.hid hg9
      clear hr9 hg9
      replace HBk := Lib.hid (bstep HBk.out hb)
      replace HXr := Lib.hid (HXr.out.below hb)
      replace HS := Lib.hid (HS.out.below hb)
      replace HB11 := Lib.hid (bstep HB11.out hb)
      clear hb
      have hSA9 := HS.out.lt
      go_upto_region 7 with fail
      change Code.wp _ _ _ _ (u1.alloc (.cells (sloC pi pl pr aa am acp) 41))
      have hbq := below_slo u1 pi pl pr aa am acp 41
      have HA9 := Lib.hid (BlkE.new u1 (sloC pi pl pr aa am acp) 41)
      replace HAr := Lib.hid (HAr.out.below hbq)
      replace HBk := Lib.hid (bstep HBk.out hbq)
      replace HXr := Lib.hid (HXr.out.below hbq)
      replace HS := Lib.hid (HS.out.below hbq)
      replace HB11 := Lib.hid (bstep HB11.out hbq)
      clear hbq
      generalize u1.alloc (.cells (sloC pi pl pr aa am acp) 41) = u2 at *
      generalize u1.heap.size = bHA9 at *
      have k0 := (BlkE.slo HS.out).c0
      have k1 := (BlkE.slo HS.out).c1
      have k2 := (BlkE.slo HS.out).c2
      have k3 := (BlkE.slo HS.out).c3
      go_wp2_with fail
      refine (HRr.out _ HB11.out).mono ?_
      rintro e u3 ⟨⟨ba, bm, bc, BL, rfl, hr9, hg9⟩, hb⟩
      dsimp only at hg9 ⊢
      clear k0 k1 k2 k3
      have HBr := Lib.hid hr9
      have HBg9 := Lib.hid hg9
      clear hr9 hg9
      replace HBk := Lib.hid (bstep HBk.out hb)
      replace HXr := Lib.hid (HXr.out.below hb)
      replace HS := Lib.hid (HS.out.below hb)
      replace HA9 := Lib.hid (HA9.out.below hb)
      replace HAr := Lib.hid (HAr.out.below hb)
      clear hb
      have hlA := HA9.out.lt
      go_upto_region 8 with fail
      change Code.wp _ _ _ _ (u3.alloc (.cells (sloC pi pl pr ba bm bc) 24))
      have hbq := below_slo u3 pi pl pr ba bm bc 24
      have HB9 := Lib.hid (BlkE.new u3 (sloC pi pl pr ba bm bc) 24)
      replace HBr := Lib.hid (HBr.out.below hbq)
      replace HBk := Lib.hid (bstep HBk.out hbq)
      replace HXr := Lib.hid (HXr.out.below hbq)
      replace HS := Lib.hid (HS.out.below hbq)
      replace HA9 := Lib.hid (HA9.out.below hbq)
      replace HAr := Lib.hid (HAr.out.below hbq)
      clear hbq
      generalize u3.alloc (.cells (sloC pi pl pr ba bm bc) 24) = u4 at *
      have hbAB : bHA9 < u3.heap.size := hlA
      clear hlA
      generalize u3.heap.size = bHB9 at *
      clear HB11 HRo HRr
      have HGG := Lib.hid (show gns AL = gns BL from HAg.out.trans HBg9.out.symm)
      have HAl := Lib.hid HAr.out.len
      have ham : am ≤ 1000000 := by
       have h1 := congrArg List.length HAg.out
       rw [gns_len, HAl.out] at h1
       omega
      clear HAg HBg9
      clear hpl
      go_upto_region 8 with fail
      refine wp_region_relz [eqS (.int .i64 fe), eqS (.int .i64 fe), eqS (.bool false), eqS (.bool false), eqS (sloV pi pl pr aa am acp), slN pi pl pr AL, eqS (sloV pi pl pr ba bm bc), eqS (.bool true), eqS (.bool false), eqS (.bool false)] 136 (by kernel_rfl) (by kernel_rfl) (by kernel_rfl) (by rfl) (by kernel_rfl) (fun f => by simp [frm, dstOf, Act.put]; exact rfl) ?_ ?_
      ·
       refine ⟨?_, ?_, ?_, ?_, ?_, ?_, ?_, ?_, ?_, ?_, trivial⟩
       ·
        intro f w1 hb hd
        clear hd
        dsimp only
        go_wp2_with fail
        exact ⟨rfl, Below.refl _ _, fun t ht => by injection ht with ht; subst ht; exact ⟨rfl, fun h => by simp at h⟩⟩
       ·
        intro f w1 hb hd
        clear hd
        dsimp only
        go_wp2_with fail
        exact ⟨rfl, Below.refl _ _, fun t ht => by injection ht with ht; subst ht; exact ⟨rfl, fun h => by simp at h⟩⟩
       ·
        intro f w1 hb hd
        have d0 : f 0 = (.int .i64 fe) := hd 0 (by kernel_rfl)
        have d1 : f 1 = (.int .i64 fe) := hd 1 (by kernel_rfl)
        clear hd
        dsimp only
        rw [d0]
        rw [d1]
        go_wp2_with fail
        exact ⟨rfl, Below.refl _ _, fun t ht => by injection ht with ht; subst ht; exact ⟨rfl, fun h => by simp at h⟩⟩
       ·
        intro f w1 hb hd
        have d2 : f 2 = (.bool false) := hd 2 (by kernel_rfl)
        clear hd
        dsimp only
        rw [d2]
        go_wp2_with fail
        exact ⟨rfl, Below.refl _ _, fun t ht => by injection ht with ht; subst ht; exact ⟨rfl, fun h => by simp at h⟩⟩
       ·
        intro f w1 hb hd
        have d3 : f 3 = (.bool false) := hd 3 (by kernel_rfl)
        clear hd
        dsimp only
        rw [d3]
        have q0 := (BlkE.slo (BlkE.below HA9.out hb)).c0
        have q1 := (BlkE.slo (BlkE.below HA9.out hb)).c1
        have q2 := (BlkE.slo (BlkE.below HA9.out hb)).c2
        have q3 := (BlkE.slo (BlkE.below HA9.out hb)).c3
        go_wp2_with fail
        exact ⟨rfl, Below.refl _ _, fun t ht => by injection ht with ht; subst ht; exact ⟨rfl, fun h => by simp at h⟩⟩
       ·
        intro f w1 hb hd
        have d3 : f 3 = (.bool false) := hd 3 (by kernel_rfl)
        have d4 : f 4 = (sloV pi pl pr aa am acp) := hd 4 (by kernel_rfl)
        clear hd
        dsimp only
        rw [d3]
        rw [d4]
        go_wp2_with fail
        refine (stold_any pi pl pr aa am acp AL w1 (HAr.out.below hb) ham).mono ?_
        rintro e w9 ⟨⟨ta, tc, rfl, htr⟩, hb9⟩
        obtain rfl : AL.length = am := HAl.out
        go_wp2_with fail
        exact ⟨rfl, hb9, fun t ht => by injection ht with ht; subst ht; exact ⟨⟨ta, tc, rfl, htr⟩, fun h => by simp at h⟩⟩
       ·
        intro f w1 hb hd
        have d3 : f 3 = (.bool false) := hd 3 (by kernel_rfl)
        clear hd
        dsimp only
        rw [d3]
        have q0 := (BlkE.slo (BlkE.below HB9.out hb)).c0
        have q1 := (BlkE.slo (BlkE.below HB9.out hb)).c1
        have q2 := (BlkE.slo (BlkE.below HB9.out hb)).c2
        have q3 := (BlkE.slo (BlkE.below HB9.out hb)).c3
        go_wp2_with fail
        exact ⟨rfl, Below.refl _ _, fun t ht => by injection ht with ht; subst ht; exact ⟨rfl, fun h => by simp at h⟩⟩
       ·
        intro f w1 hb hd
        have d3 : f 3 = (.bool false) := hd 3 (by kernel_rfl)
        obtain ⟨a5, c5, d5, r5⟩ := show ∃ a c, f 5 = sloV pi pl pr a AL.length c ∧ RdG w1 (.slice a AL.length c) AL from hd 5 (by kernel_rfl)
        have d6 : f 6 = (sloV pi pl pr ba bm bc) := hd 6 (by kernel_rfl)
        clear hd
        dsimp only
        rw [d3]
        rw [d5]
        rw [d6]
        go_wp2_with fail
        refine (ssame_any pi pl pr a5 ba AL.length bm c5 bc AL BL w1 r5 (HBr.out.below hb) HGG.out (by rw [HAl.out]; exact ham)).mono ?_
        rintro e w9 ⟨rfl, hb9⟩
        go_wp2_with fail
        exact ⟨rfl, hb9, fun t ht => by injection ht with ht; subst ht; exact ⟨rfl, fun h => by simp at h⟩⟩
       ·
        intro f w1 hb hd
        have d3 : f 3 = (.bool false) := hd 3 (by kernel_rfl)
        have d7 : f 7 = (.bool true) := hd 7 (by kernel_rfl)
        clear hd
        dsimp only
        rw [d3]
        rw [d7]
        go_wp2_with fail
        exact ⟨rfl, Below.refl _ _, fun t ht => by injection ht with ht; subst ht; exact ⟨rfl, fun h => by simp at h⟩⟩
       ·
        intro f w1 hb hd
        have d3 : f 3 = (.bool false) := hd 3 (by kernel_rfl)
        have d8 : f 8 = (.bool false) := hd 8 (by kernel_rfl)
        clear hd
        dsimp only
        rw [d3]
        rw [d8]
        go_wp2_with fail
        exact ⟨rfl, Below.refl _ _, fun t ht => by injection ht with ht; subst ht; exact ⟨rfl, fun h => by simp at h⟩⟩
      ·
       intro f w5 hb hA
       have d3 : f 3 = .bool false := hA 3 (show 3 < 10 by decide)
       have d9 : f 9 = .bool false := hA 9 (show 9 < 10 by decide)
       clear hA
       try dsimp only
       rw [d9]
       clear d3 d9
       generalize f 0 = z0
       generalize f 1 = z1
       generalize f 2 = z2
       generalize f 3 = z3
       generalize f 4 = z4
       generalize f 5 = z5
       generalize f 6 = z6
       generalize f 7 = z7
       generalize f 8 = z8
       clear f
       replace HBk := Lib.hid (bstep HBk.out hb)
       replace HXr := Lib.hid (HXr.out.below hb)
       replace HS := Lib.hid (HS.out.below hb)
       replace HA9 := Lib.hid (HA9.out.below hb)
       replace HB9 := Lib.hid (HB9.out.below hb)
       clear hb HAr HBr HAl HGG ham
       have zg := HBg.out.below HBk.out
       have x0 := zg.n0
       have x1 := zg.n1
       have x2 := zg.n2
       have x3 := zg.n3
       have x4 := zg.c0
       have x5 := zg.c1
       have x6 := zg.c2
       have x7 := zg.c3
       have x8 := zg.c4
       have x9 := zg.c5
       have x10 := zg.c6
       have x11 := zg.c7
       have x12 := zg.cl
       have x13 := zg.cg
       clear zg
       go_upto_region 11 with fail
       clear x0 x1 x2 x3 x4 x5 x6 x7 x8 x9 x10 x11 x12 x13
       change Code.wp _ _ _ _ (w5.alloc (.cells (genC gn gr gm gz gs gL gG) 64))
       have hbq := below_gen w5 gn gr gm gz gs gL gG 64
       have hlS := HS.out.lt
       have hlA := HA9.out.lt
       have hlB := HB9.out.lt
       have hl3 := HBk.out.size
       have HQE := Lib.hid (BlkE.new w5 (genC gn gr gm gz gs gL gG) 64)
       have HQ1 := Lib.hid (show (w5.alloc (.cells (genC gn gr gm gz gs gL gG) 64)).ownsRow w5.heap.size 64 14 (.slice (some ⟨w5.heap.size, 0, none⟩) 1 1) 1 (gpC ((⟨gn, gr, gm, gz, ⟨gf, gL, gG⟩⟩ : Gn), gs)) from own_new14 w5 ((⟨gn, gr, gm, gz, ⟨gf, gL, gG⟩⟩ : Gn), gs) 64 w5.heap.size (Nat.le_refl _))
       replace HBk := Lib.hid (bstep HBk.out hbq)
       replace HXr := Lib.hid (HXr.out.below hbq)
       replace HS := Lib.hid (HS.out.below hbq)
       replace HA9 := Lib.hid (HA9.out.below hbq)
       replace HB9 := Lib.hid (HB9.out.below hbq)
       clear hbq
       generalize w5.alloc (.cells (genC gn gr gm gz gs gL gG) 64) = v7 at *
       generalize hbQ : w5.heap.size = bQ at *
       have hbQ7 : bQ ≤ v7.heap.size := Nat.le_of_lt HQE.out.lt
       clear hbQ
       have k0 := (BlkE.slo HS.out).c0
       have k1 := (BlkE.slo HS.out).c1
       have k2 := (BlkE.slo HS.out).c2
       have k3 := (BlkE.slo HS.out).c3
       go_upto_if 73 with fail
       clear k0 k1 k2 k3
       go_cut [17] (fun gv wx => ∃ (qa : Option Addr) (qm qc : Nat) (Q : List GP), gv = .slice qa qm qc ∧ qm ≤ 4 ∧ Hid (RdG wx (.slice qa qm qc) Q) ∧ Hid (∀ p ∈ Q, ∀ j, j < 8 → (p.1.m.st j).length ≤ 10000) ∧ Hid (Below bQ v7 wx))
       case first =>
        by_cases hx0 : 0 < xn
        ·
         have i0 : (0 : Int) < (xn : Int) := by omega
         have HBkk := HBk
         obtain ⟨bx, ox, rfl, hgx0⟩ := HXr.out.at hx0
         obtain ⟨t, kk, e1, e2, e3, e4, e5, e6, e7⟩ := mod_gen which xn hx0
         have hmem := pat_mem (l := X) (i := kk) (by rw [HXn.out]; exact e6)
         have HMx := Lib.hid (HXr.out.m _ hmem)
         have HLx := Lib.hid (HX48.out _ hmem)
         have HGx := Lib.hid (HXr.out.at2 e6)
         clear hmem hgx0 e7
         generalize pat X kk = p at *
         obtain ⟨⟨num, rev, md, sz, ⟨fs, LV, GA⟩⟩, s⟩ := p
         dsimp only at HMx HLx
         have i3 : (kk : Int) < (xn : Int) := by omega
         go_upto_region 13 with fail
         refine wp_region_rel [eqS (.pointer (some ⟨bS, 3, none⟩)), eqS (.slice (some ⟨bx, ox, none⟩) xn xc), eqS (.int .i64 which), eqS (.int .i64 (xn : Int)), eqS (.int .i64 t), eqS (.int .i64 (xn : Int)), eqS (.int .i64 (t + (xn : Int))), eqS (.int .i64 (xn : Int)), eqS (.int .i64 (kk : Int)), eqS (.pointer (some ⟨bx, ox + kk * 14, none⟩)), eqS (genV num rev md sz s LV GA), boxGB 64 v7.heap.size] [] 136 (by kernel_rfl) (by kernel_rfl) (by rfl) (by kernel_rfl) (fun f => by simp [frm, dstOf, Act.put]; exact rfl) ?_ ?_
         ·
          refine ⟨?_, ?_, ?_, ?_, ?_, ?_, ?_, ?_, ?_, ?_, ?_, ?_, trivial⟩
          ·
           intro f w1 hb hd
           clear hd
           dsimp only
           go_wp2_with fail
           exact ⟨rfl, Below.refl _ _, fun t ht => by injection ht with ht; subst ht; exact ⟨rfl, fun h => by simp at h⟩⟩
          ·
           intro f w1 hb hd
           have d0 : f 0 = (.pointer (some ⟨bS, 3, none⟩)) := hd 0 (by kernel_rfl)
           clear hd
           dsimp only
           rw [d0]
           have q3 := (BlkE.slo (BlkE.below HS.out hb)).c3
           go_wp2_with fail
           exact ⟨rfl, Below.refl _ _, fun t ht => by injection ht with ht; subst ht; exact ⟨rfl, fun h => by simp at h⟩⟩
          ·
           intro f w1 hb hd
           clear hd
           dsimp only
           go_wp2_with fail
           exact ⟨rfl, Below.refl _ _, fun t ht => by injection ht with ht; subst ht; exact ⟨rfl, fun h => by simp at h⟩⟩
          ·
           intro f w1 hb hd
           clear hd
           dsimp only
           go_wp2_with fail
           exact ⟨rfl, Below.refl _ _, fun t ht => by injection ht with ht; subst ht; exact ⟨rfl, fun h => by simp at h⟩⟩
          ·
           intro f w1 hb hd
           have d2 : f 2 = (.int .i64 which) := hd 2 (by kernel_rfl)
           have d3 : f 3 = (.int .i64 (xn : Int)) := hd 3 (by kernel_rfl)
           clear hd
           dsimp only
           rw [d2]
           rw [d3]
           go_wp2_with fail
           exact ⟨rfl, Below.refl _ _, fun t ht => by injection ht with ht; subst ht; exact ⟨rfl, fun h => by simp at h⟩⟩
          ·
           intro f w1 hb hd
           clear hd
           dsimp only
           go_wp2_with fail
           exact ⟨rfl, Below.refl _ _, fun t ht => by injection ht with ht; subst ht; exact ⟨rfl, fun h => by simp at h⟩⟩
          ·
           intro f w1 hb hd
           have d4 : f 4 = (.int .i64 t) := hd 4 (by kernel_rfl)
           have d5 : f 5 = (.int .i64 (xn : Int)) := hd 5 (by kernel_rfl)
           clear hd
           dsimp only
           rw [d4]
           rw [d5]
           go_wp2_with fail
           exact ⟨rfl, Below.refl _ _, fun t ht => by injection ht with ht; subst ht; exact ⟨rfl, fun h => by simp at h⟩⟩
          ·
           intro f w1 hb hd
           clear hd
           dsimp only
           go_wp2_with fail
           exact ⟨rfl, Below.refl _ _, fun t ht => by injection ht with ht; subst ht; exact ⟨rfl, fun h => by simp at h⟩⟩
          ·
           intro f w1 hb hd
           have d6 : f 6 = (.int .i64 (t + (xn : Int))) := hd 6 (by kernel_rfl)
           have d7 : f 7 = (.int .i64 (xn : Int)) := hd 7 (by kernel_rfl)
           clear hd
           dsimp only
           rw [d6]
           rw [d7]
           go_wp2_with fail
           exact ⟨rfl, Below.refl _ _, fun t ht => by injection ht with ht; subst ht; exact ⟨rfl, fun h => by simp at h⟩⟩
          ·
           intro f w1 hb hd
           have d1 : f 1 = (.slice (some ⟨bx, ox, none⟩) xn xc) := hd 1 (by kernel_rfl)
           have d8 : f 8 = (.int .i64 (kk : Int)) := hd 8 (by kernel_rfl)
           clear hd
           dsimp only
           rw [d1]
           rw [d8]
           go_wp2_with fail
           exact ⟨rfl, Below.refl _ _, fun t ht => by injection ht with ht; subst ht; exact ⟨rfl, fun h => by simp at h⟩⟩
          ·
           intro f w1 hb hd
           have d9 : f 9 = (.pointer (some ⟨bx, ox + kk * 14, none⟩)) := hd 9 (by kernel_rfl)
           clear hd
           dsimp only
           rw [d9]
           have zo := HGx.out.below hb
           have q0 := zo.n0
           have q1 := zo.n1
           have q2 := zo.n2
           have q3 := zo.n3
           have q4 := zo.c0
           have q5 := zo.c1
           have q6 := zo.c2
           have q7 := zo.c3
           have q8 := zo.c4
           have q9 := zo.c5
           have q10 := zo.c6
           have q11 := zo.c7
           have q12 := zo.cl
           have q13 := zo.cg
           clear zo
           dsimp only at q0 q1 q2 q3 q4 q5 q6 q7 q8 q9 q10 q11 q12 q13
           go_wp2_with fail
           exact ⟨rfl, Below.refl _ _, fun t ht => by injection ht with ht; subst ht; exact ⟨rfl, fun h => by simp at h⟩⟩
          ·
           intro f w1 hb hd
           clear hd
           dsimp only
           have hbs := hb.size
           have hty := BlkE.new w1 (genC 0 0 0 0 Sl.nil 0 0) 64
           go_wp2_with fail
           exact ⟨rfl, below_gen w1 0 0 0 0 Sl.nil 0 0 64, fun t ht => by injection ht with ht; subst ht; exact ⟨⟨_, rfl, hbs, hty⟩, fun h => by simp at h⟩⟩
         ·
          intro f w5 hb hd hff
          clear hff
          have d10 : f 10 = genV num rev md sz s LV GA := hd 10 (show 10 < 12 by decide)
          obtain ⟨b7, d11, lo7, bx7⟩ := show ∃ b, f 11 = .pointer (some ⟨b, 0, none⟩) ∧ v7.heap.size ≤ b ∧ BlkE w5 b (genC 0 0 0 0 Sl.nil 0 0) 64 from hd 11 (show 11 < 12 by decide)
          clear hd
          try dsimp only
          rw [d10, d11]
          clear d10 d11
          generalize f 0 = zq0
          generalize f 1 = zq1
          generalize f 2 = zq2
          generalize f 3 = zq3
          generalize f 4 = zq4
          generalize f 5 = zq5
          generalize f 6 = zq6
          generalize f 7 = zq7
          generalize f 8 = zq8
          generalize f 9 = zq9
          clear f
          have HB7 := Lib.hid (show Below v7.heap.size v7 (pts w5 b7 (genL num rev md sz s LV GA)) from pts_below (B := v7.heap.size) (b := b7) lo7 (genL num rev md sz s LV GA) hb)
          have HX5 := Lib.hid (BlkE.gen bx7)
          have HN5 := Lib.hid (BlkE.genAll bx7 num rev md sz s LV GA)
          clear bx7 hb lo7
          have xf := HX5.out.f
          have x0 := HX5.out.n0
          have x1 := HX5.out.n1
          have x2 := HX5.out.n2
          have x3 := HX5.out.n3
          have x4 := HX5.out.c0
          have x5 := HX5.out.c1
          have x6 := HX5.out.c2
          have x7 := HX5.out.c3
          have x8 := HX5.out.c4
          have x9 := HX5.out.c5
          have x10 := HX5.out.c6
          have x11 := HX5.out.c7
          have x12 := HX5.out.cl
          have x13 := HX5.out.cg
          change wpList _ _ _ (_ :: []) _ _
          go_upto_region 14 with fail
          change Code.wp _ _ _ _ (pts w5 b7 (genL num rev md sz s LV GA))
          clear xf HX5
          clear x0 x1 x2 x3 x4 x5 x6 x7 x8 x9 x10 x11 x12 x13
          generalize pts w5 b7 (genL num rev md sz s LV GA) = v9 at *
          have HAd := Lib.hid (show ∀ lv es W, Below v9.heap.size v9 W → RdN W lv es → es.map (·.1) = SN → Calls Tryz.prog 35 #[genV num rev md sz s LV GA, lv] W fun e w' => (∃ s', e = .returned (.tuple #[genV (addG ⟨num, rev, md, sz, ⟨fs, LV, GA⟩⟩ SN).2.num (addG ⟨num, rev, md, sz, ⟨fs, LV, GA⟩⟩ SN).2.rev (addG ⟨num, rev, md, sz, ⟨fs, LV, GA⟩⟩ SN).2.mode (addG ⟨num, rev, md, sz, ⟨fs, LV, GA⟩⟩ SN).2.size s' (addG ⟨num, rev, md, sz, ⟨fs, LV, GA⟩⟩ SN).2.m.live (addG ⟨num, rev, md, sz, ⟨fs, LV, GA⟩⟩ SN).2.m.garb, .int .i64 (addG ⟨num, rev, md, sz, ⟨fs, LV, GA⟩⟩ SN).1]) ∧ RdM w' s' (addG ⟨num, rev, md, sz, ⟨fs, LV, GA⟩⟩ SN).2.m.st) ∧ Below W.heap.size W w' from fun lv es W hb h2 h3 => by
           have hle : es.length ≤ 6 := by have := congrArg List.length h3; rw [List.length_map] at this; omega
           have hm := HMx.out.below (bstep HB7.out hb)
           have h9 := radd_any ⟨num, rev, md, sz, ⟨fs, LV, GA⟩⟩ s lv es 48 W hm HLx.out h2 (by omega) (fun p hp => by have := HSd.out p.1 (h3 ▸ List.mem_map_of_mem hp); omega)
           rw [h3] at h9
           exact h9.mono fun e w' hq => ⟨hq.1.imp fun s' hs' => ⟨hs'.1, hs'.2.rd hm hq.2⟩, hq.2⟩)
          have HLa := Lib.hid (show ∀ i, i < 8 → ((addG ⟨num, rev, md, sz, ⟨fs, LV, GA⟩⟩ SN).2.m.st i).length ≤ 10000 from fun i hi => Nat.le_trans (addG_len (K := 48) ⟨num, rev, md, sz, ⟨fs, LV, GA⟩⟩ SN HLx.out i hi) (by omega))
          have HSl := Lib.hid (fun W (hb : Below v7.heap.size v7 W) => rseal_any ⟨num, rev, md, sz, ⟨fs, LV, GA⟩⟩ s W (HMx.out.below hb) (fun i hi => Nat.le_trans (HLx.out i hi) (by decide)))
          have HLs := Lib.hid (show ∀ i, i < 8 → ((turnG ⟨num, rev, md, sz, ⟨fs, LV, GA⟩⟩ 2).2.m.st i).length ≤ 10000 from fun i hi => Nat.le_trans (turnG_len (K := 48) ⟨num, rev, md, sz, ⟨fs, LV, GA⟩⟩ 2 HLx.out i hi) (by decide))
          generalize addG ⟨num, rev, md, sz, ⟨fs, LV, GA⟩⟩ SN = TG at *
          obtain ⟨er, ⟨an_, ar, am_, az, ⟨af, aL, aG⟩⟩⟩ := TG
          generalize turnG ⟨num, rev, md, sz, ⟨fs, LV, GA⟩⟩ 2 = TH at *
          obtain ⟨es_, ⟨tn, tr, tm, tz, ⟨tf, tL, tG⟩⟩⟩ := TH
          dsimp only at HAd HLa HLs HSl
          have HSm9 := Lib.hid (fun W (hb : Below v9.heap.size v9 W) => HSm.out W (bstep (bstep HB.out HBkk.out) (bstep HB7.out hb)))
          go_cut [20, 21] (fun vb ve wx => ∃ b s, vb = .pointer (some ⟨b, 0, none⟩) ∧ ve = .int .i64 er ∧ v9.heap.size ≤ b ∧ Hid (BlkE wx b (genC an_ ar am_ az s aL aG) 64) ∧ Hid (RdM wx s af) ∧ Hid (Below v9.heap.size v9 wx))
          case first =>
           refine wp_region_late [eqS (genV num rev md sz s LV GA), eqS (.slice la nn lc), needR SN, tupR er an_ ar am_ az af aL aG, tupR er an_ ar am_ az af aL aG, genRd an_ ar am_ az af aL aG, eqS (.int .i64 er), boxGB 64 v9.heap.size] [] 136 6 (by kernel_rfl) (by kernel_rfl) rfl rfl (by decide) (by rfl) (by kernel_rfl) (fun f => by simp [frm, dstOf, Act.put]; exact rfl) ?_ ?_ ?_
           ·
            refine ⟨?_, ?_, ?_, ?_, ?_, ?_, ?_, ?_, trivial⟩
            ·
             intro f w1 hb hd
             clear hd
             dsimp only
             have zo := BlkE.gen (BlkE.below HN5.out hb)
             have q0 := zo.n0
             have q1 := zo.n1
             have q2 := zo.n2
             have q3 := zo.n3
             have q4 := zo.c0
             have q5 := zo.c1
             have q6 := zo.c2
             have q7 := zo.c3
             have q8 := zo.c4
             have q9 := zo.c5
             have q10 := zo.c6
             have q11 := zo.c7
             have q12 := zo.cl
             have q13 := zo.cg
             clear zo
             go_wp2_with fail
             exact ⟨rfl, Below.refl _ _, fun t ht => by injection ht with ht; subst ht; exact ⟨rfl, fun h => by simp at h⟩⟩
            ·
             intro f w1 hb hd
             clear hd
             dsimp only
             go_wp2_with fail
             exact ⟨rfl, Below.refl _ _, fun t ht => by injection ht with ht; subst ht; exact ⟨rfl, fun h => by simp at h⟩⟩
            ·
             intro f w1 hb hd
             have d1 : f 1 = (.slice la nn lc) := hd 1 (by kernel_rfl)
             clear hd
             dsimp only
             rw [d1]
             go_wp2_with fail
             refine (HSm9.out w1 hb).mono ?_
             rintro e w9 ⟨qa, qn, qc, es, rfl, hrd, hes, hb9⟩
             go_wp2_with fail
             exact ⟨rfl, hb9, fun t ht => by injection ht with ht; subst ht; exact ⟨⟨qa, qn, qc, es, rfl, hrd, hes⟩, fun h => by simp at h⟩⟩
            ·
             intro f w1 hb hd
             have d0 : f 0 = (genV num rev md sz s LV GA) := hd 0 (by kernel_rfl)
             obtain ⟨a2, n2, c2, e2, d2, r2, m2⟩ := show ∃ a n c es, f 2 = .slice a n c ∧ RdN w1 (.slice a n c) es ∧ es.map (·.1) = SN from hd 2 (by kernel_rfl)
             clear hd
             dsimp only
             rw [d0]
             rw [d2]
             go_wp2_with fail
             refine (HAd.out _ e2 w1 hb r2 m2).mono ?_
             rintro e w9 ⟨⟨s9, rfl, ho9⟩, hb9⟩
             go_wp2_with fail
             exact ⟨rfl, hb9, fun t ht => by injection ht with ht; subst ht; exact ⟨⟨s9, rfl, ho9⟩, fun h => by simp at h⟩⟩
            ·
             intro f w1 hb hd
             obtain ⟨s3, d3, r3⟩ := show ∃ s, f 3 = .tuple #[genV an_ ar am_ az s aL aG, .int .i64 er] ∧ RdM w1 s af from hd 3 (by kernel_rfl)
             clear hd
             dsimp only
             rw [d3]
             go_wp2_with fail
             exact ⟨rfl, Below.refl _ _, fun t ht => by injection ht with ht; subst ht; exact ⟨⟨s3, rfl, r3⟩, fun h => by simp at h⟩⟩
            ·
             intro f w1 hb hd
             obtain ⟨s4, d4, r4⟩ := show ∃ s, f 4 = .tuple #[genV an_ ar am_ az s aL aG, .int .i64 er] ∧ RdM w1 s af from hd 4 (by kernel_rfl)
             clear hd
             dsimp only
             rw [d4]
             go_wp2_with fail
             exact ⟨rfl, Below.refl _ _, fun t ht => by injection ht with ht; subst ht; exact ⟨⟨s4, rfl, r4⟩, fun h => by simp at h⟩⟩
            ·
             intro f w1 hb hd
             obtain ⟨s4, d4, r4⟩ := show ∃ s, f 4 = .tuple #[genV an_ ar am_ az s aL aG, .int .i64 er] ∧ RdM w1 s af from hd 4 (by kernel_rfl)
             clear hd
             dsimp only
             rw [d4]
             go_wp2_with fail
             exact ⟨rfl, Below.refl _ _, fun t ht => by injection ht with ht; subst ht; exact ⟨rfl, fun h => by simp at h⟩⟩
            ·
             intro f w1 hb hd
             clear hd
             dsimp only
             have hbs := hb.size
             have hty := BlkE.new w1 (genC 0 0 0 0 Sl.nil 0 0) 64
             go_wp2_with fail
             exact ⟨rfl, below_gen w1 0 0 0 0 Sl.nil 0 0 64, fun t ht => by injection ht with ht; subst ht; exact ⟨⟨_, rfl, hbs, hty⟩, fun h => by simp at h⟩⟩
           ·
            intro f w5 hb hd hff
            clear hff
            obtain ⟨s5, d5, r5⟩ := show ∃ s, f 5 = genV an_ ar am_ az s aL aG ∧ RdM w5 s af from hd 5 (show 5 < 8 by decide)
            have d6 : f 6 = .int .i64 er := hd 6 (show 6 < 8 by decide)
            obtain ⟨b7, d7, lo7, bx7⟩ := show ∃ b, f 7 = .pointer (some ⟨b, 0, none⟩) ∧ v9.heap.size ≤ b ∧ BlkE w5 b (genC 0 0 0 0 Sl.nil 0 0) 64 from hd 7 (show 7 < 8 by decide)
            try dsimp only
            rw [d5, d6, d7]
            clear hd d5 d6 d7
            have hbn := Lib.hid (pts_below (B := v9.heap.size) (b := b7) lo7 (genL an_ ar am_ az s5 aL aG) hb)
            have HX5 := Lib.hid (BlkE.gen bx7)
            have HN6 := Lib.hid (BlkE.genAll bx7 an_ ar am_ az s5 aL aG)
            have HR5 := Lib.hid (r5.gen bx7 (genL an_ ar am_ az s5 aL aG))
            have HL5 := Lib.hid lo7
            clear bx7 r5 hb lo7
            generalize f 0 = zq10, f 1 = zq11, f 2 = zq12, f 3 = zq13, f 4 = zq14
            clear f
            have xf := HX5.out.f
            have x0 := HX5.out.n0
            have x1 := HX5.out.n1
            have x2 := HX5.out.n2
            have x3 := HX5.out.n3
            have x4 := HX5.out.c0
            have x5 := HX5.out.c1
            have x6 := HX5.out.c2
            have x7 := HX5.out.c3
            have x8 := HX5.out.c4
            have x9 := HX5.out.c5
            have x10 := HX5.out.c6
            have x11 := HX5.out.c7
            have x12 := HX5.out.cl
            have x13 := HX5.out.cg
            change wpList _ _ _ (_ :: _ :: []) _ _
            go_wp2_with fail
            go_meet
            case rel => exact ⟨b7, s5, rfl, rfl, HL5.out, HN6, HR5, hbn⟩
           ·
            intro f w5 hb hd hff
            clear hff
            obtain ⟨s5, d5, r5⟩ := show ∃ s, f 5 = genV an_ ar am_ az s aL aG ∧ RdM w5 s af from hd 5 (show 5 < 8 by decide) (show 5 ≠ 6 by decide)
            obtain ⟨s4, d4, r4⟩ := show ∃ s, f 4 = .tuple #[genV an_ ar am_ az s aL aG, .int .i64 er] ∧ RdM w5 s af from hd 4 (show 4 < 8 by decide) (show 4 ≠ 6 by decide)
            clear r4
            obtain ⟨b7, d7, lo7, bx7⟩ := show ∃ b, f 7 = .pointer (some ⟨b, 0, none⟩) ∧ v9.heap.size ≤ b ∧ BlkE w5 b (genC 0 0 0 0 Sl.nil 0 0) 64 from hd 7 (show 7 < 8 by decide) (show 7 ≠ 6 by decide)
            try dsimp only
            rw [d4, d5, d7]
            clear hd d4 d5 d7
            have hbn := Lib.hid (pts_below (B := v9.heap.size) (b := b7) lo7 (genL an_ ar am_ az s5 aL aG) hb)
            have HX5 := Lib.hid (BlkE.gen bx7)
            have HN6 := Lib.hid (BlkE.genAll bx7 an_ ar am_ az s5 aL aG)
            have HR5 := Lib.hid (r5.gen bx7 (genL an_ ar am_ az s5 aL aG))
            have HL5 := Lib.hid lo7
            clear bx7 r5 hb lo7
            generalize f 0 = zq10, f 1 = zq11, f 2 = zq12, f 3 = zq13, f 6 = zq16
            clear f
            have xf := HX5.out.f
            have x0 := HX5.out.n0
            have x1 := HX5.out.n1
            have x2 := HX5.out.n2
            have x3 := HX5.out.n3
            have x4 := HX5.out.c0
            have x5 := HX5.out.c1
            have x6 := HX5.out.c2
            have x7 := HX5.out.c3
            have x8 := HX5.out.c4
            have x9 := HX5.out.c5
            have x10 := HX5.out.c6
            have x11 := HX5.out.c7
            have x12 := HX5.out.cl
            have x13 := HX5.out.cg
            change wpList _ _ _ (_ :: _ :: _ :: []) _ _
            go_wp2_with fail
            go_meet
            case rel => exact ⟨b7, s5, rfl, rfl, HL5.out, HN6, HR5, hbn⟩
          case rest =>
           obtain ⟨bY, sy, rfl, rfl, loY, HYe, HYr, hbn⟩ := hcut
           generalize hwc : wc = u5 at *
           clear hwc
           replace HN5 := Lib.hid (HN5.out.below hbn.out)
           replace HB7 := Lib.hid (bstep HB7.out hbn.out)
           clear hbn HAd HSm9
           have g0 := (BlkE.gen HN5.out).n0
           have g1 := (BlkE.gen HN5.out).n1
           have g2 := (BlkE.gen HN5.out).n2
           have g3 := (BlkE.gen HN5.out).n3
           have g4 := (BlkE.gen HN5.out).c0
           have g5 := (BlkE.gen HN5.out).c1
           have g6 := (BlkE.gen HN5.out).c2
           have g7 := (BlkE.gen HN5.out).c3
           have g8 := (BlkE.gen HN5.out).c4
           have g9 := (BlkE.gen HN5.out).c5
           have g10 := (BlkE.gen HN5.out).c6
           have g11 := (BlkE.gen HN5.out).c7
           have g12 := (BlkE.gen HN5.out).cl
           have g13 := (BlkE.gen HN5.out).cg
           go_wp2_with fail
           refine (HSl.out u5 HB7.out).mono ?_
           rintro e u6 ⟨⟨sz9, rfl, ho⟩, hb⟩
           dsimp only at ho ⊢
           clear g0 g1 g2 g3 g4 g5 g6 g7 g8 g9 g10 g11 g12 g13
           have HZr := Lib.hid (ho.rd (HMx.out.below HB7.out) hb)
           replace HN5 := Lib.hid (HN5.out.below hb)
           replace HYe := Lib.hid (HYe.out.below hb)
           replace HYr := Lib.hid (HYr.out.below hb)
           replace HB7 := Lib.hid (bstep HB7.out hb)
           clear ho hb HSl
           go_upto_region 16 with fail
           change Code.wp _ _ _ _ (u6.alloc (.cells (genC tn tr tm tz sz9 tL tG) 64))
           have hbq := below_gen u6 tn tr tm tz sz9 tL tG 64
           have HZe := Lib.hid (BlkE.new u6 (genC tn tr tm tz sz9 tL tG) 64)
           replace HZr := Lib.hid (HZr.out.below hbq)
           replace HN5 := Lib.hid (HN5.out.below hbq)
           replace HYe := Lib.hid (HYe.out.below hbq)
           replace HYr := Lib.hid (HYr.out.below hbq)
           replace HB7 := Lib.hid (bstep HB7.out hbq)
           clear hbq
           generalize u6.alloc (.cells (genC tn tr tm tz sz9 tL tG) 64) = u7 at *
           generalize u6.heap.size = bZ at *
           have g0 := (BlkE.gen HN5.out).n0
           have g1 := (BlkE.gen HN5.out).n1
           have g2 := (BlkE.gen HN5.out).n2
           have g3 := (BlkE.gen HN5.out).n3
           have g4 := (BlkE.gen HN5.out).c0
           have g5 := (BlkE.gen HN5.out).c1
           have g6 := (BlkE.gen HN5.out).c2
           have g7 := (BlkE.gen HN5.out).c3
           have g8 := (BlkE.gen HN5.out).c4
           have g9 := (BlkE.gen HN5.out).c5
           have g10 := (BlkE.gen HN5.out).c6
           have g11 := (BlkE.gen HN5.out).c7
           have g12 := (BlkE.gen HN5.out).cl
           have g13 := (BlkE.gen HN5.out).cg
           have h0 := (BlkE.gen HYe.out).n0
           have h1 := (BlkE.gen HYe.out).n1
           have h2 := (BlkE.gen HYe.out).n2
           have h3 := (BlkE.gen HYe.out).n3
           have h4 := (BlkE.gen HYe.out).c0
           have h5 := (BlkE.gen HYe.out).c1
           have h6 := (BlkE.gen HYe.out).c2
           have h7 := (BlkE.gen HYe.out).c3
           have h8 := (BlkE.gen HYe.out).c4
           have h9 := (BlkE.gen HYe.out).c5
           have h10 := (BlkE.gen HYe.out).c6
           have h11 := (BlkE.gen HYe.out).c7
           have h12 := (BlkE.gen HYe.out).cl
           have h13 := (BlkE.gen HYe.out).cg
           have k0 := (BlkE.gen HZe.out).n0
           have k1 := (BlkE.gen HZe.out).n1
           have k2 := (BlkE.gen HZe.out).n2
           have k3 := (BlkE.gen HZe.out).n3
           have k4 := (BlkE.gen HZe.out).c0
           have k5 := (BlkE.gen HZe.out).c1
           have k6 := (BlkE.gen HZe.out).c2
           have k7 := (BlkE.gen HZe.out).c3
           have k8 := (BlkE.gen HZe.out).c4
           have k9 := (BlkE.gen HZe.out).c5
           have k10 := (BlkE.gen HZe.out).c6
           have k11 := (BlkE.gen HZe.out).c7
           have k12 := (BlkE.gen HZe.out).cl
           have k13 := (BlkE.gen HZe.out).cg
           obtain ⟨u8, hu8⟩ : ∃ u8, u7.alloc (.cells ([((⟨num, rev, md, sz, ⟨fs, LV, GA⟩⟩ : Gn), s), ((⟨an_, ar, am_, az, ⟨af, aL, aG⟩⟩ : Gn), sy), ((⟨tn, tr, tm, tz, ⟨tf, tL, tG⟩⟩ : Gn), sz9)].flatMap gpC).toArray 64) = u8 := ⟨_, rfl⟩
           have hb8 : Below u7.heap.size u7 u8 := hu8 ▸ (Below.refl _ _).alloc (Nat.le_refl _) _
           have HRn := Lib.hid (show Rd u8 14 (.slice (some ⟨u7.heap.size, 0, none⟩) 3 3) 3 ([((⟨num, rev, md, sz, ⟨fs, LV, GA⟩⟩ : Gn), s), ((⟨an_, ar, am_, az, ⟨af, aL, aG⟩⟩ : Gn), sy), ((⟨tn, tr, tm, tz, ⟨tf, tL, tG⟩⟩ : Gn), sz9)].flatMap gpC) from hu8 ▸ Rd.newK' u7.heap.size u7 rfl 14 ([((⟨num, rev, md, sz, ⟨fs, LV, GA⟩⟩ : Gn), s), ((⟨an_, ar, am_, az, ⟨af, aL, aG⟩⟩ : Gn), sy), ((⟨tn, tr, tm, tz, ⟨tf, tL, tG⟩⟩ : Gn), sz9)].flatMap gpC) 64 3 rfl (by decide))
           have HQ8 := Lib.hid (own_keep HQ1.out (bstep HB7.out hb8))
           have HQE8 := Lib.hid (HQE.out.below (bstep HB7.out hb8))
           have hsz8 : bQ ≤ u8.heap.size := Nat.le_trans hbQ7 (bstep HB7.out hb8).size
           have HM8 := Lib.hid (show ∀ p ∈ [((⟨gn, gr, gm, gz, ⟨gf, gL, gG⟩⟩ : Gn), gs), ((⟨num, rev, md, sz, ⟨fs, LV, GA⟩⟩ : Gn), s), ((⟨an_, ar, am_, az, ⟨af, aL, aG⟩⟩ : Gn), sy), ((⟨tn, tr, tm, tz, ⟨tf, tL, tG⟩⟩ : Gn), sz9)], RdM u8 p.2 p.1.m.st from fun p hp => by
            simp only [List.mem_cons, List.not_mem_nil, or_false] at hp
            rcases hp with rfl | rfl | rfl | rfl
            ·
             exact HMg.out.below (bstep (bstep HB.out HBkk.out) (bstep HB7.out hb8))
            ·
             exact HMx.out.below (bstep HB7.out hb8)
            ·
             exact HYr.out.below hb8
            ·
             exact HZr.out.below hb8)
           have HL8 := Lib.hid (show ∀ p ∈ [((⟨gn, gr, gm, gz, ⟨gf, gL, gG⟩⟩ : Gn), gs), ((⟨num, rev, md, sz, ⟨fs, LV, GA⟩⟩ : Gn), s), ((⟨an_, ar, am_, az, ⟨af, aL, aG⟩⟩ : Gn), sy), ((⟨tn, tr, tm, tz, ⟨tf, tL, tG⟩⟩ : Gn), sz9)], ∀ j, j < 8 → (p.1.m.st j).length ≤ 10000 from fun p hp => by
            simp only [List.mem_cons, List.not_mem_nil, or_false] at hp
            rcases hp with rfl | rfl | rfl | rfl
            ·
             exact fun j hj => Nat.le_trans (HGl.out j hj) (by decide)
            ·
             exact fun j hj => Nat.le_trans (HLx.out j hj) (by decide)
            ·
             exact HLa.out
            ·
             exact HLs.out)
           have HB8 := Lib.hid (bstep HB7.out hb8)
           have HH8 := Lib.hid hu8
           clear hu8 hb8
           go_wp2_with (at_builtin; go_must (change wpList _ _ _ _ _ (u7.alloc (.cells ([((⟨num, rev, md, sz, ⟨fs, LV, GA⟩⟩ : Gn), s), ((⟨an_, ar, am_, az, ⟨af, aL, aG⟩⟩ : Gn), sy), ((⟨tn, tr, tm, tz, ⟨tf, tL, tG⟩⟩ : Gn), sz9)].flatMap gpC).toArray 64)); rw [HH8.out]; refine wpList_app rfl (.tmp 97) (.tmp 101) 22 rfl elemGr bQ rfl HQ8.out rfl HRn.out (gps_one [((⟨num, rev, md, sz, ⟨fs, LV, GA⟩⟩ : Gn), s), ((⟨an_, ar, am_, az, ⟨af, aL, aG⟩⟩ : Gn), sy), ((⟨tn, tr, tm, tz, ⟨tf, tL, tG⟩⟩ : Gn), sz9)]) (by unfold maxLen; omega) (by omega) hsz8 ?_; intro v10 w10 hown10 hgr10 hv10; clear hv10; obtain ⟨ra, rc, rfl, _⟩ := own_form hown10; replace hgr10 : u8.grownBy w10 (some bQ) := hgr10))
           have HQr := Lib.hid (show RdG w10 (.slice ra (1 + 3) rc) [((⟨gn, gr, gm, gz, ⟨gf, gL, gG⟩⟩ : Gn), gs), ((⟨num, rev, md, sz, ⟨fs, LV, GA⟩⟩ : Gn), s), ((⟨an_, ar, am_, az, ⟨af, aL, aG⟩⟩ : Gn), sy), ((⟨tn, tr, tm, tz, ⟨tf, tL, tG⟩⟩ : Gn), sz9)] from own_rdG (L := [((⟨gn, gr, gm, gz, ⟨gf, gL, gG⟩⟩ : Gn), gs), ((⟨num, rev, md, sz, ⟨fs, LV, GA⟩⟩ : Gn), s), ((⟨an_, ar, am_, az, ⟨af, aL, aG⟩⟩ : Gn), sy), ((⟨tn, tr, tm, tz, ⟨tf, tL, tG⟩⟩ : Gn), sz9)]) (by exact hown10) rfl (fun p hp => (HM8.out p hp).genGrownE HQE8.out hgr10))
           have HBz := Lib.hid (show Below bQ v7 w10 from own_below (HB8.out.mono hbQ7) HQ8.out hsz8 hgr10)
           go_meet
           case rel => exact ⟨_, _, _, [((⟨gn, gr, gm, gz, ⟨gf, gL, gG⟩⟩ : Gn), gs), ((⟨num, rev, md, sz, ⟨fs, LV, GA⟩⟩ : Gn), s), ((⟨an_, ar, am_, az, ⟨af, aL, aG⟩⟩ : Gn), sy), ((⟨tn, tr, tm, tz, ⟨tf, tL, tG⟩⟩ : Gn), sz9)], rfl, by decide, HQr, HL8, HBz⟩
        ·
         have i0 : ¬ (0 : Int) < (xn : Int) := by omega
         have HQr := Lib.hid (show RdG v7 (.slice (some ⟨bQ, 0, none⟩) 1 1) [((⟨gn, gr, gm, gz, ⟨gf, gL, gG⟩⟩ : Gn), gs)] from ⟨⟨fun x _ => gpC_len x, by
          rw [show [((⟨gn, gr, gm, gz, ⟨gf, gL, gG⟩⟩ : Gn), gs)].flatMap gpC = gpC ((⟨gn, gr, gm, gz, ⟨gf, gL, gG⟩⟩ : Gn), gs) from List.append_nil _]
          exact own_rd HQ1.out⟩, fun p hp => by rw [List.mem_singleton.1 hp]; exact HMg.out.below (bstep HB.out HBk.out)⟩)
         have HQl := Lib.hid (show ∀ p ∈ [((⟨gn, gr, gm, gz, ⟨gf, gL, gG⟩⟩ : Gn), gs)], ∀ j, j < 8 → (p.1.m.st j).length ≤ 10000 from fun p hp j hj => by rw [List.mem_singleton.1 hp]; exact Nat.le_trans (HGl.out j hj) (by decide))
         go_wp2_with fail
         go_meet
         case rel => exact ⟨_, _, _, [((⟨gn, gr, gm, gz, ⟨gf, gL, gG⟩⟩ : Gn), gs)], rfl, by decide, HQr, HQl, Lib.hid (Below.refl _ _)⟩
       case rest =>
        as_aux_lemma =>
        obtain ⟨qa, qm, qc, Q, rfl, hqm, HQr, HQl, hbn⟩ := hcut
        generalize hwc : wc = v8 at *
        clear hwc
        replace HBk := Lib.hid (HBk.out.trans (hbn.out.mono hl3))
        replace HXr := Lib.hid (HX3.out.below HBk.out)
        replace HS := Lib.hid (HS.out.belowB hbn.out hlS)
        replace HA9 := Lib.hid (HA9.out.belowB hbn.out hlA)
        replace HB9 := Lib.hid (HB9.out.belowB hbn.out hlB)
        clear hbn HQE HQ1 HSm HX48 HMg
        go_wp2_with fail
        have HAn := Lib.hid (show AnyS v8 bHA9 41 from ⟨pi, pl, pr, aa, am, acp, HA9.out⟩)
        have HBn := Lib.hid (show AnyS v8 bHB9 24 from ⟨pi, pl, pr, ba, bm, bc, HB9.out⟩)
        clear HA9 HB9
        clear aa am acp AL ba bm bc BL
        go_loopw [105] (fun qv V => ∃ q : Nat, qv = .int .i64 (q : Int) ∧ q ≤ qm ∧ Hid (BlkE V bS (sloC xi xl xr xa xn xc) 24) ∧ Hid (AnyS V bHA9 41) ∧ Hid (AnyS V bHB9 24) ∧ Hid (RdG V (.slice qa qm qc) Q) ∧ Hid (RdG V (.slice xa xn xc) X) ∧ Hid (Below w3.heap.size w3 V)) (fun qv _ => qm - (intOf qv).toNat)
        case atStart => exact ⟨0, rfl, Nat.zero_le _, HS, HAn, HBn, HQr, HXr, HBk⟩
        case round =>
         clear HS HAn HBn HQr HXr HBk
         obtain ⟨q, rfl, hq, HS, HAn, HBn, HQr, HXr, HBk⟩ := hrel
         by_cases hltq : q < qm
         ·
          have i6 : (q : Int) < (qm : Int) := by omega
          obtain ⟨bq, oq, rfl, hgq⟩ := HQr.out.at hltq
          have hmem := pat_mem (l := Q) (i := q) (by rw [HQr.out.len]; exact hltq)
          have HPr := Lib.hid (HQr.out.m _ hmem)
          have HPl := Lib.hid (HQl.out _ hmem)
          have HCp0 := Lib.hid (fun W ga gc (hb : Below wr.heap.size wr W) (hgr : RdG W (.slice ga xn gc) X) => schg_any xi xl xr ga xn gc X W hgr HXl.out (pat Q q) (HPr.out.below hb) HPl.out)
          have hpl := chgS_len ⟨xi, xl, xr, gns X⟩ (pat Q q).1
          clear hmem
          generalize pat Q q = p at *
          obtain ⟨⟨num, rev, md, sz, ⟨fs, LV, GA⟩⟩, s⟩ := p
          dsimp only at HPr HPl HCp0 hpl
          generalize hCe : chgS ⟨xi, xl, xr, gns X⟩ ⟨num, rev, md, sz, ⟨fs, LV, GA⟩⟩ = CT at *
          have HCe := Lib.hid hCe
          clear hCe
          obtain ⟨⟨pi, pl, pr, pg⟩, fe⟩ := CT
          dsimp only at hpl
          obtain ⟨g0, g1, g2, g3, g4, g5, g6, g7, g8, g9, g10, g11, g12, g13⟩ := hgq
          dsimp only at g0 g1 g2 g3 g4 g5 g6 g7 g8 g9 g10 g11 g12 g13
          have hlB9 : bHB9 < wr.heap.size := by obtain ⟨_, _, _, _, _, _, hU⟩ := HBn.out; exact hU.lt
          go_upto_region 20 with fail
          clear g0 g1 g2 g3 g4 g5 g6 g7 g8 g9 g10 g11 g12 g13
          change Code.wp _ _ _ _ (wr.alloc (.cells (genC num rev md sz s LV GA) 64))
          have hbq := below_gen wr num rev md sz s LV GA 64
          have HBx := Lib.hid (BoxG.new wr num rev md sz s LV GA 64)
          have HCp := Lib.hid (fun W ga gc (hb : Below _ _ W) (hgr : RdG W (.slice ga xn gc) X) => HCp0.out W ga gc (bstep hbq hb) hgr)
          have HPr9 := Lib.hid (HPr.out.below hbq)
          replace HS := Lib.hid (HS.out.below hbq)
          replace HAn := Lib.hid (HAn.out.below hbq)
          replace HBn := Lib.hid (HBn.out.below hbq)
          replace HQr := Lib.hid (HQr.out.below hbq)
          replace HXr := Lib.hid (HXr.out.below hbq)
          replace HBk := Lib.hid (bstep HBk.out hbq)
          clear hbq HCp0 HPr
          generalize wr.alloc (.cells (genC num rev md sz s LV GA) 64) = v9 at *
          generalize wr.heap.size = bx9 at *
          go_cut [14] (fun ve wx => ve = .int .i64 fe ∧ ∃ (aa : Option Addr) (am acp : Nat) (AL : List GP), Hid (BlkE wx bHA9 (sloC pi pl pr aa am acp) 41) ∧ Hid (RdG wx (.slice aa am acp) AL) ∧ Hid (gns AL = pg) ∧ Hid (RdG wx (.slice (some ⟨bq, oq, none⟩) qm qc) Q) ∧ Hid (RdG wx (.slice xa xn xc) X) ∧ Hid (BlkE wx bS (sloC xi xl xr xa xn xc) 24) ∧ Hid (AnyS wx bHB9 24) ∧ Hid (BoxG wx bx9 num rev md sz s LV GA) ∧ Hid (RdM wx s fs) ∧ Hid (Below w3.heap.size w3 wx))
          case first =>
           refine wp_region_late [eqS (sloV xi xl xr xa xn xc), slG xi xl xr xn X, eqS (genV num rev md sz s LV GA), eqS (genV num rev md sz s LV GA), chT ⟨pi, pl, pr, pg⟩ fe, chT ⟨pi, pl, pr, pg⟩ fe, chV ⟨pi, pl, pr, pg⟩, eqS (.int .i64 fe)] [] 136 7 (by kernel_rfl) (by kernel_rfl) rfl rfl (by decide) (by rfl) (by kernel_rfl) (fun f => by simp [frm, dstOf, Act.put]; exact rfl) ?_ ?_ ?_
           ·
            refine ⟨?_, ?_, ?_, ?_, ?_, ?_, ?_, ?_, trivial⟩
            ·
             intro f w1 hb hd
             clear hd
             dsimp only
             have q0 := (BlkE.slo (BlkE.below HS.out hb)).c0
             have q1 := (BlkE.slo (BlkE.below HS.out hb)).c1
             have q2 := (BlkE.slo (BlkE.below HS.out hb)).c2
             have q3 := (BlkE.slo (BlkE.below HS.out hb)).c3
             go_wp2_with fail
             exact ⟨rfl, Below.refl _ _, fun t ht => by injection ht with ht; subst ht; exact ⟨rfl, fun h => by simp at h⟩⟩
            ·
             intro f w1 hb hd
             have d0 : f 0 = (sloV xi xl xr xa xn xc) := hd 0 (by kernel_rfl)
             clear hd
             dsimp only
             rw [d0]
             go_wp2_with fail
             refine (sgiven_any xi xl xr xa xn xc X w1 (HXr.out.below hb) (by omega)).mono ?_
             rintro e w9 ⟨⟨ga9, gc9, rfl, hgr9⟩, hb9⟩
             go_wp2_with fail
             exact ⟨rfl, hb9, fun t ht => by injection ht with ht; subst ht; exact ⟨⟨ga9, gc9, rfl, hgr9⟩, fun h => by simp at h⟩⟩
            ·
             intro f w1 hb hd
             clear hd
             dsimp only
             have zo := HBx.out.below hb
             have q0 := zo.n0
             have q1 := zo.n1
             have q2 := zo.n2
             have q3 := zo.n3
             have q4 := zo.c0
             have q5 := zo.c1
             have q6 := zo.c2
             have q7 := zo.c3
             have q8 := zo.c4
             have q9 := zo.c5
             have q10 := zo.c6
             have q11 := zo.c7
             have q12 := zo.cl
             have q13 := zo.cg
             clear zo
             go_wp2_with fail
             exact ⟨rfl, Below.refl _ _, fun t ht => by injection ht with ht; subst ht; exact ⟨rfl, fun h => by simp at h⟩⟩
            ·
             intro f w1 hb hd
             have d2 : f 2 = (genV num rev md sz s LV GA) := hd 2 (by kernel_rfl)
             clear hd
             dsimp only
             rw [d2]
             go_wp2_with fail
             refine (sgen_any num rev md sz s LV GA w1).mono ?_
             rintro e w9 ⟨rfl, hb9⟩
             go_wp2_with fail
             exact ⟨rfl, hb9, fun t ht => by injection ht with ht; subst ht; exact ⟨rfl, fun h => by simp at h⟩⟩
            ·
             intro f w1 hb hd
             obtain ⟨a1, c1, d1, r1⟩ := show ∃ a c, f 1 = sloV xi xl xr a xn c ∧ RdG w1 (.slice a xn c) X from hd 1 (by kernel_rfl)
             have d3 : f 3 = (genV num rev md sz s LV GA) := hd 3 (by kernel_rfl)
             clear hd
             dsimp only
             rw [d1]
             rw [d3]
             go_wp2_with fail
             refine (HCp.out w1 a1 c1 hb r1).mono ?_
             rintro e w9 ⟨⟨ca, cn, cc, cL, rfl, hr9, hg9⟩, hb9⟩
             dsimp only at hg9 ⊢
             go_wp2_with fail
             exact ⟨rfl, hb9, fun t ht => by injection ht with ht; subst ht; exact ⟨⟨ca, cn, cc, cL, rfl, hr9, hg9⟩, fun h => by simp at h⟩⟩
            ·
             intro f w1 hb hd
             obtain ⟨a4, n4, c4, L4, d4, r4, g4⟩ := show ∃ a n c L, f 4 = .tuple #[sloV pi pl pr a n c, .int .i64 fe] ∧ RdG w1 (.slice a n c) L ∧ gns L = pg from hd 4 (by kernel_rfl)
             clear hd
             dsimp only
             rw [d4]
             go_wp2_with fail
             exact ⟨rfl, Below.refl _ _, fun t ht => by injection ht with ht; subst ht; exact ⟨⟨a4, n4, c4, L4, rfl, r4, g4⟩, fun h => by simp at h⟩⟩
            ·
             intro f w1 hb hd
             obtain ⟨a5, n5, c5, L5, d5, r5, g5⟩ := show ∃ a n c L, f 5 = .tuple #[sloV pi pl pr a n c, .int .i64 fe] ∧ RdG w1 (.slice a n c) L ∧ gns L = pg from hd 5 (by kernel_rfl)
             clear hd
             dsimp only
             rw [d5]
             go_wp2_with fail
             exact ⟨rfl, Below.refl _ _, fun t ht => by injection ht with ht; subst ht; exact ⟨⟨a5, n5, c5, L5, rfl, r5, g5⟩, fun h => by simp at h⟩⟩
            ·
             intro f w1 hb hd
             obtain ⟨a5, n5, c5, L5, d5, r5, g5⟩ := show ∃ a n c L, f 5 = .tuple #[sloV pi pl pr a n c, .int .i64 fe] ∧ RdG w1 (.slice a n c) L ∧ gns L = pg from hd 5 (by kernel_rfl)
             clear hd
             dsimp only
             rw [d5]
             go_wp2_with fail
             exact ⟨rfl, Below.refl _ _, fun t ht => by injection ht with ht; subst ht; exact ⟨rfl, fun h => by simp at h⟩⟩
           ·
            intro f w5 hb hd hff
            clear hff
            obtain ⟨aa, am, acp, AL, d6, r6, g6⟩ := show ∃ a n c L, f 6 = sloV pi pl pr a n c ∧ RdG w5 (.slice a n c) L ∧ gns L = pg from hd 6 (show 6 < 8 by decide)
            have d7 : f 7 = .int .i64 fe := hd 7 (show 7 < 8 by decide)
            try dsimp only
            rw [d6, d7]
            clear hd d6 d7
            generalize f 0 = zq0
            generalize f 1 = zq1
            generalize f 2 = zq2
            generalize f 3 = zq3
            generalize f 4 = zq4
            generalize f 5 = zq5
            clear f
            obtain ⟨oi, ol, oR, oa, on_, oc, hO⟩ := HAn.out.below hb
            have PA := Lib.hid (BlkE.sloAll hO pi pl pr aa am acp)
            have PR := Lib.hid (RdG.slo r6 hO (sloL pi pl pr aa am acp))
            have PQ := Lib.hid (RdG.slo (HQr.out.below hb) hO (sloL pi pl pr aa am acp))
            have PX := Lib.hid (RdG.slo (HXr.out.below hb) hO (sloL pi pl pr aa am acp))
            have PS_ := Lib.hid (BlkE.pts_ne (c := bHA9) (by omega) (sloL pi pl pr aa am acp) (HS.out.below hb))
            obtain ⟨ui, ul, ur, ua, un, uc, hU⟩ := HBn.out.below hb
            have PB := Lib.hid (show AnyS _ bHB9 24 from ⟨ui, ul, ur, ua, un, uc, BlkE.pts_ne (c := bHA9) (by omega) (sloL pi pl pr aa am acp) hU⟩)
            have PG := Lib.hid ((HBx.out.below hb).pts_ne (c := bHA9) (by omega) (sloL pi pl pr aa am acp))
            have PP := Lib.hid ((HPr9.out.below hb).slo hO (sloL pi pl pr aa am acp))
            have PK := Lib.hid (pts_below (B := w3.heap.size) (b := bHA9) (by omega) (sloL pi pl pr aa am acp) (bstep HBk.out hb))
            have y0 := (BlkE.slo hO).c0
            have y1 := (BlkE.slo hO).c1
            have y2 := (BlkE.slo hO).c2
            have y3 := (BlkE.slo hO).c3
            have yf := (BlkE.slo hO).f
            have PGg := Lib.hid g6
            clear hO hU r6 hb g6
            change wpList _ _ _ (_ :: _ :: []) _ _
            go_wp2_with fail
            go_meet
            case rel => exact ⟨rfl, aa, am, acp, AL, PA, PR, PGg, PQ, PX, PS_, PB, PG, PP, PK⟩
           ·
            intro f w5 hb hd hff
            clear hff
            obtain ⟨aa, am, acp, AL, d6, r6, g6⟩ := show ∃ a n c L, f 6 = sloV pi pl pr a n c ∧ RdG w5 (.slice a n c) L ∧ gns L = pg from hd 6 (show 6 < 8 by decide) (show 6 ≠ 7 by decide)
            obtain ⟨a5, n5, c5, L5, d5, _⟩ := show ∃ a n c L, f 5 = .tuple #[sloV pi pl pr a n c, .int .i64 fe] ∧ RdG w5 (.slice a n c) L ∧ gns L = pg from hd 5 (show 5 < 8 by decide) (show 5 ≠ 7 by decide)
            try dsimp only
            rw [d5, d6]
            clear hd d5 d6
            generalize f 0 = zq0
            generalize f 1 = zq1
            generalize f 2 = zq2
            generalize f 3 = zq3
            generalize f 4 = zq4
            generalize f 7 = zq7
            clear f
            obtain ⟨oi, ol, oR, oa, on_, oc, hO⟩ := HAn.out.below hb
            have PA := Lib.hid (BlkE.sloAll hO pi pl pr aa am acp)
            have PR := Lib.hid (RdG.slo r6 hO (sloL pi pl pr aa am acp))
            have PQ := Lib.hid (RdG.slo (HQr.out.below hb) hO (sloL pi pl pr aa am acp))
            have PX := Lib.hid (RdG.slo (HXr.out.below hb) hO (sloL pi pl pr aa am acp))
            have PS_ := Lib.hid (BlkE.pts_ne (c := bHA9) (by omega) (sloL pi pl pr aa am acp) (HS.out.below hb))
            obtain ⟨ui, ul, ur, ua, un, uc, hU⟩ := HBn.out.below hb
            have PB := Lib.hid (show AnyS _ bHB9 24 from ⟨ui, ul, ur, ua, un, uc, BlkE.pts_ne (c := bHA9) (by omega) (sloL pi pl pr aa am acp) hU⟩)
            have PG := Lib.hid ((HBx.out.below hb).pts_ne (c := bHA9) (by omega) (sloL pi pl pr aa am acp))
            have PP := Lib.hid ((HPr9.out.below hb).slo hO (sloL pi pl pr aa am acp))
            have PK := Lib.hid (pts_below (B := w3.heap.size) (b := bHA9) (by omega) (sloL pi pl pr aa am acp) (bstep HBk.out hb))
            have y0 := (BlkE.slo hO).c0
            have y1 := (BlkE.slo hO).c1
            have y2 := (BlkE.slo hO).c2
            have y3 := (BlkE.slo hO).c3
            have yf := (BlkE.slo hO).f
            have PGg := Lib.hid g6
            clear hO hU r6 hb g6
            change wpList _ _ _ (_ :: _ :: _ :: []) _ _
            go_wp2_with fail
            go_meet
            case rel => exact ⟨rfl, aa, am, acp, AL, PA, PR, PGg, PQ, PX, PS_, PB, PG, PP, PK⟩
          case rest =>
           obtain ⟨rfl, aa, am, acp, AL, HA9, HAr, HAg, HQr, HXr, HS, HBn, HBx, HPq, HBk⟩ := hcut
           generalize hwc : wc = u5 at *
           clear hwc
           have HCr := Lib.hid (rchg_any xi xl xr xa xn xc X u5 HXr.out HXl.out (⟨num, rev, md, sz, ⟨fs, LV, GA⟩⟩, s) HPq.out HPl.out)
           rw [HCe.out] at HCr
           have k0 := (BlkE.slo HS.out).c0
           have k1 := (BlkE.slo HS.out).c1
           have k2 := (BlkE.slo HS.out).c2
           have k3 := (BlkE.slo HS.out).c3
           have g0 := HBx.out.n0
           have g1 := HBx.out.n1
           have g2 := HBx.out.n2
           have g3 := HBx.out.n3
           have g4 := HBx.out.c0
           have g5 := HBx.out.c1
           have g6 := HBx.out.c2
           have g7 := HBx.out.c3
           have g8 := HBx.out.c4
           have g9 := HBx.out.c5
           have g10 := HBx.out.c6
           have g11 := HBx.out.c7
           have g12 := HBx.out.cl
           have g13 := HBx.out.cg
           go_wp2_with fail
           refine HCr.out.mono ?_
           rintro e u6 ⟨⟨ba, bm, bc, BL, rfl, hr9, hg9⟩, hb⟩
           dsimp only at hg9 ⊢
           clear k0 k1 k2 k3 HCr
           clear g0 g1 g2 g3 g4 g5 g6 g7 g8 g9 g10 g11 g12 g13
           replace HA9 := Lib.hid (HA9.out.below hb)
           replace HAr := Lib.hid (HAr.out.below hb)
           replace HQr := Lib.hid (HQr.out.below hb)
           replace HXr := Lib.hid (HXr.out.below hb)
           replace HS := Lib.hid (HS.out.below hb)
           replace HBk := Lib.hid (bstep HBk.out hb)
           obtain ⟨ui, ul, ur, ua, un, uc, hU⟩ := HBn.out.below hb
           clear hb HBn HBx
           have y0 := (BlkE.slo hU).c0
           have y1 := (BlkE.slo hU).c1
           have y2 := (BlkE.slo hU).c2
           have y3 := (BlkE.slo hU).c3
           have yf := (BlkE.slo hU).f
           have HB9 := Lib.hid (BlkE.sloAll hU pi pl pr ba bm bc)
           have HBr := Lib.hid (RdG.slo hr9 hU (sloL pi pl pr ba bm bc))
           have HBg9 := Lib.hid hg9
           replace HAr := Lib.hid (RdG.slo HAr.out hU (sloL pi pl pr ba bm bc))
           replace HQr := Lib.hid (RdG.slo HQr.out hU (sloL pi pl pr ba bm bc))
           replace HXr := Lib.hid (RdG.slo HXr.out hU (sloL pi pl pr ba bm bc))
           replace HS := Lib.hid (BlkE.pts_ne (c := bHB9) (by omega) (sloL pi pl pr ba bm bc) HS.out)
           replace HA9 := Lib.hid (BlkE.pts_ne (c := bHB9) (by omega) (sloL pi pl pr ba bm bc) HA9.out)
           replace HBk := Lib.hid (pts_below (B := w3.heap.size) (b := bHB9) (by omega) (sloL pi pl pr ba bm bc) HBk.out)
           clear hU hr9 hg9
           go_upto_region 22 with fail
           change Code.wp _ _ _ _ (pts u6 bHB9 (sloL pi pl pr ba bm bc))
           clear y0 y1 y2 y3 yf
           generalize pts u6 bHB9 (sloL pi pl pr ba bm bc) = u7 at *
           have HGG := Lib.hid (show gns AL = gns BL from HAg.out.trans HBg9.out.symm)
           have HAl := Lib.hid HAr.out.len
           have ham : am ≤ 1000000 := by
            have h1 := congrArg List.length HAg.out
            rw [gns_len, HAl.out] at h1
            omega
           clear HAg HBg9
           clear hpl
           refine wp_region_relz [eqS (.int .i64 fe), eqS (.int .i64 fe), eqS (.bool false), eqS (.bool false), eqS (sloV pi pl pr aa am acp), slN pi pl pr AL, eqS (sloV pi pl pr ba bm bc), eqS (.bool true), eqS (.bool false), eqS (.bool false)] 136 (by kernel_rfl) (by kernel_rfl) (by kernel_rfl) (by rfl) (by kernel_rfl) (fun f => by simp [frm, dstOf, Act.put]; exact rfl) ?_ ?_
           ·
            refine ⟨?_, ?_, ?_, ?_, ?_, ?_, ?_, ?_, ?_, ?_, trivial⟩
            ·
             intro f w1 hb hd
             clear hd
             dsimp only
             go_wp2_with fail
             exact ⟨rfl, Below.refl _ _, fun t ht => by injection ht with ht; subst ht; exact ⟨rfl, fun h => by simp at h⟩⟩
            ·
             intro f w1 hb hd
             clear hd
             dsimp only
             go_wp2_with fail
             exact ⟨rfl, Below.refl _ _, fun t ht => by injection ht with ht; subst ht; exact ⟨rfl, fun h => by simp at h⟩⟩
            ·
             intro f w1 hb hd
             have d0 : f 0 = (.int .i64 fe) := hd 0 (by kernel_rfl)
             have d1 : f 1 = (.int .i64 fe) := hd 1 (by kernel_rfl)
             clear hd
             dsimp only
             rw [d0]
             rw [d1]
             go_wp2_with fail
             exact ⟨rfl, Below.refl _ _, fun t ht => by injection ht with ht; subst ht; exact ⟨rfl, fun h => by simp at h⟩⟩
            ·
             intro f w1 hb hd
             have d2 : f 2 = (.bool false) := hd 2 (by kernel_rfl)
             clear hd
             dsimp only
             rw [d2]
             go_wp2_with fail
             exact ⟨rfl, Below.refl _ _, fun t ht => by injection ht with ht; subst ht; exact ⟨rfl, fun h => by simp at h⟩⟩
            ·
             intro f w1 hb hd
             have d3 : f 3 = (.bool false) := hd 3 (by kernel_rfl)
             clear hd
             dsimp only
             rw [d3]
             have q0 := (BlkE.slo (BlkE.below HA9.out hb)).c0
             have q1 := (BlkE.slo (BlkE.below HA9.out hb)).c1
             have q2 := (BlkE.slo (BlkE.below HA9.out hb)).c2
             have q3 := (BlkE.slo (BlkE.below HA9.out hb)).c3
             go_wp2_with fail
             exact ⟨rfl, Below.refl _ _, fun t ht => by injection ht with ht; subst ht; exact ⟨rfl, fun h => by simp at h⟩⟩
            ·
             intro f w1 hb hd
             have d3 : f 3 = (.bool false) := hd 3 (by kernel_rfl)
             have d4 : f 4 = (sloV pi pl pr aa am acp) := hd 4 (by kernel_rfl)
             clear hd
             dsimp only
             rw [d3]
             rw [d4]
             go_wp2_with fail
             refine (stold_any pi pl pr aa am acp AL w1 (HAr.out.below hb) ham).mono ?_
             rintro e w9 ⟨⟨ta, tc, rfl, htr⟩, hb9⟩
             obtain rfl : AL.length = am := HAl.out
             go_wp2_with fail
             exact ⟨rfl, hb9, fun t ht => by injection ht with ht; subst ht; exact ⟨⟨ta, tc, rfl, htr⟩, fun h => by simp at h⟩⟩
            ·
             intro f w1 hb hd
             have d3 : f 3 = (.bool false) := hd 3 (by kernel_rfl)
             clear hd
             dsimp only
             rw [d3]
             have q0 := (BlkE.slo (BlkE.below HB9.out hb)).c0
             have q1 := (BlkE.slo (BlkE.below HB9.out hb)).c1
             have q2 := (BlkE.slo (BlkE.below HB9.out hb)).c2
             have q3 := (BlkE.slo (BlkE.below HB9.out hb)).c3
             go_wp2_with fail
             exact ⟨rfl, Below.refl _ _, fun t ht => by injection ht with ht; subst ht; exact ⟨rfl, fun h => by simp at h⟩⟩
            ·
             intro f w1 hb hd
             have d3 : f 3 = (.bool false) := hd 3 (by kernel_rfl)
             obtain ⟨a5, c5, d5, r5⟩ := show ∃ a c, f 5 = sloV pi pl pr a AL.length c ∧ RdG w1 (.slice a AL.length c) AL from hd 5 (by kernel_rfl)
             have d6 : f 6 = (sloV pi pl pr ba bm bc) := hd 6 (by kernel_rfl)
             clear hd
             dsimp only
             rw [d3]
             rw [d5]
             rw [d6]
             go_wp2_with fail
             refine (ssame_any pi pl pr a5 ba AL.length bm c5 bc AL BL w1 r5 (HBr.out.below hb) HGG.out (by rw [HAl.out]; exact ham)).mono ?_
             rintro e w9 ⟨rfl, hb9⟩
             go_wp2_with fail
             exact ⟨rfl, hb9, fun t ht => by injection ht with ht; subst ht; exact ⟨rfl, fun h => by simp at h⟩⟩
            ·
             intro f w1 hb hd
             have d3 : f 3 = (.bool false) := hd 3 (by kernel_rfl)
             have d7 : f 7 = (.bool true) := hd 7 (by kernel_rfl)
             clear hd
             dsimp only
             rw [d3]
             rw [d7]
             go_wp2_with fail
             exact ⟨rfl, Below.refl _ _, fun t ht => by injection ht with ht; subst ht; exact ⟨rfl, fun h => by simp at h⟩⟩
            ·
             intro f w1 hb hd
             have d3 : f 3 = (.bool false) := hd 3 (by kernel_rfl)
             have d8 : f 8 = (.bool false) := hd 8 (by kernel_rfl)
             clear hd
             dsimp only
             rw [d3]
             rw [d8]
             go_wp2_with fail
             exact ⟨rfl, Below.refl _ _, fun t ht => by injection ht with ht; subst ht; exact ⟨rfl, fun h => by simp at h⟩⟩
           ·
            intro f w5 hb hA
            have d3 : f 3 = .bool false := hA 3 (show 3 < 10 by decide)
            have d9 : f 9 = .bool false := hA 9 (show 9 < 10 by decide)
            clear hA
            try dsimp only
            rw [d9]
            clear d3 d9
            generalize f 0 = z0
            generalize f 1 = z1
            generalize f 2 = z2
            generalize f 3 = z3
            generalize f 4 = z4
            generalize f 5 = z5
            generalize f 6 = z6
            generalize f 7 = z7
            generalize f 8 = z8
            clear f
            replace HBk := Lib.hid (bstep HBk.out hb)
            replace HXr := Lib.hid (HXr.out.below hb)
            replace HQr := Lib.hid (HQr.out.below hb)
            replace HS := Lib.hid (HS.out.below hb)
            have HAn := Lib.hid (show AnyS w5 bHA9 41 from ⟨pi, pl, pr, aa, am, acp, HA9.out.below hb⟩)
            have HBn := Lib.hid (show AnyS w5 bHB9 24 from ⟨pi, pl, pr, ba, bm, bc, HB9.out.below hb⟩)
            clear hb HAr HBr HAl HGG ham HA9 HB9
            go_wp2_with fail
            exact ⟨⟨q + 1, by go_num, by omega, HS, HAn, HBn, HQr, HXr, HBk⟩, by simp [intOf]; omega⟩
         ·
          have i6 : ¬ (q : Int) < (qm : Int) := by omega
          clear HAn HBn HS HXr HQr
          go_wp2_with fail
          exact ⟨⟨k + 1, by go_num, by omega, HBk⟩, by simp [intOf]; omega⟩
     ·
      have j1 : ¬ (k : Int) < 2 := by omega
      replace HB := Lib.hid (bstep HB.out HBk.out)
      go_wp2_with fail
      refine (HAw.out _).mono ?_
      rintro e wz ⟨rfl, hb⟩
      have HBz := Lib.hid (bstep HB.out hb)
      go_wp2_with fail
      go_ret
      exact ⟨rfl, HBz.out⟩
end Go.Proofs.YtibddmnfplmonaaGreat

namespace Go.Proofs.YtibddmnfplmonaaGreat
open Go.RowKit

theorem schanges_open (q : SlQ) (a : Option Addr) (n cap : Nat) (g : Sl × Gn) (which : Int) (b : Option Addr) (m cap2 : Nat) (w : World)
    (h0 : RdG w (.slice q.a q.n q.c) q.L ∧ ∀ x ∈ q.L, GnWf x.1) (h1 : ∃ l : List AcP, RdA w (.slice a n cap) l) (h2 : RdM w g.1 g.2.m.st ∧ GnWf g.2) (_hw : (Lit.int .i64 which).wf = true) (h3 : ∃ l : List (Nd × Value), RdN w (.slice b m cap2) l ∧ ∀ x ∈ l, x.1.Wf) :
    Calls Tryz.prog 5 #[.agg (sloC q.id q.lim q.ro q.a q.n q.c), .slice a n cap, .agg (genC g.2.num g.2.rev g.2.mode g.2.size g.1 g.2.m.live g.2.m.garb), .int .i64 which, .slice b m cap2] w fun e w' => e = .returned (.bool true) ∧ Below w.heap.size w w' := by
  obtain ⟨l, hl⟩ := h1
  obtain ⟨nl, h3, hf⟩ := h3
  exact schanges_law q.id q.lim q.ro q.a q.n q.c q.L _ l (g.2, g.1) which _ nl w h0.1 hl h2.1 h3 hf
end Go.Proofs.YtibddmnfplmonaaGreat
