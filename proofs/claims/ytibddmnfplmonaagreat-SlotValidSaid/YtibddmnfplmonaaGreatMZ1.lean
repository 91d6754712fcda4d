/- Several texts in one, each over the last: What the laws of slots look at. SlotValid: the walk. Printed by mkSkd.py. SlotValid, from what the form gives of its arguments. -/
import Derived.Test.YtibddmnfplmonaaGreatSkb
import Derived.Test.YtibddmnfplmonaaGreatSB
import Derived.Test.YtibddmnfplmonaaGreatVB
import Derived.Test.YtibddmnfplmonaaGreatGR
import Derived.Test.YtibddmnfplmonaaGreatOP
namespace Go.Proofs.YtibddmnfplmonaaGreat
open Go.RowKit

/-- A slot in four cells. -/
structure SAt (w : World) (b o : Nat) (i l : Int) (r : Bool) (a : Option Addr) (n c : Nat) : Prop where
  c0 : w.cell? ⟨b, o, none⟩ = some (.int .i64 i)
  c1 : w.cell? ⟨b, o + 1, none⟩ = some (.int .i64 l)
  c2 : w.cell? ⟨b, o + 2, none⟩ = some (.bool r)
  c3 : w.cell? ⟨b, o + 3, none⟩ = some (.slice a n c)
theorem SAt.below {w w' : World} {b o : Nat} {i l : Int} {r : Bool} {a : Option Addr} {n c : Nat} (h : SAt w b o i l r a n c) (hb : Below w.heap.size w w') : SAt w' b o i l r a n c := ⟨hb.keeps' h.c0, hb.keeps' h.c1, hb.keeps' h.c2, hb.keeps' h.c3⟩
/-- The slot that the law looks at, in a row of two. -/
def SlIn (w : World) (b k : Nat) : Prop := ∃ (i l : Int) (r : Bool) (a : Option Addr) (n c : Nat) (L : List GP), SAt w b (k * 4) i l r a n c ∧ RdG w (.slice a n c) L ∧ (∀ p ∈ L, ∀ j, j < 8 → (p.1.m.st j).length ≤ 48) ∧ n ≤ 12
theorem SlIn.below {w w' : World} {b k : Nat} (h : SlIn w b k) (hb : Below w.heap.size w w') : SlIn w' b k := by
  obtain ⟨i, l, r, a, n, c, L, h1, h2, h3, h4⟩ := h
  exact ⟨i, l, r, a, n, c, L, h1.below hb, h2.below hb, h3, h4⟩
def twoS : Sta := ⟨fun v w => ∃ j, v = .slice (some ⟨j, 0, none⟩) 2 2 ∧ SlIn w j 0 ∧ SlIn w j 1, fun _ _ _ hb ⟨j, h1, h2, h3⟩ => ⟨j, h1, h2.below hb, h3.below hb⟩⟩
/-- A slot as a value, its generations read. -/
def slV (p : Slt) (k : Nat) : Sta := ⟨fun v w => ∃ a n c L, v = sloV p.id p.lim p.ro a n c ∧ RdG w (.slice a n c) L ∧ gns L = p.gens ∧ n ≤ k, fun _ _ _ hb ⟨a, n, c, L, h1, h2, h3, h4⟩ => ⟨a, n, c, L, h1, h2.below hb, h3, h4⟩⟩
def slN (i l : Int) (r : Bool) (L : List GP) : Sta := ⟨fun v w => ∃ a c, v = sloV i l r a L.length c ∧ RdG w (.slice a L.length c) L, fun _ _ _ hb ⟨a, c, h1, h2⟩ => ⟨a, c, h1, h2.below hb⟩⟩
theorem made_len (ac : List AcP) {L : List GP} (h : gns L = (madeS ac).gens) : (∀ p ∈ L, ∀ j, j < 8 → (p.1.m.st j).length ≤ 48) ∧ 1 ≤ L.length ∧ L.length ≤ 8 := by
  have hI := madeS_inv ac
  refine ⟨fun p hp j hj => hI.len p.1 (h ▸ List.mem_map_of_mem hp) j hj, ?_⟩
  have h1 := hI.v.len
  have h2 := congrArg List.length h
  rw [gns_len] at h2
  omega
theorem RdG.len {w : World} {a : Option Addr} {n c : Nat} {L : List GP} (h : RdG w (.slice a n c) L) : L.length = n := by
  obtain ⟨_, _, e, _⟩ := h.shape
  injection e with _ e _; exact e.symm
theorem le48 {L : List GP} (h : ∀ p ∈ L, ∀ j, j < 8 → (p.1.m.st j).length ≤ 48) : ∀ p ∈ L, ∀ j, j < 8 → (p.1.m.st j).length ≤ 10000 := fun p hp j hj => Nat.le_trans (h p hp j hj) (by decide)
theorem bne_self (b : Bool) : (b != b) = false := by cases b <;> rfl
theorem rotS_len (s : Slt) : (rotS s).1.gens.length ≤ 8 := by
  by_cases h : (rotS s).2 = 0
  · exact (rotS_vld h).len.2
  · have e : (rotS s).1 = slt0 := by
      unfold rotS at h ⊢
      split
      · rename_i h1
        rw [if_pos h1] at h
        split
        · rename_i h2; rw [if_pos h2] at h; exact absurd rfl h
        · rfl
      · rfl
    rw [e]; exact Nat.zero_le _
theorem chgS_len (s : Slt) (g : Gn) : (chgS s g).1.gens.length ≤ 8 := by
  by_cases h : (chgS s g).2 = 0
  · exact (chgS_vld h).len.2
  · have e : (chgS s g).1 = slt0 := by
      unfold chgS at h ⊢
      split
      · rename_i h1
        rw [if_pos h1] at h
        split
        · rename_i h2
          rw [if_pos h2] at h
          split
          · rename_i h3; rw [if_pos h3] at h; exact absurd rfl h
          · rfl
        · rfl
      · rfl
    rw [e]; exact Nat.zero_le _
end Go.Proofs.YtibddmnfplmonaaGreat

namespace Go.Proofs.YtibddmnfplmonaaGreat
open Go.RowKit

theorem rt_low (key n : Int) (hn : n < 1) : routeI key n = 0 := if_pos hn
theorem route_all (key n : Int) (w : World) (hn2 : n ≤ 9223372036854775807) : Calls Tryz.prog 31 #[.int .u64 key, .int .i64 n] w fun e w' => e = .returned (.int .i64 (routeI key n)) ∧ w = w' := by
  by_cases hn : 1 ≤ n
  · exact route_any key n w hn hn2
  · have e0 : decide (n < 1) = true := by simp; omega
    rw [rt_low key n (by omega)]
    go_enter Tryz.func31, Tryz.ntmps31
    go_wp2_with fail
    go_ret
    exact ⟨rfl, rfl⟩
theorem rroute_all (key n : Int) (w : World) (hn2 : n ≤ 9223372036854775807) : Calls Tryz.prog 32 #[.int .u64 key, .int .i64 n] w fun e w' => e = .returned (.int .i64 (routeI key n)) ∧ w = w' := by
  by_cases hn : 1 ≤ n
  · have e0 : decide (n < 1) = false := by simp; omega
    have HR := Lib.hid (show routeI key n = IntKind.i64.wrap ((xk key).tmod n) from if_neg (by omega))
    generalize routeI key n = r at *
    go_enter Tryz.func32, Tryz.ntmps32
    go_wp2_with fail
    go_ret
    exact ⟨ret_int (HR.out.trans (IntWalk.i64_left _)).symm, rfl⟩
  · have e0 : decide (n < 1) = true := by simp; omega
    rw [rt_low key n (by omega)]
    go_enter Tryz.func32, Tryz.ntmps32
    go_wp2_with fail
    go_ret
    exact ⟨rfl, rfl⟩
theorem newS_len (i l : Int) : (newS i l).1.gens.length ≤ 1 := by
  unfold newS
  split
  · exact Nat.le_refl _
  · exact Nat.zero_le _
set_option maxRecDepth 100000 in
set_option maxHeartbeats 32000000 in
theorem svalid_law (i l : Int) (r : Bool) (a : Option Addr) (n c : Nat) (L : List GP) (v : Value) (ac : List AcP) (key nn id limit : Int) (w : World) (h : RdG w (.slice a n c) L) (hA : RdA w v ac) (hn2 : nn ≤ 9223372036854775807) :
    Calls Tryz.prog 4 #[sloV i l r a n c, v, .int .u64 key, .int .i64 nn, .int .i64 id, .int .i64 limit] w fun e w' => e = .returned (.bool true) ∧ Below w.heap.size w w' := by
  obtain ⟨va, vc, rfl, hv1, hv2⟩ := hA.shape
  have HLi := Lib.hid (fun W (hb : Below w.heap.size w W) => slight_any i l r a n c L W (h.below hb))
  have HLy := Lib.hid (fun hl => lightSl_iff (L := L) hl)
  have HMa := Lib.hid (fun W (hb : Below w.heap.size w W) => smade_any _ ac W (hA.below hb))
  have HAw := Lib.hid (fun W => sawake_any W)
  have HR0 := Lib.hid h
  have HLn := Lib.hid h.len
  generalize ac.length = an at *
  clear h hA hv1 hv2
  have HBx := Lib.hid (BoxV.new w i l r a n c 24)
  have HB := Lib.hid (below_slo w i l r a n c 24)
  go_enter Tryz.func4, Tryz.ntmps4
  go_upto_region 1 with fail
  change Code.wp _ _ _ _ (w.alloc (.cells (sloC i l r a n c) 24))
  generalize w.alloc (.cells (sloC i l r a n c) 24) = W0 at *
  have k0 := HBx.out.c0
  have k1 := HBx.out.c1
  have k2 := HBx.out.c2
  have k3 := HBx.out.c3
  go_wp2_with fail
  refine (HLi.out W0 HB.out).mono ?_
  rintro e w1 ⟨rfl, hb⟩
  replace HBx := Lib.hid (HBx.out.below hb)
  replace HB := Lib.hid (bstep HB.out hb)
  clear hb k0 k1 k2 k3 HLi
  generalize hli : lightSl L = lb at *
  cases lb
  · clear hli
    go_wp2_with fail
    refine (HAw.out _).mono ?_
    rintro e w2 ⟨rfl, hb⟩
    have HBz := Lib.hid (bstep HB.out hb)
    go_wp2_with fail
    go_ret
    exact ⟨rfl, HBz.out⟩
  · have HLy2 := Lib.hid (HLy.out rfl)
    clear hli HLy
    go_upto_region 3 with fail
    refine wp_region_relz [eqS (sloV i l r a n c), eqS (.slice va an vc), slV (madeS ac) 8, twoS, eqS (.int .i64 2), eqS (.int .i64 0)] 172 (by kernel_rfl) (by kernel_rfl) (by kernel_rfl) (by rfl) (by kernel_rfl) (fun f => by simp [frm, dstOf, Act.put]; exact rfl) ?_ ?_
    · refine ⟨?_, ?_, ?_, ?_, ?_, ?_, trivial⟩
      · intro f w1 hb hd
        clear hd
        dsimp only
        have q0 := (HBx.out.below hb).c0
        have q1 := (HBx.out.below hb).c1
        have q2 := (HBx.out.below hb).c2
        have q3 := (HBx.out.below hb).c3
        go_wp2_with fail
        exact ⟨rfl, Below.refl _ _, fun t ht => by injection ht with ht; subst ht; exact ⟨rfl, fun h => by simp at h⟩⟩
      · intro f w1 hb hd
        clear hd
        dsimp only
        go_wp2_with fail
        exact ⟨rfl, Below.refl _ _, fun t ht => by injection ht with ht; subst ht; exact ⟨rfl, fun h => by simp at h⟩⟩
      · intro f w1 hb hd
        have d1 : f 1 = (.slice va an vc) := hd 1 (by kernel_rfl)
        clear hd
        dsimp only
        rw [d1]
        go_wp2_with fail
        refine (HMa.out w1 (bstep HB.out hb)).mono ?_
        rintro e w9 ⟨⟨ma, mn, mc, mL, rfl, hmr, hmg⟩, hb9⟩
        have hm8 : mn ≤ 8 := by rw [← hmr.len]; exact (made_len ac hmg).2.2
        go_wp2_with fail
        exact ⟨rfl, hb9, fun t ht => by injection ht with ht; subst ht; exact ⟨⟨ma, mn, mc, mL, rfl, hmr, hmg, hm8⟩, fun h => by simp at h⟩⟩
      · intro f w1 hb hd
        have d0 : f 0 = (sloV i l r a n c) := hd 0 (by kernel_rfl)
        obtain ⟨a2, n2, c2, L2, d2, r2, g2, m2⟩ := show ∃ a n c L, f 2 = sloV (madeS ac).id (madeS ac).lim (madeS ac).ro a n c ∧ RdG w1 (.slice a n c) L ∧ gns L = (madeS ac).gens ∧ n ≤ 8 from hd 2 (by kernel_rfl)
        clear hd
        dsimp only
        rw [d0]
        rw [d2]
        have hbn := (Below.refl w1.heap.size w1).alloc (Nat.le_refl _) (.cells #[.int .i64 i, .int .i64 l, .bool r, .slice a n c, .int .i64 (madeS ac).id, .int .i64 (madeS ac).lim, .bool (madeS ac).ro, .slice a2 n2 c2] 24)
        have hE := BlkE.new w1 #[.int .i64 i, .int .i64 l, .bool r, .slice a n c, .int .i64 (madeS ac).id, .int .i64 (madeS ac).lim, .bool (madeS ac).ro, .slice a2 n2 c2] 24
        have h1 : SlIn (w1.alloc (.cells #[.int .i64 i, .int .i64 l, .bool r, .slice a n c, .int .i64 (madeS ac).id, .int .i64 (madeS ac).lim, .bool (madeS ac).ro, .slice a2 n2 c2] 24)) w1.heap.size 0 := ⟨i, l, r, a, n, c, L, ⟨hE.cell rfl, hE.cell rfl, hE.cell rfl, hE.cell rfl⟩, (HR0.out.below (bstep HB.out hb)).below hbn, fun p hp j hj => Nat.le_trans (HLy2.out.2 p hp j hj) (by decide), by rw [← HLn.out]; exact HLy2.out.1⟩
        have h2 : SlIn (w1.alloc (.cells #[.int .i64 i, .int .i64 l, .bool r, .slice a n c, .int .i64 (madeS ac).id, .int .i64 (madeS ac).lim, .bool (madeS ac).ro, .slice a2 n2 c2] 24)) w1.heap.size 1 := ⟨(madeS ac).id, (madeS ac).lim, (madeS ac).ro, a2, n2, c2, L2, ⟨hE.cell rfl, hE.cell rfl, hE.cell rfl, hE.cell rfl⟩, r2.below hbn, (made_len ac g2).1, by omega⟩
        have HBn := Lib.hid hbn
        have HT := Lib.hid (And.intro h1 h2)
        clear hbn hE h1 h2
        go_wp2_with fail
        refine ⟨rfl, HBn.out, ?_⟩
        intro t ht
        injection ht with ht
        subst ht
        exact ⟨⟨_, rfl, HT.out.1, HT.out.2⟩, fun h => by simp at h⟩
      · intro f w1 hb hd
        obtain ⟨j3, d3, t3, u3⟩ := show ∃ j, f 3 = .slice (some ⟨j, 0, none⟩) 2 2 ∧ SlIn w1 j 0 ∧ SlIn w1 j 1 from hd 3 (by kernel_rfl)
        clear hd
        dsimp only
        rw [d3]
        go_wp2_with fail
        exact ⟨rfl, Below.refl _ _, fun t ht => by injection ht with ht; subst ht; exact ⟨rfl, fun h => by simp at h⟩⟩
      · intro f w1 hb hd
        clear hd
        dsimp only
        go_wp2_with fail
        exact ⟨rfl, Below.refl _ _, fun t ht => by injection ht with ht; subst ht; exact ⟨rfl, fun h => by simp at h⟩⟩
    · intro f w3 hb hA
      obtain ⟨bR, d3, HT0, HT1⟩ := show ∃ j, f 3 = .slice (some ⟨j, 0, none⟩) 2 2 ∧ SlIn w3 j 0 ∧ SlIn w3 j 1 from hA 3 (show 3 < 6 by decide)
      have d4 : f 4 = .int .i64 2 := hA 4 (show 4 < 6 by decide)
      have d5 : f 5 = .int .i64 0 := hA 5 (show 5 < 6 by decide)
      clear hA
      try dsimp only
      rw [d3, d4, d5]
      clear d3 d4 d5
      generalize f 0 = z0
      generalize f 1 = z1
      generalize f 2 = z2
      clear f
      have HIn := Lib.hid (show ∀ k, k < 2 → SlIn w3 bR k from fun k hk => by
        rcases (show k = 0 ∨ k = 1 by omega) with rfl | rfl
        · exact HT0
        · exact HT1)
      replace HB := Lib.hid (bstep HB.out hb)
      clear hb HT0 HT1 HBx HR0 HLy2 HLn
      clear L
      go_wp2_with fail
      go_loopw [37] (fun jv W => ∃ k : Nat, jv = .int .i64 (k : Int) ∧ k ≤ 2 ∧ Hid (Below w3.heap.size w3 W)) (fun jv _ => 2 - (intOf jv).toNat)
      case atStart => exact ⟨0, rfl, Nat.zero_le _, Lib.hid (Below.refl _ _)⟩
      case round =>
        obtain ⟨k, rfl, hk, HBk⟩ := hrel
        by_cases hlt : k < 2
        · have j1 : (k : Int) < 2 := by omega
          obtain ⟨xi, xl, xr, xa, xn, xc, X, hSA, hXr, hXl, hxn⟩ := (HIn.out k hlt).below HBk.out
          have HXr := Lib.hid hXr
          have HXl := Lib.hid (le48 hXl)
          obtain ⟨c0, c1, c2, c3⟩ := hSA
          clear hXr hXl
          go_upto_region 6 with fail
          change Code.wp _ _ _ _ (wr.alloc (.cells (sloC xi xl xr xa xn xc) 24))
          have hbq := below_slo wr xi xl xr xa xn xc 24
          have HS := Lib.hid (BlkE.new wr (sloC xi xl xr xa xn xc) 24)
          replace HXr := Lib.hid (HXr.out.below hbq)
          replace HBk := Lib.hid (bstep HBk.out hbq)
          clear hbq c0 c1 c2 c3
          generalize wr.alloc (.cells (sloC xi xl xr xa xn xc) 24) = v0 at *
          generalize wr.heap.size = bS at *
          have k0 := (BlkE.slo HS.out).c0
          have k1 := (BlkE.slo HS.out).c1
          have k2 := (BlkE.slo HS.out).c2
          have k3 := (BlkE.slo HS.out).c3
          go_wp2_with fail
          refine (sgiven_any xi xl xr xa xn xc X v0 HXr.out (by omega)).mono ?_
          rintro e v1 ⟨⟨ga, gc, rfl, hgr⟩, hb⟩
          have HGr := Lib.hid hgr
          clear k0 k1 k2 k3 hgr
          replace HXr := Lib.hid (HXr.out.below hb)
          replace HS := Lib.hid (HS.out.below hb)
          replace HBk := Lib.hid (bstep HBk.out hb)
          clear hb
          go_upto_region 7 with fail
          change Code.wp _ _ _ _ (v1.alloc (.cells (sloC xi xl xr ga xn gc) 41))
          have hbq := below_slo v1 xi xl xr ga xn gc 41
          have HX := Lib.hid (BlkE.new v1 (sloC xi xl xr ga xn gc) 41)
          replace HXr := Lib.hid (HXr.out.below hbq)
          replace HGr := Lib.hid (HGr.out.below hbq)
          replace HS := Lib.hid (HS.out.below hbq)
          replace HBk := Lib.hid (bstep HBk.out hbq)
          clear hbq
          generalize v1.alloc (.cells (sloC xi xl xr ga xn gc) 41) = v2 at *
          generalize v1.heap.size = bX at *
          have k0 := (BlkE.slo HX.out).c0
          have k1 := (BlkE.slo HX.out).c1
          have k2 := (BlkE.slo HX.out).c2
          have k3 := (BlkE.slo HX.out).c3
          have HTo := Lib.hid (top_any xi xl xr ga xn gc X v2 HGr.out HXl.out)
          have HTr := Lib.hid (fun W (hb : Below v2.heap.size v2 W) => rtop_any xi xl xr xa xn xc X W (HXr.out.below hb) HXl.out)
          generalize topS ⟨xi, xl, xr, gns X⟩ = TT at *
          obtain ⟨er, ⟨tn, tr, tm, tz, ⟨tf, tL, tG⟩⟩⟩ := TT
          go_wp2_with fail
          refine HTo.out.mono ?_
          rintro e v3 ⟨⟨ts, rfl, _⟩, hb⟩
          dsimp only
          clear k0 k1 k2 k3
          have HB23 := Lib.hid hb
          replace HXr := Lib.hid (HXr.out.below hb)
          replace HGr := Lib.hid (HGr.out.below hb)
          replace HS := Lib.hid (HS.out.below hb)
          replace HX := Lib.hid (HX.out.below hb)
          replace HBk := Lib.hid (bstep HBk.out hb)
          clear hb HTo
          go_upto_region 8 with fail
          change Code.wp _ _ _ _ (v3.alloc (.cells (genC tn tr tm tz ts tL tG) 58))
          have hbq := below_gen v3 tn tr tm tz ts tL tG 58
          have HT := Lib.hid (BoxG.new v3 tn tr tm tz ts tL tG 58)
          replace HB23 := Lib.hid (bstep HB23.out hbq)
          replace HXr := Lib.hid (HXr.out.below hbq)
          replace HGr := Lib.hid (HGr.out.below hbq)
          replace HS := Lib.hid (HS.out.below hbq)
          replace HX := Lib.hid (HX.out.below hbq)
          replace HBk := Lib.hid (bstep HBk.out hbq)
          clear hbq
          generalize v3.alloc (.cells (genC tn tr tm tz ts tL tG) 58) = v4 at *
          generalize v3.heap.size = bT at *
          have k0 := (BlkE.slo HS.out).c0
          have k1 := (BlkE.slo HS.out).c1
          have k2 := (BlkE.slo HS.out).c2
          have k3 := (BlkE.slo HS.out).c3
          go_wp2_with fail
          refine (HTr.out v4 HB23.out).mono ?_
          rintro e v5 ⟨⟨us, rfl, _⟩, hb⟩
          dsimp only
          clear k0 k1 k2 k3 HB23 HTr
          replace HXr := Lib.hid (HXr.out.below hb)
          replace HGr := Lib.hid (HGr.out.below hb)
          replace HS := Lib.hid (HS.out.below hb)
          replace HX := Lib.hid (HX.out.below hb)
          replace HT := Lib.hid (HT.out.below hb)
          replace HBk := Lib.hid (bstep HBk.out hb)
          clear hb
          go_upto_region 9 with fail
          change Code.wp _ _ _ _ (v5.alloc (.cells (genC tn tr tm tz us tL tG) 64))
          have hbq := below_gen v5 tn tr tm tz us tL tG 64
          have HU := Lib.hid (BoxG.new v5 tn tr tm tz us tL tG 64)
          replace HXr := Lib.hid (HXr.out.below hbq)
          replace HGr := Lib.hid (HGr.out.below hbq)
          replace HS := Lib.hid (HS.out.below hbq)
          replace HX := Lib.hid (HX.out.below hbq)
          replace HT := Lib.hid (HT.out.below hbq)
          replace HBk := Lib.hid (bstep HBk.out hbq)
          clear hbq
          generalize v5.alloc (.cells (genC tn tr tm tz us tL tG) 64) = v6 at *
          generalize v5.heap.size = bU at *
          have HC1 := Lib.hid (fun W (hb : Below v6.heap.size v6 W) => svalid_any xi xl xr ga xn gc X W (HGr.out.below hb) HXl.out)
          have HC2 := Lib.hid (fun W (hb : Below v6.heap.size v6 W) => rsvalid_any xi xl xr xa xn xc X W (HXr.out.below hb) HXl.out)
          have HC3 := Lib.hid (fun m W (hb : Below v6.heap.size v6 W) => sfits_any xi xl xr ga xn gc X W (HGr.out.below hb) HXl.out m)
          have HC4 := Lib.hid (fun m W (hb : Below v6.heap.size v6 W) => rfits_any xi xl xr xa xn xc X W (HXr.out.below hb) HXl.out m)
          have HC5 := Lib.hid (fun W (hb : Below v6.heap.size v6 W) => canrot_any xi xl xr ga xn gc X W (HGr.out.below hb) HXl.out)
          have HC6 := Lib.hid (fun W (hb : Below v6.heap.size v6 W) => rcanrot_any xi xl xr xa xn xc X W (HXr.out.below hb) HXl.out)
          generalize vldSl ⟨xi, xl, xr, gns X⟩ = bv at *
          generalize canS ⟨xi, xl, xr, gns X⟩ = bc at *
          generalize hfb : fitsS ⟨xi, xl, xr, gns X⟩ = bf at *
          have HCf := HC3
          have HCg := HC4
          replace HC3 := Lib.hid (HC3.out nn)
          replace HC4 := Lib.hid (HC4.out nn)
          generalize bf nn = bn at *
          clear hfb
          have xv := bne_self bv
          have xc := bne_self bc
          have xf := bne_self bn
          have HQk : Hid (Below v6.heap.size v6 v6) := Lib.hid (Below.refl _ _)
          have k0 := cell_by (BlkE.slo HS.out).c0
          have x0 := cell_by (BlkE.slo HX.out).c0
          have k1 := cell_by (BlkE.slo HS.out).c1
          have x1 := cell_by (BlkE.slo HX.out).c1
          have k2 := cell_by (BlkE.slo HS.out).c2
          have x2 := cell_by (BlkE.slo HX.out).c2
          have k3 := cell_by (BlkE.slo HS.out).c3
          have x3 := cell_by (BlkE.slo HX.out).c3
          have t0 := cell_by HT.out.n0
          have t2 := cell_by HT.out.n2
          have t3 := cell_by HT.out.n3
          have u0 := cell_by HU.out.n0
          have u2 := cell_by HU.out.n2
          have u3 := cell_by HU.out.n3
          go_cut [103] (fun rv wx => rv = .bool false ∧ Hid (Below v6.heap.size v6 wx))
          case first =>
            by_cases he : er = 0
            · subst he
              refine wp_region_below (by kernel_rfl) (by kernel_rfl) ?_
              repeat (go_big_quiet_step (first | (with_reducible exact calls_by (HC1.out _ (BelowBy.h _))) | (with_reducible exact calls_by (HC2.out _ (BelowBy.h _))) | (with_reducible exact calls_by (HC3.out _ (BelowBy.h _))) | (with_reducible exact calls_by (HC4.out _ (BelowBy.h _))) | (with_reducible exact calls_by (HC5.out _ (BelowBy.h _))) | (with_reducible exact calls_by (HC6.out _ (BelowBy.h _)))))
              refine wpQuiet_nil ?_
              intro _ hw'
              obtain ⟨q, hw'⟩ := hw'
              subst hw'
              have HQ := Lib.hid q.h
              generalize q.w' = v7 at *
              clear q
              go_wp2_with fail
              go_meet
              case rel => exact ⟨rfl, HQ⟩
            · have hez : (er == 0) = false := beq_eq_false_iff_ne.2 he
              refine wp_region_below (by kernel_rfl) (by kernel_rfl) ?_
              repeat (go_big_quiet_step (first | (with_reducible exact calls_by (HC1.out _ (BelowBy.h _))) | (with_reducible exact calls_by (HC2.out _ (BelowBy.h _))) | (with_reducible exact calls_by (HC3.out _ (BelowBy.h _))) | (with_reducible exact calls_by (HC4.out _ (BelowBy.h _))) | (with_reducible exact calls_by (HC5.out _ (BelowBy.h _))) | (with_reducible exact calls_by (HC6.out _ (BelowBy.h _)))))
              refine wpQuiet_nil ?_
              intro _ hw'
              obtain ⟨q, hw'⟩ := hw'
              subst hw'
              have HQ := Lib.hid q.h
              generalize q.w' = v7 at *
              clear q
              go_wp2_with fail
              go_meet
              case rel => exact ⟨rfl, HQ⟩
          case rest =>
            obtain ⟨rfl, HQ⟩ := hcut
            generalize wc = v7 at *
            replace HS := Lib.hid (HS.out.below HQ.out)
            replace HX := Lib.hid (HX.out.below HQ.out)
            replace HBk := Lib.hid (bstep HBk.out HQ.out)
            clear k0 k1 k2 k3 x0 x1 x2 x3 t0 t2 t3 u0 u2 u3 xv xc xf HC1 HC2 HC3 HC4 HC5 HC6 HT HU HXr HGr HQk
            go_wp2_with fail
            go_loopw [20] (fun mv W => ∃ m : Nat, mv = .int .i64 (m : Int) ∧ m ≤ 3 ∧ Hid (Below v7.heap.size v7 W)) (fun mv _ => 3 - (intOf mv).toNat)
            case atStart => exact ⟨0, rfl, Nat.zero_le _, Lib.hid (Below.refl _ _)⟩
            case round =>
              obtain ⟨m, rfl, hm, HBm⟩ := hrel
              by_cases hltm : m < 3
              · have m1 : (m : Int) < 3 := by omega
                replace HC3 := Lib.hid (fun W (hb : Below wr.heap.size wr W) => HCf.out (4088 + (m : Int) * 7) W (bstep (bstep HQ.out HBm.out) hb))
                replace HC4 := Lib.hid (fun W (hb : Below wr.heap.size wr W) => HCg.out (4088 + (m : Int) * 7) W (bstep (bstep HQ.out HBm.out) hb))
                replace HS := Lib.hid (HS.out.below HBm.out)
                replace HX := Lib.hid (HX.out.below HBm.out)
                go_upto_region 15 with fail
                generalize bf (4088 + (m : Int) * 7) = bn at *
                have xf := bne_self bn
                have k0 := cell_by (BlkE.slo HS.out).c0
                have x0 := cell_by (BlkE.slo HX.out).c0
                have k1 := cell_by (BlkE.slo HS.out).c1
                have x1 := cell_by (BlkE.slo HX.out).c1
                have k2 := cell_by (BlkE.slo HS.out).c2
                have x2 := cell_by (BlkE.slo HX.out).c2
                have k3 := cell_by (BlkE.slo HS.out).c3
                have x3 := cell_by (BlkE.slo HX.out).c3
                refine wp_region_below (by kernel_rfl) (by kernel_rfl) ?_
                repeat (go_big_quiet_step (first | (with_reducible exact calls_by (HC3.out _ (BelowBy.h _))) | (with_reducible exact calls_by (HC4.out _ (BelowBy.h _)))))
                refine wpQuiet_nil ?_
                intro _ hw'
                obtain ⟨q, hw'⟩ := hw'
                subst hw'
                replace HBm := Lib.hid (bstep HBm.out q.h)
                clear k0 k1 k2 k3 x0 x1 x2 x3 xf HC3 HC4
                generalize q.w' = v8 at *
                clear q
                go_wp2_with fail
                exact ⟨⟨m + 1, by go_num, by omega, HBm⟩, by simp [intOf]; omega⟩
              · have m1 : ¬ (m : Int) < 3 := by omega
                replace HBk := Lib.hid (bstep HBk.out HBm.out)
                clear HBm HS HX HCf HCg HQ
                go_wp2_with fail
                exact ⟨⟨k + 1, by go_num, by omega, HBk⟩, by simp [intOf]; omega⟩
        · have j1 : ¬ (k : Int) < 2 := by omega
          clear HIn
          replace HB := Lib.hid (bstep HB.out HBk.out)
          clear HBk
          have hbq := (Below.refl wr.heap.size wr).alloc (Nat.le_refl _) (.cells #[.int .i64 limit, .int .i64 4136, .int .i64 4140, .int .i64 8000, .int .i64 262144, .int .i64 262145] 2)
          have hE6 := BlkE.new wr #[.int .i64 limit, .int .i64 4136, .int .i64 4140, .int .i64 8000, .int .i64 262144, .int .i64 262145] 2
          have HL6 := Lib.hid (show ∀ q, q < 6 → ∃ z : Int, (wr.alloc (.cells #[.int .i64 limit, .int .i64 4136, .int .i64 4140, .int .i64 8000, .int .i64 262144, .int .i64 262145] 2)).cell? ⟨wr.heap.size, q, none⟩ = some (.int .i64 z) from fun q hq => by
            rcases (show q = 0 ∨ q = 1 ∨ q = 2 ∨ q = 3 ∨ q = 4 ∨ q = 5 by omega) with rfl | rfl | rfl | rfl | rfl | rfl <;> exact ⟨_, hE6.cell rfl⟩)
          replace HB := Lib.hid (bstep HB.out hbq)
          clear hbq hE6
          go_wp2_with fail
          change Code.wp _ _ _ _ (wr.alloc (.cells #[.int .i64 limit, .int .i64 4136, .int .i64 4140, .int .i64 8000, .int .i64 262144, .int .i64 262145] 2))
          generalize wr.alloc (.cells #[.int .i64 limit, .int .i64 4136, .int .i64 4140, .int .i64 8000, .int .i64 262144, .int .i64 262145] 2) = w4 at *
          generalize wr.heap.size = b6 at *
          go_loopw [122] (fun qv W => ∃ q : Nat, qv = .int .i64 (q : Int) ∧ q ≤ 6 ∧ Hid (Below w4.heap.size w4 W)) (fun qv _ => 6 - (intOf qv).toNat)
          case atStart => exact ⟨0, rfl, Nat.zero_le _, Lib.hid (Below.refl _ _)⟩
          case round =>
            obtain ⟨q, rfl, hq, HBq⟩ := hrel
            by_cases hltq : q < 6
            · have i6 : (q : Int) < 6 := by omega
              have hcell := HL6.out q hltq
              obtain ⟨lz, hcell⟩ := hcell
              have e0 := Below.keeps HBq.out _ _ hcell
              clear hcell
              have HN1 := Lib.hid (fun W => snew_any id lz W)
              have HN2 := Lib.hid (fun W => rnew_any id lz W)
              have hpg1 := newS_len id lz
              generalize newS id lz = NS at *
              obtain ⟨⟨pi, pl, pr, pg⟩, fe⟩ := NS
              dsimp only at hpg1
              go_wp2_with fail
              refine (HN1.out _).mono ?_
              rintro e u1 ⟨⟨aa, am, acp, AL, rfl, hr9, hg9⟩, hb⟩
              dsimp only at hg9 ⊢
              have HAr := Lib.hid hr9
              have HAg := Lib.hid hg9
              clear hr9 hg9
              replace HBq := Lib.hid (bstep HBq.out hb)
              clear hb e0
              go_upto_region 22 with fail
              change Code.wp _ _ _ _ (u1.alloc (.cells (sloC pi pl pr aa am acp) 41))
              have hbq := below_slo u1 pi pl pr aa am acp 41
              have HA9 := Lib.hid (BlkE.new u1 (sloC pi pl pr aa am acp) 41)
              replace HAr := Lib.hid (HAr.out.below hbq)
              replace HBq := Lib.hid (bstep HBq.out hbq)
              clear hbq
              generalize u1.alloc (.cells (sloC pi pl pr aa am acp) 41) = u2 at *
              generalize u1.heap.size = bHA9 at *
              go_wp2_with fail
              refine (HN2.out _).mono ?_
              rintro e u3 ⟨⟨ba, bm, bc, BL, rfl, hr9, hg9⟩, hb⟩
              dsimp only at hg9 ⊢
              have HBr := Lib.hid hr9
              have HBg := Lib.hid hg9
              clear hr9 hg9
              replace HBq := Lib.hid (bstep HBq.out hb)
              replace HA9 := Lib.hid (HA9.out.below hb)
              replace HAr := Lib.hid (HAr.out.below hb)
              clear hb
              go_upto_region 23 with fail
              change Code.wp _ _ _ _ (u3.alloc (.cells (sloC pi pl pr ba bm bc) 24))
              have hbq := below_slo u3 pi pl pr ba bm bc 24
              have HB9 := Lib.hid (BlkE.new u3 (sloC pi pl pr ba bm bc) 24)
              replace HBr := Lib.hid (HBr.out.below hbq)
              replace HBq := Lib.hid (bstep HBq.out hbq)
              replace HA9 := Lib.hid (HA9.out.below hbq)
              replace HAr := Lib.hid (HAr.out.below hbq)
              clear hbq
              generalize u3.alloc (.cells (sloC pi pl pr ba bm bc) 24) = u4 at *
              generalize u3.heap.size = bHB9 at *
              have HGG := Lib.hid (show gns AL = gns BL from HAg.out.trans HBg.out.symm)
              have HAl := Lib.hid HAr.out.len
              have ham : am ≤ 1000000 := by
                have h1 := congrArg List.length HAg.out
                rw [gns_len, HAl.out] at h1
                omega
              clear HAg HBg HN1 HN2 hpg1
              refine wp_region_relz [eqS (.int .i64 fe), eqS (.int .i64 fe), eqS (.bool false), eqS (.bool false), eqS (sloV pi pl pr aa am acp), slN pi pl pr AL, eqS (sloV pi pl pr ba bm bc), eqS (.bool true), eqS (.bool false), eqS (.bool false)] 172 (by kernel_rfl) (by kernel_rfl) (by kernel_rfl) (by rfl) (by kernel_rfl) (fun f => by simp [frm, dstOf, Act.put]; exact rfl) ?_ ?_
              · refine ⟨?_, ?_, ?_, ?_, ?_, ?_, ?_, ?_, ?_, ?_, trivial⟩
                · intro f w1 hb hd
                  clear hd
                  dsimp only
                  go_wp2_with fail
                  exact ⟨rfl, Below.refl _ _, fun t ht => by injection ht with ht; subst ht; exact ⟨rfl, fun h => by simp at h⟩⟩
                · intro f w1 hb hd
                  clear hd
                  dsimp only
                  go_wp2_with fail
                  exact ⟨rfl, Below.refl _ _, fun t ht => by injection ht with ht; subst ht; exact ⟨rfl, fun h => by simp at h⟩⟩
                · intro f w1 hb hd
                  have d0 : f 0 = (.int .i64 fe) := hd 0 (by kernel_rfl)
                  have d1 : f 1 = (.int .i64 fe) := hd 1 (by kernel_rfl)
                  clear hd
                  dsimp only
                  rw [d0]
                  rw [d1]
                  go_wp2_with fail
                  exact ⟨rfl, Below.refl _ _, fun t ht => by injection ht with ht; subst ht; exact ⟨rfl, fun h => by simp at h⟩⟩
                · intro f w1 hb hd
                  have d2 : f 2 = (.bool false) := hd 2 (by kernel_rfl)
                  clear hd
                  dsimp only
                  rw [d2]
                  go_wp2_with fail
                  exact ⟨rfl, Below.refl _ _, fun t ht => by injection ht with ht; subst ht; exact ⟨rfl, fun h => by simp at h⟩⟩
                · intro f w1 hb hd
                  have d3 : f 3 = (.bool false) := hd 3 (by kernel_rfl)
                  clear hd
                  dsimp only
                  rw [d3]
                  have q0 := (BlkE.slo (BlkE.below HA9.out hb)).c0
                  have q1 := (BlkE.slo (BlkE.below HA9.out hb)).c1
                  have q2 := (BlkE.slo (BlkE.below HA9.out hb)).c2
                  have q3 := (BlkE.slo (BlkE.below HA9.out hb)).c3
                  go_wp2_with fail
                  exact ⟨rfl, Below.refl _ _, fun t ht => by injection ht with ht; subst ht; exact ⟨rfl, fun h => by simp at h⟩⟩
                · intro f w1 hb hd
                  have d3 : f 3 = (.bool false) := hd 3 (by kernel_rfl)
                  have d4 : f 4 = (sloV pi pl pr aa am acp) := hd 4 (by kernel_rfl)
                  clear hd
                  dsimp only
                  rw [d3]
                  rw [d4]
                  go_wp2_with fail
                  refine (stold_any pi pl pr aa am acp AL w1 (HAr.out.below hb) ham).mono ?_
                  rintro e w9 ⟨⟨ta, tc, rfl, htr⟩, hb9⟩
                  obtain rfl : AL.length = am := HAl.out
                  go_wp2_with fail
                  exact ⟨rfl, hb9, fun t ht => by injection ht with ht; subst ht; exact ⟨⟨ta, tc, rfl, htr⟩, fun h => by simp at h⟩⟩
                · intro f w1 hb hd
                  have d3 : f 3 = (.bool false) := hd 3 (by kernel_rfl)
                  clear hd
                  dsimp only
                  rw [d3]
                  have q0 := (BlkE.slo (BlkE.below HB9.out hb)).c0
                  have q1 := (BlkE.slo (BlkE.below HB9.out hb)).c1
                  have q2 := (BlkE.slo (BlkE.below HB9.out hb)).c2
                  have q3 := (BlkE.slo (BlkE.below HB9.out hb)).c3
                  go_wp2_with fail
                  exact ⟨rfl, Below.refl _ _, fun t ht => by injection ht with ht; subst ht; exact ⟨rfl, fun h => by simp at h⟩⟩
                · intro f w1 hb hd
                  have d3 : f 3 = (.bool false) := hd 3 (by kernel_rfl)
                  obtain ⟨a5, c5, d5, r5⟩ := show ∃ a c, f 5 = sloV pi pl pr a AL.length c ∧ RdG w1 (.slice a AL.length c) AL from hd 5 (by kernel_rfl)
                  have d6 : f 6 = (sloV pi pl pr ba bm bc) := hd 6 (by kernel_rfl)
                  clear hd
                  dsimp only
                  rw [d3]
                  rw [d5]
                  rw [d6]
                  go_wp2_with fail
                  refine (ssame_any pi pl pr a5 ba AL.length bm c5 bc AL BL w1 r5 (HBr.out.below hb) HGG.out (by rw [HAl.out]; exact ham)).mono ?_
                  rintro e w9 ⟨rfl, hb9⟩
                  go_wp2_with fail
                  exact ⟨rfl, hb9, fun t ht => by injection ht with ht; subst ht; exact ⟨rfl, fun h => by simp at h⟩⟩
                · intro f w1 hb hd
                  have d3 : f 3 = (.bool false) := hd 3 (by kernel_rfl)
                  have d7 : f 7 = (.bool true) := hd 7 (by kernel_rfl)
                  clear hd
                  dsimp only
                  rw [d3]
                  rw [d7]
                  go_wp2_with fail
                  exact ⟨rfl, Below.refl _ _, fun t ht => by injection ht with ht; subst ht; exact ⟨rfl, fun h => by simp at h⟩⟩
                · intro f w1 hb hd
                  have d3 : f 3 = (.bool false) := hd 3 (by kernel_rfl)
                  have d8 : f 8 = (.bool false) := hd 8 (by kernel_rfl)
                  clear hd
                  dsimp only
                  rw [d3]
                  rw [d8]
                  go_wp2_with fail
                  exact ⟨rfl, Below.refl _ _, fun t ht => by injection ht with ht; subst ht; exact ⟨rfl, fun h => by simp at h⟩⟩
              · intro f w5 hb hA
                have d3 : f 3 = .bool false := hA 3 (show 3 < 10 by decide)
                have d9 : f 9 = .bool false := hA 9 (show 9 < 10 by decide)
                clear hA
                try dsimp only
                rw [d9]
                clear d3 d9
                generalize f 0 = z0
                generalize f 1 = z1
                generalize f 2 = z2
                generalize f 3 = z3
                generalize f 4 = z4
                generalize f 5 = z5
                generalize f 6 = z6
                generalize f 7 = z7
                generalize f 8 = z8
                clear f
                replace HBq := Lib.hid (bstep HBq.out hb)
                clear hb HA9 HB9 HAr HBr HAl HGG
                go_wp2_with fail
                exact ⟨⟨q + 1, by go_num, by omega, HBq⟩, by simp [intOf]; omega⟩
            · have i6 : ¬ (q : Int) < 6 := by omega
              replace HB := Lib.hid (bstep HB.out HBq.out)
              clear HBq HL6
              have HRt := Lib.hid (fun W => route_all key nn W hn2)
              have HRr := Lib.hid (fun W => rroute_all key nn W hn2)
              have HR4 := Lib.hid (fun W => route_all key 4 W (by decide))
              have HRq := Lib.hid (fun W => rroute_all key 4 W (by decide))
              have HMv := Lib.hid (show vldSl (madeS ac) = true from (vldSl_iff _).2 (madeS_inv ac).v)
              generalize routeI key nn = r1 at *
              generalize routeI key 4 = r2 at *
              go_wp2_with fail
              refine (HRt.out _).mono ?_
              rintro e x1 ⟨rfl, rfl⟩
              go_wp2_with fail
              refine (HRr.out _).mono ?_
              rintro e x1 ⟨rfl, rfl⟩
              go_wp2_with fail
              refine (HR4.out _).mono ?_
              rintro e x1 ⟨rfl, rfl⟩
              go_wp2_with fail
              refine (HRq.out _).mono ?_
              rintro e x1 ⟨rfl, rfl⟩
              go_wp2_with fail
              refine (HMa.out _ HB.out).mono ?_
              rintro e x1 ⟨⟨ma, mn, mc, mL, rfl, hmr, hmg⟩, hb⟩
              have hm8 : mn ≤ 8 := by rw [← hmr.len]; exact (made_len ac hmg).2.2
              have HMr := Lib.hid hmr
              have HMg := Lib.hid hmg
              have HMl := Lib.hid (le48 (made_len ac hmg).1)
              replace HB := Lib.hid (bstep HB.out hb)
              clear hb hmr hmg
              go_wp2_with fail
              refine (sgiven_any _ _ _ ma mn mc mL x1 HMr.out (by omega)).mono ?_
              rintro e x2 ⟨⟨ga, gc, rfl, hgr⟩, hb⟩
              have HGr := Lib.hid hgr
              replace HB := Lib.hid (bstep HB.out hb)
              clear hb hgr HMr
              have HVa := Lib.hid (svalid_any (madeS ac).id (madeS ac).lim (madeS ac).ro ga mn gc mL x2 HGr.out HMl.out)
              have hms : (⟨(madeS ac).id, (madeS ac).lim, (madeS ac).ro, gns mL⟩ : Slt) = madeS ac := by rw [HMg.out]
              rw [hms, HMv.out] at HVa
              clear hms HMv HMg HMl HGr HMa
              go_wp2_with fail
              refine HVa.out.mono ?_
              rintro e x3 ⟨rfl, hb⟩
              replace HB := Lib.hid (bstep HB.out hb)
              clear hb
              go_wp2_with fail
              refine (HAw.out _).mono ?_
              rintro e x4 ⟨rfl, hb⟩
              have HBz := Lib.hid (bstep HB.out hb)
              go_wp2_with fail
              go_ret
              exact ⟨rfl, HBz.out⟩
end Go.Proofs.YtibddmnfplmonaaGreat

namespace Go.Proofs.YtibddmnfplmonaaGreat
open Go.RowKit

theorem svalid_open (q : SlQ) (a : Option Addr) (n cap : Nat) (key nn id limit : Int) (w : World)
    (h0 : RdG w (.slice q.a q.n q.c) q.L ∧ ∀ x ∈ q.L, GnWf x.1) (h1 : ∃ l : List AcP, RdA w (.slice a n cap) l) (_hk : (Lit.int .u64 key).wf = true) (hn : (Lit.int .i64 nn).wf = true) (_hi : (Lit.int .i64 id).wf = true) (_hl : (Lit.int .i64 limit).wf = true) :
    Calls Tryz.prog 4 #[.agg (sloC q.id q.lim q.ro q.a q.n q.c), .slice a n cap, .int .u64 key, .int .i64 nn, .int .i64 id, .int .i64 limit] w fun e w' => e = .returned (.bool true) ∧ Below w.heap.size w w' := by
  obtain ⟨l, hl⟩ := h1
  exact svalid_law q.id q.lim q.ro q.a q.n q.c q.L _ l key nn id limit w h0.1 hl (bounds_of_i64 hn).2
end Go.Proofs.YtibddmnfplmonaaGreat
