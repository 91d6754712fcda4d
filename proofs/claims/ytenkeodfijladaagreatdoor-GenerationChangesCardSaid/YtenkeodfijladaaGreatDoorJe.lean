/- GenerationChanges: the walk over its regions (XJd). Printed by genJe.py. -/
import Derived.Test.YtenkeodfijladaaGreatDoorJd
namespace Go.Proofs.YtenkeodfijladaaGreatDoor
open Go.RowKit

theorem cell_lit (w : World) (cs : Array Value) (t : TypeId) (c : Nat) (u : Value) (h : cs[c]? = some u) : (w.alloc (.cells cs t)).cell? ⟨w.heap.size, c, none⟩ = some u := by
  have := heap_alloc_new w (.cells cs t)
  simp only [World.cell?]
  rw [this]
  simpa using h
/-- An element of a slice of generations. -/
def EltG (W : World) (b k : Nat) (n r md z : Int) (s : Sl) (L G : Int) : Prop := ∀ c u, (genC n r md z s L G)[c]? = some u → W.cell? ⟨b, k + c, none⟩ = some u
theorem EltG.below {W W' : World} {b k : Nat} {n r md z : Int} {s : Sl} {L G : Int} (h : EltG W b k n r md z s L G) (hb : Below W.heap.size W W') : EltG W' b k n r md z s L G := fun c u hu => Below.keeps hb _ _ (h c u hu)
theorem GOwn.grd {w0 : World} {p : Int × Gn} {e : Ending} {w' : World} (h : GOwn w0 p e w') : GRd w0 p.1 p.2.num p.2.rev p.2.mode p.2.size p.2.m.st p.2.m.live p.2.m.garb e w' := ⟨h.1.imp fun _ h => ⟨h.1, h.2.rd⟩, h.2⟩
theorem GOO.grd {w0 : World} {s : Sl} {f : Nat → List It} {p : Int × Gn} {e : Ending} {w' : World} (h : GOO w0 s f p e w') (hr : RdM w0 s f) : GRd w0 p.1 p.2.num p.2.rev p.2.mode p.2.size p.2.m.st p.2.m.live p.2.m.garb e w' := ⟨h.1.imp fun _ h' => ⟨h'.1, h'.2.rd hr h.2⟩, h.2⟩
set_option maxRecDepth 100000 in
set_option maxHeartbeats 64000000 in
theorem changes_walk12 (q : Sl × Gn) (v vm vk : Value) (ns ms : List (Nd × Value)) (ks : List Int) (mode rev size : Int) (w : World) (h0 : RdM w q.1 q.2.m.st) (h : RdN w v ns) (hwf : ∀ p ∈ ns, p.1.Wf) (hm : RdN w vm ms) (hmwf : ∀ p ∈ ms, p.1.Wf) (hk : RdU w vk ks) :
    Calls Tryz.prog 3 #[genV q.2.num q.2.rev q.2.mode q.2.size q.1 q.2.m.live q.2.m.garb, v, vm, .int .i64 mode, vk, .int .i64 rev, .int .i64 size] w fun e w' => e = .returned (.bool true) ∧ Below w.heap.size w w' := by
  obtain ⟨sR, gR⟩ := q
  dsimp only at *
  have HLi := Lib.hid (fun W hb => glight_any gR.num gR.rev gR.mode gR.size sR gR.m.live gR.m.garb gR.m.st W (h0.below hb))
  have HLq := Lib.hid (fun h => lightG_iff (f := gR.m.st) h)
  have HMa := Lib.hid (fun W (hb : Below w.heap.size w W) => made_any v ns mode W (h.below hb) hwf)
  have HMo := Lib.hid (fun W (hb : Below w.heap.size w W) => made_any vm ms 0 W (hm.below hb) hmwf)
  have HAl := Lib.hid (show ∀ i, i < 8 → ((madeG (ns.map (·.1)) mode).m.st i).length ≤ 10 from fun i hi => madeM_len _ _ _ i hi)
  have HOl := Lib.hid (show ∀ i, i < 8 → ((madeG (ms.map (·.1)) 0).m.st i).length ≤ 10 from fun i hi => madeM_len _ _ _ i hi)
  have HSm := Lib.hid (fun W (hb : Below w.heap.size w W) => (gsmall_any vm ms W (hm.below hb) hmwf).mono fun e w' hq => SmRes.nd hq (hm.below hb))
  have HMn := Lib.hid hm
  have HKs := Lib.hid hk
  have HSl := Lib.hid (smL_len (ms.map (·.1)))
  have HSd := Lib.hid (smL_dlen (ms.map (·.1)))
  obtain ⟨va, vc, rfl, hv1, hv2⟩ := h.shape
  obtain ⟨ma, mc, rfl, hm1, hm2⟩ := hm.shape
  obtain ⟨ka, kc, rfl, hk1, hk2, _⟩ := hk.shape 0
  clear h hwf hm hmwf hk
  have HMem := Lib.hid (show (∀ j, j < ms.length → (nat' ms j).1.data.length ≤ 5000) → ∀ p ∈ ms, p.1.data.length ≤ 1000000 from fun hh p hp => by
    obtain ⟨j, hj, rfl⟩ := List.getElem_of_mem hp
    have := hh j hj
    unfold nat' at this
    rw [List.getD_eq_getElem?_getD, List.getElem?_eq_getElem hj] at this
    exact Nat.le_trans this (by decide))
  generalize madeG (ns.map (·.1)) mode = gA at *
  generalize madeG (ms.map (·.1)) 0 = gO at *
  generalize smL (ms.map (·.1)) = SN at *
  generalize ns.length = n at *
  generalize hmn : ms.length = mn at *
  have Hmn := Lib.hid hmn
  clear hmn
  generalize hkn : ks.length = kn at *
  have Hkn := Lib.hid hkn
  clear hkn
  have HGi := Lib.hid (fun a b c d s L G W => ggiven_any a b c d s L G W)
  have HTo := Lib.hid (fun a b c d s L G W => gtold_any a b c d s L G W)
  have HSa := Lib.hid (fun (g : Gn) s t W h1 h2 => gsame_any g s t W h1 h2)
  have HAw := Lib.hid (fun W => gawake_any W)
  have HR := Lib.hid h0
  clear h0
  obtain ⟨an, ar, am, az, ⟨af, aL, aG⟩⟩ := gA
  obtain ⟨rn, rr, rm, rz, ⟨rf, rL, rG⟩⟩ := gR
  obtain ⟨on_, or_, om, oz, ⟨of_, oL, oG⟩⟩ := gO
  dsimp only at *
  obtain ⟨W0, hW0⟩ : ∃ W0, w.alloc (.cells (genC rn rr rm rz sR rL rG) 27) = W0 := ⟨_, rfl⟩
  have X5 := Lib.hid (show BoxG W0 w.heap.size rn rr rm rz sR rL rG from hW0 ▸ BoxG.new w rn rr rm rz sR rL rG 27)
  have HB := Lib.hid (show Below w.heap.size w W0 from hW0 ▸ below_gen w rn rr rm rz sR rL rG 27)
  go_enter Tryz.func3, Tryz.ntmps3
  go_upto_region 1 with fail
  clear hW0
  have x0 := X5.out.n0
  have x1 := X5.out.n1
  have x2 := X5.out.n2
  have x3 := X5.out.n3
  have x4 := X5.out.c0
  have x5 := X5.out.c1
  have x6 := X5.out.c2
  have x7 := X5.out.c3
  have x8 := X5.out.c4
  have x9 := X5.out.c5
  have x10 := X5.out.c6
  have x11 := X5.out.c7
  have x12 := X5.out.cl
  have x13 := X5.out.cg
  go_wp2_with fail
  refine (HLi.out W0 HB.out).mono ?_
  rintro e w1 ⟨rfl, hb⟩
  clear x0 x1 x2 x3 x4 x5 x6 x7 x8 x9 x10 x11 x12 x13
  replace HB := Lib.hid (bstep HB.out hb)
  replace X5 := Lib.hid (X5.out.below hb)
  clear hb HLi
  generalize hli : lightG rf = lb at *
  cases lb
  · clear hli
    go_wp2_with fail
    refine (HAw.out _).mono ?_
    rintro e w2 ⟨rfl, hb⟩
    have HBz := Lib.hid (bstep HB.out hb)
    go_wp2_with fail
    go_ret
    exact ⟨rfl, HBz.out⟩
  · have hrl := HLq.out rfl
    clear hli HLq
    by_cases hk30 : kn ≤ 30
    · have k1 : ¬ (30 : Int) < (kn : Int) := by omega
      by_cases hm20 : mn ≤ 20
      · have k2 : ¬ (20 : Int) < (mn : Int) := by omega
        go_wp2_with fail
        go_loop [48] (fun iv => ∃ i : Nat, iv = .int .i64 (i : Int) ∧ i ≤ mn ∧ Hid (∀ j, j < i → (nat' ms j).1.data.length ≤ 5000)) (fun iv => mn - (intOf iv).toNat)
        case atStart => exact ⟨0, rfl, Nat.zero_le _, Lib.hid (fun j hj => by omega)⟩
        case round =>
          obtain ⟨i, rfl, hi, HD⟩ := hrel
          by_cases hlt : i < mn
          · have i1 : (i : Int) < (mn : Int) := by omega
            obtain ⟨b, off, rfl, hd, c0, c1, c2, c3⟩ := (HMn.out.below HB.out).at hlt
            obtain ⟨xa, xc, hxv, hx1, hx2⟩ := hd.shape0
            rw [hxv] at c3
            clear hd hxv
            have HDs := Lib.hid (show (nat' ms i).1.data.length ≤ 5000 → ∀ j, j < i + 1 → (nat' ms j).1.data.length ≤ 5000 from fun h j hj => by
              by_cases e : j = i
              · rw [e]; exact h
              · exact HD.out j (by omega))
            generalize (nat' ms i).1.data.length = xm at *
            by_cases hx5 : xm ≤ 5000
            · have x5 : ¬ (5000 : Int) < (xm : Int) := by omega
              have HDn := Lib.hid (HDs.out hx5)
              clear HDs
              go_wp2_with fail
              exact ⟨⟨i + 1, by go_num, by omega, HDn⟩, by simp [intOf]; omega⟩
            · have x5 : (5000 : Int) < (xm : Int) := by omega
              go_wp2_with fail
              refine (HAw.out _).mono ?_
              rintro e w2 ⟨rfl, hb⟩
              have HBz := Lib.hid (bstep HB.out hb)
              go_wp2_with fail
              go_ret
              exact ⟨rfl, HBz.out⟩
          · have i1 : ¬ (i : Int) < (mn : Int) := by omega
            have hin : i = mn := by omega
            have HDm := Lib.hid (HMem.out (hin ▸ HD.out))
            rw [hin]
            clear hin hi HD HMem hlt i1 i
            go_wp2_with fail
            refine (HMa.out w1 HB.out).mono ?_
            rintro e w2 ⟨⟨sA, rfl, ho⟩, hb⟩
            dsimp only
            replace HB := Lib.hid (bstep HB.out hb)
            replace X5 := Lib.hid (X5.out.below hb)
            have RA := Lib.hid ho.rd
            clear ho hb HMa
            go_upto_region 10 with fail
            change Code.wp _ _ _ _ (w2.alloc (.cells (genC an ar am az sA aL aG) 27))
            have hbq := below_gen w2 an ar am az sA aL aG 27
            replace HB := Lib.hid (bstep HB.out hbq)
            replace X5 := Lib.hid (X5.out.below hbq)
            replace RA := Lib.hid (RA.out.below hbq)
            have X16 := Lib.hid (BoxG.new w2 an ar am az sA aL aG 27)
            clear hbq
            generalize w2.alloc (.cells (genC an ar am az sA aL aG) 27) = w3 at *
            generalize w2.heap.size = b16 at *
            go_wp2_with fail
            refine (HMo.out w3 HB.out).mono ?_
            rintro e w4 ⟨⟨sO, rfl, ho⟩, hb⟩
            dsimp only
            replace HB := Lib.hid (bstep HB.out hb)
            replace X5 := Lib.hid (X5.out.below hb)
            replace RA := Lib.hid (RA.out.below hb)
            replace X16 := Lib.hid (X16.out.below hb)
            have RO := Lib.hid ho.rd
            clear ho hb HMo
            go_upto_region 11 with fail
            change Code.wp _ _ _ _ (w4.alloc (.cells (genC on_ or_ om oz sO oL oG) 27))
            have hbq := below_gen w4 on_ or_ om oz sO oL oG 27
            replace HB := Lib.hid (bstep HB.out hbq)
            replace X5 := Lib.hid (X5.out.below hbq)
            replace RA := Lib.hid (RA.out.below hbq)
            replace X16 := Lib.hid (X16.out.below hbq)
            replace RO := Lib.hid (RO.out.below hbq)
            have X17 := Lib.hid (BoxG.new w4 on_ or_ om oz sO oL oG 27)
            clear hbq
            generalize w4.alloc (.cells (genC on_ or_ om oz sO oL oG) 27) = w5 at *
            generalize w4.heap.size = b17 at *
            have x0 := X5.out.n0
            have x1 := X5.out.n1
            have x2 := X5.out.n2
            have x3 := X5.out.n3
            have x4 := X5.out.c0
            have x5 := X5.out.c1
            have x6 := X5.out.c2
            have x7 := X5.out.c3
            have x8 := X5.out.c4
            have x9 := X5.out.c5
            have x10 := X5.out.c6
            have x11 := X5.out.c7
            have x12 := X5.out.cl
            have x13 := X5.out.cg
            have y0 := X16.out.n0
            have y1 := X16.out.n1
            have y2 := X16.out.n2
            have y3 := X16.out.n3
            have y4 := X16.out.c0
            have y5 := X16.out.c1
            have y6 := X16.out.c2
            have y7 := X16.out.c3
            have y8 := X16.out.c4
            have y9 := X16.out.c5
            have y10 := X16.out.c6
            have y11 := X16.out.c7
            have y12 := X16.out.cl
            have y13 := X16.out.cg
            go_wp2_with fail
            change Code.wp _ _ _ _ (w5.alloc (.cells #[.int .i64 rn, .int .i64 rr, .int .i64 rm, .int .i64 rz, .slice (sR.a 0) (sR.n 0) (sR.c 0), .slice (sR.a 1) (sR.n 1) (sR.c 1), .slice (sR.a 2) (sR.n 2) (sR.c 2), .slice (sR.a 3) (sR.n 3) (sR.c 3), .slice (sR.a 4) (sR.n 4) (sR.c 4), .slice (sR.a 5) (sR.n 5) (sR.c 5), .slice (sR.a 6) (sR.n 6) (sR.c 6), .slice (sR.a 7) (sR.n 7) (sR.c 7), .int .i64 rL, .int .i64 rG, .int .i64 an, .int .i64 ar, .int .i64 am, .int .i64 az, .slice (sA.a 0) (sA.n 0) (sA.c 0), .slice (sA.a 1) (sA.n 1) (sA.c 1), .slice (sA.a 2) (sA.n 2) (sA.c 2), .slice (sA.a 3) (sA.n 3) (sA.c 3), .slice (sA.a 4) (sA.n 4) (sA.c 4), .slice (sA.a 5) (sA.n 5) (sA.c 5), .slice (sA.a 6) (sA.n 6) (sA.c 6), .slice (sA.a 7) (sA.n 7) (sA.c 7), .int .i64 aL, .int .i64 aG] 27))
            have hbq := (Below.refl w5.heap.size w5).alloc (Nat.le_refl _) (.cells #[.int .i64 rn, .int .i64 rr, .int .i64 rm, .int .i64 rz, .slice (sR.a 0) (sR.n 0) (sR.c 0), .slice (sR.a 1) (sR.n 1) (sR.c 1), .slice (sR.a 2) (sR.n 2) (sR.c 2), .slice (sR.a 3) (sR.n 3) (sR.c 3), .slice (sR.a 4) (sR.n 4) (sR.c 4), .slice (sR.a 5) (sR.n 5) (sR.c 5), .slice (sR.a 6) (sR.n 6) (sR.c 6), .slice (sR.a 7) (sR.n 7) (sR.c 7), .int .i64 rL, .int .i64 rG, .int .i64 an, .int .i64 ar, .int .i64 am, .int .i64 az, .slice (sA.a 0) (sA.n 0) (sA.c 0), .slice (sA.a 1) (sA.n 1) (sA.c 1), .slice (sA.a 2) (sA.n 2) (sA.c 2), .slice (sA.a 3) (sA.n 3) (sA.c 3), .slice (sA.a 4) (sA.n 4) (sA.c 4), .slice (sA.a 5) (sA.n 5) (sA.c 5), .slice (sA.a 6) (sA.n 6) (sA.c 6), .slice (sA.a 7) (sA.n 7) (sA.c 7), .int .i64 aL, .int .i64 aG] 27)
            have HAR := Lib.hid (show ∀ j, j < 2 → ∃ (gX : Gn) (sX : Sl), EltG (w5.alloc (.cells #[.int .i64 rn, .int .i64 rr, .int .i64 rm, .int .i64 rz, .slice (sR.a 0) (sR.n 0) (sR.c 0), .slice (sR.a 1) (sR.n 1) (sR.c 1), .slice (sR.a 2) (sR.n 2) (sR.c 2), .slice (sR.a 3) (sR.n 3) (sR.c 3), .slice (sR.a 4) (sR.n 4) (sR.c 4), .slice (sR.a 5) (sR.n 5) (sR.c 5), .slice (sR.a 6) (sR.n 6) (sR.c 6), .slice (sR.a 7) (sR.n 7) (sR.c 7), .int .i64 rL, .int .i64 rG, .int .i64 an, .int .i64 ar, .int .i64 am, .int .i64 az, .slice (sA.a 0) (sA.n 0) (sA.c 0), .slice (sA.a 1) (sA.n 1) (sA.c 1), .slice (sA.a 2) (sA.n 2) (sA.c 2), .slice (sA.a 3) (sA.n 3) (sA.c 3), .slice (sA.a 4) (sA.n 4) (sA.c 4), .slice (sA.a 5) (sA.n 5) (sA.c 5), .slice (sA.a 6) (sA.n 6) (sA.c 6), .slice (sA.a 7) (sA.n 7) (sA.c 7), .int .i64 aL, .int .i64 aG] 27)) w5.heap.size (j * 14) gX.num gX.rev gX.mode gX.size sX gX.m.live gX.m.garb ∧ RdM (w5.alloc (.cells #[.int .i64 rn, .int .i64 rr, .int .i64 rm, .int .i64 rz, .slice (sR.a 0) (sR.n 0) (sR.c 0), .slice (sR.a 1) (sR.n 1) (sR.c 1), .slice (sR.a 2) (sR.n 2) (sR.c 2), .slice (sR.a 3) (sR.n 3) (sR.c 3), .slice (sR.a 4) (sR.n 4) (sR.c 4), .slice (sR.a 5) (sR.n 5) (sR.c 5), .slice (sR.a 6) (sR.n 6) (sR.c 6), .slice (sR.a 7) (sR.n 7) (sR.c 7), .int .i64 rL, .int .i64 rG, .int .i64 an, .int .i64 ar, .int .i64 am, .int .i64 az, .slice (sA.a 0) (sA.n 0) (sA.c 0), .slice (sA.a 1) (sA.n 1) (sA.c 1), .slice (sA.a 2) (sA.n 2) (sA.c 2), .slice (sA.a 3) (sA.n 3) (sA.c 3), .slice (sA.a 4) (sA.n 4) (sA.c 4), .slice (sA.a 5) (sA.n 5) (sA.c 5), .slice (sA.a 6) (sA.n 6) (sA.c 6), .slice (sA.a 7) (sA.n 7) (sA.c 7), .int .i64 aL, .int .i64 aG] 27)) sX gX.m.st ∧ ∀ i, i < 8 → (gX.m.st i).length ≤ 10 from fun j hj => by
              have hj2 : j = 0 ∨ j = 1 := by omega
              rcases hj2 with rfl | rfl
              · refine ⟨⟨rn, rr, rm, rz, ⟨rf, rL, rG⟩⟩, sR, fun c u hu => cell_lit _ _ _ _ _ ?_, HR.out.below (bstep HB.out hbq), fun i hi => Nat.le_trans (hrl i hi) (by decide)⟩
                have hc : c < 14 := by have := (Array.getElem?_eq_some_iff.1 hu).1; exact this
                have h14 : c = 0 ∨ c = 1 ∨ c = 2 ∨ c = 3 ∨ c = 4 ∨ c = 5 ∨ c = 6 ∨ c = 7 ∨ c = 8 ∨ c = 9 ∨ c = 10 ∨ c = 11 ∨ c = 12 ∨ c = 13 := by omega
                rcases h14 with rfl | rfl | rfl | rfl | rfl | rfl | rfl | rfl | rfl | rfl | rfl | rfl | rfl | rfl <;> exact hu
              · refine ⟨⟨an, ar, am, az, ⟨af, aL, aG⟩⟩, sA, fun c u hu => cell_lit _ _ _ _ _ ?_, RA.out.below hbq, HAl.out⟩
                have hc : c < 14 := by have := (Array.getElem?_eq_some_iff.1 hu).1; exact this
                have h14 : c = 0 ∨ c = 1 ∨ c = 2 ∨ c = 3 ∨ c = 4 ∨ c = 5 ∨ c = 6 ∨ c = 7 ∨ c = 8 ∨ c = 9 ∨ c = 10 ∨ c = 11 ∨ c = 12 ∨ c = 13 := by omega
                rcases h14 with rfl | rfl | rfl | rfl | rfl | rfl | rfl | rfl | rfl | rfl | rfl | rfl | rfl | rfl <;> exact hu)
            clear X5 X16 RA
            replace HB := Lib.hid (bstep HB.out hbq)
            replace RO := Lib.hid (RO.out.below hbq)
            replace X17 := Lib.hid (X17.out.below hbq)
            clear x0 x1 x2 x3 x4 x5 x6 x7 x8 x9 x10 x11 x12 x13
            clear y0 y1 y2 y3 y4 y5 y6 y7 y8 y9 y10 y11 y12 y13
            clear hbq HR HAl hrl
            generalize w5.alloc (.cells #[.int .i64 rn, .int .i64 rr, .int .i64 rm, .int .i64 rz, .slice (sR.a 0) (sR.n 0) (sR.c 0), .slice (sR.a 1) (sR.n 1) (sR.c 1), .slice (sR.a 2) (sR.n 2) (sR.c 2), .slice (sR.a 3) (sR.n 3) (sR.c 3), .slice (sR.a 4) (sR.n 4) (sR.c 4), .slice (sR.a 5) (sR.n 5) (sR.c 5), .slice (sR.a 6) (sR.n 6) (sR.c 6), .slice (sR.a 7) (sR.n 7) (sR.c 7), .int .i64 rL, .int .i64 rG, .int .i64 an, .int .i64 ar, .int .i64 am, .int .i64 az, .slice (sA.a 0) (sA.n 0) (sA.c 0), .slice (sA.a 1) (sA.n 1) (sA.c 1), .slice (sA.a 2) (sA.n 2) (sA.c 2), .slice (sA.a 3) (sA.n 3) (sA.c 3), .slice (sA.a 4) (sA.n 4) (sA.c 4), .slice (sA.a 5) (sA.n 5) (sA.c 5), .slice (sA.a 6) (sA.n 6) (sA.c 6), .slice (sA.a 7) (sA.n 7) (sA.c 7), .int .i64 aL, .int .i64 aG] 27) = w6 at *
            generalize w5.heap.size = bR at *
            go_loopw [69] (fun jv W => ∃ j : Nat, jv = .int .i64 (j : Int) ∧ j ≤ 2 ∧ Hid (Below w6.heap.size w6 W)) (fun jv _ => 2 - (intOf jv).toNat)
            case atStart => exact ⟨0, rfl, Nat.zero_le _, Lib.hid (Below.refl _ _)⟩
            case round =>
              obtain ⟨j, rfl, hj, HBj⟩ := hrel
              by_cases hlt : j < 2
              · have j1 : (j : Int) < 2 := by omega
                obtain ⟨gX, sX, hE, hRX, hXl⟩ := HAR.out j hlt
                have hE2 := hE.below HBj.out
                have HRX := Lib.hid hRX
                clear hE hRX
                obtain ⟨xn, xr, xm, xz, ⟨xf, xL, xG⟩⟩ := gX
                dsimp only at *
                have x0 : wr.cell? ⟨bR, j * 14, none⟩ = some (.int .i64 xn) := hE2 0 _ rfl
                have x1 : wr.cell? ⟨bR, j * 14 + 1, none⟩ = some (.int .i64 xr) := hE2 1 _ rfl
                have x2 : wr.cell? ⟨bR, j * 14 + 2, none⟩ = some (.int .i64 xm) := hE2 2 _ rfl
                have x3 : wr.cell? ⟨bR, j * 14 + 3, none⟩ = some (.int .i64 xz) := hE2 3 _ rfl
                have x4 : wr.cell? ⟨bR, j * 14 + 4, none⟩ = some (.slice (sX.a 0) (sX.n 0) (sX.c 0)) := hE2 4 _ rfl
                have x5 : wr.cell? ⟨bR, j * 14 + 5, none⟩ = some (.slice (sX.a 1) (sX.n 1) (sX.c 1)) := hE2 5 _ rfl
                have x6 : wr.cell? ⟨bR, j * 14 + 6, none⟩ = some (.slice (sX.a 2) (sX.n 2) (sX.c 2)) := hE2 6 _ rfl
                have x7 : wr.cell? ⟨bR, j * 14 + 7, none⟩ = some (.slice (sX.a 3) (sX.n 3) (sX.c 3)) := hE2 7 _ rfl
                have x8 : wr.cell? ⟨bR, j * 14 + 8, none⟩ = some (.slice (sX.a 4) (sX.n 4) (sX.c 4)) := hE2 8 _ rfl
                have x9 : wr.cell? ⟨bR, j * 14 + 9, none⟩ = some (.slice (sX.a 5) (sX.n 5) (sX.c 5)) := hE2 9 _ rfl
                have x10 : wr.cell? ⟨bR, j * 14 + 10, none⟩ = some (.slice (sX.a 6) (sX.n 6) (sX.c 6)) := hE2 10 _ rfl
                have x11 : wr.cell? ⟨bR, j * 14 + 11, none⟩ = some (.slice (sX.a 7) (sX.n 7) (sX.c 7)) := hE2 11 _ rfl
                have x12 : wr.cell? ⟨bR, j * 14 + 12, none⟩ = some (.int .i64 xL) := hE2 12 _ rfl
                have x13 : wr.cell? ⟨bR, j * 14 + 13, none⟩ = some (.int .i64 xG) := hE2 13 _ rfl
                have hw0 : w6.heap.size ≤ wr.heap.size := HBj.out.size
                go_upto_region 14 with fail
                change Code.wp _ _ _ _ (wr.alloc (.cells (genC xn xr xm xz sX xL xG) 27))
                have hbq := below_gen wr xn xr xm xz sX xL xG 27
                replace HBj := Lib.hid (bstep HBj.out hbq)
                have X19 := Lib.hid (BoxG.new wr xn xr xm xz sX xL xG 27)
                have E19 := Lib.hid (BlkW.new wr (genC xn xr xm xz sX xL xG) 27)
                clear hbq
                generalize wr.alloc (.cells (genC xn xr xm xz sX xL xG) 27) = v0 at *
                generalize wr.heap.size = b19 at *
                clear x0 x1 x2 x3 x4 x5 x6 x7 x8 x9 x10 x11 x12 x13
                clear hE2
                go_wp2_with fail
                refine (HSm.out v0 (bstep HB.out HBj.out)).mono ?_
                rintro e v1 ⟨sa, sn, sc, es, rfl, hrd, hes, hb⟩
                replace HBj := Lib.hid (bstep HBj.out hb)
                replace X19 := Lib.hid (X19.out.below hb)
                replace E19 := Lib.hid (E19.out.below hb)
                have hsn : sn = es.length := by
                  obtain ⟨_, _, e1, _⟩ := hrd.shape
                  injection e1
                subst hsn
                have hel : es.length ≤ 10 := by have := congrArg List.length hes; rw [List.length_map] at this; have := HSl.out; omega
                have HSe := Lib.hid (show ∀ p ∈ es, p.1.data.length ≤ 1000000 from fun p hp => by have := HSd.out p.1 (hes ▸ List.mem_map_of_mem hp); omega)
                have HRs := Lib.hid hrd
                clear hrd
                generalize hsn2 : es.length = sn at *
                have Hsn := Lib.hid hsn2
                clear hsn2
                have hbq := (Below.refl v1.heap.size v1).alloc (Nat.le_refl _) (.cells #[.slice ma mn mc, .slice sa sn sc] 28)
                have HKk := Lib.hid (show ∀ k, k < 2 → ∃ (ya : Option Addr) (yn yc : Nat) (ys : List (Nd × Value)), (v1.alloc (.cells #[.slice ma mn mc, .slice sa sn sc] 28)).cell? ⟨v1.heap.size, k, none⟩ = some (.slice ya yn yc) ∧ RdN (v1.alloc (.cells #[.slice ma mn mc, .slice sa sn sc] 28)) (.slice ya yn yc) ys ∧ ys.length ≤ 20 ∧ ∀ p ∈ ys, p.1.data.length ≤ 1000000 from fun k hk => by
                  have hk2 : k = 0 ∨ k = 1 := by omega
                  rcases hk2 with rfl | rfl
                  · exact ⟨ma, mn, mc, ms, cell_lit _ _ _ _ _ rfl, HMn.out.below (bstep (bstep HB.out HBj.out) hbq), by rw [Hmn.out]; exact hm20, HDm.out⟩
                  · exact ⟨sa, sn, sc, es, cell_lit _ _ _ _ _ rfl, HRs.out.below hbq, by rw [Hsn.out]; omega, HSe.out⟩)
                clear hes hb HRs HSe Hsn
                go_wp2_with fail
                change Code.wp _ _ _ _ (v1.alloc (.cells #[.slice ma mn mc, .slice sa sn sc] 28))
                replace HBj := Lib.hid (bstep HBj.out hbq)
                replace X19 := Lib.hid (X19.out.below hbq)
                replace E19 := Lib.hid (E19.out.below hbq)
                clear hbq
                generalize v1.alloc (.cells #[.slice ma mn mc, .slice sa sn sc] 28) = v2 at *
                generalize v1.heap.size = b76 at *
                go_loopw [78] (fun kv W => ∃ k : Nat, kv = .int .i64 (k : Int) ∧ k ≤ 2 ∧ Hid (Below v2.heap.size v2 W)) (fun kv _ => 2 - (intOf kv).toNat)
                case atStart => exact ⟨0, rfl, Nat.zero_le _, Lib.hid (Below.refl _ _)⟩
                case round =>
                  obtain ⟨k, rfl, hk, HBk⟩ := hrel
                  by_cases hltk : k < 2
                  · have q1 : (k : Int) < 2 := by omega
                    as_aux_lemma =>
                      replace HBj := Lib.hid (bstep HBj.out HBk.out)
                      replace X19 := Lib.hid (X19.out.below HBk.out)
                      obtain ⟨ya, yn, yc, ys, hyc, hyr, hyl, hyd⟩ := HKk.out k hltk
                      have e0 := Below.keeps HBk.out _ _ hyc
                      have HYr := Lib.hid (hyr.below HBk.out)
                      have HYd := Lib.hid hyd
                      clear hyc hyr hyd
                      have x0 := X19.out.n0
                      have x1 := X19.out.n1
                      have x2 := X19.out.n2
                      have x3 := X19.out.n3
                      have x4 := X19.out.c0
                      have x5 := X19.out.c1
                      have x6 := X19.out.c2
                      have x7 := X19.out.c3
                      have x8 := X19.out.c4
                      have x9 := X19.out.c5
                      have x10 := X19.out.c6
                      have x11 := X19.out.c7
                      have x12 := X19.out.cl
                      have x13 := X19.out.cg
                      go_wp2_with fail
                      refine (HGi.out xn xr xm xz sX xL xG _).mono ?_
                      rintro e u1 ⟨rfl, hb⟩
                      clear x0 x1 x2 x3 x4 x5 x6 x7 x8 x9 x10 x11 x12 x13
                      clear e0
                      replace HBj := Lib.hid (bstep HBj.out hb)
                      replace HBk := Lib.hid (bstep HBk.out hb)
                      replace X19 := Lib.hid (X19.out.below hb)
                      replace HYr := Lib.hid (HYr.out.below hb)
                      clear hb
                      have HAp := Lib.hid (add_any ⟨xn, xr, xm, xz, ⟨xf, xL, xG⟩⟩ sX (.slice ya yn yc) ys 10 u1 (HRX.out.below HBj.out) hXl HYr.out (by omega))
                      have HAr := Lib.hid (fun W (hb : Below u1.heap.size u1 W) => radd_any ⟨xn, xr, xm, xz, ⟨xf, xL, xG⟩⟩ sX (.slice ya yn yc) ys 10 W (HRX.out.below (bstep HBj.out hb)) hXl (HYr.out.below hb) (by omega) HYd.out)
                      clear HYd
                      generalize addG ⟨xn, xr, xm, xz, ⟨xf, xL, xG⟩⟩ (ys.map (·.1)) = TG at *
                      obtain ⟨er, ⟨tn, tr, tm, tz, ⟨tf, tL, tG⟩⟩⟩ := TG
                      dsimp only at HAp HAr
                      have HBu := Lib.hid (Below.refl u1.heap.size u1)
                      go_wp2_with fail
                      refine (HAp.out).mono ?_
                      rintro e u2 ⟨⟨s22, rfl, ho⟩, hb⟩
                      dsimp only
                      replace HBj := Lib.hid (bstep HBj.out hb)
                      replace HBk := Lib.hid (bstep HBk.out hb)
                      replace X19 := Lib.hid (X19.out.below hb)
                      replace HYr := Lib.hid (HYr.out.below hb)
                      replace HBu := Lib.hid (bstep HBu.out hb)
                      have R22 := Lib.hid (ho.mono (Nat.zero_le _))
                      clear ho hb HAp
                      go_upto_region 18 with fail
                      change Code.wp _ _ _ _ (u2.alloc (.cells (genC tn tr tm tz s22 tL tG) 43))
                      have hbq := below_gen u2 tn tr tm tz s22 tL tG 43
                      replace HBj := Lib.hid (bstep HBj.out hbq)
                      replace HBk := Lib.hid (bstep HBk.out hbq)
                      replace X19 := Lib.hid (X19.out.below hbq)
                      replace HYr := Lib.hid (HYr.out.below hbq)
                      replace HBu := Lib.hid (bstep HBu.out hbq)
                      replace R22 := Lib.hid (R22.out.keep hbq)
                      have X22 := Lib.hid (BoxG.new u2 tn tr tm tz s22 tL tG 43)
                      clear hbq
                      generalize u2.alloc (.cells (genC tn tr tm tz s22 tL tG) 43) = u3 at *
                      generalize u2.heap.size = b22 at *
                      have x0 := X19.out.n0
                      have x1 := X19.out.n1
                      have x2 := X19.out.n2
                      have x3 := X19.out.n3
                      have x4 := X19.out.c0
                      have x5 := X19.out.c1
                      have x6 := X19.out.c2
                      have x7 := X19.out.c3
                      have x8 := X19.out.c4
                      have x9 := X19.out.c5
                      have x10 := X19.out.c6
                      have x11 := X19.out.c7
                      have x12 := X19.out.cl
                      have x13 := X19.out.cg
                      go_wp2_with fail
                      refine (HAr.out _ HBu.out).mono ?_
                      rintro e u4 ⟨⟨s24, rfl, ho⟩, hb⟩
                      dsimp only
                      clear x0 x1 x2 x3 x4 x5 x6 x7 x8 x9 x10 x11 x12 x13
                      have hr24 := ho.rd (HRX.out.below HBj.out) hb
                      replace HBj := Lib.hid (bstep HBj.out hb)
                      replace HBk := Lib.hid (bstep HBk.out hb)
                      replace X19 := Lib.hid (X19.out.below hb)
                      replace HYr := Lib.hid (HYr.out.below hb)
                      replace HBu := Lib.hid (bstep HBu.out hb)
                      replace R22 := Lib.hid (R22.out.keep hb)
                      replace X22 := Lib.hid (X22.out.below hb)
                      have R24 := Lib.hid hr24
                      clear ho hb hr24 HAr
                      go_upto_region 19 with fail
                      change Code.wp _ _ _ _ (u4.alloc (.cells (genC tn tr tm tz s24 tL tG) 27))
                      have hbq := below_gen u4 tn tr tm tz s24 tL tG 27
                      replace HBj := Lib.hid (bstep HBj.out hbq)
                      replace HBk := Lib.hid (bstep HBk.out hbq)
                      replace X19 := Lib.hid (X19.out.below hbq)
                      replace HYr := Lib.hid (HYr.out.below hbq)
                      replace HBu := Lib.hid (bstep HBu.out hbq)
                      replace R22 := Lib.hid (R22.out.keep hbq)
                      replace X22 := Lib.hid (X22.out.below hbq)
                      replace R24 := Lib.hid (R24.out.below hbq)
                      have X24 := Lib.hid (BoxG.new u4 tn tr tm tz s24 tL tG 27)
                      clear hbq
                      generalize u4.alloc (.cells (genC tn tr tm tz s24 tL tG) 27) = u5 at *
                      generalize u4.heap.size = b24 at *
                      have c0 := cell_by X22.out.n0
                      have c1 := cell_by X22.out.n1
                      have c2 := cell_by X22.out.n2
                      have c3 := cell_by X22.out.n3
                      have c4 := cell_by X22.out.c0
                      have c5 := cell_by X22.out.c1
                      have c6 := cell_by X22.out.c2
                      have c7 := cell_by X22.out.c3
                      have c8 := cell_by X22.out.c4
                      have c9 := cell_by X22.out.c5
                      have c10 := cell_by X22.out.c6
                      have c11 := cell_by X22.out.c7
                      have c12 := cell_by X22.out.cl
                      have c13 := cell_by X22.out.cg
                      have d0 := cell_by X24.out.n0
                      have d1 := cell_by X24.out.n1
                      have d2 := cell_by X24.out.n2
                      have d3 := cell_by X24.out.n3
                      have d4 := cell_by X24.out.c0
                      have d5 := cell_by X24.out.c1
                      have d6 := cell_by X24.out.c2
                      have d7 := cell_by X24.out.c3
                      have d8 := cell_by X24.out.c4
                      have d9 := cell_by X24.out.c5
                      have d10 := cell_by X24.out.c6
                      have d11 := cell_by X24.out.c7
                      have d12 := cell_by X24.out.cl
                      have d13 := cell_by X24.out.cg
                      have C1 := Lib.hid (fun u : BelowBy u5 => HTo.out tn tr tm tz s22 tL tG u.w')
                      have C2 := Lib.hid (show ∀ u : BelowBy u5, Calls Tryz.prog 11 #[genV tn tr tm tz s22 tL tG, genV tn tr tm tz s24 tL tG] u.w' (fun e w' => e = .returned (.bool true) ∧ Below u.w'.heap.size u.w' w') from fun u => HSa.out ⟨tn, tr, tm, tz, ⟨tf, tL, tG⟩⟩ s22 s24 u.w' (R22.out.rd.below u.h) (R24.out.below u.h))
                      go_wp2_with fail
                      refine wp_region_below (by kernel_rfl) (by kernel_rfl) ?_
                      repeat (go_big_quiet_step (first | with_reducible exact calls_by (C1.out _) | with_reducible exact calls_by (C2.out _)))
                      refine wpQuiet_nil ?_
                      intro _ hw'
                      obtain ⟨u, hw'⟩ := hw'
                      subst hw'
                      clear C1 C2 c0 d0 c1 d1 c2 d2 c3 d3 c4 d4 c5 d5 c6 d6 c7 d7 c8 d8 c9 d9 c10 d10 c11 d11 c12 d12 c13 d13
                      replace HBj := Lib.hid (bstep HBj.out u.h)
                      replace HBk := Lib.hid (bstep HBk.out u.h)
                      replace X19 := Lib.hid (X19.out.below u.h)
                      replace HYr := Lib.hid (HYr.out.below u.h)
                      replace HBu := Lib.hid (bstep HBu.out u.h)
                      replace R22 := Lib.hid (R22.out.keep u.h)
                      replace X22 := Lib.hid (X22.out.below u.h)
                      replace R24 := Lib.hid (R24.out.below u.h)
                      replace X24 := Lib.hid (X24.out.below u.h)
                      generalize u.w' = u6 at *
                      go_wp2_with fail
                      go_roundw
                      case rel => exact ⟨k + 1, by go_num, by omega, HBk⟩
                      case measure => simp [intOf]; omega
                  · have q1 : ¬ (k : Int) < 2 := by omega
                    replace HBj := Lib.hid (bstep HBj.out HBk.out)
                    replace E19 := Lib.hid (E19.out.below HBk.out)
                    clear HKk HBk X19
                    have HRk := Lib.hid (fun W (hb : Below w6.heap.size w6 W) => HRX.out.below hb)
                    have HCp := Lib.hid (fun W (hb : Below w6.heap.size w6 W) => (kill_any ⟨xn, xr, xm, xz, ⟨xf, xL, xG⟩⟩ sX (.slice ka kn kc) ks W (HRk.out _ hb) (fun i hi => Nat.le_trans (hXl i hi) (by decide)) (RdL.below HKs.out (bstep HB.out hb)) (by rw [Hkn.out]; omega)).mono fun e w' h => GOwn.grd h)
                    have HCr := Lib.hid (fun W (hb : Below w6.heap.size w6 W) => (rkill_any ⟨xn, xr, xm, xz, ⟨xf, xL, xG⟩⟩ sX (.slice ka kn kc) ks W (HRk.out _ hb) (fun i hi => Nat.le_trans (hXl i hi) (by decide)) (RdL.below HKs.out (bstep HB.out hb)) (by rw [Hkn.out]; omega)).mono fun e w' h => GOO.grd h (HRk.out _ hb))
                    generalize killG ⟨xn, xr, xm, xz, ⟨xf, xL, xG⟩⟩ ks = TG at *
                    obtain ⟨er, ⟨tn, tr, tm, tz, ⟨tf, tL, tG⟩⟩⟩ := TG
                    dsimp only at HCp HCr
                    go_upto_region 22 with fail
                    refine gc22 HGi HCp E19 HBj (Lib.hid ?_)
                    clear E19 HBj HCp
                    intro _ _ _ _ _ _ _ b26 s26 W1 hlo h19 X19 X26 R26 HBj
                    go_upto_region 23 with fail
                    refine gc23 HCr X19 X26 R26 HBj (Lib.hid ?_)
                    clear X19 X26 R26 HBj HCr
                    intro _ _ _ _ _ _ b28 s28 W2 h28 X19 X26 X28 R26 R28 HBj
                    go_upto_region 24 with fail
                    refine gc24 HTo HSa X19 X26 X28 R26 R28 HBj (Lib.hid ?_)
                    clear X19 X26 X28 R26 R28 HBj
                    intro _ _ _ _ _ _ _ _ _ W3 X19 X26 X28 HBj
                    have HCp := Lib.hid (fun W (hb : Below w6.heap.size w6 W) => (freeze_any ⟨xn, xr, xm, xz, ⟨xf, xL, xG⟩⟩ sX W (HRk.out _ hb) (fun i hi => Nat.le_trans (hXl i hi) (by decide))).mono fun e w' h => GOwn.grd h)
                    have HCr := Lib.hid (fun W (hb : Below w6.heap.size w6 W) => (rfreeze_any ⟨xn, xr, xm, xz, ⟨xf, xL, xG⟩⟩ sX W (HRk.out _ hb) (fun i hi => Nat.le_trans (hXl i hi) (by decide))).mono fun e w' h => GOO.grd h (HRk.out _ hb))
                    generalize turnG ⟨xn, xr, xm, xz, ⟨xf, xL, xG⟩⟩ 1 = TG at *
                    obtain ⟨er, ⟨tn, tr, tm, tz, ⟨tf, tL, tG⟩⟩⟩ := TG
                    dsimp only at HCp HCr
                    go_upto_region 26 with fail
                    refine gc26 HGi HCp hlo h19 h28 X19 X26 X28 HBj (Lib.hid ?_)
                    clear X19 X26 X28 HBj HCp
                    intro _ _ _ _ _ _ sP W4 X19 X26 X28 R26 HBj
                    go_upto_region 27 with fail
                    refine gc27 HCr hlo h19 h28 X19 X26 X28 R26 HBj (Lib.hid ?_)
                    clear X19 X26 X28 R26 HBj HCr
                    intro _ _ _ _ _ sQ W5 X19 X26 X28 R26 R28 HBj
                    go_upto_region 28 with fail
                    refine gc28 HTo HSa X19 X26 X28 R26 R28 HBj (Lib.hid ?_)
                    clear X19 X26 X28 R26 R28 HBj
                    intro _ _ _ _ _ _ _ _ _ W6 X19 X26 X28 HBj
                    have HCp := Lib.hid (fun W (hb : Below w6.heap.size w6 W) => (seal_any ⟨xn, xr, xm, xz, ⟨xf, xL, xG⟩⟩ sX W (HRk.out _ hb) (fun i hi => Nat.le_trans (hXl i hi) (by decide))).mono fun e w' h => GOwn.grd h)
                    have HCr := Lib.hid (fun W (hb : Below w6.heap.size w6 W) => (rseal_any ⟨xn, xr, xm, xz, ⟨xf, xL, xG⟩⟩ sX W (HRk.out _ hb) (fun i hi => Nat.le_trans (hXl i hi) (by decide))).mono fun e w' h => GOO.grd h (HRk.out _ hb))
                    generalize turnG ⟨xn, xr, xm, xz, ⟨xf, xL, xG⟩⟩ 2 = TG at *
                    obtain ⟨er, ⟨tn, tr, tm, tz, ⟨tf, tL, tG⟩⟩⟩ := TG
                    dsimp only at HCp HCr
                    go_upto_region 30 with fail
                    refine gc30 HGi HCp hlo h19 h28 X19 X26 X28 HBj (Lib.hid ?_)
                    clear X19 X26 X28 HBj HCp
                    intro _ _ _ _ _ _ sP W4 X19 X26 X28 R26 HBj
                    go_upto_region 31 with fail
                    refine gc31 HCr hlo h19 h28 X19 X26 X28 R26 HBj (Lib.hid ?_)
                    clear X19 X26 X28 R26 HBj HCr
                    intro _ _ _ _ _ sQ W5 X19 X26 X28 R26 R28 HBj
                    go_upto_region 32 with fail
                    refine gc32 HTo HSa X19 X26 X28 R26 R28 HBj (Lib.hid ?_)
                    clear X19 X26 X28 R26 R28 HBj
                    intro _ _ _ _ _ _ _ _ _ f2w X19 X26 X28 HBj
                    obtain ⟨r1, hr1⟩ : ∃ r1, wrap64 (xr + 1) = r1 := ⟨_, rfl⟩
                    have X17j := X17.out.below HBj.out
                    have y3 := X17j.n3
                    have x1 := X19.out.gen.n1
                    clear X17j
                    have hbr : b28 < f2w.heap.size := X28.out.lt
                    go_wp2_with fail
                    change Code.wp _ _ _ _ (f2w.alloc (.cells #[.int .i64 rev, .int .i64 size, .int .i64 r1, .int .i64 oz, .int .i64 r1, .int .i64 size] 56))
                    have hbq := (Below.refl f2w.heap.size f2w).alloc (Nat.le_refl _) (.cells #[.int .i64 rev, .int .i64 size, .int .i64 r1, .int .i64 oz, .int .i64 r1, .int .i64 size] 56)
                    have Row := Lib.hid (show Row3 (f2w.alloc (.cells #[.int .i64 rev, .int .i64 size, .int .i64 r1, .int .i64 oz, .int .i64 r1, .int .i64 size] 56)) f2w.heap.size from fun k hk => by
                      have hk3 : k = 0 ∨ k = 1 ∨ k = 2 := by omega
                      rcases hk3 with rfl | rfl | rfl
                      · exact ⟨rev, size, cell_lit _ _ _ _ _ rfl, cell_lit _ _ _ _ _ rfl⟩
                      · exact ⟨r1, oz, cell_lit _ _ _ _ _ rfl, cell_lit _ _ _ _ _ rfl⟩
                      · exact ⟨r1, size, cell_lit _ _ _ _ _ rfl, cell_lit _ _ _ _ _ rfl⟩)
                    replace X19 := Lib.hid (X19.out.below hbq)
                    replace X26 := Lib.hid (X26.out.below hbq)
                    replace X28 := Lib.hid (X28.out.below hbq)
                    replace HBj := Lib.hid (bstep HBj.out hbq)
                    clear hbq y3 x1 hr1
                    generalize f2w.alloc (.cells #[.int .i64 rev, .int .i64 size, .int .i64 r1, .int .i64 oz, .int .i64 r1, .int .i64 size] 56) = g0w at *
                    generalize f2w.heap.size = b185 at *
                    go_loopw [187] (fun kv W => ∃ k : Nat, kv = .int .i64 (k : Int) ∧ k ≤ 3 ∧ Hid (Row3 W b185) ∧ Hid (BlkW W b19 (genC xn xr xm xz sX xL xG) 27) ∧ (∃ n r m z s L G, Hid (BlkW W b26 (genC n r m z s L G) 43)) ∧ (∃ n r m z s L G, Hid (BlkW W b28 (genC n r m z s L G) 27)) ∧ Hid (Below w6.heap.size w6 W)) (fun kv _ => 3 - (intOf kv).toNat)
                    case atStart => exact ⟨0, rfl, Nat.zero_le _, Row, X19, ⟨_, _, _, _, _, _, _, X26⟩, ⟨_, _, _, _, _, _, _, X28⟩, HBj⟩
                    case round =>
                      clear Row X19 X26 X28 HBj
                      obtain ⟨k, rfl, hk, Row, X19, ⟨n26, r26, m26, z26, q26, L26, G26, X26⟩, ⟨n28, r28, m28, z28, q28, L28, G28, X28⟩, HBj⟩ := hrel
                      by_cases hltk : k < 3
                      · have q1 : (k : Int) < 3 := by omega
                        obtain ⟨pk, zk, e0, e1⟩ := Row.out k hltk
                        go_upto_region 37 with fail
                        change Code.wp _ _ _ _ (wr.alloc (.cells #[.int .i64 pk, .int .i64 zk] 56))
                        have hbq := (Below.refl wr.heap.size wr).alloc (Nat.le_refl _) (.cells #[.int .i64 pk, .int .i64 zk] 56)
                        have B31 := Lib.hid (show Row2 (wr.alloc (.cells #[.int .i64 pk, .int .i64 zk] 56)) wr.heap.size pk zk from ⟨cell_lit _ _ _ _ _ rfl, cell_lit _ _ _ _ _ rfl⟩)
                        have h31 : b28 < wr.heap.size := X28.out.lt
                        replace Row := Lib.hid (Row.out.below hbq)
                        replace X19 := Lib.hid (X19.out.below hbq)
                        replace X26 := Lib.hid (X26.out.below hbq)
                        replace X28 := Lib.hid (X28.out.below hbq)
                        replace HBj := Lib.hid (bstep HBj.out hbq)
                        clear hbq e0 e1
                        generalize wr.alloc (.cells #[.int .i64 pk, .int .i64 zk] 56) = g1w at *
                        generalize wr.heap.size = b31 at *
                        have HCp := Lib.hid (fun W (hb : Below w6.heap.size w6 W) => (swap_any ⟨xn, xr, xm, xz, ⟨xf, xL, xG⟩⟩ sX pk zk ⟨of_, oL, oG⟩ sO W (HRk.out _ hb) (fun i hi => Nat.le_trans (hXl i hi) (by decide)) (RO.out.below hb) (fun i hi => Nat.le_trans (HOl.out i hi) (by decide))).mono fun e w' h => GOwn.grd h)
                        have HCr := Lib.hid (fun W (hb : Below w6.heap.size w6 W) => (rswap_any ⟨xn, xr, xm, xz, ⟨xf, xL, xG⟩⟩ sX pk zk ⟨of_, oL, oG⟩ sO W (HRk.out _ hb) (fun i hi => Nat.le_trans (hXl i hi) (by decide)) (RO.out.below hb) (fun i hi => Nat.le_trans (HOl.out i hi) (by decide))).mono fun e w' h => GOO.grd h (RO.out.below hb))
                        generalize swapG ⟨xn, xr, xm, xz, ⟨xf, xL, xG⟩⟩ pk zk ⟨of_, oL, oG⟩ = TG at *
                        obtain ⟨er, ⟨tn, tr, tm, tz, ⟨tf, tL, tG⟩⟩⟩ := TG
                        dsimp only at HCp HCr
                        refine gc37 HGi HCp hlo h19 h28 hbr Row h31 X17 B31 X19 X26 X28 HBj (Lib.hid ?_)
                        clear Row X19 X26 X28 B31 HBj HCp
                        intro _ _ _ _ _ _ _ _ _ _ _ _ _ sP W4 Row X19 X26 X28 B31 R26 HBj
                        go_upto_region 38 with fail
                        refine gc38 HCr hlo h19 h28 hbr Row X17 B31 X19 X26 X28 R26 HBj (Lib.hid ?_)
                        clear Row X19 X26 X28 B31 R26 HBj HCr
                        intro _ _ _ _ _ _ _ _ _ _ _ sQ W5 Row X19 X26 X28 R26 R28 HBj
                        go_upto_region 39 with fail
                        refine gc39 Row HTo HSa X19 X26 X28 R26 R28 HBj (Lib.hid ?_)
                        clear Row X19 X26 X28 R26 R28 HBj
                        intro _ _ _ _ _ _ _ _ _ W6 Row X19 X26 X28 HBj
                        go_wp2_with fail
                        go_roundw
                        case rel => exact ⟨k + 1, by go_num, by omega, Row, X19, ⟨_, _, _, _, _, _, _, X26⟩, ⟨_, _, _, _, _, _, _, X28⟩, HBj⟩
                        case measure => simp [intOf]; omega
                      · have q1 : ¬ (k : Int) < 3 := by omega
                        go_wp2_with fail
                        go_roundw
                        case rel => exact ⟨j + 1, by go_num, by omega, HBj⟩
                        case measure => simp [intOf]; omega
              · have j1 : ¬ (j : Int) < 2 := by omega
                have HBw := Lib.hid (bstep HB.out HBj.out)
                go_wp2_with fail
                refine (HAw.out _).mono ?_
                rintro e w2 ⟨rfl, hb⟩
                have HBz := Lib.hid (bstep HBw.out hb)
                go_wp2_with fail
                go_ret
                exact ⟨rfl, HBz.out⟩
      · have k2 : (20 : Int) < (mn : Int) := by omega
        go_wp2_with fail
        refine (HAw.out _).mono ?_
        rintro e w2 ⟨rfl, hb⟩
        have HBz := Lib.hid (bstep HB.out hb)
        go_wp2_with fail
        go_ret
        exact ⟨rfl, HBz.out⟩
    · have k1 : (30 : Int) < (kn : Int) := by omega
      go_wp2_with fail
      refine (HAw.out _).mono ?_
      rintro e w2 ⟨rfl, hb⟩
      have HBz := Lib.hid (bstep HB.out hb)
      go_wp2_with fail
      go_ret
      exact ⟨rfl, HBz.out⟩
end Go.Proofs.YtenkeodfijladaaGreatDoor
