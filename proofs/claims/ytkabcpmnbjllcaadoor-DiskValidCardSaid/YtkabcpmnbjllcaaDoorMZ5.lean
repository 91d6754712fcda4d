/- Several texts in one, each over the last: DiskValid: the walk. Printed by mkDva.py. -/
import Derived.Test.YtkabcpmnbjllcaaDoorKH
namespace Go.Proofs.YtkabcpmnbjllcaaDoor
open Go.RowKit

/-- A disk that reads. -/
def dvS (c lf : Int) (fl : List Fil) : Sta := ⟨fun v w => ∃ fv', v = diskVal c lf fv' ∧ RdF w fv' fl, fun _ _ _ hb ⟨fv', e, h⟩ => ⟨fv', e, h.below hb⟩⟩
/-- Six cells: two disks in a row. -/
theorem six_cells (W : World) (a b c d e f : Value) (T : TypeId) (k : Nat) (hk : W.heap.size = k) : (W.alloc (.cells #[a, b, c, d, e, f] T)).cell? ⟨k, 0, none⟩ = some a ∧ (W.alloc (.cells #[a, b, c, d, e, f] T)).cell? ⟨k, 1, none⟩ = some b ∧ (W.alloc (.cells #[a, b, c, d, e, f] T)).cell? ⟨k, 2, none⟩ = some c ∧
    (W.alloc (.cells #[a, b, c, d, e, f] T)).cell? ⟨k, 3, none⟩ = some d ∧ (W.alloc (.cells #[a, b, c, d, e, f] T)).cell? ⟨k, 4, none⟩ = some e ∧ (W.alloc (.cells #[a, b, c, d, e, f] T)).cell? ⟨k, 5, none⟩ = some f := by
  subst hk; exact ⟨by simp, by simp, by simp, by simp, by simp, by simp⟩
theorem RefDk.rd {w w' : World} {xs : List FX} {x : Dk} {e : Ending} (h : RefDk w xs x e w') (hx : PartsX w xs) : ∃ fv, e = .returned (diskVal x.cap x.left fv) ∧ RdF w' fv x.files ∧ Below w.heap.size w w' := by
  obtain ⟨⟨fv, xs', e1, e2, e3⟩, e4⟩ := h
  exact ⟨fv, e1, ⟨feX xs', by rw [feX_fst, e2], e3.rd (KeepB.refl _ _) (hx.below e4)⟩, e4⟩
/-- The array of the two disks. -/
def arrS (c1 l1 c2 l2 : Int) (v1 : Value) (f1 f2 : List Fil) : Sta := ⟨fun v w => ∃ b v2, v = .slice (some ⟨b, 0, none⟩) 2 2 ∧ w.cell? ⟨b, 0, none⟩ = some (.int .i64 c1) ∧ w.cell? ⟨b, 1, none⟩ = some (.int .i64 l1) ∧ w.cell? ⟨b, 2, none⟩ = some v1 ∧ RdF w v1 f1 ∧
  w.cell? ⟨b, 3, none⟩ = some (.int .i64 c2) ∧ w.cell? ⟨b, 4, none⟩ = some (.int .i64 l2) ∧ w.cell? ⟨b, 5, none⟩ = some v2 ∧ RdF w v2 f2, fun _ _ _ hb ⟨b, v2, e, h0, h1, h2, h3, h4, h5, h6, h7⟩ => ⟨b, v2, e, Below.keeps hb _ _ h0, Below.keeps hb _ _ h1, Below.keeps hb _ _ h2, h3.below hb, Below.keeps hb _ _ h4, Below.keeps hb _ _ h5, Below.keeps hb _ _ h6, h7.below hb⟩⟩
set_option maxRecDepth 100000 in
set_option maxHeartbeats 12800000 in
theorem valid_go (d : Dk) (fv : Value) (limit left : Int) (s : List UInt8) (lv : Value) (l : List (Opr × Value × Value)) (w : World) (h : RdF w fv d.files) (hwf : DkWf d) (h1 : I64 limit) (h2 : I64 left) (hl : RdO w lv l) :
    Calls Tryd.prog 3 #[diskVal d.cap d.left fv, .int .i64 limit, .int .i64 left, .string (strB s), lv] w fun e w' => e = .returned (.bool true) ∧ Below w.heap.size w w' := by
  obtain ⟨a, cap, rfl, _, _, _⟩ := h.shape
  obtain ⟨la, lc, rfl, _, _⟩ := hl.shape
  have HLt := Lib.hid (fun W (hW : Below w.heap.size w W) => light_any d _ W (h.below hW))
  have HAw := Lib.hid (fun W => awake_any W)
  have HMd := Lib.hid (fun W (hW : Below w.heap.size w W) => (made_any limit left _ l W (hl.below hW) h1 h2).mono fun e w' hh => hh.rd (PartsX.nil W))
  have HMl := Lib.hid (madeD_lite h1 h2 (l.map (·.1)))
  have HLi := Lib.hid (fun (hq : LightD d) => hwf.lite hq)
  have HR := Lib.hid h
  have HN1 := Lib.hid (fun (hs : s.length ≤ 200) W => vname_any (strB s) W (by rw [strB_size]; omega))
  have HN2 := Lib.hid (fun (hs : s.length ≤ 200) W => rvname_any (strB s) W (by rw [strB_size]; omega))
  change Hid (s.length ≤ 200 → ∀ W, Calls _ _ _ W fun e w' => e = .returned (.bool (nameB s)) ∧ _) at HN1
  change Hid (s.length ≤ 200 → ∀ W, Calls _ _ _ W fun e w' => e = .returned (.bool (nameB s)) ∧ _) at HN2
  have HSz := Lib.hid (strB_size s)
  have Hlr := Lib.hid h2
  clear h hl hwf h1 h2
  generalize madeD limit left (l.map (·.1)) = md at *
  generalize d.files.length = n at *
  generalize l.length = ln at *
  have hLL : ∀ P : Prop, P = LightD d → True := fun _ _ => trivial
  generalize LightD d = LD at *
  clear hLL
  generalize strB s = sv at *
  obtain ⟨c, lf, fl⟩ := d
  dsimp only [diskVal] at *
  have HB0 := Lib.hid (show Below w.heap.size w (w.alloc (.cells #[.int .i64 c, .int .i64 lf, .slice a n cap] 24)) from (Below.refl _ _).alloc (Nat.le_refl _) _)
  have X := Lib.hid (BoxD.new w c lf (.slice a n cap) 24)
  go_enter Tryd.func3, Tryd.ntmps3
  go_upto_region 1 with fail
  generalize w.alloc (.cells #[.int .i64 c, .int .i64 lf, .slice a n cap] 24) = W0 at *
  have x0 := X.out.c0
  have x1 := X.out.c1
  have x2 := X.out.c2
  go_wp2_with fail
  refine (HLt.out W0 HB0.out).mono ?_
  rintro e w1 ⟨b, rfl, hb, hb1⟩
  have HB1 := Lib.hid (bstep HB0.out hb1)
  have X1 := Lib.hid (X.out.below hb1)
  clear hb1 x0 x1 x2
  cases b
  · go_wp2_with fail
    refine (HAw.out _).mono ?_
    rintro e w2 ⟨rfl, hb2⟩
    have HB2 := Lib.hid (bstep HB1.out hb2)
    clear hb2
    go_wp2_with fail
    go_ret
    exact ⟨rfl, HB2.out⟩
  · have hLt := HLi.out (hb rfl)
    have HLd := Lib.hid hLt
    clear hLt hb
    by_cases hs : s.length ≤ 200
    · have hsz := HSz.out
      have g1 : ¬ (200 : Int) < (sv.size : Int) := by omega
      have HV1 := Lib.hid (HN1.out hs)
      have HV2 := Lib.hid (HN2.out hs)
      clear HN1 HN2 hsz
      generalize nameB s = nb at *
      have nn : (nb == nb) = true := by simp
      go_upto_region 3 with fail
      refine wp_region_relz [eqS (.agg #[.int .i64 c, .int .i64 lf, .slice a n cap]), eqS (.int .i64 limit), eqS (.int .i64 left), eqS (.slice la ln lc), dvS md.cap md.left md.files, arrS c lf md.cap md.left (.slice a n cap) fl md.files, eqS (.int .i64 2), eqS (.int .i64 0)] 68 (by kernel_rfl) (by kernel_rfl) (by kernel_rfl) (by rfl) (by kernel_rfl) (fun f => by simp [frm, dstOf, Act.put]; exact rfl) ?_ ?_
      · refine ⟨?_, ?_, ?_, ?_, ?_, ?_, ?_, ?_, trivial⟩
        · intro f w1 hb hd
          clear hd
          dsimp only
          have z0 := (X1.out.below hb).c0
          have z1 := (X1.out.below hb).c1
          have z2 := (X1.out.below hb).c2
          go_wp2_with fail
          exact ⟨rfl, Below.refl _ _, fun t ht => by injection ht with ht; subst ht; exact ⟨rfl, fun h => by simp at h⟩⟩
        · intro f w1 hb hd
          clear hd
          dsimp only
          go_wp2_with fail
          exact ⟨rfl, Below.refl _ _, fun t ht => by injection ht with ht; subst ht; exact ⟨rfl, fun h => by simp at h⟩⟩
        · intro f w1 hb hd
          clear hd
          dsimp only
          go_wp2_with fail
          exact ⟨rfl, Below.refl _ _, fun t ht => by injection ht with ht; subst ht; exact ⟨rfl, fun h => by simp at h⟩⟩
        · intro f w1 hb hd
          clear hd
          dsimp only
          go_wp2_with fail
          exact ⟨rfl, Below.refl _ _, fun t ht => by injection ht with ht; subst ht; exact ⟨rfl, fun h => by simp at h⟩⟩
        · intro f w1 hb hd
          have d1 : f 1 = .int .i64 limit := hd 1 (by kernel_rfl)
          have d2 : f 2 = .int .i64 left := hd 2 (by kernel_rfl)
          have d3 : f 3 = .slice la ln lc := hd 3 (by kernel_rfl)
          clear hd
          dsimp only
          rw [d1]
          rw [d2]
          rw [d3]
          go_wp2_with fail
          refine (HMd.out w1 (bstep HB1.out hb)).mono ?_
          rintro e w2 ⟨fv', rfl, hr', hbe⟩
          obtain ⟨q1, q2, q3, _⟩ := hr'.shape
          have HR9 := Lib.hid hr'
          clear hr'
          subst q3
          go_wp2_with fail
          exact ⟨rfl, hbe, fun t ht => by injection ht with ht; subst ht; exact ⟨⟨_, rfl, HR9.out⟩, fun h => by simp at h⟩⟩
        · intro f w1 hb hd
          have d0 : f 0 = .agg #[.int .i64 c, .int .i64 lf, .slice a n cap] := hd 0 (by kernel_rfl)
          have d4 := hd 4 (by kernel_rfl)
          obtain ⟨vm, em, rm⟩ : ∃ fv', f 4 = diskVal (md.cap) (md.left) fv' ∧ RdF w1 fv' (md.files) := d4
          obtain ⟨am, km, um, _⟩ := rm.shape
          subst um
          dsimp only [diskVal] at em
          clear hd
          dsimp only
          rw [d0]
          rw [em]
          have HA8 := Lib.hid ((Below.refl w1.heap.size w1).alloc (Nat.le_refl _) (.cells #[.int .i64 c, .int .i64 lf, .slice a n cap, .int .i64 md.cap, .int .i64 md.left, .slice am md.files.length km] 24))
          have HR8 := Lib.hid (And.intro ((HR.out.below (bstep HB1.out hb)).below HA8.out) (rm.below HA8.out))
          have HC8 := Lib.hid (six_cells w1 (.int .i64 c) (.int .i64 lf) (.slice a n cap) (.int .i64 md.cap) (.int .i64 md.left) (.slice am md.files.length km) 24 _ rfl)
          skip
          clear rm em
          go_wp2_with fail
          exact ⟨rfl, HA8.out, fun t ht => by injection ht with ht; subst ht; exact ⟨⟨_, _, rfl, HC8.out.1, HC8.out.2.1, HC8.out.2.2.1, HR8.out.1, HC8.out.2.2.2.1, HC8.out.2.2.2.2.1, HC8.out.2.2.2.2.2, HR8.out.2⟩, fun h => by simp at h⟩⟩
        · intro f w1 hb hd
          have d5 := hd 5 (by kernel_rfl)
          obtain ⟨b5, v5, e5, _⟩ : ∃ b v2, f 5 = .slice (some ⟨b, 0, none⟩) 2 2 ∧ _ := d5
          clear hd
          dsimp only
          rw [e5]
          go_wp2_with fail
          exact ⟨rfl, Below.refl _ _, fun t ht => by injection ht with ht; subst ht; exact ⟨rfl, fun h => by simp at h⟩⟩
        · intro f w1 hb hd
          clear hd
          dsimp only
          go_wp2_with fail
          exact ⟨rfl, Below.refl _ _, fun t ht => by injection ht with ht; subst ht; exact ⟨rfl, fun h => by simp at h⟩⟩
      · intro f w1 hb hA
        have d0 : f 0 = .agg #[.int .i64 c, .int .i64 lf, .slice a n cap] := hA 0 (show 0 < 8 by decide)
        have d1 : f 1 = .int .i64 limit := hA 1 (show 1 < 8 by decide)
        have d2 : f 2 = .int .i64 left := hA 2 (show 2 < 8 by decide)
        have d3 : f 3 = .slice la ln lc := hA 3 (show 3 < 8 by decide)
        have d4 := hA 4 (show 4 < 8 by decide)
        have d5 := hA 5 (show 5 < 8 by decide)
        have d6 := hA 6 (show 6 < 8 by decide)
        have d7 : f 7 = .int .i64 0 := hA 7 (show 7 < 8 by decide)
        clear hA
        try dsimp only at *
        rw [d0]
        rw [d1]
        rw [d2]
        rw [d3]
        rw [d7]
        clear d0 d1 d2 d3 d7
        have d5 : ∃ b v2, f 5 = .slice (some ⟨b, 0, none⟩) 2 2 ∧ w1.cell? ⟨b, 0, none⟩ = some (.int .i64 c) ∧ w1.cell? ⟨b, 1, none⟩ = some (.int .i64 lf) ∧ w1.cell? ⟨b, 2, none⟩ = some (.slice a n cap) ∧ RdF w1 (.slice a n cap) fl ∧
          w1.cell? ⟨b, 3, none⟩ = some (.int .i64 md.cap) ∧ w1.cell? ⟨b, 4, none⟩ = some (.int .i64 md.left) ∧ w1.cell? ⟨b, 5, none⟩ = some v2 ∧ RdF w1 v2 md.files := d5
        obtain ⟨GB, vm, e5, g0, g1', g2, hr1, g3, g4, g5, hr2⟩ := d5
        have d6 : f 6 = .int .i64 2 := d6
        rw [e5, d6]
        have HB5 := Lib.hid (bstep HB1.out hb)
        have HDs := Lib.hid (show ∀ k, k < 2 → ∃ dk vk, w1.cell? ⟨GB, k * 3, none⟩ = some (.int .i64 dk.cap) ∧ w1.cell? ⟨GB, k * 3 + 1, none⟩ = some (.int .i64 dk.left) ∧ w1.cell? ⟨GB, k * 3 + 2, none⟩ = some vk ∧ RdF w1 vk dk.files ∧ LiteD dk from fun k hk => by
          rcases k with _ | _ | k
          · exact ⟨⟨c, lf, fl⟩, _, g0, g1', g2, hr1, HLd.out⟩
          · exact ⟨md, _, g3, g4, g5, hr2, HMl.out⟩
          · omega)
        clear g0 g1' g2 g3 g4 g5 hr1 hr2 e5 d6 d4 hb X1 HLd HMl HR HMd HLt HLi
        generalize f 4 = f4 at *
        generalize w1 = w5 at *
        go_wp2_with fail
        go_loopw [29] (fun iv W => ∃ k : Nat, k ≤ 2 ∧ iv = .int .i64 (k : Int) ∧ Hid (Below w5.heap.size w5 W)) (fun iv _ => 2 - (intOf iv).toNat)
        case atStart => exact ⟨0, Nat.zero_le _, rfl, Lib.hid (Below.refl _ _)⟩
        case round =>
          obtain ⟨k, hk, rfl, HBr⟩ := hrel
          have HBw := Lib.hid (bstep HB5.out HBr.out)
          by_cases hlt : k < 2
          · have i1 : (k : Int) < 2 := by omega
            obtain ⟨dk, vk, g0, g1', g2, hr, hld⟩ := HDs.out k hlt
            replace g0 := Below.keeps HBr.out _ _ g0
            replace g1' := Below.keeps HBr.out _ _ g1'
            replace g2 := Below.keeps HBr.out _ _ g2
            have HRk := Lib.hid (hr.below HBr.out)
            have HLk := Lib.hid hld
            obtain ⟨ka, kc, rfl, _⟩ := hr.shape
            clear hr hld
            obtain ⟨dc, dl, df⟩ := dk
            dsimp only at *
            have HA := Lib.hid ((Below.refl wr.heap.size wr).alloc (Nat.le_refl _) (.cells #[.int .i64 dc, .int .i64 dl, .slice ka df.length kc] 24))
            have Z := Lib.hid (BoxD.new wr dc dl (.slice ka df.length kc) 24)
            have HR6 := Lib.hid (HRk.out.below HA.out)
            have HB6 := Lib.hid (bstep HBr.out HA.out)
            go_upto_region 6 with fail
            clear g0 g1' g2 HRk HA
            generalize wr.alloc (.cells #[.int .i64 dc, .int .i64 dl, .slice ka df.length kc] 24) = w6 at *
            generalize wr.heap.size = ZB at *
            have HPn := Lib.hid (fun k (hk : k < df.length) => show (atN df k).pend.length ≤ 1000000 by have := (HLk.out.fil _ (atN_mem hk)).pend; dsimp only at this; omega)
            have HdV := Lib.hid (fun W u (hr : RdF W u df) => dvalid_any dc dl u df W hr HLk.out.fs)
            have HrV := Lib.hid (fun W u (hr : RdF W u df) => rvalid_any dc dl u df W hr HLk.out.fs)
            have HGi := Lib.hid (fun W u (hr : RdF W u df) => given_any ⟨dc, dl, df⟩ u W hr HLk.out.len (fun f hf => (HLk.out.fil f hf).pend))
            have HTo := Lib.hid (fun lf' W u (hr : RdF W u df) => told_any ⟨dc, lf', df⟩ u W hr HLk.out.len (fun f hf => (HLk.out.fil f hf).pend))
            have HAr := Lib.hid (fun W u (hr : RdF W u df) => arm_any ⟨dc, dl, df⟩ left u W hr HLk.out)
            have HrA := Lib.hid (fun u W h => rarm_any dc dl left u W h)
            have HSa := Lib.hid (fun lf' v1 v2 W (h1 : RdF W v1 df) (h2 : RdF W v2 df) => rsame_any dc lf' df v1 v2 W h1 h2 (by have := HLk.out.len; dsimp only at this; omega) HPn.out)
            dsimp only [diskVal, armD] at HdV HrV HGi HTo HAr HrA HSa
            clear HLk HPn
            generalize validD ⟨dc, dl, df⟩ = vb at *
            generalize hml : max left (-1) = ml at *
            clear hml
            have hvv : (vb != vb) = false := by simp
            generalize df.length = dn at *
            refine wp_region_rel [eqS (.agg #[.int .i64 dc, .int .i64 dl, .slice ka dn kc]), dvS dc dl df, eqS (.bool vb), eqS (.agg #[.int .i64 dc, .int .i64 dl, .slice ka dn kc]), eqS (.bool vb), eqS (.bool false), eqS (.bool false), eqS (.agg #[.int .i64 dc, .int .i64 dl, .slice ka dn kc]), dvS dc dl df, eqS (.int .i64 left), dvS dc ml df, dvS dc ml df, eqS (.agg #[.int .i64 dc, .int .i64 dl, .slice ka dn kc]), eqS (.int .i64 left), dvS dc ml df, eqS (.bool true), eqS (.bool false)] [] 68 (by kernel_rfl) (by kernel_rfl) (by rfl) (by kernel_rfl) (fun f => by simp [frm, dstOf, Act.put]; exact rfl) ?_ ?_
            · refine ⟨?_, ?_, ?_, ?_, ?_, ?_, ?_, ?_, ?_, ?_, ?_, ?_, ?_, ?_, ?_, ?_, ?_, trivial⟩
              · intro f w1 hb hd
                clear hd
                dsimp only
                have z0 := (Z.out.below hb).c0
                have z1 := (Z.out.below hb).c1
                have z2 := (Z.out.below hb).c2
                go_wp2_with fail
                exact ⟨rfl, Below.refl _ _, fun t ht => by injection ht with ht; subst ht; exact ⟨rfl, fun h => by simp at h⟩⟩
              · intro f w1 hb hd
                have d0 : f 0 = .agg #[.int .i64 dc, .int .i64 dl, .slice ka dn kc] := hd 0 (by kernel_rfl)
                clear hd
                dsimp only
                rw [d0]
                go_wp2_with fail
                refine (HGi.out w1 _ (HR6.out.below hb)).mono ?_
                rintro e w2 ⟨fv', rfl, hr', hbe⟩
                obtain ⟨q1, q2, q3, _⟩ := hr'.shape
                have HR9 := Lib.hid hr'
                clear hr'
                subst q3
                go_wp2_with fail
                exact ⟨rfl, hbe, fun t ht => by injection ht with ht; subst ht; exact ⟨⟨_, rfl, HR9.out⟩, fun h => by simp at h⟩⟩
              · intro f w1 hb hd
                have d1 := hd 1 (by kernel_rfl)
                obtain ⟨vg, eg, rg⟩ : ∃ fv', f 1 = .agg #[.int .i64 dc, .int .i64 dl, fv'] ∧ RdF w1 fv' df := d1
                obtain ⟨ag, kg, ug, _⟩ := rg.shape
                subst ug
                clear hd
                dsimp only
                rw [eg]
                go_wp2_with fail
                refine (HdV.out w1 _ rg).mono ?_
                rintro e w2 ⟨rfl, hbe⟩
                go_wp2_with fail
                exact ⟨rfl, hbe, fun t ht => by injection ht with ht; subst ht; exact ⟨rfl, fun h => by simp at h⟩⟩
              · intro f w1 hb hd
                clear hd
                dsimp only
                have z0 := (Z.out.below hb).c0
                have z1 := (Z.out.below hb).c1
                have z2 := (Z.out.below hb).c2
                go_wp2_with fail
                exact ⟨rfl, Below.refl _ _, fun t ht => by injection ht with ht; subst ht; exact ⟨rfl, fun h => by simp at h⟩⟩
              · intro f w1 hb hd
                have d3 : f 3 = .agg #[.int .i64 dc, .int .i64 dl, .slice ka dn kc] := hd 3 (by kernel_rfl)
                clear hd
                dsimp only
                rw [d3]
                go_wp2_with fail
                refine (HrV.out w1 _ (HR6.out.below hb)).mono ?_
                rintro e w2 ⟨rfl, hbe⟩
                go_wp2_with fail
                exact ⟨rfl, hbe, fun t ht => by injection ht with ht; subst ht; exact ⟨rfl, fun h => by simp at h⟩⟩
              · intro f w1 hb hd
                have d2 := hd 2 (by kernel_rfl)
                have d2 : f 2 = .bool vb := d2
                have d4 := hd 4 (by kernel_rfl)
                have d4 : f 4 = .bool vb := d4
                clear hd
                dsimp only
                rw [d2, d4]
                go_wp2_with fail
                exact ⟨rfl, Below.refl _ _, fun t ht => by injection ht with ht; subst ht; exact ⟨rfl, fun h => by simp at h⟩⟩
              · intro f w1 hb hd
                have d5 := hd 5 (by kernel_rfl)
                have d5 : f 5 = .bool false := d5
                clear hd
                dsimp only
                rw [d5]
                go_wp2_with fail
                exact ⟨rfl, Below.refl _ _, fun t ht => by injection ht with ht; subst ht; exact ⟨rfl, fun h => by simp at h⟩⟩
              · intro f w1 hb hd
                have d6 := hd 6 (by kernel_rfl)
                have d6 : f 6 = .bool false := d6
                clear hd
                dsimp only
                rw [d6]
                have z0 := (Z.out.below hb).c0
                have z1 := (Z.out.below hb).c1
                have z2 := (Z.out.below hb).c2
                go_wp2_with fail
                exact ⟨rfl, Below.refl _ _, fun t ht => by injection ht with ht; subst ht; exact ⟨rfl, fun h => by simp at h⟩⟩
              · intro f w1 hb hd
                have d6 := hd 6 (by kernel_rfl)
                have d6 : f 6 = .bool false := d6
                have d7 : f 7 = .agg #[.int .i64 dc, .int .i64 dl, .slice ka dn kc] := hd 7 (by kernel_rfl)
                clear hd
                dsimp only
                rw [d7]
                rw [d6]
                go_wp2_with fail
                refine (HGi.out w1 _ (HR6.out.below hb)).mono ?_
                rintro e w2 ⟨fv', rfl, hr', hbe⟩
                obtain ⟨q1, q2, q3, _⟩ := hr'.shape
                have HR9 := Lib.hid hr'
                clear hr'
                subst q3
                go_wp2_with fail
                exact ⟨rfl, hbe, fun t ht => by injection ht with ht; subst ht; exact ⟨⟨_, rfl, HR9.out⟩, fun h => by simp at h⟩⟩
              · intro f w1 hb hd
                have d6 := hd 6 (by kernel_rfl)
                have d6 : f 6 = .bool false := d6
                clear hd
                dsimp only
                rw [d6]
                go_wp2_with fail
                exact ⟨rfl, Below.refl _ _, fun t ht => by injection ht with ht; subst ht; exact ⟨rfl, fun h => by simp at h⟩⟩
              · intro f w1 hb hd
                have d6 := hd 6 (by kernel_rfl)
                have d6 : f 6 = .bool false := d6
                have d8 := hd 8 (by kernel_rfl)
                obtain ⟨vg, eg, rg⟩ : ∃ fv', f 8 = .agg #[.int .i64 dc, .int .i64 dl, fv'] ∧ RdF w1 fv' df := d8
                obtain ⟨ag, kg, ug, _⟩ := rg.shape
                subst ug
                have d9 : f 9 = .int .i64 left := hd 9 (by kernel_rfl)
                clear hd
                dsimp only
                rw [d9]
                rw [d6, eg]
                go_wp2_with fail
                refine (HAr.out w1 _ rg).mono ?_
                rintro e w2 ⟨v, rfl, hst, hbe⟩
                obtain ⟨fv', ev', hr'⟩ := hst.rd
                dsimp only at ev' hr'
                obtain ⟨q1, q2, q3, _⟩ := hr'.shape
                have HR9 := Lib.hid hr'
                clear hr' hst
                subst q3
                subst ev'
                go_wp2_with fail
                exact ⟨rfl, hbe, fun t ht => by injection ht with ht; subst ht; exact ⟨⟨_, rfl, HR9.out⟩, fun h => by simp at h⟩⟩
              · intro f w1 hb hd
                have d6 := hd 6 (by kernel_rfl)
                have d6 : f 6 = .bool false := d6
                have d10 := hd 10 (by kernel_rfl)
                obtain ⟨vg, eg, rg⟩ : ∃ fv', f 10 = .agg #[.int .i64 dc, .int .i64 ml, fv'] ∧ RdF w1 fv' df := d10
                obtain ⟨ag, kg, ug, _⟩ := rg.shape
                subst ug
                clear hd
                dsimp only
                rw [d6, eg]
                go_wp2_with fail
                refine (HTo.out ml w1 _ rg).mono ?_
                rintro e w2 ⟨fv', rfl, hr', hbe⟩
                obtain ⟨q1, q2, q3, _⟩ := hr'.shape
                have HR9 := Lib.hid hr'
                clear hr'
                subst q3
                go_wp2_with fail
                exact ⟨rfl, hbe, fun t ht => by injection ht with ht; subst ht; exact ⟨⟨_, rfl, HR9.out⟩, fun h => by simp at h⟩⟩
              · intro f w1 hb hd
                have d6 := hd 6 (by kernel_rfl)
                have d6 : f 6 = .bool false := d6
                clear hd
                dsimp only
                rw [d6]
                have z0 := (Z.out.below hb).c0
                have z1 := (Z.out.below hb).c1
                have z2 := (Z.out.below hb).c2
                go_wp2_with fail
                exact ⟨rfl, Below.refl _ _, fun t ht => by injection ht with ht; subst ht; exact ⟨rfl, fun h => by simp at h⟩⟩
              · intro f w1 hb hd
                have d6 := hd 6 (by kernel_rfl)
                have d6 : f 6 = .bool false := d6
                clear hd
                dsimp only
                rw [d6]
                go_wp2_with fail
                exact ⟨rfl, Below.refl _ _, fun t ht => by injection ht with ht; subst ht; exact ⟨rfl, fun h => by simp at h⟩⟩
              · intro f w1 hb hd
                have d6 := hd 6 (by kernel_rfl)
                have d6 : f 6 = .bool false := d6
                have d12 : f 12 = .agg #[.int .i64 dc, .int .i64 dl, .slice ka dn kc] := hd 12 (by kernel_rfl)
                have d13 : f 13 = .int .i64 left := hd 13 (by kernel_rfl)
                clear hd
                dsimp only
                rw [d12]
                rw [d13]
                rw [d6]
                go_wp2_with fail
                refine (HrA.out _ w1 ⟨_, _, _, rfl⟩).mono ?_
                rintro e w2 ⟨rfl, hbe⟩
                go_wp2_with fail
                exact ⟨rfl, hbe, fun t ht => by injection ht with ht; subst ht; exact ⟨⟨_, rfl, (HR6.out.below hb).below hbe⟩, fun h => by simp at h⟩⟩
              · intro f w1 hb hd
                have d6 := hd 6 (by kernel_rfl)
                have d6 : f 6 = .bool false := d6
                have d11 := hd 11 (by kernel_rfl)
                obtain ⟨vg, eg, rg⟩ : ∃ fv', f 11 = .agg #[.int .i64 dc, .int .i64 ml, fv'] ∧ RdF w1 fv' df := d11
                obtain ⟨ag, kg, ug, _⟩ := rg.shape
                subst ug
                have d14 := hd 14 (by kernel_rfl)
                obtain ⟨vh, eh, rh⟩ : ∃ fv', f 14 = .agg #[.int .i64 dc, .int .i64 ml, fv'] ∧ RdF w1 fv' df := d14
                obtain ⟨ah, kh, uh, _⟩ := rh.shape
                subst uh
                clear hd
                dsimp only
                rw [d6, eg, eh]
                go_wp2_with fail
                refine (HSa.out ml _ _ w1 rg rh).mono ?_
                rintro e w2 ⟨rfl, hbe⟩
                go_wp2_with fail
                exact ⟨rfl, hbe, fun t ht => by injection ht with ht; subst ht; exact ⟨rfl, fun h => by simp at h⟩⟩
              · intro f w1 hb hd
                have d6 := hd 6 (by kernel_rfl)
                have d6 : f 6 = .bool false := d6
                have d15 := hd 15 (by kernel_rfl)
                have d15 : f 15 = .bool true := d15
                clear hd
                dsimp only
                rw [d6, d15]
                go_wp2_with fail
                exact ⟨rfl, Below.refl _ _, fun t ht => by injection ht with ht; subst ht; exact ⟨rfl, fun h => by simp at h⟩⟩
            · intro f w1 hb hA _
              have d0 : f 0 = .agg #[.int .i64 dc, .int .i64 dl, .slice ka dn kc] := hA 0 (show 0 < 17 by decide)
              have d1 := hA 1 (show 1 < 17 by decide)
              have d2 := hA 2 (show 2 < 17 by decide)
              have d3 : f 3 = .agg #[.int .i64 dc, .int .i64 dl, .slice ka dn kc] := hA 3 (show 3 < 17 by decide)
              have d4 := hA 4 (show 4 < 17 by decide)
              have d5 := hA 5 (show 5 < 17 by decide)
              have d6 := hA 6 (show 6 < 17 by decide)
              have d7 : f 7 = .agg #[.int .i64 dc, .int .i64 dl, .slice ka dn kc] := hA 7 (show 7 < 17 by decide)
              have d8 := hA 8 (show 8 < 17 by decide)
              have d9 : f 9 = .int .i64 left := hA 9 (show 9 < 17 by decide)
              have d10 := hA 10 (show 10 < 17 by decide)
              have d11 := hA 11 (show 11 < 17 by decide)
              have d12 : f 12 = .agg #[.int .i64 dc, .int .i64 dl, .slice ka dn kc] := hA 12 (show 12 < 17 by decide)
              have d13 : f 13 = .int .i64 left := hA 13 (show 13 < 17 by decide)
              have d14 := hA 14 (show 14 < 17 by decide)
              have d15 := hA 15 (show 15 < 17 by decide)
              have d16 := hA 16 (show 16 < 17 by decide)
              clear hA
              try dsimp only at *
              rw [d0]
              rw [d3]
              rw [d7]
              rw [d9]
              rw [d12]
              rw [d13]
              clear d0 d3 d7 d9 d12 d13
              have d6 : f 6 = .bool false := d6
              have d16 : f 16 = .bool false := d16
              rw [d6, d16]
              have HBe := Lib.hid (bstep HB6.out hb)
              clear d1 d2 d4 d5 d8 d10 d11 d14 d15 hb HGi HdV HrV HTo HAr HrA HSa HR6 Z
              go_wp2_with fail
              exact ⟨⟨k + 1, by omega, by go_num, HBe⟩, by simp [intOf]; omega⟩
          · have i1 : ¬ (k : Int) < 2 := by omega
            clear HDs
            go_wp2_with fail
            refine (HV1.out _).mono ?_
            rintro e w7 ⟨rfl, hb7⟩
            have HB7 := Lib.hid (bstep HBw.out hb7)
            clear hb7
            go_wp2_with fail
            refine (HV2.out _).mono ?_
            rintro e w8 ⟨rfl, rfl⟩
            go_wp2_with fail
            refine (new_any limit _).mono ?_
            rintro e w9 ⟨rfl, hb9⟩
            have HB9 := Lib.hid (bstep HB7.out hb9)
            clear hb9
            dsimp only [diskVal]
            have HNw0 := Lib.hid (fun W => rnew_any limit W)
            dsimp only [diskVal] at HNw0
            have HTz := Lib.hid (told_any ⟨max limit 0, -1, []⟩ (.slice none 0 0) w9 (RdF_nil _) (by simp) (fun f hf => by cases hf))
            dsimp only [diskVal] at HTz
            generalize max limit 0 = mx at *
            go_wp2_with fail
            refine HTz.out.mono ?_
            rintro e w10 ⟨v10, rfl, hr10, hb10⟩
            obtain ⟨ta, tc, rfl, _⟩ := hr10.shape
            have HR10 := Lib.hid hr10
            have HB10 := Lib.hid (bstep HB9.out hb10)
            clear hr10 hb10 HTz
            go_wp2_with fail
            have HNw := Lib.hid (HNw0.out w10)
            refine HNw.out.mono ?_
            rintro e w11 ⟨rfl, hb11⟩
            have HB11 := Lib.hid (bstep HB10.out hb11)
            have HSz := Lib.hid (rsame_any mx (-1) [] _ (.slice none 0 0) w11 (HR10.out.below hb11) (RdF_nil _) (by simp) (fun k hk => by simp at hk))
            dsimp only [diskVal] at HSz
            clear hb11
            go_wp2_with fail
            refine HSz.out.mono ?_
            rintro e w12 ⟨rfl, hb12⟩
            have HB12 := Lib.hid (bstep HB11.out hb12)
            clear hb12
            go_wp2_with fail
            refine (HAw.out _).mono ?_
            rintro e w13 ⟨rfl, hb13⟩
            have HB13 := Lib.hid (bstep HB12.out hb13)
            clear hb13
            go_wp2_with fail
            go_ret
            exact ⟨rfl, HB13.out⟩
    · have hsz := HSz.out
      have g1 : (200 : Int) < (sv.size : Int) := by omega
      clear hsz
      go_wp2_with fail
      refine (HAw.out _).mono ?_
      rintro e w2 ⟨rfl, hb2⟩
      have HB2 := Lib.hid (bstep HB1.out hb2)
      clear hb2
      go_wp2_with fail
      go_ret
      exact ⟨rfl, HB2.out⟩
theorem valid_walk (y : Dk × Value) (limit left : Int) (s : ByteArray) (a : Option Addr) (n cap : Nat) (w : World) (hy : RdF w y.2 y.1.files ∧ DkWf y.1) (h1 : (Lit.int .i64 limit).wf = true) (h2 : (Lit.int .i64 left).wf = true) (h : ∃ l, RdO w (.slice a n cap) l) :
    Calls Tryd.prog 3 #[.agg #[.int .i64 y.1.cap, .int .i64 y.1.left, y.2], .int .i64 limit, .int .i64 left, .string s, .slice a n cap] w fun e w' => e = .returned (.bool true) ∧ Below w.heap.size w w' := by
  obtain ⟨l, hl⟩ := h
  exact valid_go y.1 y.2 limit left s.data.toList _ l w hy.1 hy.2 (bounds_of_i64 h1) (bounds_of_i64 h2) hl
end Go.Proofs.YtkabcpmnbjllcaaDoor
