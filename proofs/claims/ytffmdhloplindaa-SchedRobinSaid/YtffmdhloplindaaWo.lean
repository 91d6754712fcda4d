/- SchedFair: the walk. -/
import Derived.Test.YtffmdhloplindaaWn
namespace Go.Proofs.Ytffmdhloplindaa
open Go.RowKit Go.Maps

/-- The two schedules that the law tries, in block b. -/
structure EnvE (w : World) (b : Nat) (v1 v2 : Value) (l1 l2 : List En) (wr : World) : Prop where
  c1 : wr.cell? ⟨b, 0, none⟩ = some v1
  c2 : wr.cell? ⟨b, 1, none⟩ = some v2
  r1 : RdE wr v1 l1
  r2 : RdE wr v2 l2
  bel : Below w.heap.size w wr
theorem EnvE.keep {w : World} {b : Nat} {v1 v2 : Value} {l1 l2 : List En} {wr w' : World} (h : EnvE w b v1 v2 l1 l2 wr) (hb : Below wr.heap.size wr w') : EnvE w b v1 v2 l1 l2 w' :=
  ⟨Below.keeps hb _ _ h.c1, Below.keeps hb _ _ h.c2, h.r1.below hb, h.r2.below hb, bstep h.bel hb⟩
theorem EnvE.at {w : World} {b : Nat} {v1 v2 : Value} {l1 l2 : List En} {wr : World} (h : EnvE w b v1 v2 l1 l2 wr) (h1 : Tiny l1 ∧ AllWf l1) (h2 : Tiny l2 ∧ AllWf l2) {i : Nat} (hi : i < 2) :
    ∃ a n cap L, wr.cell? ⟨b, i, none⟩ = some (.slice a n cap) ∧ RdE wr (.slice a n cap) L ∧ Tiny L ∧ AllWf L := by
  by_cases e : i = 0
  · subst e
    obtain ⟨a, cap, rfl, _⟩ := h.r1.shape
    exact ⟨_, _, _, l1, h.c1, h.r1, h1.1, h1.2⟩
  · obtain rfl : i = 1 := by omega
    obtain ⟨a, cap, rfl, _⟩ := h.r2.shape
    exact ⟨_, _, _, l2, h.c2, h.r2, h2.1, h2.2⟩
theorem RdE.alloc {w : World} {v : Value} {es : List En} (h : RdE w v es) (o : Obj) : RdE (w.alloc o) v es := h.below ((Below.refl _ _).alloc (Nat.le_refl _) _)
theorem rvalid_b (v : Value) (es : List En) (w : World) (h : RdE w v es) (hs : Small es) :
    Calls Try.prog 20 #[v] w fun e w' => e = .returned (.bool (validB es)) ∧ Below w.heap.size w w' :=
  (rvalid_q v es w h hs).mono fun _ _ ⟨h1, m, h2⟩ => ⟨h1, h2 ▸ below_drewN (Below.refl _ _) m⟩

theorem rworst_b (v : Value) (es : List En) (w : World) (h : RdE w v es) (ht : Tiny es) :
    Calls Try.prog 21 #[v] w fun e w' => e = .returned (.int .i64 (worstV es)) ∧ Below w.heap.size w w' :=
  (rworst_any v es w h ht).mono fun _ _ ⟨h1, m, h2⟩ => ⟨h1, h2 ▸ below_drewN (Below.refl _ _) m⟩
theorem rwaits_b (v : Value) (es : List En) (t : Int) (w : World) (h : RdE w v es) (ht : Tiny es) :
    Calls Try.prog 23 #[v, .int .i64 t] w fun e w' => e = .returned (.int .i64 (waitsV es t)) ∧ Below w.heap.size w w' :=
  (rwaits_any v es t w h ht).mono fun _ _ ⟨h1, m, h2⟩ => ⟨h1, h2 ▸ below_drewN (Below.refl _ _) m⟩

set_option maxRecDepth 100000 in
set_option maxHeartbeats 4000000 in
theorem fairlaw_core (v vm vp : Value) (raw : List En) (ms qs : List UInt8) (b task : Int) (w : World) (h : RdE w v raw) (hwf : ∀ e ∈ raw, ∀ x ∈ e.run, Wf x) (hm : RdB w vm ms) (hp : RdB w vp qs) (ht : Wf task) :
    Calls Try.prog 7 #[v, vm, vp, .int .i64 b, .int .i64 task] w fun e w' => e = .returned (.bool true) ∧ Below w.heap.size w w' := by
  have HC := Lib.hid (cut_any v raw w h)
  have HM := Lib.hid fun w1 (hb : Below w.heap.size w w1) => made_any vm vp ms qs w1 (hm.below hb) (hp.below hb)
  have HG1 := Lib.hid (And.intro (cut_tiny raw) (cut_wf hwf))
  have Ht := Lib.hid ht
  have Ht7 := Lib.hid (show Wf (bits .and .i64 task 7) from wf_bits _ _ _ _)
  clear h hm hp hwf ht
  generalize cutE raw = l1 at *
  go_enter Try.func7, Try.ntmps7
  go_wp2_with fail
  refine HC.out.mono ?_; rintro e w1 ⟨v1, rfl, hr1, hb1⟩
  have HR1 := Lib.hid hr1
  have HB1 := Lib.hid hb1
  clear hr1 hb1
  go_wp2_with fail
  refine (HM.out _ HB1.out).mono ?_; rintro e w2 ⟨v2, l2, rfl, hr2, hmade, hb2⟩
  have HG2 := Lib.hid (And.intro hmade.tiny hmade.wf)
  have HR2 := Lib.hid hr2
  have HR12 := Lib.hid (HR1.out.below hb2)
  have HB2 := Lib.hid (bstep HB1.out hb2)
  clear hr2 hmade hb2
  obtain ⟨a1, n1, cap1, rfl⟩ : ∃ a n cap, v1 = .slice a n cap := by
    obtain ⟨a, cap, e, _⟩ := HR1.out.shape
    exact ⟨_, _, _, e⟩
  obtain ⟨a2, n2, cap2, rfl⟩ : ∃ a n cap, v2 = .slice a n cap := by
    obtain ⟨a, cap, e, _⟩ := HR2.out.shape
    exact ⟨_, _, _, e⟩
  go_wp2_with fail
  have henv : EnvE w w2.heap.size (.slice a1 n1 cap1) (.slice a2 n2 cap2) l1 l2 (w2.alloc (.cells #[.slice a1 n1 cap1, .slice a2 n2 cap2] 33)) :=
    ⟨by simp, by simp, HR12.out.alloc _, HR2.out.alloc _, HB2.out.alloc HB2.out.size _⟩
  have HEnv := Lib.hid henv
  clear henv
  generalize hbk : w2.heap.size = bk at *
  generalize (w2.alloc (.cells #[.slice a1 n1 cap1, .slice a2 n2 cap2] 33)) = wa at *
  go_loopw [23] (fun iv wr => ∃ i : Nat, iv = .int .i64 (i : Int) ∧ i ≤ 2 ∧ EnvE w bk (.slice a1 n1 cap1) (.slice a2 n2 cap2) l1 l2 wr) (fun iv _ => 2 - (intOf iv).toNat)
  case atStart => exact ⟨0, rfl, by decide, HEnv.out⟩
  case round =>
    obtain ⟨i, rfl, hi, henv⟩ := hrel
    have HE := Lib.hid henv
    clear henv
    by_cases hi2 : i < 2
    · obtain ⟨sa, sn, sc, L, hcell, hrdL, hL, hLw⟩ := HE.out.at HG1.out HG2.out hi2
      have HL := Lib.hid hrdL
      have HTy := Lib.hid hL
      have HWf := Lib.hid hLw
      have HGv := Lib.hid (given_any _ L wr hrdL hL.1)
      clear hrdL hL hLw
      go_wp2_with fail
      refine HGv.out.mono ?_; rintro e w3 ⟨v3, rfl, hr3, hb3⟩
      obtain ⟨a3, n3, cap3, rfl⟩ : ∃ a n cap, v3 = .slice a n cap := by
        obtain ⟨a, cap, e, _⟩ := hr3.shape
        exact ⟨_, _, _, e⟩
      have HX := Lib.hid hr3
      have HB3 := Lib.hid hb3
      clear hr3 hb3 hcell
      go_wp2_with fail
      have hc0 : (w3.alloc (.cells #[.int .i64 b, .int .i64 (bits .and .i64 b 15)] 3)).cell? ⟨w3.heap.size, 0, none⟩ = some (.int .i64 b) := by simp
      have hc1 : (w3.alloc (.cells #[.int .i64 b, .int .i64 (bits .and .i64 b 15)] 3)).cell? ⟨w3.heap.size, 1, none⟩ = some (.int .i64 (bits .and .i64 b 15)) := by simp
      have HCc := Lib.hid (And.intro hc0 hc1)
      have HB4 := Lib.hid (HB3.out.alloc HB3.out.size (.cells #[.int .i64 b, .int .i64 (bits .and .i64 b 15)] 3))
      have HX4 := Lib.hid (HX.out.alloc (.cells #[.int .i64 b, .int .i64 (bits .and .i64 b 15)] 3))
      clear hc0 hc1
      generalize w3.heap.size = b3 at *
      generalize (w3.alloc (.cells #[.int .i64 b, .int .i64 (bits .and .i64 b 15)] 3)) = w4 at *
      generalize bits .and .i64 b 15 = b15 at *
      obtain ⟨wo, ewo⟩ : ∃ wo : World, wo = wr := ⟨_, rfl⟩
      subst ewo
      go_loopw [34] (fun jv wr => ∃ j : Nat, jv = .int .i64 (j : Int) ∧ j ≤ 2 ∧ Below wo.heap.size wo wr ∧ (wr.cell? ⟨b3, 0, none⟩ = some (.int .i64 b) ∧ wr.cell? ⟨b3, 1, none⟩ = some (.int .i64 b15)) ∧ RdE wr (.slice a3 n3 cap3) L) (fun jv _ => 2 - (intOf jv).toNat)
      case atStart => exact ⟨0, rfl, by decide, HB4.out, HCc.out, HX4.out⟩
      case round =>
        obtain ⟨j, rfl, hj, hbj, hcc, hrX⟩ := hrel
        have HBj := Lib.hid hbj
        have HCj := Lib.hid hcc
        have HXj := Lib.hid hrX
        clear hbj hrX
        by_cases hj2 : j < 2
        · obtain ⟨m, hmc⟩ : ∃ m, wr.cell? ⟨b3, j, none⟩ = some (.int .i64 m) := by
            by_cases e : j = 0
            · exact ⟨b, by rw [e]; exact hcc.1⟩
            · exact ⟨b15, by rw [show j = 1 by omega]; exact hcc.2⟩
          clear hcc
          have HF := Lib.hid (fair_any _ L m wr HXj.out HTy.out HWf.out)
          have HF2 := Lib.hid fun w1 (hb : Below wo.heap.size wo w1) => rfair_any _ L m w1 (HL.out.below hb) HTy.out
          generalize fairB L m = fb at *
          have hfb : (fb != fb) = false := bne_self_eq_false _
          go_wp2_with fail
          refine HF.out.mono ?_; rintro e w5 ⟨rfl, hb5⟩
          have HB5 := Lib.hid hb5
          clear hb5
          go_wp2_with fail
          refine (HF2.out _ (bstep HBj.out HB5.out)).mono ?_; rintro e w6 ⟨rfl, hb6⟩
          have HB6 := Lib.hid (bstep HB5.out hb6)
          clear hb6
          go_wp2_with fail
          exact ⟨⟨j + 1, by go_num, by omega, bstep HBj.out HB6.out, ⟨Below.keeps HB6.out _ _ HCj.out.1, Below.keeps HB6.out _ _ HCj.out.2⟩, HXj.out.below HB6.out⟩, by simp [intOf]; omega⟩
        · clear hcc
          have HV := Lib.hid (valid_any _ L wr HXj.out HTy.out.small)
          have HV2 := Lib.hid fun w1 (hb : Below wo.heap.size wo w1) => rvalid_b _ L w1 (HL.out.below hb) HTy.out.small
          have HWo := Lib.hid fun w1 (hb : Below wr.heap.size wr w1) => worst_any _ L w1 (HXj.out.below hb) HTy.out HWf.out
          have HWo2 := Lib.hid fun w1 (hb : Below wo.heap.size wo w1) => rworst_b _ L w1 (HL.out.below hb) HTy.out
          have HWa := Lib.hid fun w1 (hb : Below wr.heap.size wr w1) => waitsF_any _ L task w1 (HXj.out.below hb) HTy.out HWf.out Ht.out
          have HWa2 := Lib.hid fun w1 (hb : Below wo.heap.size wo w1) => rwaits_b _ L task w1 (HL.out.below hb) HTy.out
          have HWb := Lib.hid fun w1 (hb : Below wr.heap.size wr w1) => waitsF_any _ L (bits .and .i64 task 7) w1 (HXj.out.below hb) HTy.out HWf.out Ht7.out
          have HWb2 := Lib.hid fun w1 (hb : Below wo.heap.size wo w1) => rwaits_b _ L (bits .and .i64 task 7) w1 (HL.out.below hb) HTy.out
          generalize validB L = vb at *
          generalize worstV L = x1 at *
          generalize waitsV L task = x2 at *
          generalize waitsV L (bits .and .i64 task 7) = x3 at *
          have hvb : (vb != vb) = false := bne_self_eq_false _
          go_wp2_with fail
          refine HV.out.mono ?_; rintro e w5 ⟨rfl, hb5⟩
          have HB5 := Lib.hid hb5
          clear hb5
          go_wp2_with fail
          refine (HV2.out _ (bstep HBj.out HB5.out)).mono ?_; rintro e w6 ⟨rfl, hb6⟩
          have HB6 := Lib.hid (bstep HB5.out hb6)
          clear hb6
          go_wp2_with fail
          refine (HWo.out _ HB6.out).mono ?_; rintro e w7 ⟨rfl, hb7⟩
          have HB7 := Lib.hid (bstep HB6.out hb7)
          clear hb7
          go_wp2_with fail
          refine (HWo2.out _ (bstep HBj.out HB7.out)).mono ?_; rintro e w8 ⟨rfl, hb8⟩
          have HB8 := Lib.hid (bstep HB7.out hb8)
          clear hb8
          go_wp2_with fail
          refine (HWa.out _ HB8.out).mono ?_; rintro e w9 ⟨rfl, hb9⟩
          have HB9 := Lib.hid (bstep HB8.out hb9)
          clear hb9
          go_wp2_with fail
          refine (HWa2.out _ (bstep HBj.out HB9.out)).mono ?_; rintro e w10 ⟨rfl, hb10⟩
          have HB10 := Lib.hid (bstep HB9.out hb10)
          clear hb10
          go_wp2_with fail
          refine (HWb.out _ HB10.out).mono ?_; rintro e w11 ⟨rfl, hb11⟩
          have HB11 := Lib.hid (bstep HB10.out hb11)
          clear hb11
          go_wp2_with fail
          refine (HWb2.out _ (bstep HBj.out HB11.out)).mono ?_; rintro e w12 ⟨rfl, hb12⟩
          have HB12 := Lib.hid (bstep HB11.out hb12)
          clear hb12
          go_wp2_with fail
          exact ⟨⟨i + 1, by go_num, by omega, HE.out.keep (bstep HBj.out HB12.out)⟩, by simp [intOf]; omega⟩
    · have HBE := Lib.hid HE.out.bel
      go_wp2_with fail
      refine (awake_any _).mono ?_; rintro e w9 ⟨rfl, hb9⟩
      go_wp2_with fail
      go_ret
      exact ⟨rfl, bstep HBE.out hb9⟩
end Go.Proofs.Ytffmdhloplindaa
