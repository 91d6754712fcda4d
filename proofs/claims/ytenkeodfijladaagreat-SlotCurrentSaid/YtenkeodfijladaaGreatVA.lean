/- Several texts in one, each over the last: slot.Valid: the walk. slot.Valid: the walk, the loop. slot.Valid whole; slot.Route. slot.New: the walk. slot.Fits: the walk, of a valid slot. -/
import Derived.Test.YtenkeodfijladaaGreatGE
import Derived.Test.YtenkeodfijladaaGreatGv
import Derived.Test.YtenkeodfijladaaGreatGY
import Derived.StillTailTactics
import Derived.Laws.Bits64
import Derived.Laws.Bits64b
namespace Go.Proofs.YtenkeodfijladaaGreat
open Go.RowKit

theorem size4096 (w : World) : Calls Tryz.prog 77 #[.int .i64 4096] w fun e w' => e = .returned (.int .i64 4120) ∧ Below w.heap.size w w' :=
  (nsizeB 4096 w).mono fun _ _ ⟨he, hw⟩ => ⟨he.trans rfl, hw ▸ Below.refl _ _⟩
theorem size0 (w : World) : Calls Tryz.prog 77 #[.int .i64 0] w fun e w' => e = .returned (.int .i64 24) ∧ Below w.heap.size w w' :=
  (nsizeB 0 w).mono fun _ _ ⟨he, hw⟩ => ⟨he.trans rfl, hw ▸ Below.refl _ _⟩
set_option maxRecDepth 100000 in
set_option maxHeartbeats 4000000 in
/-- The numbers of the slot are not as they should be. -/
theorem svalid_no1 (i l : Int) (r : Bool) (a : Option Addr) (n c : Nat) (w : World) (hA : ¬ (0 ≤ i ∧ i < 4 ∧ 4136 ≤ l ∧ l ≤ 262144)) :
    Calls Tryz.prog 62 #[sloV i l r a n c] w fun e w' => e = .returned (.bool false) ∧ Below w.heap.size w w' := by
  have HZ := Lib.hid (fun W => size4096 W)
  have HBx := Lib.hid (BoxV.new w i l r a n c 41)
  have HB0 := Lib.hid (below_slo w i l r a n c 41)
  have hc : i < 0 ∨ (0 ≤ i ∧ 4 ≤ i) ∨ (0 ≤ i ∧ i < 4 ∧ l < 4136) ∨ (0 ≤ i ∧ i < 4 ∧ 4136 ≤ l ∧ 262144 < l) := by omega
  clear hA
  go_enter Tryz.func62, Tryz.ntmps62
  go_upto_region 1 with fail
  obtain ⟨W, hW⟩ : ∃ W, w.alloc (.cells (sloC i l r a n c) 41) = W := ⟨_, rfl⟩
  change Code.wp _ _ _ _ (w.alloc (.cells (sloC i l r a n c) 41))
  rw [hW] at HBx HB0 ⊢
  have hlw := HBx.out.lt
  have k0 := cell_by HBx.out.c0
  have k1 := cell_by HBx.out.c1
  clear hW
  rcases hc with h1 | ⟨h1, h2⟩ | ⟨h1, h2, h3⟩ | ⟨h1, h2, h3, h4⟩
  · have e1 : decide (i < 0) = true := by simp; omega
    refine wp_region_below (by kernel_rfl) (by kernel_rfl) ?_
    repeat (go_big_quiet_step ((exact calls_by (HZ.out _))))
    refine wpQuiet_nil ?_
    intro _ hw'
    obtain ⟨q, hw'⟩ := hw'
    subst hw'
    have HQ := Lib.hid (bstep HB0.out q.h)
    clear k0 k1
    go_wp2_with fail
    go_ret
    exact ⟨rfl, HQ.out⟩
  · have e1 : decide (i < 0) = false := by simp; omega
    have e2 : decide (4 ≤ i) = true := by simp; omega
    refine wp_region_below (by kernel_rfl) (by kernel_rfl) ?_
    repeat (go_big_quiet_step ((exact calls_by (HZ.out _))))
    refine wpQuiet_nil ?_
    intro _ hw'
    obtain ⟨q, hw'⟩ := hw'
    subst hw'
    have HQ := Lib.hid (bstep HB0.out q.h)
    clear k0 k1
    go_wp2_with fail
    go_ret
    exact ⟨rfl, HQ.out⟩
  · have e1 : decide (i < 0) = false := by simp; omega
    have e2 : decide (4 ≤ i) = false := by simp; omega
    have e3 : decide (l < 4136) = true := by simp; omega
    refine wp_region_below (by kernel_rfl) (by kernel_rfl) ?_
    repeat (go_big_quiet_step ((exact calls_by (HZ.out _))))
    refine wpQuiet_nil ?_
    intro _ hw'
    obtain ⟨q, hw'⟩ := hw'
    subst hw'
    have HQ := Lib.hid (bstep HB0.out q.h)
    clear k0 k1
    go_wp2_with fail
    go_ret
    exact ⟨rfl, HQ.out⟩
  · have e1 : decide (i < 0) = false := by simp; omega
    have e2 : decide (4 ≤ i) = false := by simp; omega
    have e3 : decide (l < 4136) = false := by simp; omega
    have e4 : decide (262144 < l) = true := by simp; omega
    refine wp_region_below (by kernel_rfl) (by kernel_rfl) ?_
    repeat (go_big_quiet_step ((exact calls_by (HZ.out _))))
    refine wpQuiet_nil ?_
    intro _ hw'
    obtain ⟨q, hw'⟩ := hw'
    subst hw'
    have HQ := Lib.hid (bstep HB0.out q.h)
    clear k0 k1
    go_wp2_with fail
    go_ret
    exact ⟨rfl, HQ.out⟩
end Go.Proofs.YtenkeodfijladaaGreat

namespace Go.Proofs.YtenkeodfijladaaGreat
open Go.RowKit

theorem ne_bools : ∀ {a b : Bool}, a ≠ b → (a = true ∧ b = false) ∨ (a = false ∧ b = true) := by decide

set_option maxRecDepth 100000 in
set_option maxHeartbeats 4000000 in
/-- The number of the generations is not as it should be. -/
theorem svalid_no2 (i l : Int) (r : Bool) (a : Option Addr) (n c : Nat) (w : World) (hA : 0 ≤ i ∧ i < 4 ∧ 4136 ≤ l ∧ l ≤ 262144) (hn : n < 1 ∨ 8 < n) :
    Calls Tryz.prog 62 #[sloV i l r a n c] w fun e w' => e = .returned (.bool false) ∧ Below w.heap.size w w' := by
  have HZ := Lib.hid (fun W => size4096 W)
  have HBx := Lib.hid (BoxV.new w i l r a n c 41)
  have HB0 := Lib.hid (below_slo w i l r a n c 41)
  obtain ⟨h1, h2, h3, h4⟩ := hA
  go_enter Tryz.func62, Tryz.ntmps62
  go_upto_region 1 with fail
  obtain ⟨W, hW⟩ : ∃ W, w.alloc (.cells (sloC i l r a n c) 41) = W := ⟨_, rfl⟩
  change Code.wp _ _ _ _ (w.alloc (.cells (sloC i l r a n c) 41))
  rw [hW] at HBx HB0 ⊢
  have hlw := HBx.out.lt
  have k0 := cell_by HBx.out.c0
  have k1 := cell_by HBx.out.c1
  clear hW
  have e1 : decide (i < 0) = false := by simp; omega
  have e2 : decide (4 ≤ i) = false := by simp; omega
  have e3 : decide (l < 4136) = false := by simp; omega
  have e4 : decide (262144 < l) = false := by simp; omega
  refine wp_region_below (by kernel_rfl) (by kernel_rfl) ?_
  repeat (go_big_quiet_step ((exact calls_by (HZ.out _))))
  refine wpQuiet_nil ?_
  intro _ hw'
  obtain ⟨q, hw'⟩ := hw'
  subst hw'
  have HQ := Lib.hid (bstep HB0.out q.h)
  have HX := Lib.hid (HBx.out.below q.h)
  generalize q.w' = w1 at *
  have k3 := HX.out.c3
  clear k0 k1 e1 e2 e3 e4 HZ HBx HB0
  rcases hn with h | h
  · have e5 : decide ((n : Int) < 1) = true := by simp; omega
    go_wp2_with fail
    go_ret
    exact ⟨rfl, HQ.out⟩
  · have e5 : decide ((n : Int) < 1) = false := by simp; omega
    have e6 : decide ((8 : Int) < (n : Int)) = true := by simp; omega
    go_wp2_with fail
    go_ret
    exact ⟨rfl, HQ.out⟩
set_option maxRecDepth 100000 in
set_option maxHeartbeats 8000000 in
theorem svalid_yes (i l : Int) (r : Bool) (a : Option Addr) (n c : Nat) (L : List GP) (w : World) (hA : 0 ≤ i ∧ i < 4 ∧ 4136 ≤ l ∧ l ≤ 262144) (hn : 1 ≤ n ∧ n ≤ 8)
    (h : RdG w (.slice a n c) L) (hs : ∀ p ∈ L, ∀ j, j < 8 → (p.1.m.st j).length ≤ 10000) :
    Calls Tryz.prog 62 #[sloV i l r a n c] w fun e w' => e = .returned (.bool (vldSl ⟨i, l, r, gns L⟩)) ∧ Below w.heap.size w w' := by
  have HZ := Lib.hid (fun W => size4096 W)
  have HZ0 := Lib.hid (fun W => size0 W)
  have HBx := Lib.hid (BoxV.new w i l r a n c 41)
  have HB0 := Lib.hid (below_slo w i l r a n c 41)
  have hLn : L.length = n := by
    obtain ⟨_, _, e, _⟩ := h.shape
    injection e with _ e _; exact e.symm
  have HR := Lib.hid h
  have HS := Lib.hid hs
  have HLn := Lib.hid hLn
  have HNo := Lib.hid (fun k (hk : k < n) (h : ¬ okG ⟨i, l, r, gns L⟩ k) => vldSl_noG (s := ⟨i, l, r, gns L⟩) (by show k < (gns L).length; rw [gns_len, hLn]; exact hk) h)
  have HYes := Lib.hid (fun (h : ∀ k, k < n → okG ⟨i, l, r, gns L⟩ k) => show vldSl ⟨i, l, r, gns L⟩ = decide ((pat L (n - 1)).1.size + (((itemsM (pat L (n - 1)).1.m).length * 24 : Nat) : Int) ≤ 2 * l) from by
    rw [Bool.eq_iff_iff, vldSl_iff, decide_eq_true_eq]
    have hl : (gns L).length = n := by rw [gns_len, hLn]
    constructor
    · intro h
      have := h.top
      simp only [gat_gns, hl] at this
      exact this
    · intro ht
      refine ⟨⟨hA.1, hA.2.1⟩, hA.2.2, by rw [hl]; exact hn, fun k hk => h k (by rw [hl] at hk; exact hk), ?_⟩
      simp only [gat_gns, hl]
      exact ht)
  have HOk := Lib.hid (fun k => show okG ⟨i, l, r, gns L⟩ k ↔ (vldG (pat L k).1 = true ∧ (0 < k → (pat L (k - 1)).1.num < (pat L k).1.num) ∧ ((pat L k).1.mode = 1 ↔ k + 1 = n) ∧ (pat L k).1.size ≤ 2 * l) from by
    unfold okG
    simp only [gat_gns, gns_len, hLn])
  generalize vldSl ⟨i, l, r, gns L⟩ = res at *
  generalize hok : okG ⟨i, l, r, gns L⟩ = ok at *
  clear hok
  obtain ⟨h1, h2, h3, h4⟩ := hA
  obtain ⟨hn1, hn8⟩ := hn
  clear h hs hLn
  go_enter Tryz.func62, Tryz.ntmps62
  go_upto_region 1 with fail
  obtain ⟨W, hW⟩ : ∃ W, w.alloc (.cells (sloC i l r a n c) 41) = W := ⟨_, rfl⟩
  change Code.wp _ _ _ _ (w.alloc (.cells (sloC i l r a n c) 41))
  rw [hW] at HBx HB0 ⊢
  have hlw := HBx.out.lt
  have k0 := cell_by HBx.out.c0
  have k1 := cell_by HBx.out.c1
  clear hW
  have e1 : decide (i < 0) = false := by simp; omega
  have e2 : decide (4 ≤ i) = false := by simp; omega
  have e3 : decide (l < 4136) = false := by simp; omega
  have e4 : decide (262144 < l) = false := by simp; omega
  refine wp_region_below (by kernel_rfl) (by kernel_rfl) ?_
  repeat (go_big_quiet_step ((exact calls_by (HZ.out _))))
  refine wpQuiet_nil ?_
  intro _ hw'
  obtain ⟨q, hw'⟩ := hw'
  subst hw'
  have HQ := Lib.hid (bstep HB0.out q.h)
  have HX := Lib.hid (HBx.out.below q.h)
  generalize q.w' = w1 at *
  have k3 := HX.out.c3
  clear k0 k1 e1 e2 e3 e4 HZ HBx HB0
  have hlX := HX.out.lt
  have HR1 := Lib.hid (HR.out.below HQ.out)
  have e5 : decide ((n : Int) < 1) = false := by simp; omega
  have e6 : decide ((8 : Int) < (n : Int)) = false := by simp; omega
  go_wp2_with fail
  clear k3
  go_loopw [40] (fun x wr => ∃ k : Nat, k ≤ n ∧ x = .int .i64 (k : Int) ∧ (∀ j, j < k → ok j) ∧ Below w1.heap.size w1 wr) (fun x _ => n - (intOf x).toNat)
  case atStart => exact ⟨0, Nat.zero_le _, rfl, fun j hj => absurd hj (by omega), Below.refl _ _⟩
  case round =>
    obtain ⟨k, hk, rfl, hoks, hb⟩ := hrel
    have Hoks := Lib.hid hoks
    have Hb := Lib.hid hb
    have hbs := hb.size
    clear hoks hb
    have HXr := Lib.hid (HX.out.below Hb.out)
    have HRr := Lib.hid (HR1.out.below Hb.out)
    by_cases hlt : k < n
    · obtain ⟨b, off, rfl, hg⟩ := HRr.out.at hlt
      have hmem := pat_mem (l := L) (i := k) (by rw [HLn.out]; exact hlt)
      have HMp := Lib.hid (HRr.out.m _ hmem)
      have HV := Lib.hid (fun W (hb : Below wr.heap.size wr W) => gvalid_any (pat L k).1 (pat L k).2 W (HMp.out.below hb) (HS.out _ hmem))
      have HOk1 := Lib.hid (HOk.out k)
      have HPr := Lib.hid (fun j (hj : j < n) => (HRr.out.at2 hj).n0)
      clear hmem HMp
      generalize pat L k = p at *
      obtain ⟨⟨num, rev, md, sz, f, LV, GA⟩, s⟩ := p
      dsimp only at HV HOk1 hg
      generalize vldG ⟨num, rev, md, sz, f, LV, GA⟩ = vb at *
      obtain ⟨g0, g1, g2, g3, g4, g5, g6, g7, g8, g9, g10, g11, g12, g13⟩ := hg
      dsimp only at g0 g1 g2 g3 g4 g5 g6 g7 g8 g9 g10 g11 g12 g13
      have x3 := HXr.out.c3
      have HXg := Lib.hid (BoxG.new wr num rev md sz s LV GA 58)
      have HBg := Lib.hid (below_gen wr num rev md sz s LV GA 58)
      go_upto_region 8 with fail
      change Code.wp _ _ _ _ (wr.alloc (.cells (genC num rev md sz s LV GA) 58))
      obtain ⟨W, hW⟩ : ∃ W, wr.alloc (.cells (genC num rev md sz s LV GA) 58) = W := ⟨_, rfl⟩
      rw [hW] at HXg HBg ⊢
      have HbW := Lib.hid (bup Hb.out hbs HBg.out)
      have hleW := Nat.le_trans hbs HBg.out.size
      have hlW := HXg.out.lt
      have HXW := Lib.hid (HXr.out.below HBg.out)
      have hlX2 := HXW.out.lt
      have HVW := Lib.hid (fun W' (hb : Below W.heap.size W W') => HV.out W' (bstep HBg.out hb))
      have HPW := Lib.hid (fun j (hj : j < n) => Below.keeps HBg.out _ _ (HPr.out j hj))
      clear hW g0 g1 g2 g3 g4 g5 g6 g7 g8 g9 g10 g11 g12 g13 x3 HV HPr HXr
      obtain ⟨bl, e7, hbl⟩ : ∃ bl, ((k : Int) == (n : Int) - 1) = bl ∧ (bl = true ↔ k + 1 = n) := ⟨_, rfl, by rw [beq_iff_eq]; omega⟩
      obtain ⟨bm, e8, hbm⟩ : ∃ bm, (md == 1) = bm ∧ (bm = true ↔ md = 1) := ⟨_, rfl, by rw [beq_iff_eq]⟩
      have HBm := Lib.hid hbm
      have HBl := Lib.hid hbl
      clear hbm hbl
      obtain ⟨bx, e9, hbx⟩ : ∃ bx, (bm != bl) = bx ∧ (bx = false ↔ bm = bl) := ⟨_, rfl, by cases bm <;> cases bl <;> decide⟩
      have j1 : IntKind.i64.wrap ((n : Int) - 1) = (n : Int) - 1 := IntWalk.i64_in _ (by omega)
      have j2 : IntKind.i64.wrap (2 * l) = 2 * l := IntWalk.i64_in _ (by omega)
      have y3 := HXW.out.c3
      go_wp2_with fail
      clear y3
      have m0 := cell_by HXg.out.n0
      have m1 := cell_by HXg.out.n1
      have m2 := cell_by HXg.out.n2
      have m3 := cell_by HXg.out.n3
      have m4 := cell_by HXg.out.c0
      have m5 := cell_by HXg.out.c1
      have m6 := cell_by HXg.out.c2
      have m7 := cell_by HXg.out.c3
      have m8 := cell_by HXg.out.c4
      have m9 := cell_by HXg.out.c5
      have m10 := cell_by HXg.out.c6
      have m11 := cell_by HXg.out.c7
      have m12 := cell_by HXg.out.cl
      have m13 := cell_by HXg.out.cg
      have v1 := cell_by HXW.out.c1
      have v3 := cell_by HXW.out.c3
      cases vb
      · refine wp_region_below (by kernel_rfl) (by kernel_rfl) ?_
        repeat (go_big_quiet_step ((exact calls_by (HVW.out _ (BelowBy.h _)))))
        refine wpQuiet_nil ?_
        intro _ hw'
        obtain ⟨q, hw'⟩ := hw'
        subst hw'
        have HQ2 := Lib.hid (bup HbW.out hleW q.h)
        generalize q.w' = W2 at *
        clear m0 m1 m2 m3 m4 m5 m6 m7 m8 m9 m10 m11 m12 m13 v1 v3
        go_wp2_with fail
        go_ret
        exact ⟨ret_bool (HNo.out k hlt fun h => by have := (HOk1.out.1 h).1; cases this).symm, bstep HQ.out HQ2.out⟩
      · by_cases hk0 : k = 0
        · have e0 : decide ((0 : Int) < (k : Int)) = false := by simp; omega
          cases bx
          · have hbx2 : bm = bl := hbx.1 rfl
            by_cases hsz : 2 * l < sz
            · have e10 : decide (2 * l < sz) = true := by simp; omega
              refine wp_region_below (by kernel_rfl) (by kernel_rfl) ?_
              repeat (go_big_quiet_step ((exact calls_by (HVW.out _ (BelowBy.h _)))))
              refine wpQuiet_nil ?_
              intro _ hw'
              obtain ⟨q, hw'⟩ := hw'
              subst hw'
              have HQ2 := Lib.hid (bup HbW.out hleW q.h)
              generalize q.w' = W2 at *
              clear m0 m1 m2 m3 m4 m5 m6 m7 m8 m9 m10 m11 m12 m13 v1 v3
              go_wp2_with fail
              go_ret
              exact ⟨ret_bool (HNo.out k hlt fun h => by have := (HOk1.out.1 h).2.2.2; omega).symm, bstep HQ.out HQ2.out⟩
            · have e10 : decide (2 * l < sz) = false := by simp; omega
              have HSz := Lib.hid (show sz ≤ 2 * l by omega)
              refine wp_region_below (by kernel_rfl) (by kernel_rfl) ?_
              repeat (go_big_quiet_step ((exact calls_by (HVW.out _ (BelowBy.h _)))))
              refine wpQuiet_nil ?_
              intro _ hw'
              obtain ⟨q, hw'⟩ := hw'
              subst hw'
              have HQ2 := Lib.hid (bup HbW.out hleW q.h)
              generalize q.w' = W2 at *
              clear m0 m1 m2 m3 m4 m5 m6 m7 m8 m9 m10 m11 m12 m13 v1 v3
              go_wp2_with fail
              exact ⟨⟨k + 1, by omega, by go_num, fun j hj => by
                by_cases e : j = k
                · rw [e]; exact HOk1.out.2 ⟨rfl, fun h => absurd h (by omega), by rw [← HBm.out, ← HBl.out, hbx2], HSz.out⟩
                · exact Hoks.out j (by omega), HQ2.out⟩, by simp [intOf]; omega⟩
          · have hbx2 := Lib.hid (show bm ≠ bl from fun h => by cases hbx.2 h)
            rcases ne_bools hbx2.out with ⟨rfl, rfl⟩ | ⟨rfl, rfl⟩
            · clear e9 hbx
              refine wp_region_below (by kernel_rfl) (by kernel_rfl) ?_
              repeat (go_big_quiet_step ((exact calls_by (HVW.out _ (BelowBy.h _)))))
              refine wpQuiet_nil ?_
              intro _ hw'
              obtain ⟨q, hw'⟩ := hw'
              subst hw'
              have HQ2 := Lib.hid (bup HbW.out hleW q.h)
              generalize q.w' = W2 at *
              clear m0 m1 m2 m3 m4 m5 m6 m7 m8 m9 m10 m11 m12 m13 v1 v3
              go_wp2_with fail
              go_ret
              exact ⟨ret_bool (HNo.out k hlt fun h => by
                    have h5 := (HOk1.out.1 h).2.2.1
                    rw [← HBm.out, ← HBl.out] at h5
                    simp at h5).symm, bstep HQ.out HQ2.out⟩
            · clear e9 hbx
              refine wp_region_below (by kernel_rfl) (by kernel_rfl) ?_
              repeat (go_big_quiet_step ((exact calls_by (HVW.out _ (BelowBy.h _)))))
              refine wpQuiet_nil ?_
              intro _ hw'
              obtain ⟨q, hw'⟩ := hw'
              subst hw'
              have HQ2 := Lib.hid (bup HbW.out hleW q.h)
              generalize q.w' = W2 at *
              clear m0 m1 m2 m3 m4 m5 m6 m7 m8 m9 m10 m11 m12 m13 v1 v3
              go_wp2_with fail
              go_ret
              exact ⟨ret_bool (HNo.out k hlt fun h => by
                    have h5 := (HOk1.out.1 h).2.2.1
                    rw [← HBm.out, ← HBl.out] at h5
                    simp at h5).symm, bstep HQ.out HQ2.out⟩
        · obtain ⟨j, rfl⟩ : ∃ j, k = j + 1 := ⟨k - 1, by omega⟩
          have e0 : decide ((0 : Int) < ((j + 1 : Nat) : Int)) = true := by simp
          have p0 := cell_by (HPW.out j (by omega))
          have HPj : j + 1 - 1 = j := by omega
          rw [HPj] at HOk1
          generalize (pat L j).1.num = pn at *
          have i1 : (j : Int) + 1 < (n : Int) := by omega
          have i2 : (j : Int) < (n : Int) := by omega
          have j3 : IntKind.i64.wrap (j : Int) = (j : Int) := IntWalk.i64_in _ (by omega)
          by_cases hpn : num ≤ pn
          · have e11 : decide (num ≤ pn) = true := by simp; omega
            refine wp_region_below (by kernel_rfl) (by kernel_rfl) ?_
            repeat (go_big_quiet_step ((exact calls_by (HVW.out _ (BelowBy.h _)))))
            refine wpQuiet_nil ?_
            intro _ hw'
            obtain ⟨q, hw'⟩ := hw'
            subst hw'
            have HQ2 := Lib.hid (bup HbW.out hleW q.h)
            generalize q.w' = W2 at *
            clear m0 m1 m2 m3 m4 m5 m6 m7 m8 m9 m10 m11 m12 m13 v1 v3
            go_wp2_with fail
            go_ret
            exact ⟨ret_bool (HNo.out (j + 1) hlt fun h => by have := (HOk1.out.1 h).2.1 (by omega); omega).symm, bstep HQ.out HQ2.out⟩
          · have e11 : decide (num ≤ pn) = false := by simp; omega
            have HPn := Lib.hid (show pn < num by omega)
            cases bx
            · have hbx2 : bm = bl := hbx.1 rfl
              by_cases hsz : 2 * l < sz
              · have e10 : decide (2 * l < sz) = true := by simp; omega
                refine wp_region_below (by kernel_rfl) (by kernel_rfl) ?_
                repeat (go_big_quiet_step ((exact calls_by (HVW.out _ (BelowBy.h _)))))
                refine wpQuiet_nil ?_
                intro _ hw'
                obtain ⟨q, hw'⟩ := hw'
                subst hw'
                have HQ2 := Lib.hid (bup HbW.out hleW q.h)
                generalize q.w' = W2 at *
                clear m0 m1 m2 m3 m4 m5 m6 m7 m8 m9 m10 m11 m12 m13 v1 v3
                go_wp2_with fail
                go_ret
                exact ⟨ret_bool (HNo.out (j + 1) hlt fun h => by have := (HOk1.out.1 h).2.2.2; omega).symm, bstep HQ.out HQ2.out⟩
              · have e10 : decide (2 * l < sz) = false := by simp; omega
                have HSz := Lib.hid (show sz ≤ 2 * l by omega)
                refine wp_region_below (by kernel_rfl) (by kernel_rfl) ?_
                repeat (go_big_quiet_step ((exact calls_by (HVW.out _ (BelowBy.h _)))))
                refine wpQuiet_nil ?_
                intro _ hw'
                obtain ⟨q, hw'⟩ := hw'
                subst hw'
                have HQ2 := Lib.hid (bup HbW.out hleW q.h)
                generalize q.w' = W2 at *
                clear m0 m1 m2 m3 m4 m5 m6 m7 m8 m9 m10 m11 m12 m13 v1 v3
                go_wp2_with fail
                exact ⟨⟨j + 1 + 1, by omega, by go_num, fun j' hj => by
                  by_cases e : j' = j + 1
                  · rw [e]; exact HOk1.out.2 ⟨rfl, fun _ => HPn.out, by rw [← HBm.out, ← HBl.out, hbx2], HSz.out⟩
                  · exact Hoks.out j' (by omega), HQ2.out⟩, by simp [intOf]; omega⟩
            · have hbx2 := Lib.hid (show bm ≠ bl from fun h => by cases hbx.2 h)
              rcases ne_bools hbx2.out with ⟨rfl, rfl⟩ | ⟨rfl, rfl⟩
              · clear e9 hbx
                refine wp_region_below (by kernel_rfl) (by kernel_rfl) ?_
                repeat (go_big_quiet_step ((exact calls_by (HVW.out _ (BelowBy.h _)))))
                refine wpQuiet_nil ?_
                intro _ hw'
                obtain ⟨q, hw'⟩ := hw'
                subst hw'
                have HQ2 := Lib.hid (bup HbW.out hleW q.h)
                generalize q.w' = W2 at *
                clear m0 m1 m2 m3 m4 m5 m6 m7 m8 m9 m10 m11 m12 m13 v1 v3
                go_wp2_with fail
                go_ret
                exact ⟨ret_bool (HNo.out (j + 1) hlt fun h => by
                    have h5 := (HOk1.out.1 h).2.2.1
                    rw [← HBm.out, ← HBl.out] at h5
                    simp at h5).symm, bstep HQ.out HQ2.out⟩
              · clear e9 hbx
                refine wp_region_below (by kernel_rfl) (by kernel_rfl) ?_
                repeat (go_big_quiet_step ((exact calls_by (HVW.out _ (BelowBy.h _)))))
                refine wpQuiet_nil ?_
                intro _ hw'
                obtain ⟨q, hw'⟩ := hw'
                subst hw'
                have HQ2 := Lib.hid (bup HbW.out hleW q.h)
                generalize q.w' = W2 at *
                clear m0 m1 m2 m3 m4 m5 m6 m7 m8 m9 m10 m11 m12 m13 v1 v3
                go_wp2_with fail
                go_ret
                exact ⟨ret_bool (HNo.out (j + 1) hlt fun h => by
                    have h5 := (HOk1.out.1 h).2.2.1
                    rw [← HBm.out, ← HBl.out] at h5
                    simp at h5).symm, bstep HQ.out HQ2.out⟩
    · obtain rfl : k = n := by omega
      have HF := Lib.hid (HYes.out Hoks.out)
      obtain ⟨j, rfl⟩ : ∃ j, k = j + 1 := ⟨k - 1, by omega⟩
      have HPj : j + 1 - 1 = j := by omega
      rw [HPj] at HF
      obtain ⟨b, off, rfl, hg⟩ := HRr.out.at (show j < j + 1 by omega)
      have hmem := pat_mem (l := L) (i := j) (by rw [HLn.out]; omega)
      have HMp := Lib.hid (HRr.out.m _ hmem)
      have HV := Lib.hid (fun W (hb : Below wr.heap.size wr W) => lenM_any (pat L j).2 (pat L j).1.m W (HMp.out.below hb) (HS.out _ hmem))
      have hil : (itemsM (pat L j).1.m).length ≤ 80000 := itemsM_len (HS.out _ hmem)
      have hsz := ((HOk.out j).1 (Hoks.out j (by omega))).2.2.2
      have hvg := ((vldG_iff _).1 ((HOk.out j).1 (Hoks.out j (by omega))).1).size.1
      clear hmem HMp HYes HNo HOk Hoks HS
      generalize (itemsM (pat L j).1.m).length = len at *
      generalize pat L j = p at *
      obtain ⟨⟨num, rev, md, sz, f, LV, GA⟩, s⟩ := p
      dsimp only at HV HF hg hsz hvg
      obtain ⟨g0, g1, g2, g3, g4, g5, g6, g7, g8, g9, g10, g11, g12, g13⟩ := hg
      dsimp only at g0 g1 g2 g3 g4 g5 g6 g7 g8 g9 g10 g11 g12 g13
      have x3 := HXr.out.c3
      have HXg := Lib.hid (BoxG.new wr num rev md sz s LV GA 58)
      have HBg := Lib.hid (below_gen wr num rev md sz s LV GA 58)
      have j3 : IntKind.i64.wrap (j : Int) = (j : Int) := IntWalk.i64_in _ (by omega)
      have i1 : (j : Int) + 1 < ((j + 1 : Nat) : Int) + 1 := by omega
      have i2 : (j : Int) < ((j + 1 : Nat) : Int) := by omega
      go_upto_region 13 with fail
      change Code.wp _ _ _ _ (wr.alloc (.cells (genC num rev md sz s LV GA) 58))
      obtain ⟨W, hW⟩ : ∃ W, wr.alloc (.cells (genC num rev md sz s LV GA) 58) = W := ⟨_, rfl⟩
      rw [hW] at HXg HBg ⊢
      have HbW := Lib.hid (bup Hb.out hbs HBg.out)
      have hleW := Nat.le_trans hbs HBg.out.size
      have hlW := HXg.out.lt
      have HXW := Lib.hid (HXr.out.below HBg.out)
      have HVW := Lib.hid (fun W' (hb : Below W.heap.size W W') => HV.out W' (bstep HBg.out hb))
      clear hW g0 g1 g2 g3 g4 g5 g6 g7 g8 g9 g10 g11 g12 g13 x3 HV HXr
      have j2 : IntKind.i64.wrap (2 * l) = 2 * l := IntWalk.i64_in _ (by omega)
      have j4 : IntKind.i64.wrap ((len : Int) * 24) = (len : Int) * 24 := IntWalk.i64_in _ (by omega)
      have j5 : IntKind.i64.wrap (sz + (len : Int) * 24) = sz + (len : Int) * 24 := IntWalk.i64_in _ (by omega)
      have m3 := cell_by HXg.out.n3
      have m4 := cell_by HXg.out.c0
      have m5 := cell_by HXg.out.c1
      have m6 := cell_by HXg.out.c2
      have m7 := cell_by HXg.out.c3
      have m8 := cell_by HXg.out.c4
      have m9 := cell_by HXg.out.c5
      have m10 := cell_by HXg.out.c6
      have m11 := cell_by HXg.out.c7
      have m12 := cell_by HXg.out.cl
      have m13 := cell_by HXg.out.cg
      have v1 := cell_by HXW.out.c1
      refine wp_region_below (by kernel_rfl) (by kernel_rfl) ?_
      repeat (go_big_quiet_step ((first | exact calls_by (HVW.out _ (BelowBy.h _)) | exact calls_by (HZ0.out _))))
      refine wpQuiet_nil ?_
      intro _ hw'
      obtain ⟨q, hw'⟩ := hw'
      subst hw'
      have HQ2 := Lib.hid (bup HbW.out hleW q.h)
      generalize q.w' = W2 at *
      clear m3 m4 m5 m6 m7 m8 m9 m10 m11 m12 m13 v1
      go_wp2_with fail
      go_ret
      exact ⟨ret_bool (by rw [HF.out]; congr 1), bstep HQ.out HQ2.out⟩
end Go.Proofs.YtenkeodfijladaaGreat

namespace Go.Proofs.YtenkeodfijladaaGreat
open Go.RowKit

theorem svalid_any (i l : Int) (r : Bool) (a : Option Addr) (n c : Nat) (L : List GP) (w : World) (h : RdG w (.slice a n c) L) (hs : ∀ p ∈ L, ∀ j, j < 8 → (p.1.m.st j).length ≤ 10000) :
    Calls Tryz.prog 62 #[sloV i l r a n c] w fun e w' => e = .returned (.bool (vldSl ⟨i, l, r, gns L⟩)) ∧ Below w.heap.size w w' := by
  have hLn : L.length = n := by
    obtain ⟨_, _, e, _⟩ := h.shape
    injection e with _ e _; exact e.symm
  by_cases hA : 0 ≤ i ∧ i < 4 ∧ 4136 ≤ l ∧ l ≤ 262144
  · by_cases hn : 1 ≤ n ∧ n ≤ 8
    · exact svalid_yes i l r a n c L w hA hn h hs
    · have hf : vldSl ⟨i, l, r, gns L⟩ = false := vldSl_not fun hv => hn (by have := hv.len; rw [gns_len, hLn] at this; exact this)
      rw [hf]
      exact svalid_no2 i l r a n c w hA (by omega)
  · have hf : vldSl ⟨i, l, r, gns L⟩ = false := vldSl_not fun hv => hA ⟨hv.id.1, hv.id.2, hv.lim.1, hv.lim.2⟩
    rw [hf]
    exact svalid_no1 i l r a n c w hA
/-- The two halves of a key, laid on each other. -/
def xk (key : Int) : Int := bits .xor .u64 (bits .and .u64 key 4294967295) (key / 4294967296)
def routeI (key n : Int) : Int := if n < 1 then 0 else IntKind.i64.wrap ((xk key).tmod n)
theorem route_any (key n : Int) (w : World) (hn : 1 ≤ n) (hn2 : n ≤ 9223372036854775807) : Calls Tryz.prog 51 #[.int .u64 key, .int .i64 n] w fun e w' => e = .returned (.int .i64 (routeI key n)) ∧ w = w' := by
  have e0 : decide (n < 1) = false := by simp; omega
  have HR := Lib.hid (show routeI key n = IntKind.i64.wrap ((xk key).tmod n) from if_neg (by omega))
  generalize routeI key n = r at *
  go_enter Tryz.func51, Tryz.ntmps51
  go_wp2_with fail
  go_ret
  exact ⟨ret_int (HR.out.trans (IntWalk.i64_left _)).symm, rfl⟩
theorem xk_low {k : Nat} (h : k < 4294967296) : xk (k : Int) = (k : Int) := by
  unfold xk
  have e1 : bits .and .u64 (k : Int) 4294967295 = ((k : Nat) : Int) := by
    have h1 := bits_and_u64_nat k 4294967295 (by omega) (by omega)
    rw [show ((4294967295 : Nat) : Int) = 4294967295 from rfl] at h1
    rw [h1]
    congr 1
    rw [show (4294967295 : Nat) = 2 ^ 32 - 1 from by decide, Nat.and_two_pow_sub_one_eq_mod]
    omega
  have e2 : (k : Int) / 4294967296 = ((0 : Nat) : Int) := by omega
  rw [e1, e2, bits_xor_u64_nat k 0 (by omega) (by omega), Nat.xor_zero]
theorem xk_high : xk 4294967296 = 1 := by decide
theorem routeI_low {k : Nat} (h : k < 4294967296) {n : Int} (hn : 1 ≤ n) (hn2 : n ≤ 4) : routeI (k : Int) n = (k : Int) % n := by
  unfold routeI
  rw [if_neg (by omega), xk_low h, Int.tmod_eq_emod_of_nonneg (by omega)]
  have h1 := Int.emod_nonneg (k : Int) (show n ≠ 0 by omega)
  have h2 := Int.emod_lt_of_pos (k : Int) (show 0 < n by omega)
  exact IntWalk.i64_in _ (by omega)
theorem routeI_high {n : Int} (hn : 1 ≤ n) (hn2 : n ≤ 4) : 0 ≤ routeI 4294967296 n ∧ routeI 4294967296 n < n := by
  unfold routeI
  rw [if_neg (by omega), xk_high, Int.tmod_eq_emod_of_nonneg (by omega)]
  have h1 := Int.emod_nonneg (1 : Int) (show n ≠ 0 by omega)
  have h2 := Int.emod_lt_of_pos (1 : Int) (show 0 < n by omega)
  rw [IntWalk.i64_in _ (by omega)]
  exact ⟨h1, h2⟩
end Go.Proofs.YtenkeodfijladaaGreat

namespace Go.Proofs.YtenkeodfijladaaGreat
open Go.RowKit

/-- A new slot's generations. -/
def newL : List GP := [(fresh 1, Sl.nil)]
theorem new_vld (i l : Int) (r : Bool) (hA : 0 ≤ i ∧ i < 4 ∧ 4136 ≤ l ∧ l ≤ 262144) : vldSl ⟨i, l, r, gns newL⟩ = true := by
  rw [vldSl_iff]
  have hl : (gns newL).length = 1 := rfl
  have hg : gat (gns newL) 0 = fresh 1 := rfl
  refine ⟨⟨hA.1, hA.2.1⟩, hA.2.2, ⟨Nat.le_refl _, by show (1 : Nat) ≤ 8; decide⟩, fun k hk => ?_, ?_⟩
  · have h0 : k = 0 := by
      have : k < 1 := hk
      omega
    subst h0
    refine ⟨by show vldG (fresh 1) = true; rw [vldG_iff]; exact (fresh_vld 1).2 (by decide), fun h => absurd h (by decide), ⟨fun _ => rfl, fun _ => rfl⟩, ?_⟩
    show (16 : Int) ≤ 2 * l
    omega
  · show (fresh 1).size + (((itemsM (fresh 1).m).length * 24 : Nat) : Int) ≤ 2 * l
    have hit : itemsM (fresh 1).m = [] := by
      unfold itemsM
      rw [if_pos (fresh_map 1)]
      rfl
    rw [hit]
    show (16 : Int) + 0 ≤ 2 * l
    omega
theorem newL_rd {w : World} {b : Nat} (h : GAt w b 0 (fresh 1, Sl.nil)) : RdG w (.slice (some ⟨b, 0, none⟩) 1 1) newL := by
  refine ⟨⟨fun x _ => gpC_len x, ?_⟩, fun p hp => ?_⟩
  · refine ⟨rfl, some ⟨b, 0, none⟩, 1, rfl, Nat.le_refl _, by unfold maxLen; decide, fun h => (by cases h), fun _ => ⟨b, 0, rfl, fun j u hj => ?_⟩⟩
    have hj' : (gpC (fresh 1, Sl.nil))[j]? = some u := by simpa [newL] using hj
    have hlt : j < 14 := (List.getElem?_eq_some_iff.1 hj').1
    rw [Nat.zero_add]
    rcases (show j = 0 ∨ j = 1 ∨ j = 2 ∨ j = 3 ∨ j = 4 ∨ j = 5 ∨ j = 6 ∨ j = 7 ∨ j = 8 ∨ j = 9 ∨ j = 10 ∨ j = 11 ∨ j = 12 ∨ j = 13 by omega) with e | e | e | e | e | e | e | e | e | e | e | e | e | e <;> subst e <;> injection hj' with hj' <;> subst hj'
    · exact h.n0
    · exact h.n1
    · exact h.n2
    · exact h.n3
    · exact h.c0
    · exact h.c1
    · exact h.c2
    · exact h.c3
    · exact h.c4
    · exact h.c5
    · exact h.c6
    · exact h.c7
    · exact h.cl
    · exact h.cg
  · have : p = (fresh 1, Sl.nil) := by simpa [newL] using hp
    subst this
    exact rdM_nil w
set_option maxRecDepth 100000 in
set_option maxHeartbeats 4000000 in
theorem new_slot (i l : Int) (hA : 0 ≤ i ∧ i < 4 ∧ 4136 ≤ l ∧ l ≤ 262144) (w : World) : Calls Tryz.prog 50 #[.int .i64 i, .int .i64 l] w fun e w' => ∃ b, e = .returned (.tuple #[sloV i l false (some ⟨b, 0, none⟩) 1 1, .int .i64 0]) ∧ w.heap.size ≤ b ∧ GAt w' b 0 (fresh 1, Sl.nil) ∧ Below w.heap.size w w' := by
  have HF := Lib.hid (fun W => fresh_any 1 (by decide) W)
  have HV := Lib.hid (fun b W (h : GAt W b 0 (fresh 1, Sl.nil)) => svalid_any i l false (some ⟨b, 0, none⟩) 1 1 newL W (newL_rd h) (fun p hp j _ => by
    have : p = (fresh 1, Sl.nil) := by simpa [newL] using hp
    subst this
    exact Nat.zero_le _))
  rw [new_vld i l false hA] at HV
  have HB := Lib.hid (below_slo w 0 0 false none 0 0 41)
  have HR := Lib.hid (BoxV.new w 0 0 false none 0 0 41)
  clear hA
  go_enter Tryz.func50, Tryz.ntmps50
  go_wp2_with fail
  refine (HF.out _).mono ?_
  rintro e w1 ⟨rfl, hb1⟩
  obtain ⟨W0, hW0⟩ : ∃ W0, w.alloc (.cells (sloC 0 0 false none 0 0) 41) = W0 := ⟨_, rfl⟩
  have hb1' : Below (w.alloc (.cells (sloC 0 0 false none 0 0) 41)).heap.size (w.alloc (.cells (sloC 0 0 false none 0 0) 41)) w1 := hb1
  rw [hW0] at hb1' HB HR
  have HB1 := Lib.hid (bstep HB.out hb1')
  have HR1 := Lib.hid (HR.out.below hb1')
  clear hb1 hb1' HB HR hW0 HF
  have hlR := HR1.out.lt
  generalize hb0 : w.heap.size = b0 at *
  have E0 := Lib.hid hb0
  clear hb0
  generalize hnil : Sl.nil = s0 at *
  have HNil := Lib.hid hnil
  clear hnil
  go_upto_region 2 with fail
  obtain ⟨W, hW⟩ : ∃ W, w1.alloc (.cells (genC 1 0 1 16 s0 0 0) 58) = W := ⟨_, rfl⟩
  have HX := Lib.hid (BoxG.new w1 1 0 1 16 s0 0 0 58)
  have HBx := Lib.hid (below_gen w1 1 0 1 16 s0 0 0 58)
  change Code.wp _ _ _ _ (w1.alloc (.cells (genC 1 0 1 16 s0 0 0) 58))
  rw [hW] at HX HBx ⊢
  clear hW
  have HR2 := Lib.hid (HR1.out.below HBx.out)
  have HB2 := Lib.hid (bup HB1.out (Nat.le_of_lt hlR) HBx.out)
  have hlX := HX.out.lt
  have m0 := HX.out.n0
  have m1 := HX.out.n1
  have m2 := HX.out.n2
  have m3 := HX.out.n3
  have m4 := HX.out.c0
  have m5 := HX.out.c1
  have m6 := HX.out.c2
  have m7 := HX.out.c3
  have m8 := HX.out.c4
  have m9 := HX.out.c5
  have m10 := HX.out.c6
  have m11 := HX.out.c7
  have m12 := HX.out.cl
  have m13 := HX.out.cg
  go_upto_region 3 with fail
  change Code.wp _ _ _ _ ((W.alloc (.cells (genC 1 0 1 16 s0 0 0) 58)).alloc (.cells (sloC i l false (some ⟨W.heap.size, 0, none⟩) 1 1) 41))
  obtain ⟨W2, hW2⟩ : ∃ W2, W.alloc (.cells (genC 1 0 1 16 s0 0 0) 58) = W2 := ⟨_, rfl⟩
  have hz2 : W2.heap.size = W.heap.size + 1 := by rw [← hW2]; simp
  have HG2 := Lib.hid (show GAt W2 W.heap.size 0 (fresh 1, s0) from hW2 ▸ GAt.of_box (g := fresh 1) (BoxG.new W 1 0 1 16 s0 0 0 58))
  have HBa := Lib.hid (show Below W.heap.size W W2 from hW2 ▸ below_gen W 1 0 1 16 s0 0 0 58)
  rw [hW2]
  clear hW2
  obtain ⟨W3, hW3⟩ : ∃ W3, W2.alloc (.cells (sloC i l false (some ⟨W.heap.size, 0, none⟩) 1 1) 41) = W3 := ⟨_, rfl⟩
  have HS3 := Lib.hid (show BoxV W3 (W.heap.size + 1) i l false (some ⟨W.heap.size, 0, none⟩) 1 1 from hz2 ▸ hW3 ▸ BoxV.new W2 i l false (some ⟨W.heap.size, 0, none⟩) 1 1 41)
  have HBb := Lib.hid (show Below W2.heap.size W2 W3 from hW3 ▸ below_slo W2 i l false (some ⟨W.heap.size, 0, none⟩) 1 1 41)
  rw [hW3]
  clear hW3
  have HG3 := Lib.hid (HG2.out.below HBb.out)
  have hab := bstep HBa.out HBb.out
  have HR3 := Lib.hid (HR2.out.below hab)
  have HB3 := Lib.hid (bup HB2.out (Nat.le_of_lt HR2.out.lt) hab)
  have hl3 := HS3.out.lt
  have hbW : b0 < W.heap.size := HR2.out.lt
  clear m0 m1 m2 m3 m4 m5 m6 m7 m8 m9 m10 m11 m12 m13 HX HBx HR2 HB2 HG2 HBa HBb hab HR1 HB1 hlX hlR
  have x0 := HS3.out.c0
  have x1 := HS3.out.c1
  have x2 := HS3.out.c2
  have x3 := HS3.out.c3
  generalize hgb : W.heap.size = gb at *
  clear hgb
  go_wp2_with fail
  refine (HV.out _ _ HG3.out).mono ?_
  rintro e w4 ⟨rfl, hb4⟩
  have HG4 := Lib.hid (HG3.out.below hb4)
  have HR4 := Lib.hid (HR3.out.below hb4)
  have HS4 := Lib.hid (HS3.out.below hb4)
  have HB4 := Lib.hid (bup HB3.out (Nat.le_of_lt HR3.out.lt) hb4)
  have hl4 := HS4.out.lt
  have hlr4 := HR4.out.lt
  clear x0 x1 x2 x3 hb4 HG3 HR3 HS3 HB3 HV hl3
  have x0 := HS4.out.c0
  have x1 := HS4.out.c1
  have x2 := HS4.out.c2
  have x3 := HS4.out.c3
  have d0 := HR4.out.c0
  have d1 := HR4.out.c1
  have d2 := HR4.out.c2
  have d3 := HR4.out.c3
  have F := HR4.out.f
  have hne : b0 ≠ gb + 1 := by omega
  go_wp2_with fail
  change bodyPost _ _ _ _ _ (pts w4 b0 (sloL i l false (some ⟨gb, 0, none⟩) 1 1))
  have hby := HR4.out.all i l false (some ⟨gb, 0, none⟩) 1 1
  have HBz := Lib.hid (pts_below (B := b0) (Nat.le_refl _) (sloL i l false (some ⟨gb, 0, none⟩) 1 1) HB4.out)
  have HGz := Lib.hid (HG4.out.pts_ne (show gb ≠ b0 by omega) (sloL i l false (some ⟨gb, 0, none⟩) 1 1))
  generalize pts w4 b0 (sloL i l false (some ⟨gb, 0, none⟩) 1 1) = V at *
  exact bodyPost_ret (v := .tuple #[sloV i l false (some ⟨gb, 0, none⟩) 1 1, .int .i64 0]) (by simp [results, Tryz.results50, go_sem, hby.c0, hby.c1, hby.c2, hby.c3]) rfl ⟨gb, rfl, by rw [E0.out]; omega, by rw [HNil.out]; exact HGz.out, by rw [E0.out]; exact HBz.out⟩
end Go.Proofs.YtenkeodfijladaaGreat

namespace Go.Proofs.YtenkeodfijladaaGreat
open Go.RowKit

set_option maxRecDepth 100000 in
set_option maxHeartbeats 4000000 in
theorem sfits_yes (i l : Int) (r : Bool) (a : Option Addr) (n c : Nat) (L : List GP) (w : World) (h : RdG w (.slice a n c) L) (hs : ∀ p ∈ L, ∀ j, j < 8 → (p.1.m.st j).length ≤ 10000) (hv : vldSl ⟨i, l, r, gns L⟩ = true) (m : Nat) (hm : m ≤ 4096) :
    Calls Tryz.prog 45 #[sloV i l r a n c, .int .i64 (m : Int)] w fun e w' => e = .returned (.bool (decide ((pat L (n - 1)).1.size + ((szN m : Nat) : Int) ≤ l))) ∧ Below w.heap.size w w' := by
  have hV := (vldSl_iff _).1 hv
  have hLn : L.length = n := by
    obtain ⟨_, _, e, _⟩ := h.shape
    injection e with _ e _; exact e.symm
  have hl : (gns L).length = n := by rw [gns_len, hLn]
  have hn : 1 ≤ n ∧ n ≤ 8 := by have := hV.len; simp only [hl] at this; exact this
  obtain ⟨j, rfl⟩ : ∃ j, n = j + 1 := ⟨n - 1, by omega⟩
  have hg := hV.vg (i := j) (by show j < (gns L).length; omega)
  simp only [gat_gns] at hg
  have hz1 := hg.size.1
  have hz2 := hg.size.2.1
  have HSv := Lib.hid (fun W (hb : Below w.heap.size w W) => svalid_any i l r a (j + 1) c L W (h.below hb) hs)
  rw [hv] at HSv
  have HZ := Lib.hid (fun W => (nsizeB m W).mono (R' := fun e w' => e = .returned (.int .i64 ((szN m : Nat) : Int)) ∧ Below W.heap.size W w') fun _ _ ⟨he, hw⟩ => ⟨he, hw ▸ Below.refl _ _⟩)
  have hszm : szN m ≤ 4127 := szN_le m
  have HPj : j + 1 - 1 = j := by omega
  rw [HPj]
  have HR := Lib.hid h
  have HBx := Lib.hid (BoxV.new w i l r a (j + 1) c 41)
  have HB0 := Lib.hid (below_slo w i l r a (j + 1) c 41)
  have e1 : decide ((m : Int) < 0) = false := by simp
  have e2 : decide ((4096 : Int) < (m : Int)) = false := by simp; omega
  clear hV hLn hl hg hv h hs HPj
  generalize szN m = z at *
  obtain ⟨b, off, rfl, hg⟩ := HR.out.at (show j < j + 1 by omega)
  have HG := Lib.hid hg
  clear hg HR
  generalize pat L j = p at *
  obtain ⟨⟨num, rev, md, sz, f, LV, GA⟩, s⟩ := p
  dsimp only at *
  go_enter Tryz.func45, Tryz.ntmps45
  go_upto_region 1 with fail
  obtain ⟨W, hW⟩ : ∃ W, w.alloc (.cells (sloC i l r (some ⟨b, off, none⟩) (j + 1) c) 41) = W := ⟨_, rfl⟩
  change Code.wp _ _ _ _ (w.alloc (.cells (sloC i l r (some ⟨b, off, none⟩) (j + 1) c) 41))
  rw [hW] at HBx HB0 ⊢
  clear hW
  have hlw := HBx.out.lt
  have k0 := HBx.out.c0
  have k1 := HBx.out.c1
  have k2 := HBx.out.c2
  have k3 := HBx.out.c3
  go_wp2_with fail
  refine (HSv.out _ HB0.out).mono ?_
  rintro e w1 ⟨rfl, hb1⟩
  clear k0 k1 k2 k3
  have HB1 := Lib.hid (bstep HB0.out hb1)
  have HX1 := Lib.hid (HBx.out.below hb1)
  have HG1 := Lib.hid (HG.out.below HB1.out)
  have hl1 := HX1.out.lt
  clear hb1 HB0 HBx HG HSv
  have j3 : IntKind.i64.wrap (j : Int) = (j : Int) := IntWalk.i64_in _ (by omega)
  have i2 : (j : Int) < ((j + 1 : Nat) : Int) := by omega
  have j5 : IntKind.i64.wrap (sz + (z : Int)) = sz + (z : Int) := IntWalk.i64_in _ (by omega)
  go_wp2_with fail
  have v1 := cell_by HX1.out.c1
  have v3 := cell_by HX1.out.c3
  have g3 := cell_by HG1.out.n3
  dsimp only at g3
  refine wp_region_below (by kernel_rfl) (by kernel_rfl) ?_
  repeat (go_big_quiet_step ((exact calls_by (HZ.out _))))
  refine wpQuiet_nil ?_
  intro _ hw'
  obtain ⟨q, hw'⟩ := hw'
  subst hw'
  have HQ := Lib.hid (bstep HB1.out q.h)
  clear v1 v3 g3
  go_wp2_with fail
  go_ret
  exact ⟨rfl, HQ.out⟩
end Go.Proofs.YtenkeodfijladaaGreat
