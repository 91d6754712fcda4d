/- DiskPower: the disks on the way, the walk. Printed by mkDka.py. -/
import Derived.Test.YtkabcpmnbjllcaaDoorYv
namespace Go.Proofs.YtkabcpmnbjllcaaDoor
open Go.RowKit

def onesW (k : Nat) : List Wr := (List.range k).map fun (i : Nat) => ⟨(i : Int), [1], false⟩
def pD (m k : Nat) : Dk := ⟨0, (m : Int) - (k : Int), [⟨[102], [], onesW k⟩]⟩
def cD (k : Nat) : Dk := ⟨0, -1, [⟨[102], List.replicate k 1, []⟩]⟩
def dF : Dk := ⟨0, -1, [⟨[102], [], []⟩]⟩
theorem pw_create : createD ⟨0, -1, []⟩ [102] = (dF, 0) := by decide +kernel
theorem pw_arm (m : Nat) : armD dF m = pD m 0 := by
  unfold armD pD dF
  rw [show max (m : Int) (-1) = (m : Int) - ((0 : Nat) : Int) by omega]
  rfl
theorem pw_append : ∀ m, m < 20 → ∀ k, k ≤ m → appendD (pD m k) [102] [1] = if k < m then (pD m (k + 1), 0) else (dk0, 13) := by decide +kernel
theorem pw_size : ∀ m, m < 20 → ∀ k, k ≤ m → sizeD (pD m k) [102] = if k < m then ((k : Int), 0) else (0, 13) := by decide +kernel
theorem pw_crash : ∀ m, m < 20 → ∀ k, k ≤ m → crashD (pD m k) [⟨[102], 100, 0⟩] = cD k := by decide +kernel
theorem pw_csize : ∀ k, k < 20 → sizeD (cD k) [102] = ((k : Int), 0) := by decide +kernel
theorem pw_lite : ∀ m, m < 20 → ∀ k, k ≤ m → (validD (pD m k) && (pD m k).files.all (fun f => decide (f.pend.length ≤ 5000)) && decide ((pD m k).cap ≤ 9223372036854775807) && decide ((pD m k).left ≤ 9223372036854775807)) = true := by decide +kernel
theorem pw_clite : ∀ k, k < 20 → (validD (cD k) && (cD k).files.all (fun f => decide (f.pend.length ≤ 5000)) && decide ((cD k).cap ≤ 9223372036854775807) && decide ((cD k).left ≤ 9223372036854775807)) = true := by decide +kernel
set_option maxRecDepth 100000 in
set_option maxHeartbeats 3200000 in
theorem power_walk (n q : Int) (w : World) (hn : (Lit.int .u8 n).wf = true) (hq : (Lit.int .u8 q).wf = true) : Calls Tryd.prog 4 #[.int .u8 n, .int .u8 q] w fun e w' => e = .returned (.bool true) ∧ Below w.heap.size w w' := by
  obtain ⟨n, rfl, hn0⟩ := nat_of_u8 hn
  obtain ⟨q, rfl, hq0⟩ := nat_of_u8 hq
  clear hn hq
  have hm1 : n % 20 < 20 := Nat.mod_lt _ (by decide)
  have hq1 : q % 40 < 40 := Nat.mod_lt _ (by decide)
  have e1 : (n : Int) % 20 = ((n % 20 : Nat) : Int) := by omega
  have e2 : (q : Int) % 40 = ((q % 40 : Nat) : Int) := by omega
  have e3 : (n : Int).tmod 20 = ((n % 20 : Nat) : Int) := by rw [Int.tmod_eq_emod_of_nonneg (by omega)]; exact e1
  have e4 : (q : Int).tmod 40 = ((q % 40 : Nat) : Int) := by rw [Int.tmod_eq_emod_of_nonneg (by omega)]; exact e2
  generalize n % 20 = m at *
  generalize q % 40 = mm at *
  obtain ⟨lf, hlf⟩ : ∃ lf : Nat → Int, ∀ k, lf k = (pD m k).left := ⟨_, fun _ => rfl⟩
  have Hlf := Lib.hid hlf
  have HNew := Lib.hid (show ∀ W, Calls Tryd.prog 25 #[.int .i64 0] W fun e w' => e = .returned (.agg #[.int .i64 0, .int .i64 (-1), .slice none 0 0]) ∧ Below W.heap.size W w' from fun W => new_any 0 W)
  have HCre := Lib.hid (show ∀ W, Calls Tryd.prog 27 #[.agg #[.int .i64 0, .int .i64 (-1), .slice none 0 0], .string ⟨#[102]⟩] W (OpR W.heap.size W 0 (-1) 0 dF) from fun W => by
    have := create_any ⟨0, -1, []⟩ [102] nilS W (RdF_nil _) (lite_dec _ (by decide +kernel)) (by decide)
    rw [pw_create] at this
    exact this.mono fun _ _ h => h.op)
  have HArm := Lib.hid (show ∀ W fv, RdF W fv dF.files → Calls Tryd.prog 21 #[.agg #[.int .i64 0, .int .i64 (-1), fv], .int .i64 (m : Int)] W (DkR W.heap.size W 0 (lf 0) (pD m 0)) from fun W fv h => by
    have := arm_any dF (m : Int) fv W h (lite_dec _ (by decide +kernel))
    rw [pw_arm] at this
    rw [hlf 0]
    exact this.mono fun _ _ h => DkR.of h)
  have HApp := Lib.hid (show ∀ k, k < m → ∀ W fv bv, RdF W fv (pD m k).files → RdB W bv [1] → Calls Tryd.prog 28 #[.agg #[.int .i64 0, .int .i64 (lf k), fv], .string ⟨#[102]⟩, bv] W (OpR W.heap.size W 0 (lf (k + 1)) 0 (pD m (k + 1))) from fun k hk W fv bv h hb => by
    have := append_any (pD m k) [102] [1] fv bv W h (lite_dec _ (pw_lite m hm1 k (by omega))) (by decide) hb (by decide)
    rw [pw_append m hm1 k (by omega), if_pos hk] at this
    rw [hlf k, hlf (k + 1)]
    exact this.mono fun _ _ h => h.op)
  have HApN := Lib.hid (show ∀ W fv bv, RdF W fv (pD m m).files → RdB W bv [1] → Calls Tryd.prog 28 #[.agg #[.int .i64 0, .int .i64 (lf m), fv], .string ⟨#[102]⟩, bv] W (OpR W.heap.size W 0 0 13 dk0) from fun W fv bv h hb => by
    have := append_any (pD m m) [102] [1] fv bv W h (lite_dec _ (pw_lite m hm1 m (by omega))) (by decide) hb (by decide)
    rw [pw_append m hm1 m (by omega), if_neg (by omega)] at this
    rw [hlf m]
    exact this.mono fun _ _ h => h.op)
  have HSz := Lib.hid (show ∀ k, k ≤ m → ∀ W fv, RdF W fv (pD m k).files → Calls Tryd.prog 29 #[.agg #[.int .i64 0, .int .i64 (lf k), fv], .string ⟨#[102]⟩] W fun e w' => e = .returned (.tuple (if k < m then #[.int .i64 (k : Int), .int .i64 0] else #[.int .i64 0, .int .i64 13])) ∧ Below W.heap.size W w' from fun k hk W fv h => by
    have := size_any (pD m k) [102] fv W h (lite_dec _ (pw_lite m hm1 k hk)) (by decide)
    rw [pw_size m hm1 k hk] at this
    rw [hlf k]
    by_cases e : k < m
    · rw [if_pos e] at this ⊢; exact this
    · rw [if_neg e] at this ⊢; exact this)
  have HCr := Lib.hid (show ∀ k, k ≤ m → ∀ W fv kv, RdF W fv (pD m k).files → RdK W kv [⟨[102], 100, 0⟩] → Calls Tryd.prog 30 #[.agg #[.int .i64 0, .int .i64 (lf k), fv], kv] W (DkR W.heap.size W 0 (-1) (cD k)) from fun k hk W fv kv h hkv => by
    have := crash_any (pD m k) [⟨[102], 100, 0⟩] fv kv W h (lite_dec _ (pw_lite m hm1 k hk)) hkv (by decide)
    rw [pw_crash m hm1 k hk] at this
    rw [hlf k]
    exact this.mono fun _ _ h => DkR.of h)
  have HSc := Lib.hid (show ∀ k, k < 20 → ∀ W fv, RdF W fv (cD k).files → Calls Tryd.prog 29 #[.agg #[.int .i64 0, .int .i64 (-1), fv], .string ⟨#[102]⟩] W fun e w' => e = .returned (.tuple #[.int .i64 (k : Int), .int .i64 0]) ∧ Below W.heap.size W w' from fun k hk W fv h => by
    have := size_any (cD k) [102] fv W h (lite_dec _ (pw_clite k hk)) (by decide)
    rw [pw_csize k hk] at this
    exact this)
  have Hcap := Lib.hid (show ∀ k W b fv, BoxR W b (pD m k) fv → W.cell? ⟨b, 0, none⟩ = some (.int .i64 0) ∧ W.cell? ⟨b, 1, none⟩ = some (.int .i64 (lf k)) ∧ W.cell? ⟨b, 2, none⟩ = some fv from fun k W b fv h => ⟨h.x.c0, by rw [hlf]; exact h.x.c1, h.x.c2⟩)
  clear hlf
  go_enter Tryd.func4, Tryd.ntmps4
  go_wp2_with fail
  refine (HNew.out _).mono ?_
  rintro e w1 ⟨rfl, hb1⟩
  have HB1 := Lib.hid hb1
  clear hb1
  go_wp2_with fail
  refine (HCre.out _).mono ?_
  rintro e w2 ⟨a2, n2, c2, rfl, hs2, hf2, hb2⟩
  have HB2 := Lib.hid (bstep HB1.out hb2)
  clear hb2
  have X := Lib.hid (BoxR.new hf2)
  have HB3 := Lib.hid (HB2.out.alloc HB2.out.size (.cells #[.int .i64 0, .int .i64 (-1), .slice a2 n2 c2] 33))
  change Hid (BoxR (w2.alloc (.cells #[.int .i64 0, .int .i64 (-1), .slice a2 n2 c2] 33)) _ _ _) at X
  clear hs2 hf2
  have hb0 := HB2.out.size
  go_upto_region 2 with fail
  generalize w2.alloc (.cells #[.int .i64 0, .int .i64 (-1), .slice a2 n2 c2] 33) = w3 at *
  generalize w2.heap.size = b at *
  have x0 := X.out.x.c0
  have x1 := X.out.x.c1
  have x2 := X.out.x.c2
  change w3.cell? ⟨b, 0, none⟩ = some (.int .i64 0) at x0
  change w3.cell? ⟨b, 1, none⟩ = some (.int .i64 (-1)) at x1
  go_wp2_with fail
  refine (HArm.out _ _ X.out.r).mono ?_
  rintro e w4 ⟨a4, n4, c4, rfl, hs4, hf4, hb4⟩
  have X4 := Lib.hid (X.out.below hb4)
  have HB4 := Lib.hid (bstep HB3.out hb4)
  have X5 := Lib.hid (X4.out.x.put hs4 X.out.x.lt)
  have HB5 := Lib.hid (HB4.out.all3 (b := b) hb0 (.int .i64 0) (.int .i64 (lf 0)) (.slice a4 n4 c4))
  rw [← Hlf.out] at X5
  change Hid (BoxR (((w4.setCell ⟨b, 0, none⟩ (.int .i64 0)).setCell ⟨b, 1, none⟩ (.int .i64 (lf 0))).setCell ⟨b, 2, none⟩ (.slice a4 n4 c4)) _ _ _) at X5
  clear hs4 hf4 hb4 x0 x1 x2 X HB3
  have x0 := X4.out.x.c0
  have x1 := X4.out.x.c1
  have x2 := X4.out.x.c2
  have xf := X4.out.x.f
  go_upto_region 3 with fail
  clear x0 x1 x2 xf X4 HB4
  generalize (((w4.setCell ⟨b, 0, none⟩ (.int .i64 0)).setCell ⟨b, 1, none⟩ (.int .i64 (lf 0))).setCell ⟨b, 2, none⟩ (.slice a4 n4 c4)) = w5 at *
  go_wp2_with fail
  go_loopw [7, 8] (fun dv iv W => ∃ k : Nat, dv = .int .i64 (k : Int) ∧ iv = .int .i64 (k : Int) ∧ k ≤ m ∧ k ≤ mm ∧ ∃ a n c, Hid (BoxR W b (pD m k) (.slice a n c)) ∧ Hid (Below w.heap.size w W)) (fun _ iv _ => mm - (intOf iv).toNat)
  case atStart => exact ⟨0, rfl, rfl, Nat.zero_le _, Nat.zero_le _, _, _, _, X5, HB5⟩
  case round =>
    obtain ⟨k, rfl, rfl, hkm, hkq, ra, rn, rc, X, HB⟩ := hrel
    clear X5 HB5
    obtain ⟨x0, x1, x2⟩ := Hcap.out _ _ _ _ X.out
    by_cases hlt : k < mm
    · have i1 : (k : Int) < (mm : Int) := by omega
      have hA := (Below.refl wr.heap.size wr).alloc (Nat.le_refl _) (.cells #[.int .u8 1] 5)
      have X6 := Lib.hid (X.out.below hA)
      have HB6 := Lib.hid (bstep HB.out hA)
      have H1 := Lib.hid (show RdB (wr.alloc (.cells #[.int .u8 1] 5)) (.slice (some ⟨wr.heap.size, 0, none⟩) 1 1) [1] from Rd.new wr 1 [.int .u8 1] 5 1 rfl (by decide))
      clear hA
      by_cases hp : k < m
      · go_wp2_with fail
        refine (HApp.out k hp _ _ _ X6.out.r H1.out).mono ?_
        rintro e w7 ⟨a7, n7, c7, rfl, hs7, _, hb7⟩
        have X7 := Lib.hid (X6.out.below hb7)
        have HB7 := Lib.hid (bstep HB6.out hb7)
        have hA := (Below.refl w7.heap.size w7).alloc (Nat.le_refl _) (.cells #[.int .i64 0, .int .i64 (lf (k + 1)), .slice a7 n7 c7] 33)
        have X8 := Lib.hid (X7.out.below hA)
        have HB8 := Lib.hid (bstep HB7.out hA)
        have HS8 := Lib.hid (hs7.keep (KeepB.below hA) (Nat.le_refl _))
        have hbw : b < (wr.alloc (.cells #[.int .u8 1] 5)).heap.size := X6.out.x.lt
        have Y := Lib.hid (BoxD.new w7 0 (lf (k + 1)) (.slice a7 n7 c7) 33)
        clear hA hb7 hs7 x0 x1 x2 X6 HB6 H1 X7 HB7
        go_upto_region 11 with fail
        generalize w7.alloc (.cells #[.int .i64 0, .int .i64 (lf (k + 1)), .slice a7 n7 c7] 33) = w8 at *
        generalize w7.heap.size = b8 at *
        have X9 := Lib.hid (X8.out.x.put HS8.out hbw)
        have HB9 := Lib.hid (HB8.out.all3 (b := b) hb0 (.int .i64 0) (.int .i64 (lf (k + 1))) (.slice a7 n7 c7))
        rw [← Hlf.out] at X9
        change Hid (BoxR (((w8.setCell ⟨b, 0, none⟩ (.int .i64 0)).setCell ⟨b, 1, none⟩ (.int .i64 (lf (k + 1)))).setCell ⟨b, 2, none⟩ (.slice a7 n7 c7)) _ _ _) at X9
        have x0 := X8.out.x.c0
        have x1 := X8.out.x.c1
        have x2 := X8.out.x.c2
        have xf := X8.out.x.f
        have y0 := Y.out.c0
        have y1 := Y.out.c1
        have y2 := Y.out.c2
        go_wp2_with fail
        exact ⟨⟨k + 1, by go_num, by go_num, by omega, by omega, _, _, _, X9, HB9⟩, by simp [intOf]; omega⟩
      · obtain rfl : k = m := by omega
        go_wp2_with fail
        refine (HApN.out _ _ _ X6.out.r H1.out).mono ?_
        rintro e w7 ⟨a7, n7, c7, rfl, _, _, hb7⟩
        have X7 := Lib.hid (X6.out.below hb7)
        have HB7 := Lib.hid (bstep HB6.out hb7)
        have hA := (Below.refl w7.heap.size w7).alloc (Nat.le_refl _) (.cells #[.int .i64 0, .int .i64 0, .slice a7 n7 c7] 33)
        have X8 := Lib.hid (X7.out.below hA)
        have HB8 := Lib.hid (bstep HB7.out hA)
        clear hA hb7 x0 x1 x2 X6 HB6 H1 X7 HB7
        go_upto_region 12 with fail
        generalize w7.alloc (.cells #[.int .i64 0, .int .i64 0, .slice a7 n7 c7] 33) = w8 at *
        have hmin : min (k : Int) (mm : Int) = (k : Int) := by omega
        clear hp
        obtain ⟨x0, x1, x2⟩ := Hcap.out _ _ _ _ X8.out
        have HS1 := Lib.hid (HSz.out k (Nat.le_refl _))
        rw [if_neg (Nat.lt_irrefl k)] at HS1
        go_wp2_with fail
        refine (HS1.out _ _ X8.out.r).mono ?_
        rintro e w9 ⟨rfl, hb9⟩
        have X9 := Lib.hid (X8.out.below hb9)
        have HB9 := Lib.hid (bstep HB8.out hb9)
        clear hb9 x0 x1 x2 X8 HB8 HS1
        go_upto_region 13 with fail
        obtain ⟨x0, x1, x2⟩ := Hcap.out _ _ _ _ X9.out
        have hA := (Below.refl w9.heap.size w9).alloc (Nat.le_refl _) (.cells #[.string ⟨#[102]⟩, .int .i64 100, .int .i64 0] 52)
        have X12 := Lib.hid (X9.out.below hA)
        have HB12 := Lib.hid (bstep HB9.out hA)
        have HK := Lib.hid (show RdK (w9.alloc (.cells #[.string ⟨#[102]⟩, .int .i64 100, .int .i64 0] 52)) (.slice (some ⟨w9.heap.size, 0, none⟩) 1 1) [⟨[102], 100, 0⟩] from RdK.one w9 ⟨[102], 100, 0⟩)
        clear hA
        go_wp2_with fail
        refine (HCr.out k (Nat.le_refl _) _ _ _ X12.out.r HK.out).mono ?_
        rintro e w13 ⟨a13, n13, c13, rfl, _, hf13, hb13⟩
        have HB13 := Lib.hid (bstep HB12.out hb13)
        have HF13 := Lib.hid hf13
        clear hb13 hf13 x0 x1 x2
        go_wp2_with fail
        refine (HSc.out k (by omega) _ _ HF13.out).mono ?_
        rintro e w14 ⟨rfl, hb14⟩
        have HB14 := Lib.hid (bstep HB13.out hb14)
        clear hb14
        go_wp2_with fail
        refine (awake_any _).mono ?_
        rintro e w15 ⟨rfl, hb15⟩
        have HB15 := Lib.hid (bstep HB14.out hb15)
        clear hb15
        go_wp2_with fail
        go_ret
        exact ⟨rfl, HB15.out⟩
    · obtain rfl : k = mm := by omega
      have i1 : ¬ (k : Int) < (k : Int) := by omega
      have X8 := Lib.hid X.out
      have HB8 := Lib.hid HB.out
      clear X HB x0 x1 x2
      by_cases hp : k < m
      · have hmin : min (m : Int) (k : Int) = (k : Int) := by omega
        have hne : ¬ (k : Int) = (m : Int) := by omega
        go_upto_region 12 with fail
        obtain ⟨x0, x1, x2⟩ := Hcap.out _ _ _ _ X8.out
        have HS1 := Lib.hid (HSz.out k (Nat.le_of_lt hp))
        rw [if_pos hp] at HS1
        go_wp2_with fail
        refine (HS1.out _ _ X8.out.r).mono ?_
        rintro e w9 ⟨rfl, hb9⟩
        have X9 := Lib.hid (X8.out.below hb9)
        have HB9 := Lib.hid (bstep HB8.out hb9)
        clear hb9 x0 x1 x2 X8 HB8 HS1
        go_upto_region 13 with fail
        obtain ⟨x0, x1, x2⟩ := Hcap.out _ _ _ _ X9.out
        have hA := (Below.refl w9.heap.size w9).alloc (Nat.le_refl _) (.cells #[.string ⟨#[102]⟩, .int .i64 100, .int .i64 0] 52)
        have X12 := Lib.hid (X9.out.below hA)
        have HB12 := Lib.hid (bstep HB9.out hA)
        have HK := Lib.hid (show RdK (w9.alloc (.cells #[.string ⟨#[102]⟩, .int .i64 100, .int .i64 0] 52)) (.slice (some ⟨w9.heap.size, 0, none⟩) 1 1) [⟨[102], 100, 0⟩] from RdK.one w9 ⟨[102], 100, 0⟩)
        clear hA
        go_wp2_with fail
        refine (HCr.out k (Nat.le_of_lt hp) _ _ _ X12.out.r HK.out).mono ?_
        rintro e w13 ⟨a13, n13, c13, rfl, _, hf13, hb13⟩
        have HB13 := Lib.hid (bstep HB12.out hb13)
        have HF13 := Lib.hid hf13
        clear hb13 hf13 x0 x1 x2
        go_wp2_with fail
        refine (HSc.out k (by omega) _ _ HF13.out).mono ?_
        rintro e w14 ⟨rfl, hb14⟩
        have HB14 := Lib.hid (bstep HB13.out hb14)
        clear hb14
        go_wp2_with fail
        refine (awake_any _).mono ?_
        rintro e w15 ⟨rfl, hb15⟩
        have HB15 := Lib.hid (bstep HB14.out hb15)
        clear hb15
        go_wp2_with fail
        go_ret
        exact ⟨congrArg (fun t => Ending.returned (.bool t)) (show (!((k : Int) == (m : Int))) = true by rw [beq_eq_false_iff_ne.2 hne]; rfl), HB15.out⟩
      · obtain rfl : k = m := by omega
        go_upto_region 12 with fail
        clear hp
        obtain ⟨x0, x1, x2⟩ := Hcap.out _ _ _ _ X8.out
        have HS1 := Lib.hid (HSz.out k (Nat.le_refl _))
        rw [if_neg (Nat.lt_irrefl k)] at HS1
        go_wp2_with fail
        refine (HS1.out _ _ X8.out.r).mono ?_
        rintro e w9 ⟨rfl, hb9⟩
        have X9 := Lib.hid (X8.out.below hb9)
        have HB9 := Lib.hid (bstep HB8.out hb9)
        clear hb9 x0 x1 x2 X8 HB8 HS1
        go_upto_region 13 with fail
        obtain ⟨x0, x1, x2⟩ := Hcap.out _ _ _ _ X9.out
        have hA := (Below.refl w9.heap.size w9).alloc (Nat.le_refl _) (.cells #[.string ⟨#[102]⟩, .int .i64 100, .int .i64 0] 52)
        have X12 := Lib.hid (X9.out.below hA)
        have HB12 := Lib.hid (bstep HB9.out hA)
        have HK := Lib.hid (show RdK (w9.alloc (.cells #[.string ⟨#[102]⟩, .int .i64 100, .int .i64 0] 52)) (.slice (some ⟨w9.heap.size, 0, none⟩) 1 1) [⟨[102], 100, 0⟩] from RdK.one w9 ⟨[102], 100, 0⟩)
        clear hA
        go_wp2_with fail
        refine (HCr.out k (Nat.le_refl _) _ _ _ X12.out.r HK.out).mono ?_
        rintro e w13 ⟨a13, n13, c13, rfl, _, hf13, hb13⟩
        have HB13 := Lib.hid (bstep HB12.out hb13)
        have HF13 := Lib.hid hf13
        clear hb13 hf13 x0 x1 x2
        go_wp2_with fail
        refine (HSc.out k (by omega) _ _ HF13.out).mono ?_
        rintro e w14 ⟨rfl, hb14⟩
        have HB14 := Lib.hid (bstep HB13.out hb14)
        clear hb14
        go_wp2_with fail
        refine (awake_any _).mono ?_
        rintro e w15 ⟨rfl, hb15⟩
        have HB15 := Lib.hid (bstep HB14.out hb15)
        clear hb15
        go_wp2_with fail
        go_ret
        exact ⟨rfl, HB15.out⟩
end Go.Proofs.YtkabcpmnbjllcaaDoor
