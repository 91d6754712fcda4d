/- DiskMoves: the walk. Printed by mkDkc.py. -/
import Derived.Test.YtkabcpmnbjllcaaDoorDkb
import Derived.Test.YtkabcpmnbjllcaaDoorYv
namespace Go.Proofs.YtkabcpmnbjllcaaDoor
open Go.RowKit

set_option maxRecDepth 100000 in
set_option maxHeartbeats 6400000 in
theorem moves_go (av bv : Value) (a b : List UInt8) (s : Bool) (w : World) (h1 : RdB w av a) (h2 : RdB w bv b) : Calls Tryd.prog 9 #[av, bv, .bool s] w fun e w' => e = .returned (.bool true) ∧ Below w.heap.size w w' := by
  obtain ⟨aa, ac, rfl, _⟩ := h1.shape0
  obtain ⟨ba, bc, rfl, _⟩ := h2.shape0
  by_cases hbig : 300 < a.length ∨ 300 < b.length
  · clear h1 h2
    generalize a.length = n at *
    generalize b.length = m at *
    by_cases hn : 300 < n
    · have i1 : (300 : Int) < (n : Int) := by omega
      clear hbig
      go_enter Tryd.func9, Tryd.ntmps9
      go_wp2_with fail
      refine (awake_any _).mono ?_
      rintro e w15 ⟨rfl, hb15⟩
      go_wp2_with fail
      go_ret
      exact ⟨rfl, hb15⟩
    · have i1 : ¬ (300 : Int) < (n : Int) := by omega
      have i2 : (300 : Int) < (m : Int) := by omega
      clear hbig
      go_enter Tryd.func9, Tryd.ntmps9
      go_wp2_with fail
      refine (awake_any _).mono ?_
      rintro e w15 ⟨rfl, hb15⟩
      go_wp2_with fail
      go_ret
      exact ⟨rfl, hb15⟩
  have ha : a.length ≤ 300 := by omega
  have hb : b.length ≤ 300 := by omega
  have i1 : ¬ (300 : Int) < (a.length : Int) := by omega
  have i2 : ¬ (300 : Int) < (b.length : Int) := by omega
  clear hbig
  have HA := Lib.hid h1
  have HBb := Lib.hid h2
  clear h1 h2
  have HNew := Lib.hid (show ∀ W, Calls Tryd.prog 25 #[.int .i64 0] W fun e w' => e = .returned (.agg #[.int .i64 0, .int .i64 (-1), .slice none 0 0]) ∧ Below W.heap.size W w' from fun W => new_any 0 W)
  have HCre := Lib.hid (show ∀ W, Calls Tryd.prog 27 #[.agg #[.int .i64 0, .int .i64 (-1), .slice none 0 0], .string ⟨#[111, 108, 100]⟩] W (OpR W.heap.size W 0 (-1) 0 m1) from fun W => by
    have := create_any ⟨0, -1, []⟩ sOld nilS W (RdF_nil _) (lite_dec _ (by decide +kernel)) (by decide)
    rw [mv_create] at this
    exact this.mono fun _ _ h => h.op)
  have HAp1 := Lib.hid (show ∀ W fv bv, RdF W fv m1.files → RdB W bv a → Calls Tryd.prog 28 #[.agg #[.int .i64 0, .int .i64 (-1), fv], .string ⟨#[111, 108, 100]⟩, bv] W (OpR W.heap.size W 0 (-1) 0 (m2 a)) from fun W fv bv h hb => by
    have := append_any m1 sOld a fv bv W h (lite_few (v1) (by simp [m1]) (by simp [m1]) (by simp [m1])) (by decide) hb (by omega)
    rw [mv_append ha] at this
    exact this.mono fun _ _ h => h.op)
  have HSy1 := Lib.hid (show ∀ W fv, RdF W fv (m2 a).files → Calls Tryd.prog 31 #[.agg #[.int .i64 0, .int .i64 (-1), fv], .string ⟨#[111, 108, 100]⟩] W (OpR W.heap.size W 0 (-1) 0 (m3 a)) from fun W fv h => by
    have := sync_any (m2 a) sOld fv W h (lite_few (v2 ha) (by simp [m2]) (by simp [m2]) (by simp [m2])) (by decide)
    rw [mv_sync ha] at this
    exact this.mono fun _ _ h => h.op)
  have HCr2 := Lib.hid (show ∀ W fv, RdF W fv (m3 a).files → Calls Tryd.prog 27 #[.agg #[.int .i64 0, .int .i64 (-1), fv], .string ⟨#[102, 114, 101, 115, 104]⟩] W (OpR W.heap.size W 0 (-1) 0 (m4 a)) from fun W fv h => by
    have := create_any (m3 a) sFre fv W h (lite_few (v3 ha) (by simp [m3]) (by simp [m3]) (by simp [m3])) (by decide)
    rw [mv_create2 ha] at this
    exact this.mono fun _ _ h => h.op)
  have HAp2 := Lib.hid (show ∀ W fv bv, RdF W fv (m4 a).files → RdB W bv b → Calls Tryd.prog 28 #[.agg #[.int .i64 0, .int .i64 (-1), fv], .string ⟨#[102, 114, 101, 115, 104]⟩, bv] W (OpR W.heap.size W 0 (-1) 0 (m5 a b)) from fun W fv bv h hb' => by
    have := append_any (m4 a) sFre b fv bv W h (lite_few (v4 ha) (by simp [m4]) (by simp [m4]) (by simp [m4])) (by decide) hb' (by omega)
    rw [mv_append2 ha hb] at this
    exact this.mono fun _ _ h => h.op)
  have HSy2 := Lib.hid (show ∀ W fv, RdF W fv (m5 a b).files → Calls Tryd.prog 31 #[.agg #[.int .i64 0, .int .i64 (-1), fv], .string ⟨#[102, 114, 101, 115, 104]⟩] W (OpR W.heap.size W 0 (-1) 0 (m6 a b)) from fun W fv h => by
    have := sync_any (m5 a b) sFre fv W h (lite_few (v5 ha hb) (by simp [m5]) (by simp [m5]) (by simp [m5])) (by decide)
    rw [mv_sync2 ha hb] at this
    exact this.mono fun _ _ h => h.op)
  have HRn5 := Lib.hid (show ∀ W fv, RdF W fv (m5 a b).files → Calls Tryd.prog 42 #[.agg #[.int .i64 0, .int .i64 (-1), fv], .string ⟨#[102, 114, 101, 115, 104]⟩, .string ⟨#[111, 108, 100]⟩] W (OpR W.heap.size W 0 (-1) 0 (m2 b)) from fun W fv h => by
    have := rename_any (m5 a b) sFre sOld fv W h (lite_few (v5 ha hb) (by simp [m5]) (by simp [m5]) (by simp [m5])) (by decide) (by decide)
    rw [mv_rename5 ha hb] at this
    exact this.mono fun _ _ h => h.op)
  have HRn6 := Lib.hid (show ∀ W fv, RdF W fv (m6 a b).files → Calls Tryd.prog 42 #[.agg #[.int .i64 0, .int .i64 (-1), fv], .string ⟨#[102, 114, 101, 115, 104]⟩, .string ⟨#[111, 108, 100]⟩] W (OpR W.heap.size W 0 (-1) 0 (m3 b)) from fun W fv h => by
    have := rename_any (m6 a b) sFre sOld fv W h (lite_few (v6 ha hb) (by simp [m6]) (by simp [m6]) (by simp [m6])) (by decide) (by decide)
    rw [mv_rename6 ha hb] at this
    exact this.mono fun _ _ h => h.op)
  have HRd2 := Lib.hid (show ∀ W fv, RdF W fv (m2 b).files → Calls Tryd.prog 32 #[.agg #[.int .i64 0, .int .i64 (-1), fv], .string ⟨#[111, 108, 100]⟩, .int .i64 0, .int .i64 (b.length : Int)] W (ReadRes W (b, 0)) from fun W fv h => by
    have := read_any (m2 b) sOld 0 (b.length : Int) fv W h (lite_few (v2 hb) (by simp [m2]) (by simp [m2]) (by simp [m2])) (by decide)
    rw [mv_read2 hb] at this
    exact this)
  have HRd3 := Lib.hid (show ∀ W fv, RdF W fv (m3 b).files → Calls Tryd.prog 32 #[.agg #[.int .i64 0, .int .i64 (-1), fv], .string ⟨#[111, 108, 100]⟩, .int .i64 0, .int .i64 (b.length : Int)] W (ReadRes W (b, 0)) from fun W fv h => by
    have := read_any (m3 b) sOld 0 (b.length : Int) fv W h (lite_few (v3 hb) (by simp [m3]) (by simp [m3]) (by simp [m3])) (by decide)
    rw [mv_read3 hb] at this
    exact this)
  have HCs2 := Lib.hid (show ∀ W fv, RdF W fv (m2 b).files → Calls Tryd.prog 30 #[.agg #[.int .i64 0, .int .i64 (-1), fv], .slice none 0 0] W (DkR W.heap.size W 0 (-1) m1) from fun W fv h => by
    have := crash_any (m2 b) [] fv _ W h (lite_few (v2 hb) (by simp [m2]) (by simp [m2]) (by simp [m2])) (RdK_nil _) (by decide)
    rw [mv_crash2 hb] at this
    exact this.mono fun _ _ h => DkR.of h)
  have HCs3 := Lib.hid (show ∀ W fv, RdF W fv (m3 b).files → Calls Tryd.prog 30 #[.agg #[.int .i64 0, .int .i64 (-1), fv], .slice none 0 0] W (DkR W.heap.size W 0 (-1) (m3 b)) from fun W fv h => by
    have := crash_any (m3 b) [] fv _ W h (lite_few (v3 hb) (by simp [m3]) (by simp [m3]) (by simp [m3])) (RdK_nil _) (by decide)
    rw [mv_crash3 hb] at this
    exact this.mono fun _ _ h => DkR.of h)
  have HSz1 := Lib.hid (show ∀ W fv, RdF W fv m1.files → Calls Tryd.prog 29 #[.agg #[.int .i64 0, .int .i64 (-1), fv], .string ⟨#[111, 108, 100]⟩] W fun e w' => e = .returned (.tuple #[.int .i64 0, .int .i64 0]) ∧ Below W.heap.size W w' from fun W fv h => by
    have := size_any m1 sOld fv W h (lite_few (v1) (by simp [m1]) (by simp [m1]) (by simp [m1])) (by decide)
    rw [mv_size1] at this
    exact this)
  have HSz3 := Lib.hid (show ∀ W fv, RdF W fv (m3 b).files → Calls Tryd.prog 29 #[.agg #[.int .i64 0, .int .i64 (-1), fv], .string ⟨#[111, 108, 100]⟩] W fun e w' => e = .returned (.tuple #[.int .i64 (b.length : Int), .int .i64 0]) ∧ Below W.heap.size W w' from fun W fv h => by
    have := size_any (m3 b) sOld fv W h (lite_few (v3 hb) (by simp [m3]) (by simp [m3]) (by simp [m3])) (by decide)
    rw [mv_size3 hb] at this
    exact this)
  have HGo1 := Lib.hid (show ∀ W fv, RdF W fv m1.files → Calls Tryd.prog 29 #[.agg #[.int .i64 0, .int .i64 (-1), fv], .string ⟨#[102, 114, 101, 115, 104]⟩] W fun e w' => e = .returned (.tuple #[.int .i64 0, .int .i64 6]) ∧ Below W.heap.size W w' from fun W fv h => by
    have := size_any m1 sFre fv W h (lite_few (v1) (by simp [m1]) (by simp [m1]) (by simp [m1])) (by decide)
    rw [mv_gone1] at this
    exact this)
  have HGo3 := Lib.hid (show ∀ W fv, RdF W fv (m3 b).files → Calls Tryd.prog 29 #[.agg #[.int .i64 0, .int .i64 (-1), fv], .string ⟨#[102, 114, 101, 115, 104]⟩] W fun e w' => e = .returned (.tuple #[.int .i64 0, .int .i64 6]) ∧ Below W.heap.size W w' from fun W fv h => by
    have := size_any (m3 b) sFre fv W h (lite_few (v3 hb) (by simp [m3]) (by simp [m3]) (by simp [m3])) (by decide)
    rw [mv_gone3 hb] at this
    exact this)
  have Hcap := Lib.hid (show ∀ (D : Dk) W b fv, D.cap = 0 → D.left = -1 → BoxR W b D fv → W.cell? ⟨b, 0, none⟩ = some (.int .i64 0) ∧ W.cell? ⟨b, 1, none⟩ = some (.int .i64 (-1)) ∧ W.cell? ⟨b, 2, none⟩ = some fv from fun D W b fv e1 e2 h => ⟨by rw [← e1]; exact h.x.c0, by rw [← e2]; exact h.x.c1, h.x.c2⟩)
  generalize hal : a.length = al at *
  generalize hbl : b.length = bl at *
  have Hbl := Lib.hid hbl
  clear hal hbl
  go_enter Tryd.func9, Tryd.ntmps9
  go_wp2_with fail
  refine (HNew.out _).mono ?_
  rintro e w1 ⟨rfl, hb1⟩
  have HB1 := Lib.hid hb1
  clear hb1
  go_wp2_with fail
  refine (HCre.out _).mono ?_
  rintro e w2 ⟨a2, n2, c2, rfl, hs2, hf2, hb2⟩
  have HB2 := Lib.hid (bstep HB1.out hb2)
  clear hb2
  have X := Lib.hid (BoxR.new hf2)
  have HB := Lib.hid (HB2.out.alloc HB2.out.size (.cells #[.int .i64 0, .int .i64 (-1), .slice a2 n2 c2] 33))
  change Hid (BoxR (w2.alloc (.cells #[.int .i64 0, .int .i64 (-1), .slice a2 n2 c2] 33)) _ _ _) at X
  clear hs2 hf2
  have hb0 := HB2.out.size
  clear HB1 HB2
  go_upto_region 4 with fail
  generalize w2.alloc (.cells #[.int .i64 0, .int .i64 (-1), .slice a2 n2 c2] 33) = W0 at *
  generalize w2.heap.size = b0 at *
  obtain ⟨x0, x1, x2⟩ := Hcap.out _ _ _ _ (by rfl) (by rfl) X.out
  go_wp2_with fail
  refine (HAp1.out _ _ _ X.out.r (HA.out.below HB.out)).mono ?_
  rintro e w3 ⟨a3, n3, c3, rfl, hs, _, hb3⟩
  have Y := Lib.hid (X.out.below hb3)
  have HBY := Lib.hid (bstep HB.out hb3)
  have X2 := Lib.hid (Y.out.x.put hs X.out.x.lt)
  have HB3 := Lib.hid (HBY.out.all3 (b := b0) hb0 (.int .i64 0) (.int .i64 (-1)) (.slice a3 n3 c3))
  change Hid (BoxR (((w3.setCell ⟨b0, 0, none⟩ (.int .i64 0)).setCell ⟨b0, 1, none⟩ (.int .i64 (-1))).setCell ⟨b0, 2, none⟩ (.slice a3 n3 c3)) _ _ _) at X2
  clear hs hb3 x0 x1 x2 X HB
  obtain ⟨x0, x1, x2⟩ := Hcap.out _ _ _ _ (by rfl) (by rfl) Y.out
  have xf := Y.out.x.f
  go_upto_region 5 with fail
  clear x0 x1 x2 xf Y HBY
  generalize (((w3.setCell ⟨b0, 0, none⟩ (.int .i64 0)).setCell ⟨b0, 1, none⟩ (.int .i64 (-1))).setCell ⟨b0, 2, none⟩ (.slice a3 n3 c3)) = W3 at *
  have X := Lib.hid X2.out
  have HB := Lib.hid HB3.out
  clear X2 HB3
  obtain ⟨x0, x1, x2⟩ := Hcap.out _ _ _ _ (by rfl) (by rfl) X.out
  go_wp2_with fail
  refine (HSy1.out _ _ X.out.r).mono ?_
  rintro e w4 ⟨a4, n4, c4, rfl, hs, _, hb4⟩
  have Y := Lib.hid (X.out.below hb4)
  have HBY := Lib.hid (bstep HB.out hb4)
  have X2 := Lib.hid (Y.out.x.put hs X.out.x.lt)
  have HB3 := Lib.hid (HBY.out.all3 (b := b0) hb0 (.int .i64 0) (.int .i64 (-1)) (.slice a4 n4 c4))
  change Hid (BoxR (((w4.setCell ⟨b0, 0, none⟩ (.int .i64 0)).setCell ⟨b0, 1, none⟩ (.int .i64 (-1))).setCell ⟨b0, 2, none⟩ (.slice a4 n4 c4)) _ _ _) at X2
  clear hs hb4 x0 x1 x2 X HB
  obtain ⟨x0, x1, x2⟩ := Hcap.out _ _ _ _ (by rfl) (by rfl) Y.out
  have xf := Y.out.x.f
  go_upto_region 6 with fail
  clear x0 x1 x2 xf Y HBY
  generalize (((w4.setCell ⟨b0, 0, none⟩ (.int .i64 0)).setCell ⟨b0, 1, none⟩ (.int .i64 (-1))).setCell ⟨b0, 2, none⟩ (.slice a4 n4 c4)) = W4 at *
  have X := Lib.hid X2.out
  have HB := Lib.hid HB3.out
  clear X2 HB3
  obtain ⟨x0, x1, x2⟩ := Hcap.out _ _ _ _ (by rfl) (by rfl) X.out
  go_wp2_with fail
  refine (HCr2.out _ _ X.out.r).mono ?_
  rintro e w5 ⟨a5, n5, c5, rfl, hs, _, hb5⟩
  have Y := Lib.hid (X.out.below hb5)
  have HBY := Lib.hid (bstep HB.out hb5)
  have X2 := Lib.hid (Y.out.x.put hs X.out.x.lt)
  have HB3 := Lib.hid (HBY.out.all3 (b := b0) hb0 (.int .i64 0) (.int .i64 (-1)) (.slice a5 n5 c5))
  change Hid (BoxR (((w5.setCell ⟨b0, 0, none⟩ (.int .i64 0)).setCell ⟨b0, 1, none⟩ (.int .i64 (-1))).setCell ⟨b0, 2, none⟩ (.slice a5 n5 c5)) _ _ _) at X2
  clear hs hb5 x0 x1 x2 X HB
  obtain ⟨x0, x1, x2⟩ := Hcap.out _ _ _ _ (by rfl) (by rfl) Y.out
  have xf := Y.out.x.f
  go_upto_region 7 with fail
  clear x0 x1 x2 xf Y HBY
  generalize (((w5.setCell ⟨b0, 0, none⟩ (.int .i64 0)).setCell ⟨b0, 1, none⟩ (.int .i64 (-1))).setCell ⟨b0, 2, none⟩ (.slice a5 n5 c5)) = W5 at *
  have X := Lib.hid X2.out
  have HB := Lib.hid HB3.out
  clear X2 HB3
  obtain ⟨x0, x1, x2⟩ := Hcap.out _ _ _ _ (by rfl) (by rfl) X.out
  go_wp2_with fail
  refine (HAp2.out _ _ _ X.out.r (HBb.out.below HB.out)).mono ?_
  rintro e w6 ⟨a6, n6, c6, rfl, hs, _, hb6⟩
  have Y := Lib.hid (X.out.below hb6)
  have HBY := Lib.hid (bstep HB.out hb6)
  have X2 := Lib.hid (Y.out.x.put hs X.out.x.lt)
  have HB3 := Lib.hid (HBY.out.all3 (b := b0) hb0 (.int .i64 0) (.int .i64 (-1)) (.slice a6 n6 c6))
  change Hid (BoxR (((w6.setCell ⟨b0, 0, none⟩ (.int .i64 0)).setCell ⟨b0, 1, none⟩ (.int .i64 (-1))).setCell ⟨b0, 2, none⟩ (.slice a6 n6 c6)) _ _ _) at X2
  clear hs hb6 x0 x1 x2 X HB
  obtain ⟨x0, x1, x2⟩ := Hcap.out _ _ _ _ (by rfl) (by rfl) Y.out
  have xf := Y.out.x.f
  go_upto_region 8 with fail
  clear x0 x1 x2 xf Y HBY
  generalize (((w6.setCell ⟨b0, 0, none⟩ (.int .i64 0)).setCell ⟨b0, 1, none⟩ (.int .i64 (-1))).setCell ⟨b0, 2, none⟩ (.slice a6 n6 c6)) = W6 at *
  have X := Lib.hid X2.out
  have HB := Lib.hid HB3.out
  clear X2 HB3
  cases s
  · go_upto_region 10 with fail
    obtain ⟨x0, x1, x2⟩ := Hcap.out _ _ _ _ (by rfl) (by rfl) X.out
    go_wp2_with fail
    refine (HRn5.out _ _ X.out.r).mono ?_
    rintro e v1 ⟨a1, n1, c1, rfl, hs, hf, hbv⟩
    have HB4 := Lib.hid (bstep HB.out hbv)
    have Y := Lib.hid (BoxR.new hf)
    have HB5 := Lib.hid (HB4.out.alloc HB4.out.size (.cells #[.int .i64 0, .int .i64 (-1), .slice a1 n1 c1] 33))
    change Hid (BoxR (v1.alloc (.cells #[.int .i64 0, .int .i64 (-1), .slice a1 n1 c1] 33)) _ _ _) at Y
    clear hs hf hbv x0 x1 x2 X HB HB4
    go_upto_region 11 with fail
    generalize v1.alloc (.cells #[.int .i64 0, .int .i64 (-1), .slice a1 n1 c1] 33) = V1 at *
    generalize v1.heap.size = b1 at *
    obtain ⟨x0, x1, x2⟩ := Hcap.out _ _ _ _ (by rfl) (by rfl) Y.out
    go_wp2_with fail
    refine (HRd2.out _ _ Y.out.r).mono ?_
    rintro e v2 ⟨nv, rfl, hov, hbv⟩
    have Y2 := Lib.hid (Y.out.below hbv)
    have HB6 := Lib.hid (bstep HB5.out hbv)
    have HO := Lib.hid hov.rd
    clear hov hbv x0 x1 x2 Y HB5
    obtain ⟨na, nc, rfl, _⟩ := HO.out.shape0
    rw [Hbl.out] at HO
    rw [Hbl.out]
    obtain ⟨x0, x1, x2⟩ := Hcap.out _ _ _ _ (by rfl) (by rfl) Y2.out
    go_wp2_with fail
    refine (HCs2.out _ _ Y2.out.r).mono ?_
    rintro e v3 ⟨a3, n3, c3, rfl, hs, hf, hbv⟩
    have HB7 := Lib.hid (bstep HB6.out hbv)
    have Z := Lib.hid (BoxR.new hf)
    have HB8 := Lib.hid (HB7.out.alloc HB7.out.size (.cells #[.int .i64 0, .int .i64 (-1), .slice a3 n3 c3] 33))
    have HO3 := Lib.hid (HO.out.below (hbv.alloc hbv.size (.cells #[.int .i64 0, .int .i64 (-1), .slice a3 n3 c3] 33)))
    change Hid (BoxR (v3.alloc (.cells #[.int .i64 0, .int .i64 (-1), .slice a3 n3 c3] 33)) _ _ _) at Z
    clear hs hf hbv x0 x1 x2 Y2 HB6 HB7 HO
    go_upto_region 13 with fail
    generalize v3.alloc (.cells #[.int .i64 0, .int .i64 (-1), .slice a3 n3 c3] 33) = V3 at *
    generalize v3.heap.size = b3 at *
    obtain ⟨x0, x1, x2⟩ := Hcap.out _ _ _ _ (by rfl) (by rfl) Z.out
    go_wp2_with fail
    refine (HSz1.out _ _ Z.out.r).mono ?_
    rintro e v4 ⟨rfl, hbv⟩
    have Z2 := Lib.hid (Z.out.below hbv)
    have HB9 := Lib.hid (bstep HB8.out hbv)
    have HO4 := Lib.hid (HO3.out.below hbv)
    clear hbv x0 x1 x2 Z HB8 HO3
    obtain ⟨x0, x1, x2⟩ := Hcap.out _ _ _ _ (by rfl) (by rfl) Z2.out
    go_wp2_with fail
    refine (HGo1.out _ _ Z2.out.r).mono ?_
    rintro e v5 ⟨rfl, hbv⟩
    have HB10 := Lib.hid (bstep HB9.out hbv)
    have HO5 := Lib.hid (HO4.out.below hbv)
    clear hbv x0 x1 x2 Z2 HB9 HO4
    have hc1 := run_to_string (P := Tryd.prog) 47 9 5 Tryd.underlying47 Tryd.underlying5 Tryd.underlying9 HO5.out
    have hc2 := run_to_string (P := Tryd.prog) 47 9 5 Tryd.underlying47 Tryd.underlying5 Tryd.underlying9 (HBb.out.below HB10.out)
    go_wp2_with fail
    refine (awake_any _).mono ?_
    rintro e w15 ⟨rfl, hb15⟩
    have HB15 := Lib.hid (bstep HB10.out hb15)
    clear hb15
    go_wp2_with fail
    go_ret
    exact ⟨rfl, HB15.out⟩
  · go_upto_region 9 with fail
    obtain ⟨x0, x1, x2⟩ := Hcap.out _ _ _ _ (by rfl) (by rfl) X.out
    go_wp2_with fail
    refine (HSy2.out _ _ X.out.r).mono ?_
    rintro e w7 ⟨a7, n7, c7, rfl, hs, _, hb7⟩
    have Y := Lib.hid (X.out.below hb7)
    have HBY := Lib.hid (bstep HB.out hb7)
    have X2 := Lib.hid (Y.out.x.put hs X.out.x.lt)
    have HB3 := Lib.hid (HBY.out.all3 (b := b0) hb0 (.int .i64 0) (.int .i64 (-1)) (.slice a7 n7 c7))
    change Hid (BoxR (((w7.setCell ⟨b0, 0, none⟩ (.int .i64 0)).setCell ⟨b0, 1, none⟩ (.int .i64 (-1))).setCell ⟨b0, 2, none⟩ (.slice a7 n7 c7)) _ _ _) at X2
    clear hs hb7 x0 x1 x2 X HB
    obtain ⟨x0, x1, x2⟩ := Hcap.out _ _ _ _ (by rfl) (by rfl) Y.out
    have xf := Y.out.x.f
    go_upto_region 10 with fail
    clear x0 x1 x2 xf Y HBY
    generalize (((w7.setCell ⟨b0, 0, none⟩ (.int .i64 0)).setCell ⟨b0, 1, none⟩ (.int .i64 (-1))).setCell ⟨b0, 2, none⟩ (.slice a7 n7 c7)) = W7 at *
    have X := Lib.hid X2.out
    have HB := Lib.hid HB3.out
    clear X2 HB3
    obtain ⟨x0, x1, x2⟩ := Hcap.out _ _ _ _ (by rfl) (by rfl) X.out
    go_wp2_with fail
    refine (HRn6.out _ _ X.out.r).mono ?_
    rintro e v1 ⟨a1, n1, c1, rfl, hs, hf, hbv⟩
    have HB4 := Lib.hid (bstep HB.out hbv)
    have Y := Lib.hid (BoxR.new hf)
    have HB5 := Lib.hid (HB4.out.alloc HB4.out.size (.cells #[.int .i64 0, .int .i64 (-1), .slice a1 n1 c1] 33))
    change Hid (BoxR (v1.alloc (.cells #[.int .i64 0, .int .i64 (-1), .slice a1 n1 c1] 33)) _ _ _) at Y
    clear hs hf hbv x0 x1 x2 X HB HB4
    go_upto_region 11 with fail
    generalize v1.alloc (.cells #[.int .i64 0, .int .i64 (-1), .slice a1 n1 c1] 33) = V1 at *
    generalize v1.heap.size = b1 at *
    obtain ⟨x0, x1, x2⟩ := Hcap.out _ _ _ _ (by rfl) (by rfl) Y.out
    go_wp2_with fail
    refine (HRd3.out _ _ Y.out.r).mono ?_
    rintro e v2 ⟨nv, rfl, hov, hbv⟩
    have Y2 := Lib.hid (Y.out.below hbv)
    have HB6 := Lib.hid (bstep HB5.out hbv)
    have HO := Lib.hid hov.rd
    clear hov hbv x0 x1 x2 Y HB5
    obtain ⟨na, nc, rfl, _⟩ := HO.out.shape0
    rw [Hbl.out] at HO
    rw [Hbl.out]
    obtain ⟨x0, x1, x2⟩ := Hcap.out _ _ _ _ (by rfl) (by rfl) Y2.out
    go_wp2_with fail
    refine (HCs3.out _ _ Y2.out.r).mono ?_
    rintro e v3 ⟨a3, n3, c3, rfl, hs, hf, hbv⟩
    have HB7 := Lib.hid (bstep HB6.out hbv)
    have Z := Lib.hid (BoxR.new hf)
    have HB8 := Lib.hid (HB7.out.alloc HB7.out.size (.cells #[.int .i64 0, .int .i64 (-1), .slice a3 n3 c3] 33))
    have HO3 := Lib.hid (HO.out.below (hbv.alloc hbv.size (.cells #[.int .i64 0, .int .i64 (-1), .slice a3 n3 c3] 33)))
    change Hid (BoxR (v3.alloc (.cells #[.int .i64 0, .int .i64 (-1), .slice a3 n3 c3] 33)) _ _ _) at Z
    clear hs hf hbv x0 x1 x2 Y2 HB6 HB7 HO
    go_upto_region 13 with fail
    generalize v3.alloc (.cells #[.int .i64 0, .int .i64 (-1), .slice a3 n3 c3] 33) = V3 at *
    generalize v3.heap.size = b3 at *
    obtain ⟨x0, x1, x2⟩ := Hcap.out _ _ _ _ (by rfl) (by rfl) Z.out
    go_wp2_with fail
    refine (HSz3.out _ _ Z.out.r).mono ?_
    rintro e v4 ⟨rfl, hbv⟩
    have Z2 := Lib.hid (Z.out.below hbv)
    have HB9 := Lib.hid (bstep HB8.out hbv)
    have HO4 := Lib.hid (HO3.out.below hbv)
    clear hbv x0 x1 x2 Z HB8 HO3
    obtain ⟨x0, x1, x2⟩ := Hcap.out _ _ _ _ (by rfl) (by rfl) Z2.out
    go_wp2_with fail
    refine (HGo3.out _ _ Z2.out.r).mono ?_
    rintro e v5 ⟨rfl, hbv⟩
    have HB10 := Lib.hid (bstep HB9.out hbv)
    have HO5 := Lib.hid (HO4.out.below hbv)
    clear hbv x0 x1 x2 Z2 HB9 HO4
    have hc1 := run_to_string (P := Tryd.prog) 47 9 5 Tryd.underlying47 Tryd.underlying5 Tryd.underlying9 HO5.out
    have hc2 := run_to_string (P := Tryd.prog) 47 9 5 Tryd.underlying47 Tryd.underlying5 Tryd.underlying9 (HBb.out.below HB10.out)
    go_wp2_with fail
    refine (awake_any _).mono ?_
    rintro e w15 ⟨rfl, hb15⟩
    have HB15 := Lib.hid (bstep HB10.out hb15)
    clear hb15
    go_wp2_with fail
    go_ret
    exact ⟨rfl, HB15.out⟩
theorem moves_walk (a : Option Addr) (n cap : Nat) (za : List Int) (b : Option Addr) (m bcap : Nat) (zb : List Int) (s : Bool) (w : World) (h1 : IsRow .u8 w a n cap za) (h2 : IsRow .u8 w b m bcap zb) :
    Calls Tryd.prog 9 #[.slice a n cap, .slice b m bcap, .bool s] w fun e w' => e = .returned (.bool true) ∧ Below w.heap.size w w' := by
  obtain ⟨la, rfl, ha⟩ := isRow_bytes h1
  obtain ⟨lb, rfl, hb⟩ := isRow_bytes h2
  exact moves_go _ _ la lb s w ha hb
end Go.Proofs.YtkabcpmnbjllcaaDoor
