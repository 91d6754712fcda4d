/- The chapter's examples: plain values, disks in boxes, the walk of awake. -/
import Derived.Test.YtkabcpmnbjllcaaDoorYu
namespace Go.Proofs.YtkabcpmnbjllcaaDoor
open Go.RowKit

/-- The box b holds the disk d. -/
structure BoxR (W : World) (b : Nat) (d : Dk) (fv : Value) : Prop where
  x : BoxD W b d.cap d.left fv
  r : RdF W fv d.files
theorem BoxR.below {W W' : World} {b : Nat} {d : Dk} {fv : Value} (h : BoxR W b d fv) (hb : Below W.heap.size W W') : BoxR W' b d fv := ⟨h.x.below hb, h.r.below hb⟩
theorem StD.fil {B : Nat} {W : World} {v : Value} {d : Dk} (h : StD B W v d) : ∃ fv, v = diskVal d.cap d.left fv ∧ RdF W fv d.files := h.rd
/-- The box takes a disk that lies above it. -/
theorem BoxD.put {W : World} {b B : Nat} {c l : Int} {fv0 : Value} (h : BoxD W b c l fv0) {d : Dk} {fv : Value} (hs : StD B W (diskVal d.cap d.left fv) d) (hb : b < B) :
    BoxR (((W.setCell ⟨b, 0, none⟩ (.int .i64 d.cap)).setCell ⟨b, 1, none⟩ (.int .i64 d.left)).setCell ⟨b, 2, none⟩ fv) b d fv := by
  refine ⟨h.all _ _ _, ?_⟩
  obtain ⟨fv', e, hf⟩ := hs _ (KeepB.all3 hb (.int .i64 d.cap) (.int .i64 d.left) fv)
  injection e with e
  have e2 := congrArg (fun a : Array Value => a.toList) e
  simp at e2
  subst e2
  exact hf
theorem BoxR.new {W : World} {d : Dk} {fv : Value} (h : RdF W fv d.files) : BoxR (W.alloc (.cells #[.int .i64 d.cap, .int .i64 d.left, fv] 33)) W.heap.size d fv := ⟨BoxD.new W _ _ _ _, h.below ((Below.refl _ _).alloc (Nat.le_refl _) _)⟩
theorem RdK_nil (w : World) : RdK w (.slice none 0 0) [] := RdS.nil _ _ _
theorem RdK.one (w : World) (k : Kp) : RdK (w.alloc (.cells #[.string (strB k.name), .int .i64 k.wri, .int .i64 k.torn] 52)) (.slice (some ⟨w.heap.size, 0, none⟩) 1 1) [k] :=
  ⟨fun _ _ => rfl, Rd.new w 3 (kpC k) 52 1 rfl (by decide)⟩
def aN : List UInt8 := [97]
def dA : Dk := ⟨0, -1, [⟨[97], [], []⟩]⟩
def dB : Dk := ⟨0, -1, [⟨[97], [], [⟨0, [1, 2, 3], false⟩]⟩]⟩
theorem ex_create : createD ⟨0, -1, []⟩ [97] = (dA, 0) := by decide +kernel
theorem ex_append0 : (appendD ⟨0, -1, []⟩ [97] []) = (dk0, 6) := by decide +kernel
theorem ex_append : (appendD dA [97] [1, 2, 3]) = (dB, 0) := by decide +kernel
theorem ex_crash0 : crashD dB [] = dA := by decide +kernel
theorem ex_crash : crashD dB [⟨[97], 0, 2⟩] = ⟨0, -1, [⟨[97], [1, 2], []⟩]⟩ := by decide +kernel
theorem ex_size0 : sizeD dA [97] = (0, 0) := by decide +kernel
theorem ex_size : sizeD ⟨0, -1, [⟨[97], [1, 2], []⟩]⟩ [97] = (2, 0) := by decide +kernel
theorem VldD.liteD {d : Dk} (h : VldD d) (hs : SmallD d 5000) : LiteD d := h.lite hs (Nat.le_refl _)
theorem lite_dec (d : Dk) (h : (validD d && d.files.all (fun f => decide (f.pend.length ≤ 5000)) && decide (d.cap ≤ 9223372036854775807) && decide (d.left ≤ 9223372036854775807)) = true) : LiteD d := by
  simp only [Bool.and_eq_true, decide_eq_true_eq, List.all_eq_true] at h
  obtain ⟨⟨⟨h1, h2⟩, h3⟩, h4⟩ := h
  have hv := (validD_iff d).1 h1
  exact hv.liteD ⟨⟨by have := hv.cap; omega, h3⟩, ⟨by have := hv.left; omega, h4⟩, h2⟩
/-- What an operation hands back, with the shape of the row. -/
def OpR (B : Nat) (w0 : World) (c l er : Int) (d : Dk) (e : Ending) (w' : World) : Prop := ∃ a n cap, e = .returned (.tuple #[.agg #[.int .i64 c, .int .i64 l, .slice a n cap], .int .i64 er]) ∧ StD B w' (diskVal d.cap d.left (.slice a n cap)) d ∧ RdF w' (.slice a n cap) d.files ∧ Below B w0 w'
theorem StD.sl {B : Nat} {W : World} {v : Value} {d : Dk} (h : StD B W v d) : ∃ a n cap, v = diskVal d.cap d.left (.slice a n cap) ∧ RdF W (.slice a n cap) d.files := by
  obtain ⟨fv, e, hf⟩ := h.rd
  obtain ⟨a, cap, rfl, _⟩ := hf.shape
  exact ⟨a, _, cap, e, hf⟩
theorem WrRes.op {B : Nat} {w0 : World} {x : Dk × Int} {e : Ending} {w' : World} (h : WrRes B w0 x e w') : OpR B w0 x.1.cap x.1.left x.2 x.1 e w' := by
  obtain ⟨⟨v, rfl, hs⟩, hb⟩ := h
  obtain ⟨a, n, cap, rfl, hf⟩ := hs.sl
  exact ⟨a, n, cap, rfl, hs, hf, hb⟩
/-- A crash hands back, with the shape of the row. -/
def DkR (B : Nat) (w0 : World) (c l : Int) (d : Dk) (e : Ending) (w' : World) : Prop := ∃ a n cap, e = .returned (.agg #[.int .i64 c, .int .i64 l, .slice a n cap]) ∧ StD B w' (diskVal d.cap d.left (.slice a n cap)) d ∧ RdF w' (.slice a n cap) d.files ∧ Below B w0 w'
theorem DkR.of {B : Nat} {w0 : World} {d : Dk} {e : Ending} {w' : World} (h : ∃ v, e = .returned v ∧ StD B w' v d ∧ Below B w0 w') : DkR B w0 d.cap d.left d e w' := by
  obtain ⟨v, rfl, hs, hb⟩ := h
  obtain ⟨a, n, cap, rfl, hf⟩ := hs.sl
  exact ⟨a, n, cap, rfl, hs, hf, hb⟩
set_option maxRecDepth 100000 in
set_option maxHeartbeats 3200000 in
theorem awake_any (w : World) : Calls Tryd.prog 14 #[] w fun e w' => e = .returned (.bool true) ∧ Below w.heap.size w w' := by
  have HNew := Lib.hid (show ∀ W, Calls Tryd.prog 25 #[.int .i64 0] W fun e w' => e = .returned (.agg #[.int .i64 0, .int .i64 (-1), .slice none 0 0]) ∧ Below W.heap.size W w' from fun W => new_any 0 W)
  have HAp0 := Lib.hid (show ∀ W, Calls Tryd.prog 28 #[.agg #[.int .i64 0, .int .i64 (-1), .slice none 0 0], .string ⟨#[97]⟩, .slice none 0 0] W (OpR W.heap.size W 0 0 6 dk0) from fun W => by
    have := append_any ⟨0, -1, []⟩ [97] [] nilS nilS W (RdF_nil _) (lite_dec _ (by decide +kernel)) (by decide) (RdB_nil _) (by decide)
    rw [ex_append0] at this
    exact this.mono fun _ _ h => h.op)
  have HCre := Lib.hid (show ∀ W, Calls Tryd.prog 27 #[.agg #[.int .i64 0, .int .i64 (-1), .slice none 0 0], .string ⟨#[97]⟩] W (OpR W.heap.size W 0 (-1) 0 dA) from fun W => by
    have := create_any ⟨0, -1, []⟩ [97] nilS W (RdF_nil _) (lite_dec _ (by decide +kernel)) (by decide)
    rw [ex_create] at this
    exact this.mono fun _ _ h => h.op)
  have HApp := Lib.hid (show ∀ W fv bv, RdF W fv dA.files → RdB W bv [1, 2, 3] → Calls Tryd.prog 28 #[.agg #[.int .i64 0, .int .i64 (-1), fv], .string ⟨#[97]⟩, bv] W (OpR W.heap.size W 0 (-1) 0 dB) from fun W fv bv h hb => by
    have := append_any dA [97] [1, 2, 3] fv bv W h (lite_dec _ (by decide +kernel)) (by decide) hb (by decide)
    rw [ex_append] at this
    exact this.mono fun _ _ h => h.op)
  have HCr0 := Lib.hid (show ∀ W fv, RdF W fv dB.files → Calls Tryd.prog 30 #[.agg #[.int .i64 0, .int .i64 (-1), fv], .slice none 0 0] W (DkR W.heap.size W 0 (-1) dA) from fun W fv h => by
    have := crash_any dB [] fv _ W h (lite_dec _ (by decide +kernel)) (RdK_nil _) (by decide)
    rw [ex_crash0] at this
    exact this.mono fun _ _ h => DkR.of h)
  have HSz0 := Lib.hid (show ∀ W fv, RdF W fv dA.files → Calls Tryd.prog 29 #[.agg #[.int .i64 0, .int .i64 (-1), fv], .string ⟨#[97]⟩] W fun e w' => e = .returned (.tuple #[.int .i64 0, .int .i64 0]) ∧ Below W.heap.size W w' from fun W fv h => by
    have := size_any dA [97] fv W h (lite_dec _ (by decide +kernel)) (by decide)
    rw [ex_size0] at this
    exact this)
  have HCr := Lib.hid (show ∀ W fv kv, RdF W fv dB.files → RdK W kv [⟨[97], 0, 2⟩] → Calls Tryd.prog 30 #[.agg #[.int .i64 0, .int .i64 (-1), fv], kv] W (DkR W.heap.size W 0 (-1) ⟨0, -1, [⟨[97], [1, 2], []⟩]⟩) from fun W fv kv h hk => by
    have := crash_any dB [⟨[97], 0, 2⟩] fv kv W h (lite_dec _ (by decide +kernel)) hk (by decide)
    rw [ex_crash] at this
    exact this.mono fun _ _ h => DkR.of h)
  have HSz := Lib.hid (show ∀ W fv, RdF W fv [⟨[97], [1, 2], []⟩] → Calls Tryd.prog 29 #[.agg #[.int .i64 0, .int .i64 (-1), fv], .string ⟨#[97]⟩] W fun e w' => e = .returned (.tuple #[.int .i64 2, .int .i64 0]) ∧ Below W.heap.size W w' from fun W fv h => by
    have := size_any ⟨0, -1, [⟨[97], [1, 2], []⟩]⟩ [97] fv W h (lite_dec _ (by decide +kernel)) (by decide)
    rw [ex_size] at this
    exact this)
  go_enter Tryd.func14, Tryd.ntmps14
  go_wp2_with fail
  refine (HNew.out _).mono ?_
  rintro e w1 ⟨rfl, hb1⟩
  have HB1 := Lib.hid hb1
  clear hb1
  go_wp2_with fail
  refine (HAp0.out _).mono ?_
  rintro e w2 ⟨a2, n2, c2, rfl, _, _, hb2⟩
  have HB2 := Lib.hid ((bstep HB1.out hb2).alloc (bstep HB1.out hb2).size (.cells #[.int .i64 0, .int .i64 0, .slice a2 n2 c2] 33))
  clear hb2 HB1
  go_upto_region 2 with fail
  generalize w2.alloc (.cells #[.int .i64 0, .int .i64 0, .slice a2 n2 c2] 33) = w3 at *
  go_wp2_with fail
  refine (HNew.out _).mono ?_
  rintro e w4 ⟨rfl, hb4⟩
  have HB4 := Lib.hid (bstep HB2.out hb4)
  clear hb4
  go_wp2_with fail
  refine (HCre.out _).mono ?_
  rintro e w5 ⟨a5, n5, c5, rfl, hs5, hf5, hb5⟩
  have HB5 := Lib.hid (bstep HB4.out hb5)
  clear hb5
  have X := Lib.hid (BoxR.new hf5)
  have HB6 := Lib.hid (HB5.out.alloc HB5.out.size (.cells #[.int .i64 0, .int .i64 (-1), .slice a5 n5 c5] 33))
  change Hid (BoxR (w5.alloc (.cells #[.int .i64 0, .int .i64 (-1), .slice a5 n5 c5] 33)) _ _ _) at X
  clear hs5 hf5
  go_upto_region 3 with fail
  generalize w5.alloc (.cells #[.int .i64 0, .int .i64 (-1), .slice a5 n5 c5] 33) = w6 at *
  have hb0 := HB5.out.size
  generalize w5.heap.size = b at *
  have x0 := X.out.x.c0
  have x1 := X.out.x.c1
  have x2 := X.out.x.c2
  have hA := (Below.refl w6.heap.size w6).alloc (Nat.le_refl _) (.cells #[.int .u8 1, .int .u8 2, .int .u8 3] 5)
  have X7 := Lib.hid (X.out.below hA)
  have HB7 := Lib.hid (bstep HB6.out hA)
  have H3 := Lib.hid (show RdB (w6.alloc (.cells #[.int .u8 1, .int .u8 2, .int .u8 3] 5)) (.slice (some ⟨w6.heap.size, 0, none⟩) 3 3) [1, 2, 3] from Rd.new w6 1 [.int .u8 1, .int .u8 2, .int .u8 3] 5 3 rfl (by decide))
  change w6.cell? ⟨b, 0, none⟩ = some (.int .i64 0) at x0
  change w6.cell? ⟨b, 1, none⟩ = some (.int .i64 (-1)) at x1
  have hbl := X.out.x.lt
  clear hA
  go_wp2_with fail
  refine (HApp.out _ _ _ X7.out.r H3.out).mono ?_
  rintro e w8 ⟨a8, n8, c8, rfl, hs8, hf8, hb8⟩
  have X8 := Lib.hid (X7.out.below hb8)
  have HB8 := Lib.hid (bstep HB7.out hb8)
  have hbw : b < (w6.alloc (.cells #[.int .u8 1, .int .u8 2, .int .u8 3] 5)).heap.size := X7.out.x.lt
  have hwb : w.heap.size ≤ b := hb0
  have X9 := Lib.hid (X8.out.x.put hs8 hbw)
  have HB9 := Lib.hid (HB8.out.all3 (b := b) hwb (.int .i64 0) (.int .i64 (-1)) (.slice a8 n8 c8))
  change Hid (BoxR (((w8.setCell ⟨b, 0, none⟩ (.int .i64 0)).setCell ⟨b, 1, none⟩ (.int .i64 (-1))).setCell ⟨b, 2, none⟩ (.slice a8 n8 c8)) _ _ _) at X9
  clear hs8 hf8 hb8 x0 x1 x2 X H3 X7 HB7
  have x0 := X8.out.x.c0
  have x1 := X8.out.x.c1
  have x2 := X8.out.x.c2
  have xf := X8.out.x.f
  go_upto_region 4 with fail
  clear x0 x1 x2 xf X8 HB8
  generalize (((w8.setCell ⟨b, 0, none⟩ (.int .i64 0)).setCell ⟨b, 1, none⟩ (.int .i64 (-1))).setCell ⟨b, 2, none⟩ (.slice a8 n8 c8)) = w9 at *
  have x0 := X9.out.x.c0
  have x1 := X9.out.x.c1
  have x2 := X9.out.x.c2
  change w9.cell? ⟨b, 0, none⟩ = some (.int .i64 0) at x0
  change w9.cell? ⟨b, 1, none⟩ = some (.int .i64 (-1)) at x1
  go_wp2_with fail
  refine (HCr0.out _ _ X9.out.r).mono ?_
  rintro e w10 ⟨a10, n10, c10, rfl, _, hf10, hb10⟩
  have X10 := Lib.hid (X9.out.below hb10)
  have HB10 := Lib.hid (bstep HB9.out hb10)
  have HF10 := Lib.hid hf10
  clear hb10 hf10
  go_wp2_with fail
  refine (HSz0.out _ _ HF10.out).mono ?_
  rintro e w11 ⟨rfl, hb11⟩
  have X11 := Lib.hid (X10.out.below hb11)
  have HB11 := Lib.hid (bstep HB10.out hb11)
  clear hb11 x0 x1 x2
  go_upto_region 5 with fail
  have x0 := X11.out.x.c0
  have x1 := X11.out.x.c1
  have x2 := X11.out.x.c2
  change w11.cell? ⟨b, 0, none⟩ = some (.int .i64 0) at x0
  change w11.cell? ⟨b, 1, none⟩ = some (.int .i64 (-1)) at x1
  have hA := (Below.refl w11.heap.size w11).alloc (Nat.le_refl _) (.cells #[.string ⟨#[97]⟩, .int .i64 0, .int .i64 2] 52)
  have X12 := Lib.hid (X11.out.below hA)
  have HB12 := Lib.hid (bstep HB11.out hA)
  have HK := Lib.hid (show RdK (w11.alloc (.cells #[.string ⟨#[97]⟩, .int .i64 0, .int .i64 2] 52)) (.slice (some ⟨w11.heap.size, 0, none⟩) 1 1) [⟨[97], 0, 2⟩] from RdK.one w11 ⟨[97], 0, 2⟩)
  clear hA
  go_wp2_with fail
  refine (HCr.out _ _ _ X12.out.r HK.out).mono ?_
  rintro e w13 ⟨a13, n13, c13, rfl, _, hf13, hb13⟩
  have HB13 := Lib.hid (bstep HB12.out hb13)
  have HF13 := Lib.hid hf13
  clear hb13 hf13
  go_wp2_with fail
  refine (HSz.out _ _ HF13.out).mono ?_
  rintro e w14 ⟨rfl, hb14⟩
  have HB14 := Lib.hid (bstep HB13.out hb14)
  clear hb14
  go_wp2_with fail
  go_ret
  exact ⟨rfl, HB14.out⟩
end Go.Proofs.YtkabcpmnbjllcaaDoor
