/- Several texts in one, each over the last: GenerationNames: the walk. What is known of a name that came in; GenerationNames for the values that come in. -/
import Derived.Test.YthomhflkldhdaaaGreatDoorGK
import Derived.Deep.Slices
import Derived.Deep.SlicePairs
import Derived.ChangeArms
namespace Go.Proofs.YthomhflkldhdaaaGreatDoor
open Go.RowKit

/-- A name's cells in a row. -/
structure NAt (W : World) (b o : Nat) (x : Nam) : Prop where
  c0 : W.cell? ⟨b, o, none⟩ = some (.int .i64 x.kind)
  c1 : W.cell? ⟨b, o + 1, none⟩ = some (.int .i64 x.slot)
  c2 : W.cell? ⟨b, o + 2, none⟩ = some (.int .i64 x.gen)
  c3 : W.cell? ⟨b, o + 3, none⟩ = some (.int .i64 x.shard)
  c4 : W.cell? ⟨b, o + 4, none⟩ = some (.bool x.temp)
theorem NAt.below {W W' : World} {b o : Nat} {x : Nam} (h : NAt W b o x) (hB : Below W.heap.size W W') : NAt W' b o x := ⟨hB.keeps' h.c0, hB.keeps' h.c1, hB.keeps' h.c2, hB.keeps' h.c3, hB.keeps' h.c4⟩
theorem parse_len (ls : List UInt8) (W : World) (h : ls.length ≤ 100) : Calls Tryz.prog 25 #[strV ls] W fun e w' => e = .returned (.tuple #[namV (parseP ls).2, .int .i64 (parseP ls).1]) ∧ Below W.heap.size W w' := parse_any ls W (by omega)
theorem rparse_len (ls : List UInt8) (W : World) (h : ls.length ≤ 100) : Calls Tryz.prog 26 #[strV ls] W fun e w' => e = .returned (.tuple #[namV (parseP ls).2, .int .i64 (parseP ls).1]) ∧ Below W.heap.size W w' := by rw [parse_same]; exact rparse_any ls W (by omega)
theorem fmtL_len (n : Nam) : (fmtL n).length ≤ 1000000 := by
  have h1 : (endN n).length ≤ 3 := by unfold endN; split <;> (try split) <;> (try split) <;> (try split) <;> simp
  have h2 : (if n.temp then [46, 116, 109, 112] else [] : List UInt8).length ≤ 4 := by cases n.temp <;> simp
  unfold fmtL
  rw [List.length_append, List.length_append]
  have h3 : ([118, 46, UInt8.ofNat (48 + n.slot.toNat), 46, UInt8.ofNat (48 + n.gen.toNat), 46] : List UInt8).length = 6 := rfl
  omega
theorem parse_fmt (n : Nam) (h : validN n) (W : World) : Calls Tryz.prog 25 #[strV (fmtN n)] W fun e w' => e = .returned (.tuple #[namV n, .int .i64 0]) ∧ Below W.heap.size W w' := by
  rw [show fmtN n = fmtL n from if_pos h]
  have := parse_any (fmtL n) W (fmtL_len n)
  rw [parseP_fmt h] at this
  exact this
set_option maxRecDepth 100000 in
set_option maxHeartbeats 8000000 in
theorem names_walk (x : Nam) (ls : List UInt8) (w : World) : Calls Tryz.prog 4 #[namV x, strV ls] w fun e w' => e = .returned (.bool true) ∧ Below w.heap.size w w' := by
  have HA := Lib.hid (fun W => gawake_any W)
  have HNm := Lib.hid (fun n W => name_any n W)
  have HF := Lib.hid (fun n W => format_any n W)
  have HRF := Lib.hid (fun n W => rformat_any n W)
  have HFi := Lib.hid (fun k s g W => file_any k s g W)
  have HRFi := Lib.hid (fun k s g W => rfile_any k s g W)
  have HPf := Lib.hid (fun n h W => parse_fmt n h W)
  have HP1 := Lib.hid (fun W h => parse_len ls W h)
  have HP2 := Lib.hid (fun W h => rparse_len ls W h)
  generalize parseP ls = PR at *
  have HX := Lib.hid (BoxN.new w x 51)
  have HB := Lib.hid (below_nam w x 51)
  obtain ⟨k, s, g, d, t⟩ := x
  go_enter Tryz.func4, Tryz.ntmps4
  go_upto_region 1 with fail
  obtain ⟨W, hW⟩ : ∃ W, w.alloc (.cells (namC ⟨k, s, g, d, t⟩) 51) = W := ⟨_, rfl⟩
  change Code.wp _ _ _ _ (w.alloc (.cells (namC ⟨k, s, g, d, t⟩) 51))
  rw [hW] at HX HB ⊢
  clear hW
  have x0 := HX.out.c0
  have x1 := HX.out.c1
  have x2 := HX.out.c2
  have x3 := HX.out.c3
  have x4 := HX.out.c4
  dsimp only at x0 x1 x2 x3 x4
  go_upto_region 2 with fail
  obtain ⟨y, hy⟩ : ∃ y : Nam, y = ⟨wrap64 (wrap64 (1 + bits .and .i64 k 3) + bits .and .i64 s 1), bits .and .i64 s 3, wrap64 (1 + bits .and .i64 g 7), bits .and .i64 d 7, t⟩ := ⟨_, rfl⟩
  have hyw : W.alloc (.cells (namC ⟨wrap64 (wrap64 (1 + bits .and .i64 k 3) + bits .and .i64 s 1), bits .and .i64 s 3, wrap64 (1 + bits .and .i64 g 7), bits .and .i64 d 7, t⟩) 51) = W.alloc (.cells (namC y) 51) := by rw [hy]
  change Code.wp _ _ _ _ (W.alloc (.cells (namC ⟨wrap64 (wrap64 (1 + bits .and .i64 k 3) + bits .and .i64 s 1), bits .and .i64 s 3, wrap64 (1 + bits .and .i64 g 7), bits .and .i64 d 7, t⟩) 51))
  rw [hyw]
  clear hyw hy x0 x1 x2 x3 x4
  obtain ⟨V, hV⟩ : ∃ V, W.alloc (.cells (namC y) 51) = V := ⟨_, rfl⟩
  have HY := Lib.hid (show BoxN V W.heap.size y from hV ▸ BoxN.new W y 51)
  have hbV : Below W.heap.size W V := hV ▸ below_nam W y 51
  rw [hV]
  clear hV
  have HX2 := Lib.hid (HX.out.below hbV)
  have HB2 := Lib.hid (bstep HB.out hbV)
  clear hbV HX HB
  generalize W.heap.size = yb at *
  clear W
  generalize wrap64 (wrap64 (1 + bits .and .i64 k 3) + bits .and .i64 s 1) = u1 at *
  generalize wrap64 (1 + bits .and .i64 k 3) = u2 at *
  generalize wrap64 (1 + bits .and .i64 g 7) = u3 at *
  by_cases h100 : 100 < ls.length
  · have e0 : decide (100 < (ls.length : Int)) = true := by simp; omega
    go_wp2_with fail
    refine (HA.out _).mono ?_
    rintro e w1 ⟨rfl, hb⟩
    have HB3 := Lib.hid (bstep HB2.out hb)
    clear hb
    go_wp2_with fail
    go_ret
    exact ⟨rfl, HB3.out⟩
  have e0 : decide (100 < (ls.length : Int)) = false := by simp; omega
  have x0 := HX2.out.c0
  have x1 := HX2.out.c1
  have x2 := HX2.out.c2
  have x3 := HX2.out.c3
  have x4 := HX2.out.c4
  have y0 := HY.out.c0
  have y1 := HY.out.c1
  have y2 := HY.out.c2
  have y3 := HY.out.c3
  have y4 := HY.out.c4
  dsimp only at x0 x1 x2 x3 x4
  go_upto_region 5 with fail
  obtain ⟨W, hW⟩ : ∃ W, V.alloc (.cells #[.int .i64 k, .int .i64 s, .int .i64 g, .int .i64 d, .bool t, .int .i64 y.kind, .int .i64 y.slot, .int .i64 y.gen, .int .i64 y.shard, .bool y.temp] 51) = W := ⟨_, rfl⟩
  have HN0 := Lib.hid (show NAt W V.heap.size 0 ⟨k, s, g, d, t⟩ from hW ▸ ⟨by simp, by simp, by simp, by simp, by simp⟩)
  have HN5 := Lib.hid (show NAt W V.heap.size 5 y from hW ▸ ⟨by simp, by simp, by simp, by simp, by simp⟩)
  have HB3 := Lib.hid (show Below w.heap.size w W from bstep HB2.out (hW ▸ (Below.refl _ V).alloc (Nat.le_refl _) _))
  change Code.wp _ _ _ _ (V.alloc (.cells #[.int .i64 k, .int .i64 s, .int .i64 g, .int .i64 d, .bool t, .int .i64 y.kind, .int .i64 y.slot, .int .i64 y.gen, .int .i64 y.shard, .bool y.temp] 51))
  rw [hW]
  clear hW x0 x1 x2 x3 x4 y0 y1 y2 y3 y4 HX2 HY HB2 e0
  generalize V.heap.size = pb at *
  clear V
  generalize hxx : (⟨k, s, g, d, t⟩ : Nam) = x at *
  clear hxx
  have hl : ls.length ≤ 100 := by omega
  go_loopw [47] (fun iv W => ∃ i : Nat, iv = .int .i64 (i : Int) ∧ i ≤ 2 ∧ Hid (NAt W pb 0 x) ∧ Hid (NAt W pb 5 y) ∧ Hid (Below w.heap.size w W)) (fun iv _ => 2 - (intOf iv).toNat)
  case atStart => exact ⟨0, rfl, by omega, HN0, HN5, HB3⟩
  case round =>
    obtain ⟨i, rfl, hi, HM0, HM5, HBm⟩ := hrel
    clear HN0 HN5 HB3
    by_cases h2 : i = 2
    · subst h2
      generalize wr = w0 at *
      go_wp2_with fail
      refine (HP1.out _ hl).mono ?_
      rintro e w1 ⟨rfl, hb1⟩
      have HB1 := Lib.hid (bstep HBm.out hb1)
      clear hb1 HBm HM0 HM5
      go_upto_region 17 with fail
      obtain ⟨pe, pn⟩ := PR
      dsimp only at *
      obtain ⟨w2, hW2⟩ : ∃ W, w1.alloc (.cells (namC pn) 55) = W := ⟨_, rfl⟩
      have HU2 := Lib.hid (show BoxN w2 w1.heap.size pn from hW2 ▸ BoxN.new w1 pn 55)
      have HB2 := Lib.hid (show Below w.heap.size w w2 from bstep HB1.out (hW2 ▸ below_nam w1 pn 55))
      change Code.wp _ _ _ _ (w1.alloc (.cells (namC pn) 55))
      rw [hW2]
      clear hW2 HB1
      generalize w1.heap.size = ub at *
      clear w1
      go_wp2_with fail
      refine (HP2.out _ hl).mono ?_
      rintro e w3 ⟨rfl, hb3⟩
      have HU3 := Lib.hid (HU2.out.below hb3)
      have HB3 := Lib.hid (bstep HB2.out hb3)
      clear hb3 HU2 HB2
      go_upto_region 18 with fail
      obtain ⟨w4, hW4⟩ : ∃ W, w3.alloc (.cells (namC pn) 51) = W := ⟨_, rfl⟩
      have HV4 := Lib.hid (show BoxN w4 w3.heap.size pn from hW4 ▸ BoxN.new w3 pn 51)
      have hbw : Below w3.heap.size w3 w4 := hW4 ▸ below_nam w3 pn 51
      have HU4 := Lib.hid (HU3.out.below hbw)
      have HB4 := Lib.hid (bstep HB3.out hbw)
      change Code.wp _ _ _ _ (w3.alloc (.cells (namC pn) 51))
      rw [hW4]
      clear hW4 HB3 HU3 hbw
      generalize w3.heap.size = vb at *
      clear w3
      have HNp := Lib.hid (fun W => HNm.out pn W)
      have u0 := cell_by HU4.out.c0
      have u1' := cell_by HU4.out.c1
      have u2' := cell_by HU4.out.c2
      have u3' := cell_by HU4.out.c3
      have u4 := cell_by HU4.out.c4
      have v0 := cell_by HV4.out.c0
      have v1 := cell_by HV4.out.c1
      have v2 := cell_by HV4.out.c2
      have v3 := cell_by HV4.out.c3
      have v4 := cell_by HV4.out.c4
      go_wp2_with fail
      refine wp_region_below (by kernel_rfl) (by kernel_rfl) ?_
      repeat (go_big_quiet_step (first | exact calls_by (HNp.out _) | exact calls_by (HA.out _)))
      refine wpQuiet_nil ?_
      intro w5 hw5
      obtain ⟨q, hw5⟩ := hw5
      subst hw5
      have HB5 := Lib.hid (bstep HB4.out q.h)
      go_wp2_with fail
      go_ret
      exact ⟨rfl, HB5.out⟩
    · obtain ⟨n, o, ho, HNn⟩ : ∃ (n : Nam) (o : Nat), o = i * 5 ∧ Hid (NAt wr pb o n) := by
        rcases (show i = 0 ∨ i = 1 by omega) with e | e <;> subst e
        · exact ⟨x, 0, rfl, HM0⟩
        · exact ⟨y, 5, rfl, HM5⟩
      have i2 : (i : Int) < 2 := by omega
      subst ho
      have c0 := HNn.out.c0
      have c1 := HNn.out.c1
      have c2 := HNn.out.c2
      have c3 := HNn.out.c3
      have c4 := HNn.out.c4
      go_upto_region 7 with fail
      obtain ⟨w2, hW2⟩ : ∃ W, wr.alloc (.cells (namC n) 51) = W := ⟨_, rfl⟩
      have HU2 := Lib.hid (show BoxN w2 wr.heap.size n from hW2 ▸ BoxN.new wr n 51)
      have hbw : Below wr.heap.size wr w2 := hW2 ▸ below_nam wr n 51
      have HK0 := Lib.hid (HM0.out.below hbw)
      have HK5 := Lib.hid (HM5.out.below hbw)
      have HB2 := Lib.hid (bstep HBm.out hbw)
      change Code.wp _ _ _ _ (wr.alloc (.cells (namC n) 51))
      rw [hW2]
      clear c0 c1 c2 c3 c4
      clear hW2 HM0 HM5 HBm hbw HNn
      generalize wr.heap.size = ub at *
      have HNn := Lib.hid (fun W => HNm.out n W)
      have HFn := Lib.hid (fun W => HF.out n W)
      have HRn := Lib.hid (fun W => HRF.out n W)
      have HPn := Lib.hid (fun h W => HPf.out n h W)
      have HGn := Lib.hid (fun W => HFi.out n.kind n.slot n.gen W)
      have HSn := Lib.hid (fun W => HRFi.out n.kind n.slot n.gen W)
      generalize fmtN ⟨n.kind, n.slot, n.gen, 0, false⟩ = fm at *
      generalize fmtN n = fn at *
      obtain ⟨cd, hcd0⟩ : ∃ cd : Int, (if validN n then (0 : Int) else 1) = cd := ⟨_, rfl⟩
      have Hcd := Lib.hid hcd0
      rw [hcd0] at HFn HRn
      clear hcd0
      have z0 := HU2.out.c0
      have z1 := HU2.out.c1
      have z2 := HU2.out.c2
      have z3 := HU2.out.c3
      have z4 := HU2.out.c4
      go_wp2_with fail
      refine (HNn.out _).mono ?_
      rintro e w3 ⟨rfl, hb3⟩
      have HU3 := Lib.hid (HU2.out.below hb3)
      have HK03 := Lib.hid (HK0.out.below hb3)
      have HK53 := Lib.hid (HK5.out.below hb3)
      have HB3 := Lib.hid (bstep HB2.out hb3)
      clear z0 z1 z2 z3 z4
      clear hb3 HU2 HK0 HK5 HB2
      go_wp2_with fail
      refine (HFn.out _).mono ?_
      rintro e w4 ⟨rfl, hb4⟩
      have HU4 := Lib.hid (HU3.out.below hb4)
      have HK04 := Lib.hid (HK03.out.below hb4)
      have HK54 := Lib.hid (HK53.out.below hb4)
      have HB4 := Lib.hid (bstep HB3.out hb4)
      clear hb4 HU3 HK03 HK53 HB3
      have z0 := HU4.out.c0
      have z1 := HU4.out.c1
      have z2 := HU4.out.c2
      have z3 := HU4.out.c3
      have z4 := HU4.out.c4
      go_wp2_with fail
      refine (HRn.out _).mono ?_
      rintro e w5 ⟨rfl, hb5⟩
      have HU5 := Lib.hid (HU4.out.below hb5)
      have HK05 := Lib.hid (HK04.out.below hb5)
      have HK55 := Lib.hid (HK54.out.below hb5)
      have HB5 := Lib.hid (bstep HB4.out hb5)
      clear z0 z1 z2 z3 z4
      clear hb5 HU4 HK04 HK54 HB4
      have z0 := cell_by HU5.out.c0
      have z1 := cell_by HU5.out.c1
      have z2 := cell_by HU5.out.c2
      go_wp2_with fail
      refine wp_region_below (by kernel_rfl) (by kernel_rfl) ?_
      repeat (go_big_quiet_step (first | exact calls_by (HGn.out _) | exact calls_by (HSn.out _)))
      refine wpQuiet_nil ?_
      intro w6 hw6
      obtain ⟨q, hw6⟩ := hw6
      subst hw6
      have HU6 := Lib.hid (HU5.out.below q.h)
      have HK06 := Lib.hid (HK05.out.below q.h)
      have HK56 := Lib.hid (HK55.out.below q.h)
      have HB6 := Lib.hid (bstep HB5.out q.h)
      generalize q.w' = w6 at *
      clear q z0 z1 z2 HU5 HK05 HK55 HB5
      by_cases hv : validN n
      · have hcd : cd = 0 := by rw [← Hcd.out, if_pos hv]
        subst hcd
        have HPv := Lib.hid (fun W => HPn.out hv W)
        clear HPn Hcd
        go_wp2_with fail
        refine (HPv.out _).mono ?_
        rintro e w7 ⟨rfl, hb7⟩
        have HU7 := Lib.hid (HU6.out.below hb7)
        have HK07 := Lib.hid (HK06.out.below hb7)
        have HK57 := Lib.hid (HK56.out.below hb7)
        have HB7 := Lib.hid (bstep HB6.out hb7)
        clear hb7 HU6 HK06 HK56 HB6
        go_upto_region 13 with fail
        obtain ⟨w8, hW8⟩ : ∃ W, w7.alloc (.cells (namC n) 55) = W := ⟨_, rfl⟩
        have HV8 := Lib.hid (show BoxN w8 w7.heap.size n from hW8 ▸ BoxN.new w7 n 55)
        have hbw : Below w7.heap.size w7 w8 := hW8 ▸ below_nam w7 n 55
        have HU8 := Lib.hid (HU7.out.below hbw)
        have HK08 := Lib.hid (HK07.out.below hbw)
        have HK58 := Lib.hid (HK57.out.below hbw)
        have HB8 := Lib.hid (bstep HB7.out hbw)
        change Code.wp _ _ _ _ (w7.alloc (.cells (namC n) 55))
        rw [hW8]
        clear hW8 hbw HU7 HK07 HK57 HB7
        generalize w7.heap.size = vb at *
        clear w7
        have z0 := cell_by HU8.out.c0
        have v0 := cell_by HV8.out.c0
        have z1 := cell_by HU8.out.c1
        have v1 := cell_by HV8.out.c1
        have z2 := cell_by HU8.out.c2
        have v2 := cell_by HV8.out.c2
        have z3 := cell_by HU8.out.c3
        have v3 := cell_by HV8.out.c3
        have z4 := cell_by HU8.out.c4
        have v4 := cell_by HV8.out.c4
        go_wp2_with fail
        refine wp_region_below (by kernel_rfl) (by kernel_rfl) ?_
        repeat (go_big_quiet_step (exact calls_by (HNn.out _)))
        refine wpQuiet_nil ?_
        intro w9 hw9
        obtain ⟨q, hw9⟩ := hw9
        subst hw9
        have HK09 := Lib.hid (HK08.out.below q.h)
        have HK59 := Lib.hid (HK58.out.below q.h)
        have HB9 := Lib.hid (bstep HB8.out q.h)
        generalize q.w' = w9 at *
        clear q z0 v0 z1 v1 z2 v2 z3 v3 z4 v4 HU8 HV8 HK08 HK58 HB8
        go_wp2_with fail
        go_roundw
        case rel => exact ⟨i + 1, by go_num, by omega, HK09, HK59, HB9⟩
        case measure => simp [intOf]; omega
      · have hcd : cd = 1 := by rw [← Hcd.out, if_neg hv]
        subst hcd
        go_wp2_with fail
        go_roundw
        case rel => exact ⟨i + 1, by go_num, by omega, HK06, HK56, HB6⟩
        case measure => simp [intOf]; omega
end Go.Proofs.YthomhflkldhdaaaGreatDoor

namespace Go.Proofs.YthomhflkldhdaaaGreatDoor
open Go.RowKit Go.ChangeShapes Go.WideShapes Go.Deep

theorem structNm : ∃ f0 f1 f2 f3 f4, Tryz.prog.underlying 51 = some (.struct #[f0, f1, f2, f3, f4]) ∧ (f0.offset = 0 ∧ f1.offset = 1 ∧ f2.offset = 2 ∧ f3.offset = 3 ∧ f4.offset = 4) ∧ f0.type = 3 ∧ f1.type = 3 ∧ f2.type = 3 ∧ f3.type = 3 ∧ f4.type = 4 :=
  ⟨_, _, _, _, _, Tryz.underlying51, ⟨rfl, rfl, rfl, rfl, rfl⟩, rfl, rfl, rfl, rfl, rfl⟩
theorem cellsOfNm : Tryz.prog.cellsOf 51 = 5 := by kernel_rfl
theorem cellsOf_intN : Tryz.prog.cellsOf 3 = 1 := by kernel_rfl
theorem cellsOf_boolN : Tryz.prog.cellsOf 4 = 1 := by kernel_rfl
theorem one_ofN {cs : List Value} {i : Nat} {u : Value} (h : (cs.drop i).take 1 = [u]) : cs[i]? = some u := by
  have h1 : ((cs.drop i).take 1)[0]? = some u := by rw [h]; rfl
  rw [List.getElem?_take, if_pos (by decide), List.getElem?_drop, Nat.add_zero] at h1
  exact h1
theorem open_name {H : Type} {enc : TypeId × Value → H} {w : World} {fuel : Nat} {cs : List Value} {x : DataW H × List MemPlace} (h : DataW.trod enc Tryz.prog w 0 (fun _ => true) true fuel 51 cs = some x) : ∃ y : Nam, cs = (namC y).toList := by
  obtain ⟨f0, f1, f2, f3, f4, hs, ⟨o0, o1, o2, o3, o4⟩, t0, t1, t2, t3, t4⟩ := structNm
  obtain ⟨xs, n, _, _, hlen, hxl, hf⟩ := DataW.trod_struct hs h
  rw [cellsOfNm] at hlen
  have hx : xs.length = 5 := by simpa using hxl
  have g : ∀ j (hj : j < 5), xs[j]? = some (xs[j]'(by omega)) := fun j hj => List.getElem?_eq_getElem (by omega)
  have h0 := (hf 0 f0 rfl).trans (g 0 (by omega))
  have h1 := (hf 1 f1 rfl).trans (g 1 (by omega))
  have h2 := (hf 2 f2 rfl).trans (g 2 (by omega))
  have h3 := (hf 3 f3 rfl).trans (g 3 (by omega))
  have h4 := (hf 4 f4 rfl).trans (g 4 (by omega))
  rw [t0, o0, cellsOf_intN] at h0
  rw [t1, o1, cellsOf_intN] at h1
  rw [t2, o2, cellsOf_intN] at h2
  rw [t3, o3, cellsOf_intN] at h3
  rw [t4, o4, cellsOf_boolN] at h4
  obtain ⟨k, e0, _, _⟩ := DataW.trod_int Tryz.underlying3 h0
  obtain ⟨c, e1, _, _⟩ := DataW.trod_int Tryz.underlying3 h1
  obtain ⟨o, e2, _, _⟩ := DataW.trod_int Tryz.underlying3 h2
  obtain ⟨s, e3, _, _⟩ := DataW.trod_int Tryz.underlying3 h3
  obtain ⟨b, e4, _⟩ := DataW.trod_bool Tryz.underlying4 h4
  have d0 := one_ofN e0
  have d1 := one_ofN e1
  have d2 := one_ofN e2
  have d3 := one_ofN e3
  have d4 := one_ofN e4
  refine ⟨⟨k, c, o, s, b⟩, ?_⟩
  match cs, hlen, d0, d1, d2, d3, d4 with
  | [a, b', c', d, e], _, d0, d1, d2, d3, d4 =>
    simp at d0 d1 d2 d3 d4
    subst d0 d1 d2 d3 d4
    rfl
theorem open_namev {H : Type} {enc : TypeId × Value → H} {w : World} {cs : Array Value} {d : DataW H} {p : List MemPlace} (h : DataW.Trod enc Tryz.prog w 0 (fun _ => true) true 51 (.agg cs) d p) : ∃ y : Nam, cs = namC y ∧ True := by
  obtain ⟨fuel, hf⟩ := h
  obtain ⟨y, hy⟩ := open_name hf
  have hy : cs.toList = (namC y).toList := hy
  exact ⟨y, by rw [← Array.toArray_toList (xs := cs), hy], trivial⟩
theorem names_open (x : Nam) (s : ByteArray) (w : World) (_ : True) : Calls Tryz.prog 4 #[namV x, .string s] w fun e w' => e = .returned (.bool true) ∧ Below w.heap.size w w' := by
  have h := names_walk x s.data.toList w
  have e : (⟨s.data.toList.toArray⟩ : ByteArray) = s := by cases s; simp
  rw [show strV s.data.toList = .string s from congrArg Value.string e] at h
  exact h
end Go.Proofs.YthomhflkldhdaaaGreatDoor
