/- Append, Put, Truncate of the reference: the walks. Printed by mkDrj.py. -/
import Derived.Test.YtkabcpmnbjllcaaDoorDri
namespace Go.Proofs.YtkabcpmnbjllcaaDoor
open Go.RowKit

theorem RowR.b {w W w' : World} {xs xs' : List FX} {fv : Value} (h : RowR W xs w' fv xs') (hle : w.heap.size ≤ W.heap.size) : RowB w xs w' W.heap.size fv xs' := ⟨h.1, hle, h.2⟩
theorem RdFE.at2 {w : World} {a : Option Addr} {n cap i : Nat} {xs : List FX} (h : RdS 3 filC w (.slice a n cap) (feX xs)) (hn : n = xs.length) (hi : i < n) : ∃ b off, a = some ⟨b, off, none⟩ ∧
    w.cell? ⟨b, off + i * 3, none⟩ = some (.string (strB (xs.getD i fx0).1.1.name)) ∧ w.cell? ⟨b, off + i * 3 + 1, none⟩ = some (xs.getD i fx0).1.2.1 ∧ w.cell? ⟨b, off + i * 3 + 2, none⟩ = some (xs.getD i fx0).1.2.2 := by
  obtain ⟨a', cap', e, h1, h2, h3, h4⟩ := RdS.shape h (by decide) fe0
  injection e with e1 e2 e3
  subst e1 e2 e3
  have hl := feX_len xs
  obtain ⟨b, off, e4, hc⟩ := h4 (by omega)
  have c := hc i hi
  have hqe : (feX xs).getD i fe0 = (xs.getD i fx0).1 := by
    unfold feX
    rw [List.getD_eq_getElem?_getD, List.getD_eq_getElem?_getD, List.getElem?_map, List.getElem?_eq_getElem (show i < xs.length by omega)]; rfl
  rw [hqe] at c
  exact ⟨b, off, e4, c 0 _ rfl, c 1 _ rfl, c 2 _ rfl⟩
theorem atX {xs : List FX} {l : List Fil} {i : Nat} (h : filX xs = l) (hi : i < l.length) : xs.getD i fx0 ∈ xs ∧ (xs.getD i fx0).1.1 = atN l i := by
  subst h
  have hix : i < xs.length := by
    have h1 : (xs.map fun q : FX => q.1.1).length = xs.length := List.length_map ..
    unfold filX at hi; omega
  refine ⟨by rw [List.getD_eq_getElem?_getD, List.getElem?_eq_getElem hix]; exact List.getElem_mem hix, ?_⟩
  unfold atN filX
  rw [List.getD_eq_getElem?_getD, List.getD_eq_getElem?_getD, List.getElem?_map, List.getElem?_eq_getElem hix]; rfl
/-- A slice of n. -/
def lenS (n : Nat) : Sta := ⟨fun v _ => ∃ a c, v = .slice a n c, fun _ _ _ _ h => h⟩
theorem append_no {d : Dk} {s b : List UInt8} (h : atE d s ≠ 0) : appendD d s b = (dk0, atE d s) := by unfold appendD; rw [if_pos h]
theorem append_go {d : Dk} {s b : List UInt8} (h : atE d s = 0) : appendD d s b = writtenD d (lowN d.files s) ⟨lenF (atN d.files (lowN d.files s)), b, false⟩ := by unfold appendD; rw [if_neg (by simpa using h)]
theorem put_no {d : Dk} {s b : List UInt8} {off : Int} (h : atE d s ≠ 0) : putD d s off b = (dk0, atE d s) := by unfold putD; rw [if_pos h]
theorem put_range {d : Dk} {s b : List UInt8} {off : Int} (h : atE d s = 0) (h2 : off < 0 ∨ lenF (atN d.files (lowN d.files s)) < off) : putD d s off b = (dk0, 2) := by unfold putD; rw [if_neg (by simpa using h), if_pos h2]
theorem put_go {d : Dk} {s b : List UInt8} {off : Int} (h : atE d s = 0) (h2 : ¬ (off < 0 ∨ lenF (atN d.files (lowN d.files s)) < off)) : putD d s off b = writtenD d (lowN d.files s) ⟨off, b, false⟩ := by unfold putD; rw [if_neg (by simpa using h), if_neg h2]
theorem trunc_no {d : Dk} {s : List UInt8} {off : Int} (h : atE d s ≠ 0) : truncD d s off = (dk0, atE d s) := by unfold truncD; rw [if_pos h]
theorem trunc_range {d : Dk} {s : List UInt8} {off : Int} (h : atE d s = 0) (h2 : off < 0 ∨ lenF (atN d.files (lowN d.files s)) < off) : truncD d s off = (dk0, 2) := by unfold truncD; rw [if_neg (by simpa using h), if_pos h2]
theorem trunc_go {d : Dk} {s : List UInt8} {off : Int} (h : atE d s = 0) (h2 : ¬ (off < 0 ∨ lenF (atN d.files (lowN d.files s)) < off)) : truncD d s off = writtenD d (lowN d.files s) ⟨off, [], true⟩ := by unfold truncD; rw [if_neg (by simpa using h), if_neg h2]
set_option maxRecDepth 100000 in
set_option maxHeartbeats 3200000 in
theorem rappend_any (d : Dk) (s : List UInt8) (b : List UInt8) (yv : Value) (fv : Value) (xs : List FX) (w : World) (hr : RdS 3 filC w fv (feX xs)) (hx : PartsX w xs) (hes : filX xs = d.files) (hL : LiteD d) (hs : s.length ≤ 9223372036854775807) (hpe : ∀ f ∈ d.files, f.pend.length ≤ 4999) (hb : RdB w yv b) (hbl : b.length ≤ 2000000) :
    Calls Tryd.prog 68 #[diskVal d.cap d.left fv, .string (strB s), yv] w (RefOp w xs (appendD d s b)) := by
  have h := rdFE_x hr hx
  have hF : RdF w fv d.files := ⟨feX xs, by rw [feX_fst, hes], h⟩
  obtain ⟨a, cap, rfl, h1, h2, _⟩ := hF.shape
  have Hxl := Lib.hid (show d.files.length = xs.length by rw [← hes]; exact List.length_map ..)
  have HA := Lib.hid (fun W (hW : Below w.heap.size w W) => rat_any d _ s W (hF.below hW) hL hs)
  have HOk := Lib.hid (fun e => atE_ok (d := d) (s := s) e)
  have HI := Lib.hid (show atI d s = if atE d s = 0 then (lowN d.files s : Int) else -1 from rfl)
  have HX := Lib.hid (fun i (hi : i < d.files.length) => atX hes hi)
  have HRw := Lib.hid (show ∀ W, Below w.heap.size w W → RdS 3 filC W _ (feX xs) from fun W hW => RdS.below hr hW)
  have HP := Lib.hid hx
  have HCt := Lib.hid (fun i (hi : i < d.files.length) W u p (hu : RdB W u (atN d.files i).base) (hp : RdW W p (atN d.files i).pend) => show Calls Tryd.prog 38 #[filVal (atN d.files i).name u p] W fun e w' => ∃ v', e = .returned v' ∧ OwnU w' W.heap.size v' (contF (atN d.files i)) ∧ Below W.heap.size W w' from rcontent_any (atN d.files i).name _ _ u p W hu hp (hL.fil _ (atN_mem hi)))
  have HLc := Lib.hid (fun (hv : VldD d) i (hi : i < d.files.length) => And.intro (lenF_cont (sized_of_vld hv hi)) (lenF_bounds (sized_of_vld hv hi)))
  have HNo := Lib.hid (fun e => append_no (d := d) (s := s) (b := b) e)
  have HGo := Lib.hid (fun e => append_go (d := d) (s := s) (b := b) e)
  have HWr := Lib.hid (fun (e : atE d s = 0) W v u (hW : Below w.heap.size w W) (hvr : RdS 3 filC W v (feX xs)) (hu : RdB W u b) => rwritten_any d v u xs (lowN d.files s) ⟨lenF (atN d.files (lowN d.files s)), b, false⟩ W hvr (hx.below hW) hes hL (atE_ok e).1 (atE_ok e).2.2.2.1 (fitsApp _ b (sized_of_vld (atE_ok e).1 (atE_ok e).2.2.2.1)) hu hbl (hpe _ (atN_mem (atE_ok e).2.2.2.1)))
  have HBb := Lib.hid hb
  obtain ⟨ya, yc, rfl, _⟩ := hb.shape0
  clear hb
  clear h hF hr hx hs
  generalize appendD d s b = RS at *
  generalize atI d s = ai at *
  generalize strB s = sv at *
  by_cases he : atE d s = 0
  · obtain ⟨hv, _, _, hlo, _⟩ := HOk.out he
    obtain ⟨hqm, hqf⟩ := HX.out _ hlo
    have hai : ai = (lowN d.files s : Int) := by rw [HI.out, if_pos he]
    subst hai
    have HLc2 := Lib.hid (HLc.out hv _ hlo)
    have HCt2 := Lib.hid (HCt.out _ hlo)
    have HGo2 := Lib.hid (HGo.out he)
    have HWr2 := Lib.hid (HWr.out he)
    rw [← HGo2.out] at HWr2
    clear HWr HGo HGo2 HNo
    rw [← hqf] at HWr2
    rw [← hqf] at HCt2 HLc2
    clear HCt HLc HOk HI
    generalize lowN d.files s = lo at *
    rw [he] at HA
    have HPq := Lib.hid (HP.out _ hqm)
    have HAt := Lib.hid (fun W (hW : Below w.heap.size w W) => RdFE.at2 (HRw.out W hW) Hxl.out hlo)
    clear hqm he hv
    generalize xs.getD lo fx0 = q at *
    obtain ⟨⟨f, bv, pv⟩, wes⟩ := q
    dsimp only at hqf
    subst hqf
    generalize atN d.files lo = f at *
    obtain ⟨hb1, hp1, hp2⟩ := HPq.out
    dsimp only at *
    obtain ⟨ba, bc, rfl, _⟩ := hb1.shape0
    obtain ⟨pa, pc, rfl, _⟩ := hp1.shape
    clear hb1 hp1 hp2
    have HPr := Lib.hid (fun W (hW : Below w.heap.size w W) => (HPq.out.below hW).rd)
    dsimp only at HPr
    generalize lenF f = LF at *
    obtain ⟨c, lf, fl⟩ := d
    dsimp only [diskVal] at *
    generalize wes.length = wl at *
    generalize f.base.length = bl at *
    generalize fl.length = n at *
    obtain ⟨b0, off, rfl, _⟩ := HAt.out w (Below.refl _ _)
    have HAt2 := Lib.hid (show ∀ W, Below w.heap.size w W → W.cell? ⟨b0, off + lo * 3, none⟩ = some (.string (strB f.name)) ∧ W.cell? ⟨b0, off + lo * 3 + 1, none⟩ = some (.slice ba bl bc) ∧ W.cell? ⟨b0, off + lo * 3 + 2, none⟩ = some (.slice pa wl pc) from fun W hW => by
      obtain ⟨b', off', e, k⟩ := HAt.out W hW
      injection e with e
      injection e with e1 e2
      subst e1 e2
      exact k)
    clear HAt
    dsimp only [filVal] at HCt2
    generalize strB f.name = nm at *
    have i1 : (lo : Int) < (n : Int) := by omega
    generalize hyl : b.length = yl at *
    have Hyl := Lib.hid hyl
    clear hyl
    have HB0 := Lib.hid (show Below w.heap.size w ((w.alloc (.cells #[.int .i64 c, .int .i64 lf, .slice (some ⟨b0, off, none⟩) n cap] 24)).alloc (.cells #[.int .i64 0, .int .i64 0, .slice none 0 0] 24)) from ((Below.refl _ _).alloc (Nat.le_refl _) _).alloc (by simp) _)
    have X := Lib.hid (show BoxD ((w.alloc (.cells #[.int .i64 c, .int .i64 lf, .slice (some ⟨b0, off, none⟩) n cap] 24)).alloc (.cells #[.int .i64 0, .int .i64 0, .slice none 0 0] 24)) w.heap.size c lf (.slice (some ⟨b0, off, none⟩) n cap) from ⟨by simp, by simp, by simp, fun i => by simp⟩)
    have R := Lib.hid (show BoxD ((w.alloc (.cells #[.int .i64 c, .int .i64 lf, .slice (some ⟨b0, off, none⟩) n cap] 24)).alloc (.cells #[.int .i64 0, .int .i64 0, .slice none 0 0] 24)) (w.heap.size + 1) 0 0 (.slice none 0 0) from ⟨by simp, by simp, by simp, fun i => by simp⟩)
    have hB0 : w.heap.size + 2 ≤ ((w.alloc (.cells #[.int .i64 c, .int .i64 lf, .slice (some ⟨b0, off, none⟩) n cap] 24)).alloc (.cells #[.int .i64 0, .int .i64 0, .slice none 0 0] 24)).heap.size := by simp
    go_enter Tryd.func68, Tryd.ntmps68
    go_upto_region 1 with fail
    generalize (w.alloc (.cells #[.int .i64 c, .int .i64 lf, .slice (some ⟨b0, off, none⟩) n cap] 24)).alloc (.cells #[.int .i64 0, .int .i64 0, .slice none 0 0] 24) = W0 at *
    have x0 := X.out.c0
    have x1 := X.out.c1
    have x2 := X.out.c2
    go_wp2_with fail
    refine (HA.out W0 HB0.out).mono ?_
    rintro e w1 ⟨rfl, hb1⟩
    replace X := Lib.hid (X.out.below hb1)
    replace R := Lib.hid (R.out.below hb1)
    have HB1 := Lib.hid (bstep HB0.out hb1)
    have hB1 := Nat.le_trans hB0 hb1.size
    clear HB0 hB0 hb1 x0 x1 x2
    have x0 := X.out.c0
    have x1 := X.out.c1
    have x2 := X.out.c2
    obtain ⟨LN, hLN⟩ : ∃ LN : Nat, (contF f).length = LN := ⟨_, rfl⟩
    have hlc := HLc2.out.1
    rw [hLN] at hlc
    subst hlc
    have HLN := Lib.hid hLN
    clear hLN
    go_upto_region 4 with fail
    clear x0 x1 x2
    refine wp_region_call [eqS (.agg #[.int .i64 c, .int .i64 lf, .slice (some ⟨b0, off, none⟩) n cap]), eqS (.int .i64 (lo : Int)), eqS (.pointer (some ⟨w.heap.size, 2, none⟩)), eqS (.slice (some ⟨b0, off, none⟩) n cap), eqS (.int .i64 (lo : Int)), eqS (.pointer (some ⟨b0, off + lo * 3, none⟩)), eqS (.agg #[.string nm, .slice ba bl bc, .slice pa wl pc]), lenS LN, eqS (.int .i64 (LN : Int)), eqS (.slice ya yl yc), eqS (.agg #[.int .i64 (LN : Int), .slice ya yl yc, .bool false])] [] 34 (by kernel_rfl) (by kernel_rfl) rfl rfl rfl (by rfl) (by kernel_rfl) (fun f => by simp [frm, dstOf, Act.put]; exact rfl) ?_ ?_
    · refine ⟨?_, ?_, ?_, ?_, ?_, ?_, ?_, ?_, ?_, ?_, ?_, trivial⟩
      · intro f w1 hb hd
        clear hd
        dsimp only
        have hX := X.out.below hb
        have q0 := hX.c0
        have q1 := hX.c1
        have q2 := hX.c2
        go_wp2_with fail
        exact ⟨rfl, Below.refl _ _, fun t ht => by injection ht with ht; subst ht; exact ⟨rfl, fun h => by simp at h⟩⟩
      · intro f w1 hb hd
        clear hd
        dsimp only
        go_wp2_with fail
        exact ⟨rfl, Below.refl _ _, fun t ht => by injection ht with ht; subst ht; exact ⟨rfl, fun h => by simp at h⟩⟩
      · intro f w1 hb hd
        clear hd
        dsimp only
        go_wp2_with fail
        exact ⟨rfl, Below.refl _ _, fun t ht => by injection ht with ht; subst ht; exact ⟨rfl, fun h => by simp at h⟩⟩
      · intro f w1 hb hd
        have d2 : f 2 = .pointer (some ⟨w.heap.size, 2, none⟩) := hd 2 (by kernel_rfl)
        clear hd
        dsimp only
        rw [d2]
        have hX := X.out.below hb
        have q2 := hX.c2
        go_wp2_with fail
        exact ⟨rfl, Below.refl _ _, fun t ht => by injection ht with ht; subst ht; exact ⟨rfl, fun h => by simp at h⟩⟩
      · intro f w1 hb hd
        clear hd
        dsimp only
        go_wp2_with fail
        exact ⟨rfl, Below.refl _ _, fun t ht => by injection ht with ht; subst ht; exact ⟨rfl, fun h => by simp at h⟩⟩
      · intro f w1 hb hd
        have d3 : f 3 = .slice (some ⟨b0, off, none⟩) n cap := hd 3 (by kernel_rfl)
        have d4 : f 4 = .int .i64 (lo : Int) := hd 4 (by kernel_rfl)
        clear hd
        dsimp only
        rw [d3]
        rw [d4]
        go_wp2_with fail
        exact ⟨rfl, Below.refl _ _, fun t ht => by injection ht with ht; subst ht; exact ⟨rfl, fun h => by simp at h⟩⟩
      · intro f w1 hb hd
        have d5 : f 5 = .pointer (some ⟨b0, off + lo * 3, none⟩) := hd 5 (by kernel_rfl)
        clear hd
        dsimp only
        rw [d5]
        obtain ⟨c0, c1, c2⟩ := HAt2.out _ (bstep HB1.out hb)
        go_wp2_with fail
        exact ⟨rfl, Below.refl _ _, fun t ht => by injection ht with ht; subst ht; exact ⟨rfl, fun h => by simp at h⟩⟩
      · intro f w1 hb hd
        have d6 : f 6 = .agg #[.string nm, .slice ba bl bc, .slice pa wl pc] := hd 6 (by kernel_rfl)
        clear hd
        dsimp only
        rw [d6]
        go_wp2_with fail
        ((with_reducible refine (HCt2.out w1 _ _ (HPr.out w1 (bstep HB1.out hb)).1 (HPr.out w1 (bstep HB1.out hb)).2).mono ?_); rintro e w2 ⟨v2, rfl, ho, hbe⟩)
        go_wp2_with fail
        exact ⟨rfl, hbe, fun t ht => by injection ht with ht; subst ht; exact ⟨(by rw [← HLN.out]; exact ho.form.imp fun a h => h.imp fun c h => h.1), fun h => by simp at h⟩⟩
      · intro f w1 hb hd
        have d7 := hd 7 (by kernel_rfl)
        obtain ⟨la, lc, d7⟩ : ∃ a c, f 7 = .slice a LN c := d7
        clear hd
        dsimp only
        rw [d7]
        go_wp2_with fail
        exact ⟨rfl, Below.refl _ _, fun t ht => by injection ht with ht; subst ht; exact ⟨rfl, fun h => by simp at h⟩⟩
      · intro f w1 hb hd
        clear hd
        dsimp only
        go_wp2_with fail
        exact ⟨rfl, Below.refl _ _, fun t ht => by injection ht with ht; subst ht; exact ⟨rfl, fun h => by simp at h⟩⟩
      · intro f w1 hb hd
        have d8 := hd 8 (by kernel_rfl)
        have d8 : f 8 = .int .i64 (LN : Int) := d8
        have d9 : f 9 = .slice ya yl yc := hd 9 (by kernel_rfl)
        clear hd
        dsimp only
        rw [d9]
        rw [d8]
        go_wp2_with fail
        exact ⟨rfl, Below.refl _ _, fun t ht => by injection ht with ht; subst ht; exact ⟨rfl, fun h => by simp at h⟩⟩
    · intro f w1 hb hA _
      have d0 : f 0 = .agg #[.int .i64 c, .int .i64 lf, .slice (some ⟨b0, off, none⟩) n cap] := hA 0 (show 0 < 11 by decide)
      have d1 : f 1 = .int .i64 (lo : Int) := hA 1 (show 1 < 11 by decide)
      have d2 : f 2 = .pointer (some ⟨w.heap.size, 2, none⟩) := hA 2 (show 2 < 11 by decide)
      have d3 : f 3 = .slice (some ⟨b0, off, none⟩) n cap := hA 3 (show 3 < 11 by decide)
      have d4 : f 4 = .int .i64 (lo : Int) := hA 4 (show 4 < 11 by decide)
      have d5 : f 5 = .pointer (some ⟨b0, off + lo * 3, none⟩) := hA 5 (show 5 < 11 by decide)
      have d6 : f 6 = .agg #[.string nm, .slice ba bl bc, .slice pa wl pc] := hA 6 (show 6 < 11 by decide)
      have d7 := hA 7 (show 7 < 11 by decide)
      have d8 := hA 8 (show 8 < 11 by decide)
      have d9 : f 9 = .slice ya yl yc := hA 9 (show 9 < 11 by decide)
      have d10 : f 10 = .agg #[.int .i64 (LN : Int), .slice ya yl yc, .bool false] := hA 10 (show 10 < 11 by decide)
      clear hA
      try dsimp only at *
      rw [d0]
      rw [d1]
      rw [d2]
      rw [d3]
      rw [d4]
      rw [d5]
      rw [d6]
      rw [d9]
      rw [d10]
      clear d0 d1 d2 d3 d4 d5 d6 d9 d10
      have d8 : f 8 = .int .i64 (LN : Int) := d8
      clear d7 d8
      have hBW := bstep HB1.out hb
      have RR := R.out.below hb
      have hw := HWr2.out w1 _ _ hBW (HRw.out w1 hBW) (HBb.out.below hBW)
      have Hw := Lib.hid hw
      clear hw
      go_wp2_with fail
      refine Hw.out.mono ?_
      rintro e w3 ⟨⟨fv3, xs3, rfl, hfs, hrow⟩, hb3⟩
      obtain ⟨a3, k3, e3, _⟩ := own_form hrow.1
      subst e3
      have HRb := Lib.hid (hrow.b (w := w) hBW.size)
      have HFs := Lib.hid hfs
      have HB3 := Lib.hid (bstep hBW hb3)
      have R3 := Lib.hid (RR.below hb3)
      have hB3 : w.heap.size + 1 < w1.heap.size := RR.lt
      clear hrow hb3 hfs
      obtain ⟨⟨rc, rl, rf⟩, re⟩ := RS
      dsimp only at *
      generalize (feX xs3).length = l3 at *
      have r0 := R3.out.c0
      have r1 := R3.out.c1
      have r2 := R3.out.c2
      have rfz := R3.out.f
      have HRz := Lib.hid (RowR.set3 (b := w.heap.size + 1) HRb.out hB3 (.int .i64 rc) (.int .i64 rl) (.slice a3 l3 k3))
      go_wp2_with fail
      refine ⟨trivial, ?_, ?_⟩
      all_goals
        go_wp2_with fail
        exact bodyPost_ret (v := .tuple #[diskVal rc rl (.slice a3 l3 k3), .int .i64 re]) (by simp [results, Tryd.results68, go_sem, r0, r1, r2]) rfl ⟨⟨_, _, rfl, HFs.out, HRz.out⟩, HB3.out.all3 (by omega) _ _ _⟩
  · generalize atE d s = E at *
    have HE := Lib.hid (HNo.out he)
    have hz1 : (E == 0) = false := beq_eq_false_iff_ne.2 he
    have hz2 : (E != 0) = true := by rw [bne_iff_ne]; exact he
    obtain ⟨c, lf, fl⟩ := d
    dsimp only [diskVal] at *
    generalize fl.length = n at *
    generalize b.length = yl at *
    have HB0 := Lib.hid (show Below w.heap.size w ((w.alloc (.cells #[.int .i64 c, .int .i64 lf, .slice a n cap] 24)).alloc (.cells #[.int .i64 0, .int .i64 0, .slice none 0 0] 24)) from ((Below.refl _ _).alloc (Nat.le_refl _) _).alloc (by simp) _)
    have X := Lib.hid (show BoxD ((w.alloc (.cells #[.int .i64 c, .int .i64 lf, .slice a n cap] 24)).alloc (.cells #[.int .i64 0, .int .i64 0, .slice none 0 0] 24)) w.heap.size c lf (.slice a n cap) from ⟨by simp, by simp, by simp, fun i => by simp⟩)
    have R := Lib.hid (show BoxD ((w.alloc (.cells #[.int .i64 c, .int .i64 lf, .slice a n cap] 24)).alloc (.cells #[.int .i64 0, .int .i64 0, .slice none 0 0] 24)) (w.heap.size + 1) 0 0 (.slice none 0 0) from ⟨by simp, by simp, by simp, fun i => by simp⟩)
    have hB0 : w.heap.size + 2 ≤ ((w.alloc (.cells #[.int .i64 c, .int .i64 lf, .slice a n cap] 24)).alloc (.cells #[.int .i64 0, .int .i64 0, .slice none 0 0] 24)).heap.size := by simp
    go_enter Tryd.func68, Tryd.ntmps68
    go_upto_region 1 with fail
    generalize (w.alloc (.cells #[.int .i64 c, .int .i64 lf, .slice a n cap] 24)).alloc (.cells #[.int .i64 0, .int .i64 0, .slice none 0 0] 24) = W0 at *
    have x0 := X.out.c0
    have x1 := X.out.c1
    have x2 := X.out.c2
    go_wp2_with fail
    refine (HA.out W0 HB0.out).mono ?_
    rintro e w1 ⟨rfl, hb1⟩
    replace X := Lib.hid (X.out.below hb1)
    replace R := Lib.hid (R.out.below hb1)
    have HB1 := Lib.hid (bstep HB0.out hb1)
    have hB1 := Nat.le_trans hB0 hb1.size
    clear HB0 hB0 hb1 x0 x1 x2
    have x0 := X.out.c0
    have x1 := X.out.c1
    have x2 := X.out.c2
    have r0 := R.out.c0
    have r1 := R.out.c1
    have r2 := R.out.c2
    have rf := R.out.f
    go_wp2_with fail
    exact bodyPost_ret (v := .tuple #[diskVal 0 0 nilS, .int .i64 E]) (by simp [results, Tryd.results68, go_sem, r0, r1, r2]) rfl ⟨⟨_, [], by rw [HE.out]; first | done | rfl, by rw [HE.out]; rfl, RowR.nil _ _ _⟩, HB1.out.all3 (by omega) _ _ _⟩

set_option maxRecDepth 100000 in
set_option maxHeartbeats 3200000 in
theorem rput_any (d : Dk) (s : List UInt8) (o : Int) (b : List UInt8) (yv : Value) (fv : Value) (xs : List FX) (w : World) (hr : RdS 3 filC w fv (feX xs)) (hx : PartsX w xs) (hes : filX xs = d.files) (hL : LiteD d) (hs : s.length ≤ 9223372036854775807) (hpe : ∀ f ∈ d.files, f.pend.length ≤ 4999) (hb : RdB w yv b) (hbl : b.length ≤ 2000000) :
    Calls Tryd.prog 69 #[diskVal d.cap d.left fv, .string (strB s), .int .i64 o, yv] w (RefOp w xs (putD d s o b)) := by
  have h := rdFE_x hr hx
  have hF : RdF w fv d.files := ⟨feX xs, by rw [feX_fst, hes], h⟩
  obtain ⟨a, cap, rfl, h1, h2, _⟩ := hF.shape
  have Hxl := Lib.hid (show d.files.length = xs.length by rw [← hes]; exact List.length_map ..)
  have HA := Lib.hid (fun W (hW : Below w.heap.size w W) => rat_any d _ s W (hF.below hW) hL hs)
  have HOk := Lib.hid (fun e => atE_ok (d := d) (s := s) e)
  have HI := Lib.hid (show atI d s = if atE d s = 0 then (lowN d.files s : Int) else -1 from rfl)
  have HX := Lib.hid (fun i (hi : i < d.files.length) => atX hes hi)
  have HRw := Lib.hid (show ∀ W, Below w.heap.size w W → RdS 3 filC W _ (feX xs) from fun W hW => RdS.below hr hW)
  have HP := Lib.hid hx
  have HCt := Lib.hid (fun i (hi : i < d.files.length) W u p (hu : RdB W u (atN d.files i).base) (hp : RdW W p (atN d.files i).pend) => show Calls Tryd.prog 38 #[filVal (atN d.files i).name u p] W fun e w' => ∃ v', e = .returned v' ∧ OwnU w' W.heap.size v' (contF (atN d.files i)) ∧ Below W.heap.size W w' from rcontent_any (atN d.files i).name _ _ u p W hu hp (hL.fil _ (atN_mem hi)))
  have HLc := Lib.hid (fun (hv : VldD d) i (hi : i < d.files.length) => And.intro (lenF_cont (sized_of_vld hv hi)) (lenF_bounds (sized_of_vld hv hi)))
  have HNo := Lib.hid (fun e => put_no (d := d) (s := s) (b := b) (off := o) e)
  have HRg := Lib.hid (fun e e2 => put_range (d := d) (s := s) (b := b) (off := o) e e2)
  have HGo := Lib.hid (fun e e2 => put_go (d := d) (s := s) (b := b) (off := o) e e2)
  have HWr := Lib.hid (fun (e : atE d s = 0) (e2 : ¬ (o < 0 ∨ lenF (atN d.files (lowN d.files s)) < o)) W v u (hW : Below w.heap.size w W) (hvr : RdS 3 filC W v (feX xs)) (hu : RdB W u b) => rwritten_any d v u xs (lowN d.files s) ⟨o, b, false⟩ W hvr (hx.below hW) hes hL (atE_ok e).1 (atE_ok e).2.2.2.1 ⟨by dsimp only; omega, by dsimp only; omega, by simp⟩ hu hbl (hpe _ (atN_mem (atE_ok e).2.2.2.1)))
  have HBb := Lib.hid hb
  obtain ⟨ya, yc, rfl, _⟩ := hb.shape0
  clear hb
  clear h hF hr hx hs
  generalize putD d s o b = RS at *
  generalize atI d s = ai at *
  generalize strB s = sv at *
  by_cases he : atE d s = 0
  · obtain ⟨hv, _, _, hlo, _⟩ := HOk.out he
    obtain ⟨hqm, hqf⟩ := HX.out _ hlo
    have hai : ai = (lowN d.files s : Int) := by rw [HI.out, if_pos he]
    subst hai
    have HLc2 := Lib.hid (HLc.out hv _ hlo)
    have HCt2 := Lib.hid (HCt.out _ hlo)
    have HRg2 := Lib.hid (HRg.out he)
    have HWr2 := Lib.hid (fun e2 => HWr.out he e2)
    have HGo2 := Lib.hid (fun e2 => HGo.out he e2)
    replace HWr2 := Lib.hid (fun e2 => Eq.subst (motive := fun r => ∀ W v u (hW : Below w.heap.size w W) (hvr : RdS 3 filC W v (feX xs)) (hu : RdB W u b), Calls Tryd.prog 95 #[diskVal d.cap d.left v, .int .i64 (lowN d.files s : Int), .agg #[.int .i64 o, u, .bool false]] W (RefOp W xs r)) (HGo2.out e2).symm (HWr2.out e2))
    clear HWr HGo HGo2 HNo HRg
    rw [← hqf] at HWr2 HRg2
    rw [← hqf] at HCt2 HLc2
    clear HCt HLc HOk HI
    generalize lowN d.files s = lo at *
    rw [he] at HA
    have HPq := Lib.hid (HP.out _ hqm)
    have HAt := Lib.hid (fun W (hW : Below w.heap.size w W) => RdFE.at2 (HRw.out W hW) Hxl.out hlo)
    clear hqm he hv
    generalize xs.getD lo fx0 = q at *
    obtain ⟨⟨f, bv, pv⟩, wes⟩ := q
    dsimp only at hqf
    subst hqf
    generalize atN d.files lo = f at *
    obtain ⟨hb1, hp1, hp2⟩ := HPq.out
    dsimp only at *
    obtain ⟨ba, bc, rfl, _⟩ := hb1.shape0
    obtain ⟨pa, pc, rfl, _⟩ := hp1.shape
    clear hb1 hp1 hp2
    have HPr := Lib.hid (fun W (hW : Below w.heap.size w W) => (HPq.out.below hW).rd)
    dsimp only at HPr
    generalize lenF f = LF at *
    obtain ⟨c, lf, fl⟩ := d
    dsimp only [diskVal] at *
    generalize wes.length = wl at *
    generalize f.base.length = bl at *
    generalize fl.length = n at *
    obtain ⟨b0, off, rfl, _⟩ := HAt.out w (Below.refl _ _)
    have HAt2 := Lib.hid (show ∀ W, Below w.heap.size w W → W.cell? ⟨b0, off + lo * 3, none⟩ = some (.string (strB f.name)) ∧ W.cell? ⟨b0, off + lo * 3 + 1, none⟩ = some (.slice ba bl bc) ∧ W.cell? ⟨b0, off + lo * 3 + 2, none⟩ = some (.slice pa wl pc) from fun W hW => by
      obtain ⟨b', off', e, k⟩ := HAt.out W hW
      injection e with e
      injection e with e1 e2
      subst e1 e2
      exact k)
    clear HAt
    dsimp only [filVal] at HCt2
    generalize strB f.name = nm at *
    have i1 : (lo : Int) < (n : Int) := by omega
    generalize hyl : b.length = yl at *
    have Hyl := Lib.hid hyl
    clear hyl
    have HB0 := Lib.hid (show Below w.heap.size w ((w.alloc (.cells #[.int .i64 c, .int .i64 lf, .slice (some ⟨b0, off, none⟩) n cap] 24)).alloc (.cells #[.int .i64 0, .int .i64 0, .slice none 0 0] 24)) from ((Below.refl _ _).alloc (Nat.le_refl _) _).alloc (by simp) _)
    have X := Lib.hid (show BoxD ((w.alloc (.cells #[.int .i64 c, .int .i64 lf, .slice (some ⟨b0, off, none⟩) n cap] 24)).alloc (.cells #[.int .i64 0, .int .i64 0, .slice none 0 0] 24)) w.heap.size c lf (.slice (some ⟨b0, off, none⟩) n cap) from ⟨by simp, by simp, by simp, fun i => by simp⟩)
    have R := Lib.hid (show BoxD ((w.alloc (.cells #[.int .i64 c, .int .i64 lf, .slice (some ⟨b0, off, none⟩) n cap] 24)).alloc (.cells #[.int .i64 0, .int .i64 0, .slice none 0 0] 24)) (w.heap.size + 1) 0 0 (.slice none 0 0) from ⟨by simp, by simp, by simp, fun i => by simp⟩)
    have hB0 : w.heap.size + 2 ≤ ((w.alloc (.cells #[.int .i64 c, .int .i64 lf, .slice (some ⟨b0, off, none⟩) n cap] 24)).alloc (.cells #[.int .i64 0, .int .i64 0, .slice none 0 0] 24)).heap.size := by simp
    go_enter Tryd.func69, Tryd.ntmps69
    go_upto_region 1 with fail
    generalize (w.alloc (.cells #[.int .i64 c, .int .i64 lf, .slice (some ⟨b0, off, none⟩) n cap] 24)).alloc (.cells #[.int .i64 0, .int .i64 0, .slice none 0 0] 24) = W0 at *
    have x0 := X.out.c0
    have x1 := X.out.c1
    have x2 := X.out.c2
    go_wp2_with fail
    refine (HA.out W0 HB0.out).mono ?_
    rintro e w1 ⟨rfl, hb1⟩
    replace X := Lib.hid (X.out.below hb1)
    replace R := Lib.hid (R.out.below hb1)
    have HB1 := Lib.hid (bstep HB0.out hb1)
    have hB1 := Nat.le_trans hB0 hb1.size
    clear HB0 hB0 hb1 x0 x1 x2
    have x0 := X.out.c0
    have x1 := X.out.c1
    have x2 := X.out.c2
    obtain ⟨LN, hLN⟩ : ∃ LN : Nat, (contF f).length = LN := ⟨_, rfl⟩
    have hlc := HLc2.out.1
    rw [hLN] at hlc
    subst hlc
    have HLN := Lib.hid hLN
    clear hLN
    obtain ⟨c0, c1, c2⟩ := HAt2.out _ HB1.out
    have hpr := HPr.out _ HB1.out
    by_cases ho : o < 0
    · have HE := Lib.hid (HRg2.out (Or.inl ho))
      have r0 := R.out.c0
      have r1 := R.out.c1
      have r2 := R.out.c2
      have rf := R.out.f
      go_wp2_with fail
      exact bodyPost_ret (v := .tuple #[diskVal 0 0 nilS, .int .i64 2]) (by simp [results, Tryd.results69, go_sem, r0, r1, r2]) rfl ⟨⟨_, [], by rw [HE.out]; first | done | rfl, by rw [HE.out]; rfl, RowR.nil _ _ _⟩, HB1.out.all3 (by omega) _ _ _⟩
    · have hd1 : decide (o < 0) = false := decide_eq_false ho
      go_wp2_with fail
      refine (HCt2.out w1 _ _ hpr.1 hpr.2).mono ?_
      rintro e w2 ⟨v2, rfl, hov, hb2⟩
      obtain ⟨la, lc, rfl, _⟩ := hov.form
      rw [HLN.out]
      clear hov hpr c0 c1 c2
      replace X := Lib.hid (X.out.below hb2)
      replace R := Lib.hid (R.out.below hb2)
      have HB2 := Lib.hid (bstep HB1.out hb2)
      have hB2 := Nat.le_trans hB1 hb2.size
      clear HB1 hB1 hb2 x0 x1 x2
      have x0 := X.out.c0
      have x1 := X.out.c1
      have x2 := X.out.c2
      by_cases hg : (LN : Int) < o
      · have HE := Lib.hid (HRg2.out (Or.inr hg))
        have r0 := R.out.c0
        have r1 := R.out.c1
        have r2 := R.out.c2
        have rf := R.out.f
        go_wp2_with fail
        exact bodyPost_ret (v := .tuple #[diskVal 0 0 nilS, .int .i64 2]) (by simp [results, Tryd.results69, go_sem, r0, r1, r2]) rfl ⟨⟨_, [], by rw [HE.out]; first | done | rfl, by rw [HE.out]; rfl, RowR.nil _ _ _⟩, HB2.out.all3 (by omega) _ _ _⟩
      · have HW3 := Lib.hid (HWr2.out (show ¬ (o < 0 ∨ (LN : Int) < o) by omega))
        clear HWr2 HRg2
        go_wp2_with fail
        refine (HW3.out w2 _ _ HB2.out (HRw.out w2 HB2.out) (HBb.out.below HB2.out)).mono ?_
        have hBW := HB2.out
        have RR := R.out
        rintro e w3 ⟨⟨fv3, xs3, rfl, hfs, hrow⟩, hb3⟩
        obtain ⟨a3, k3, e3, _⟩ := own_form hrow.1
        subst e3
        have HRb := Lib.hid (hrow.b (w := w) hBW.size)
        have HFs := Lib.hid hfs
        have HB3 := Lib.hid (bstep hBW hb3)
        have R3 := Lib.hid (RR.below hb3)
        have hB3 : w.heap.size + 1 < w2.heap.size := RR.lt
        clear hrow hb3 hfs
        obtain ⟨⟨rc, rl, rf⟩, re⟩ := RS
        dsimp only at *
        generalize (feX xs3).length = l3 at *
        have r0 := R3.out.c0
        have r1 := R3.out.c1
        have r2 := R3.out.c2
        have rfz := R3.out.f
        have HRz := Lib.hid (RowR.set3 (b := w.heap.size + 1) HRb.out hB3 (.int .i64 rc) (.int .i64 rl) (.slice a3 l3 k3))
        go_wp2_with fail
        exact bodyPost_ret (v := .tuple #[diskVal rc rl (.slice a3 l3 k3), .int .i64 re]) (by simp [results, Tryd.results69, go_sem, r0, r1, r2]) rfl ⟨⟨_, _, rfl, HFs.out, HRz.out⟩, HB3.out.all3 (by omega) _ _ _⟩
  · generalize atE d s = E at *
    have HE := Lib.hid (HNo.out he)
    have hz1 : (E == 0) = false := beq_eq_false_iff_ne.2 he
    have hz2 : (E != 0) = true := by rw [bne_iff_ne]; exact he
    obtain ⟨c, lf, fl⟩ := d
    dsimp only [diskVal] at *
    generalize fl.length = n at *
    generalize hyl : b.length = yl at *
    have Hyl := Lib.hid hyl
    clear hyl
    have HB0 := Lib.hid (show Below w.heap.size w ((w.alloc (.cells #[.int .i64 c, .int .i64 lf, .slice a n cap] 24)).alloc (.cells #[.int .i64 0, .int .i64 0, .slice none 0 0] 24)) from ((Below.refl _ _).alloc (Nat.le_refl _) _).alloc (by simp) _)
    have X := Lib.hid (show BoxD ((w.alloc (.cells #[.int .i64 c, .int .i64 lf, .slice a n cap] 24)).alloc (.cells #[.int .i64 0, .int .i64 0, .slice none 0 0] 24)) w.heap.size c lf (.slice a n cap) from ⟨by simp, by simp, by simp, fun i => by simp⟩)
    have R := Lib.hid (show BoxD ((w.alloc (.cells #[.int .i64 c, .int .i64 lf, .slice a n cap] 24)).alloc (.cells #[.int .i64 0, .int .i64 0, .slice none 0 0] 24)) (w.heap.size + 1) 0 0 (.slice none 0 0) from ⟨by simp, by simp, by simp, fun i => by simp⟩)
    have hB0 : w.heap.size + 2 ≤ ((w.alloc (.cells #[.int .i64 c, .int .i64 lf, .slice a n cap] 24)).alloc (.cells #[.int .i64 0, .int .i64 0, .slice none 0 0] 24)).heap.size := by simp
    go_enter Tryd.func69, Tryd.ntmps69
    go_upto_region 1 with fail
    generalize (w.alloc (.cells #[.int .i64 c, .int .i64 lf, .slice a n cap] 24)).alloc (.cells #[.int .i64 0, .int .i64 0, .slice none 0 0] 24) = W0 at *
    have x0 := X.out.c0
    have x1 := X.out.c1
    have x2 := X.out.c2
    go_wp2_with fail
    refine (HA.out W0 HB0.out).mono ?_
    rintro e w1 ⟨rfl, hb1⟩
    replace X := Lib.hid (X.out.below hb1)
    replace R := Lib.hid (R.out.below hb1)
    have HB1 := Lib.hid (bstep HB0.out hb1)
    have hB1 := Nat.le_trans hB0 hb1.size
    clear HB0 hB0 hb1 x0 x1 x2
    have x0 := X.out.c0
    have x1 := X.out.c1
    have x2 := X.out.c2
    have r0 := R.out.c0
    have r1 := R.out.c1
    have r2 := R.out.c2
    have rf := R.out.f
    go_wp2_with fail
    exact bodyPost_ret (v := .tuple #[diskVal 0 0 nilS, .int .i64 E]) (by simp [results, Tryd.results69, go_sem, r0, r1, r2]) rfl ⟨⟨_, [], by rw [HE.out]; first | done | rfl, by rw [HE.out]; rfl, RowR.nil _ _ _⟩, HB1.out.all3 (by omega) _ _ _⟩

set_option maxRecDepth 100000 in
set_option maxHeartbeats 3200000 in
theorem rtrunc_any (d : Dk) (s : List UInt8) (o : Int) (fv : Value) (xs : List FX) (w : World) (hr : RdS 3 filC w fv (feX xs)) (hx : PartsX w xs) (hes : filX xs = d.files) (hL : LiteD d) (hs : s.length ≤ 9223372036854775807) (hpe : ∀ f ∈ d.files, f.pend.length ≤ 4999) :
    Calls Tryd.prog 70 #[diskVal d.cap d.left fv, .string (strB s), .int .i64 o] w (RefOp w xs (truncD d s o)) := by
  have h := rdFE_x hr hx
  have hF : RdF w fv d.files := ⟨feX xs, by rw [feX_fst, hes], h⟩
  obtain ⟨a, cap, rfl, h1, h2, _⟩ := hF.shape
  have Hxl := Lib.hid (show d.files.length = xs.length by rw [← hes]; exact List.length_map ..)
  have HA := Lib.hid (fun W (hW : Below w.heap.size w W) => rat_any d _ s W (hF.below hW) hL hs)
  have HOk := Lib.hid (fun e => atE_ok (d := d) (s := s) e)
  have HI := Lib.hid (show atI d s = if atE d s = 0 then (lowN d.files s : Int) else -1 from rfl)
  have HX := Lib.hid (fun i (hi : i < d.files.length) => atX hes hi)
  have HRw := Lib.hid (show ∀ W, Below w.heap.size w W → RdS 3 filC W _ (feX xs) from fun W hW => RdS.below hr hW)
  have HP := Lib.hid hx
  have HCt := Lib.hid (fun i (hi : i < d.files.length) W u p (hu : RdB W u (atN d.files i).base) (hp : RdW W p (atN d.files i).pend) => show Calls Tryd.prog 38 #[filVal (atN d.files i).name u p] W fun e w' => ∃ v', e = .returned v' ∧ OwnU w' W.heap.size v' (contF (atN d.files i)) ∧ Below W.heap.size W w' from rcontent_any (atN d.files i).name _ _ u p W hu hp (hL.fil _ (atN_mem hi)))
  have HLc := Lib.hid (fun (hv : VldD d) i (hi : i < d.files.length) => And.intro (lenF_cont (sized_of_vld hv hi)) (lenF_bounds (sized_of_vld hv hi)))
  have HNo := Lib.hid (fun e => trunc_no (d := d) (s := s) (off := o) e)
  have HRg := Lib.hid (fun e e2 => trunc_range (d := d) (s := s) (off := o) e e2)
  have HGo := Lib.hid (fun e e2 => trunc_go (d := d) (s := s) (off := o) e e2)
  have HWr := Lib.hid (fun (e : atE d s = 0) (e2 : ¬ (o < 0 ∨ lenF (atN d.files (lowN d.files s)) < o)) W v u (hW : Below w.heap.size w W) (hvr : RdS 3 filC W v (feX xs)) (hu : RdB W u []) => rwritten_any d v u xs (lowN d.files s) ⟨o, [], true⟩ W hvr (hx.below hW) hes hL (atE_ok e).1 (atE_ok e).2.2.2.1 ⟨by dsimp only; omega, by dsimp only; omega, by simp⟩ hu (by simp) (hpe _ (atN_mem (atE_ok e).2.2.2.1)))
  clear h hF hr hx hs
  generalize truncD d s o = RS at *
  generalize atI d s = ai at *
  generalize strB s = sv at *
  by_cases he : atE d s = 0
  · obtain ⟨hv, _, _, hlo, _⟩ := HOk.out he
    obtain ⟨hqm, hqf⟩ := HX.out _ hlo
    have hai : ai = (lowN d.files s : Int) := by rw [HI.out, if_pos he]
    subst hai
    have HLc2 := Lib.hid (HLc.out hv _ hlo)
    have HCt2 := Lib.hid (HCt.out _ hlo)
    have HRg2 := Lib.hid (HRg.out he)
    have HWr2 := Lib.hid (fun e2 => HWr.out he e2)
    have HGo2 := Lib.hid (fun e2 => HGo.out he e2)
    replace HWr2 := Lib.hid (fun e2 => Eq.subst (motive := fun r => ∀ W v u (hW : Below w.heap.size w W) (hvr : RdS 3 filC W v (feX xs)) (hu : RdB W u []), Calls Tryd.prog 95 #[diskVal d.cap d.left v, .int .i64 (lowN d.files s : Int), .agg #[.int .i64 o, u, .bool true]] W (RefOp W xs r)) (HGo2.out e2).symm (HWr2.out e2))
    clear HWr HGo HGo2 HNo HRg
    rw [← hqf] at HWr2 HRg2
    rw [← hqf] at HCt2 HLc2
    clear HCt HLc HOk HI
    generalize lowN d.files s = lo at *
    rw [he] at HA
    have HPq := Lib.hid (HP.out _ hqm)
    have HAt := Lib.hid (fun W (hW : Below w.heap.size w W) => RdFE.at2 (HRw.out W hW) Hxl.out hlo)
    clear hqm he hv
    generalize xs.getD lo fx0 = q at *
    obtain ⟨⟨f, bv, pv⟩, wes⟩ := q
    dsimp only at hqf
    subst hqf
    generalize atN d.files lo = f at *
    obtain ⟨hb1, hp1, hp2⟩ := HPq.out
    dsimp only at *
    obtain ⟨ba, bc, rfl, _⟩ := hb1.shape0
    obtain ⟨pa, pc, rfl, _⟩ := hp1.shape
    clear hb1 hp1 hp2
    have HPr := Lib.hid (fun W (hW : Below w.heap.size w W) => (HPq.out.below hW).rd)
    dsimp only at HPr
    generalize lenF f = LF at *
    obtain ⟨c, lf, fl⟩ := d
    dsimp only [diskVal] at *
    generalize wes.length = wl at *
    generalize f.base.length = bl at *
    generalize fl.length = n at *
    obtain ⟨b0, off, rfl, _⟩ := HAt.out w (Below.refl _ _)
    have HAt2 := Lib.hid (show ∀ W, Below w.heap.size w W → W.cell? ⟨b0, off + lo * 3, none⟩ = some (.string (strB f.name)) ∧ W.cell? ⟨b0, off + lo * 3 + 1, none⟩ = some (.slice ba bl bc) ∧ W.cell? ⟨b0, off + lo * 3 + 2, none⟩ = some (.slice pa wl pc) from fun W hW => by
      obtain ⟨b', off', e, k⟩ := HAt.out W hW
      injection e with e
      injection e with e1 e2
      subst e1 e2
      exact k)
    clear HAt
    dsimp only [filVal] at HCt2
    generalize strB f.name = nm at *
    have i1 : (lo : Int) < (n : Int) := by omega
    have HB0 := Lib.hid (show Below w.heap.size w ((w.alloc (.cells #[.int .i64 c, .int .i64 lf, .slice (some ⟨b0, off, none⟩) n cap] 24)).alloc (.cells #[.int .i64 0, .int .i64 0, .slice none 0 0] 24)) from ((Below.refl _ _).alloc (Nat.le_refl _) _).alloc (by simp) _)
    have X := Lib.hid (show BoxD ((w.alloc (.cells #[.int .i64 c, .int .i64 lf, .slice (some ⟨b0, off, none⟩) n cap] 24)).alloc (.cells #[.int .i64 0, .int .i64 0, .slice none 0 0] 24)) w.heap.size c lf (.slice (some ⟨b0, off, none⟩) n cap) from ⟨by simp, by simp, by simp, fun i => by simp⟩)
    have R := Lib.hid (show BoxD ((w.alloc (.cells #[.int .i64 c, .int .i64 lf, .slice (some ⟨b0, off, none⟩) n cap] 24)).alloc (.cells #[.int .i64 0, .int .i64 0, .slice none 0 0] 24)) (w.heap.size + 1) 0 0 (.slice none 0 0) from ⟨by simp, by simp, by simp, fun i => by simp⟩)
    have hB0 : w.heap.size + 2 ≤ ((w.alloc (.cells #[.int .i64 c, .int .i64 lf, .slice (some ⟨b0, off, none⟩) n cap] 24)).alloc (.cells #[.int .i64 0, .int .i64 0, .slice none 0 0] 24)).heap.size := by simp
    go_enter Tryd.func70, Tryd.ntmps70
    go_upto_region 1 with fail
    generalize (w.alloc (.cells #[.int .i64 c, .int .i64 lf, .slice (some ⟨b0, off, none⟩) n cap] 24)).alloc (.cells #[.int .i64 0, .int .i64 0, .slice none 0 0] 24) = W0 at *
    have x0 := X.out.c0
    have x1 := X.out.c1
    have x2 := X.out.c2
    go_wp2_with fail
    refine (HA.out W0 HB0.out).mono ?_
    rintro e w1 ⟨rfl, hb1⟩
    replace X := Lib.hid (X.out.below hb1)
    replace R := Lib.hid (R.out.below hb1)
    have HB1 := Lib.hid (bstep HB0.out hb1)
    have hB1 := Nat.le_trans hB0 hb1.size
    clear HB0 hB0 hb1 x0 x1 x2
    have x0 := X.out.c0
    have x1 := X.out.c1
    have x2 := X.out.c2
    obtain ⟨LN, hLN⟩ : ∃ LN : Nat, (contF f).length = LN := ⟨_, rfl⟩
    have hlc := HLc2.out.1
    rw [hLN] at hlc
    subst hlc
    have HLN := Lib.hid hLN
    clear hLN
    obtain ⟨c0, c1, c2⟩ := HAt2.out _ HB1.out
    have hpr := HPr.out _ HB1.out
    by_cases ho : o < 0
    · have HE := Lib.hid (HRg2.out (Or.inl ho))
      have r0 := R.out.c0
      have r1 := R.out.c1
      have r2 := R.out.c2
      have rf := R.out.f
      go_wp2_with fail
      exact bodyPost_ret (v := .tuple #[diskVal 0 0 nilS, .int .i64 2]) (by simp [results, Tryd.results70, go_sem, r0, r1, r2]) rfl ⟨⟨_, [], by rw [HE.out]; first | done | rfl, by rw [HE.out]; rfl, RowR.nil _ _ _⟩, HB1.out.all3 (by omega) _ _ _⟩
    · have hd1 : decide (o < 0) = false := decide_eq_false ho
      go_wp2_with fail
      refine (HCt2.out w1 _ _ hpr.1 hpr.2).mono ?_
      rintro e w2 ⟨v2, rfl, hov, hb2⟩
      obtain ⟨la, lc, rfl, _⟩ := hov.form
      rw [HLN.out]
      clear hov hpr c0 c1 c2
      replace X := Lib.hid (X.out.below hb2)
      replace R := Lib.hid (R.out.below hb2)
      have HB2 := Lib.hid (bstep HB1.out hb2)
      have hB2 := Nat.le_trans hB1 hb2.size
      clear HB1 hB1 hb2 x0 x1 x2
      have x0 := X.out.c0
      have x1 := X.out.c1
      have x2 := X.out.c2
      by_cases hg : (LN : Int) < o
      · have HE := Lib.hid (HRg2.out (Or.inr hg))
        have r0 := R.out.c0
        have r1 := R.out.c1
        have r2 := R.out.c2
        have rf := R.out.f
        go_wp2_with fail
        exact bodyPost_ret (v := .tuple #[diskVal 0 0 nilS, .int .i64 2]) (by simp [results, Tryd.results70, go_sem, r0, r1, r2]) rfl ⟨⟨_, [], by rw [HE.out]; first | done | rfl, by rw [HE.out]; rfl, RowR.nil _ _ _⟩, HB2.out.all3 (by omega) _ _ _⟩
      · have HW3 := Lib.hid (HWr2.out (show ¬ (o < 0 ∨ (LN : Int) < o) by omega))
        clear HWr2 HRg2
        go_wp2_with fail
        refine (HW3.out w2 _ _ HB2.out (HRw.out w2 HB2.out) (RdB_nil _)).mono ?_
        have hBW := HB2.out
        have RR := R.out
        rintro e w3 ⟨⟨fv3, xs3, rfl, hfs, hrow⟩, hb3⟩
        obtain ⟨a3, k3, e3, _⟩ := own_form hrow.1
        subst e3
        have HRb := Lib.hid (hrow.b (w := w) hBW.size)
        have HFs := Lib.hid hfs
        have HB3 := Lib.hid (bstep hBW hb3)
        have R3 := Lib.hid (RR.below hb3)
        have hB3 : w.heap.size + 1 < w2.heap.size := RR.lt
        clear hrow hb3 hfs
        obtain ⟨⟨rc, rl, rf⟩, re⟩ := RS
        dsimp only at *
        generalize (feX xs3).length = l3 at *
        have r0 := R3.out.c0
        have r1 := R3.out.c1
        have r2 := R3.out.c2
        have rfz := R3.out.f
        have HRz := Lib.hid (RowR.set3 (b := w.heap.size + 1) HRb.out hB3 (.int .i64 rc) (.int .i64 rl) (.slice a3 l3 k3))
        go_wp2_with fail
        exact bodyPost_ret (v := .tuple #[diskVal rc rl (.slice a3 l3 k3), .int .i64 re]) (by simp [results, Tryd.results70, go_sem, r0, r1, r2]) rfl ⟨⟨_, _, rfl, HFs.out, HRz.out⟩, HB3.out.all3 (by omega) _ _ _⟩
  · generalize atE d s = E at *
    have HE := Lib.hid (HNo.out he)
    have hz1 : (E == 0) = false := beq_eq_false_iff_ne.2 he
    have hz2 : (E != 0) = true := by rw [bne_iff_ne]; exact he
    obtain ⟨c, lf, fl⟩ := d
    dsimp only [diskVal] at *
    generalize fl.length = n at *
    have HB0 := Lib.hid (show Below w.heap.size w ((w.alloc (.cells #[.int .i64 c, .int .i64 lf, .slice a n cap] 24)).alloc (.cells #[.int .i64 0, .int .i64 0, .slice none 0 0] 24)) from ((Below.refl _ _).alloc (Nat.le_refl _) _).alloc (by simp) _)
    have X := Lib.hid (show BoxD ((w.alloc (.cells #[.int .i64 c, .int .i64 lf, .slice a n cap] 24)).alloc (.cells #[.int .i64 0, .int .i64 0, .slice none 0 0] 24)) w.heap.size c lf (.slice a n cap) from ⟨by simp, by simp, by simp, fun i => by simp⟩)
    have R := Lib.hid (show BoxD ((w.alloc (.cells #[.int .i64 c, .int .i64 lf, .slice a n cap] 24)).alloc (.cells #[.int .i64 0, .int .i64 0, .slice none 0 0] 24)) (w.heap.size + 1) 0 0 (.slice none 0 0) from ⟨by simp, by simp, by simp, fun i => by simp⟩)
    have hB0 : w.heap.size + 2 ≤ ((w.alloc (.cells #[.int .i64 c, .int .i64 lf, .slice a n cap] 24)).alloc (.cells #[.int .i64 0, .int .i64 0, .slice none 0 0] 24)).heap.size := by simp
    go_enter Tryd.func70, Tryd.ntmps70
    go_upto_region 1 with fail
    generalize (w.alloc (.cells #[.int .i64 c, .int .i64 lf, .slice a n cap] 24)).alloc (.cells #[.int .i64 0, .int .i64 0, .slice none 0 0] 24) = W0 at *
    have x0 := X.out.c0
    have x1 := X.out.c1
    have x2 := X.out.c2
    go_wp2_with fail
    refine (HA.out W0 HB0.out).mono ?_
    rintro e w1 ⟨rfl, hb1⟩
    replace X := Lib.hid (X.out.below hb1)
    replace R := Lib.hid (R.out.below hb1)
    have HB1 := Lib.hid (bstep HB0.out hb1)
    have hB1 := Nat.le_trans hB0 hb1.size
    clear HB0 hB0 hb1 x0 x1 x2
    have x0 := X.out.c0
    have x1 := X.out.c1
    have x2 := X.out.c2
    have r0 := R.out.c0
    have r1 := R.out.c1
    have r2 := R.out.c2
    have rf := R.out.f
    go_wp2_with fail
    exact bodyPost_ret (v := .tuple #[diskVal 0 0 nilS, .int .i64 E]) (by simp [results, Tryd.results70, go_sem, r0, r1, r2]) rfl ⟨⟨_, [], by rw [HE.out]; first | done | rfl, by rw [HE.out]; rfl, RowR.nil _ _ _⟩, HB1.out.all3 (by omega) _ _ _⟩

end Go.Proofs.YtkabcpmnbjllcaaDoor
