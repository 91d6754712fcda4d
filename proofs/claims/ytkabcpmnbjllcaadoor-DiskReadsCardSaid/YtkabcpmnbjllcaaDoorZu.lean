/- write of the program: the walk. -/
import Derived.Test.YtkabcpmnbjllcaaDoorZs
namespace Go.Proofs.YtkabcpmnbjllcaaDoor
open Go.RowKit

/-- What write hands back. -/
def WrRes (B : Nat) (w0 : World) (x : Dk × Int) (e : Ending) (w' : World) : Prop := (∃ v, e = .returned (.tuple #[v, .int .i64 x.2]) ∧ StD B w' v x.1) ∧ Below B w0 w'
/-- A write of data of the call's own, as a value. -/
def wagS (B : Nat) (off : Int) (b : List UInt8) : Sta := ⟨fun v w => ∃ dv, v = .agg #[.int .i64 off, dv, .bool false] ∧ OwnU w B dv b, fun _ _ _ hb ⟨dv, e, h⟩ => ⟨dv, e, h.keep hb⟩⟩
/-- A slice of that one write. -/
def wsS (B : Nat) (off : Int) (b : List UInt8) : Sta := ⟨fun v w => ∃ dv, Rd w 3 v 1 (wrC (⟨off, b, false⟩, dv)) ∧ OwnU w B dv b, fun _ _ _ hb ⟨dv, h, h'⟩ => ⟨dv, h.below hb, h'.keep hb⟩⟩
theorem wr_one1 {w : World} {B : Nat} {x : Wr} {dv : Value} (h : OwnU w B dv x.data) : ∀ u ∈ wrC (x, dv), u.oneCell' = true := by
  obtain ⟨a, c, e, _⟩ := h.form
  intro u hu
  simp only [wrC, List.mem_cons, List.not_mem_nil, or_false] at hu
  rcases hu with h | h | h
  · rw [h]; rfl
  · rw [h, e]; rfl
  · rw [h]; rfl
theorem sumF_of {l : List Fil} (hl : l.length ≤ 1000) (h : ∀ f ∈ l, sizedF f = true) : SumF l := ⟨hl, fun f hf => sized_range (h f hf), fun f hf => (lenF_bounds (h f hf)).1, fun f hf => by have := (lenF_bounds (h f hf)).2; omega⟩
theorem lenF_app (f : Fil) (w : Wr) : lenF ⟨f.name, f.base, f.pend ++ [w]⟩ = grownW w (lenF f) := lenW_snoc f.pend w f.base.length
theorem BoxD.of_block {W W' : World} {b : Nat} {c l : Int} {fv : Value} (h : BoxD W b c l fv) (hb : W'.heap[b]? = W.heap[b]?) : BoxD W' b c l fv :=
  ⟨(World.cell?_of_block (a := ⟨b, 0, none⟩) hb).trans h.c0, (World.cell?_of_block (a := ⟨b, 1, none⟩) hb).trans h.c1, (World.cell?_of_block (a := ⟨b, 2, none⟩) hb).trans h.c2, fun i => (World.frozen?_of_block (a := ⟨b, i, none⟩) hb).trans (h.f i)⟩
theorem atN_set {l : List Fil} {i : Nat} (f : Fil) (h : i < l.length) : atN (l.set i f) i = f := by
  unfold atN; rw [List.getD_eq_getElem?_getD, List.getElem?_set]; simp [h]
theorem rdD_zero (w : World) : RdD w (diskVal 0 0 nilS) dk0 := ⟨nilS, rfl, RdF_nil w⟩
set_option maxRecDepth 100000 in
set_option maxHeartbeats 3200000 in
theorem write_any (d : Dk) (i : Nat) (off : Int) (b : List UInt8) (v bv : Value) (B : Nat) (w : World) (hO : OwnD w B v d) (hB : B ≤ w.heap.size) (hbv : RdB w bv b) (hi : i < d.files.length)
    (hl : d.files.length ≤ 1000) (hz : ∀ f ∈ d.files, sizedF f = true) (ho1 : 0 ≤ off) (ho2 : off ≤ lenF (atN d.files i)) (hbl : b.length ≤ 2000000) (hpl : (atN d.files i).pend.length ≤ 5000) :
    Calls Tryd.prog 52 #[v, .int .i64 (i : Int), .int .i64 off, bv] w (WrRes B w (wroteD d i ⟨off, b, false⟩)) := by
  obtain ⟨fv, es, T, rfl, hes, hF⟩ := hO
  have hlen : es.length = d.files.length := by rw [← hes, List.length_map]
  obtain ⟨a, cap, rfl, h1, h2, _⟩ := own_form hF.row
  have hie : i < es.length := by omega
  have hat : atN d.files i = (es.getD i fe0).1 := by rw [← hes]; exact fe_fst es i hie
  have hzi : sizedF (atN d.files i) = true := hz _ (atN_mem hi)
  have hbd := lenF_bounds hzi
  have hS := sumF_of hl hz
  have HF := Lib.hid hF
  -- what is known of the new list
  have hx : RangeW ⟨off, b, false⟩ := ⟨⟨by dsimp only; omega, by dsimp only; omega⟩, hbl⟩
  have HX := Lib.hid (show wroteD d i ⟨off, b, false⟩ = if 1048576 < off + (b.length : Int) then (dk0, 9) else if 0 < d.cap ∧ lenF (atN d.files i) < grownW ⟨off, b, false⟩ (lenF (atN d.files i)) ∧ d.cap < totD d + (grownW ⟨off, b, false⟩ (lenF (atN d.files i)) - lenF (atN d.files i)) then (dk0, 9)
    else (⟨d.cap, d.left, d.files.set i ⟨(atN d.files i).name, (atN d.files i).base, (atN d.files i).pend ++ [⟨off, b, false⟩]⟩⟩, 0) from rfl)
  have hg : grownW ⟨off, b, false⟩ (lenF (atN d.files i)) = max (lenF (atN d.files i)) (off + (b.length : Int)) := rfl
  rw [hg] at HX
  have hrng := sized_range hzi
  have Hrd := Lib.hid (hF.fil i hie).1.rd
  have Hown := Lib.hid (hF.fil i hie).1
  have HLn := Lib.hid (show ∀ W, RdB W (es.getD i fe0).2.1 (atN d.files i).base → RdW W (es.getD i fe0).2.2 (atN d.files i).pend → Calls Tryd.prog 53 #[filVal (atN d.files i).name (es.getD i fe0).2.1 (es.getD i fe0).2.2] W fun e w' => e = .returned (.int .i64 (lenF (atN d.files i))) ∧ Below W.heap.size W w' from fun W h h' => length_any _ _ _ _ _ W h h' hrng)
  have HL2 := Lib.hid (show ∀ W u p, RdB W u (atN d.files i).base → RdW W p ((atN d.files i).pend ++ [⟨off, b, false⟩]) → Calls Tryd.prog 53 #[filVal (atN d.files i).name u p] W fun e w' => e = .returned (.int .i64 (max (lenF (atN d.files i)) (off + (b.length : Int)))) ∧ Below W.heap.size W w' from fun W u p h h' => by
    rw [← hg]
    have := length_any (atN d.files i).name (atN d.files i).base ((atN d.files i).pend ++ [⟨off, b, false⟩]) u p W h h' (fun y hy => by
      rcases List.mem_append.1 hy with hy | hy
      · exact hrng y hy
      · rw [List.mem_singleton.1 hy]; exact hx)
    rw [show lenW ((atN d.files i).pend ++ [⟨off, b, false⟩]) (atN d.files i).base.length = grownW ⟨off, b, false⟩ (lenF (atN d.files i)) from lenW_snoc _ _ _] at this
    exact this)
  have HTot := Lib.hid (show off + (b.length : Int) ≤ 1048576 → ∀ W fv, RdF W fv (d.files.set i ⟨(atN d.files i).name, (atN d.files i).base, (atN d.files i).pend ++ [⟨off, b, false⟩]⟩) → Calls Tryd.prog 88 #[diskVal d.cap d.left fv] W fun e w' => e = .returned (.int .i64 (totD d + (max (lenF (atN d.files i)) (off + (b.length : Int)) - lenF (atN d.files i)))) ∧ Below W.heap.size W w' from fun hle W fv h => by
    have := total_any d.cap d.left fv _ W h (sumF_of (by rw [List.length_set]; exact hl) (fun f hf => by
      rcases List.mem_or_eq_of_mem_set hf with e | e
      · exact hz f e
      · rw [e]; exact sizedF_app hzi ((okW_iff _).2 ⟨ho1, by dsimp only; omega, fun h => by cases h⟩) (by rw [hg]; omega)))
    rw [totL_set _ _ _ _ hi, lenF_app, hg] at this
    exact this)
  have HBc := Lib.hid (fun W (hW : Below w.heap.size w W) => bclone_any bv b W (hbv.below hW) (by omega))
  obtain ⟨ba, bc, rfl, hb1, hb2, _⟩ := hbv.shape0
  obtain ⟨ua, uc, eub, hu1, hu2, _⟩ := Hrd.out.1.shape0
  obtain ⟨pa, pc, epv, hp1, hp2, _⟩ := Hrd.out.2.shape
  obtain ⟨ws, hwf, hws⟩ := Hown.out.pend
  have hwl : ws.length = (es.getD i fe0).1.pend.length := by rw [← hwf, List.length_map]
  have Hwf := Lib.hid hwf
  have Hwl := Lib.hid hwl
  have Hws := Lib.hid hws
  have Hes := Lib.hid hes
  have Hat := Lib.hid hat
  have hpl2 : (es.getD i fe0).1.pend.length ≤ 5000 := by rw [← hat]; exact hpl
  have hn2 : es.length ≤ 1000 := by omega
  have HTop := Lib.hid hF.top
  obtain ⟨g, rfl, hgB, hgl, _⟩ := hF.at hie rfl
  have hglow := hF.low g rfl
  have hT0 := hF.mono 0 es.length (Nat.zero_le _) (Nat.le_refl _)
  have Heub := Lib.hid eub
  have Hepv := Lib.hid epv
  have hgT : g < w.heap.size := hgl
  clear hes hF hlen hat hz hzi hS hx hg hrng hbv hwf hws hwl hl hi eub epv hpl hgl
  generalize hP : es.getD i fe0 = P0 at *
  have HP := Lib.hid hP
  clear hP
  obtain ⟨pf0, pu0, pv0⟩ := P0
  dsimp only at Heub Hepv Hrd Hown HLn Hat hpl2 Hwf Hwl Hws hu1 hp1
  generalize hl1 : pf0.base.length = l1 at *
  have Hl1 := Lib.hid hl1
  clear hl1
  generalize hl2 : pf0.pend.length = l2 at *
  have Hl2 := Lib.hid hl2
  clear hl2
  have e1 := Heub.out
  have e2 := Hepv.out
  subst e1 e2
  clear Heub Hepv
  generalize hbn : b.length = bl at *
  have Hbn := Lib.hid hbn
  clear hbn
  obtain ⟨c, lf, fl⟩ := d
  dsimp only at *
  generalize hwas : lenF (atN fl i) = was at *
  have Hwas := Lib.hid hwas
  clear hwas
  generalize totD ⟨c, lf, fl⟩ = tot at *
  generalize wroteD ⟨c, lf, fl⟩ i ⟨off, b, false⟩ = R at *
  generalize hnm : (atN fl i).name = nm at *
  have HW0 := Lib.hid (show Below w.heap.size w ((w.alloc (.cells #[.int .i64 c, .int .i64 lf, .slice (some ⟨g, 0, none⟩) es.length cap] 33)).alloc (.cells #[.int .i64 0, .int .i64 0, .slice none 0 0] 33)) from ((Below.refl _ _).alloc (Nat.le_refl _) _).alloc (by simp) _)
  have X := Lib.hid (show BoxD ((w.alloc (.cells #[.int .i64 c, .int .i64 lf, .slice (some ⟨g, 0, none⟩) es.length cap] 33)).alloc (.cells #[.int .i64 0, .int .i64 0, .slice none 0 0] 33)) w.heap.size c lf (.slice (some ⟨g, 0, none⟩) es.length cap) from ⟨by simp, by simp, by simp, fun i => by simp⟩)
  have Rz := Lib.hid (show BoxD ((w.alloc (.cells #[.int .i64 c, .int .i64 lf, .slice (some ⟨g, 0, none⟩) es.length cap] 33)).alloc (.cells #[.int .i64 0, .int .i64 0, .slice none 0 0] 33)) (w.heap.size + 1) 0 0 (.slice none 0 0) from ⟨by simp, by simp, by simp, fun i => by simp⟩)
  have hD0 : BlkD ((w.alloc (.cells #[.int .i64 c, .int .i64 lf, .slice (some ⟨g, 0, none⟩) es.length cap] 33)).alloc (.cells #[.int .i64 0, .int .i64 0, .slice none 0 0] 33)) w.heap.size := ⟨_, (0, 0), by
    rw [Below.block ((Below.refl (w.alloc (.cells #[.int .i64 c, .int .i64 lf, .slice (some ⟨g, 0, none⟩) es.length cap] 33)).heap.size _).alloc (Nat.le_refl _) _) w.heap.size (by simp)]
    exact heap_alloc_new w _⟩
  have hD1 : BlkD ((w.alloc (.cells #[.int .i64 c, .int .i64 lf, .slice (some ⟨g, 0, none⟩) es.length cap] 33)).alloc (.cells #[.int .i64 0, .int .i64 0, .slice none 0 0] 33)) (w.heap.size + 1) := ⟨_, (0, 0), by
    have := heap_alloc_new (w.alloc (.cells #[.int .i64 c, .int .i64 lf, .slice (some ⟨g, 0, none⟩) es.length cap] 33)) (.cells #[.int .i64 0, .int .i64 0, .slice none 0 0] 33)
    simpa using this⟩
  have HD0 := Lib.hid hD0
  have HD1 := Lib.hid hD1
  clear hD0 hD1
  have hBB : w.heap.size + 2 ≤ ((w.alloc (.cells #[.int .i64 c, .int .i64 lf, .slice (some ⟨g, 0, none⟩) es.length cap] 33)).alloc (.cells #[.int .i64 0, .int .i64 0, .slice none 0 0] 33)).heap.size := by simp
  replace HF := Lib.hid (HF.out.below HW0.out)
  go_enter Tryd.func52, Tryd.ntmps52
  go_upto_region 1 with fail
  generalize (w.alloc (.cells #[.int .i64 c, .int .i64 lf, .slice (some ⟨g, 0, none⟩) es.length cap] 33)).alloc (.cells #[.int .i64 0, .int .i64 0, .slice none 0 0] 33) = W0 at *
  have x2 := X.out.c2
  obtain ⟨g', eg, _, _, k0, k1, k2, kf⟩ := HF.out.at hie rfl
  injection eg with eg
  injection eg with eg
  subst eg
  rw [HP.out] at k0 k1 k2
  dsimp only at k0 k1 k2
  rw [← Hat.out, hnm] at k0
  have hii : (i : Int) < (es.length : Int) := by omega
  go_wp2_with fail
  have hLn := HLn.out W0 (by rw [Hat.out]; exact Hrd.out.1.below HW0.out) (by rw [Hat.out]; exact Hrd.out.2.below HW0.out)
  refine hLn.mono ?_
  rintro e wa ⟨rfl, hb1⟩
  replace X := Lib.hid (X.out.below hb1)
  replace Rz := Lib.hid (Rz.out.below hb1)
  replace HF := Lib.hid (HF.out.below hb1)
  replace HD0 := Lib.hid (HD0.out.below hb1)
  replace HD1 := Lib.hid (HD1.out.below hb1)
  replace HW0 := Lib.hid (bstep HW0.out hb1)
  replace hBB := Nat.le_trans hBB hb1.size
  clear hb1 k0 k1 k2 kf x2 HLn hLn
  by_cases hlb : 1048576 < bl
  · have i1 : (1048576 : Int) < (bl : Int) := by omega
    have HE := Lib.hid (show R = (dk0, 9) by rw [HX.out, if_pos (by omega)])
    have HB1 := Lib.hid (HW0.out.mono hB)
    have r0 := Rz.out.c0
    have r1 := Rz.out.c1
    have r2 := Rz.out.c2
    have rf := Rz.out.f
    go_wp2_with fail
    exact bodyPost_ret (v := .tuple #[diskVal 0 0 nilS, .int .i64 9]) (by simp [results, Tryd.results52, go_sem, r0, r1, r2]) rfl ⟨⟨_, by rw [HE.out], by rw [HE.out]; exact stD_zero _ _⟩, HB1.out.all3 (by omega) _ _ _⟩
  · have i1 : ¬ (1048576 : Int) < (bl : Int) := by omega
    have HK := Lib.hid (show ∀ W, Below wa.heap.size wa W → W.cell? ⟨g, i * 3 + 2, none⟩ = some (.slice pa l2 pc) ∧ (∀ j, W.frozen? ⟨g, j, none⟩ = false) from fun W h => by
      obtain ⟨g', eg, _, _, k0, k1, k2, kf⟩ := (HF.out.below h).at hie rfl
      injection eg with eg
      injection eg with eg
      subst eg
      rw [HP.out] at k2
      exact ⟨k2, kf⟩)
    have hTi := HF.out.mono i es.length (by omega) (Nat.le_refl _)
    have htop := HTop.out
    go_upto_region 5 with fail
    go_cut [35] (fun _ wx => Hid (StF wx w.heap.size B (.slice (some ⟨g, 0, none⟩) es.length cap) (fl.set i ⟨nm, pf0.base, pf0.pend ++ [⟨off, b, false⟩]⟩)) ∧ Hid (BoxD wx w.heap.size c lf (.slice (some ⟨g, 0, none⟩) es.length cap)) ∧ Hid (BoxD wx (w.heap.size + 1) 0 0 (.slice none 0 0)) ∧ Hid (Below B w wx) ∧ w.heap.size + 2 ≤ wx.heap.size)
    case first =>
      refine wp_region_late [eqS (.pointer (some ⟨g, i * 3, none⟩)), eqS (.pointer (some ⟨g, i * 3, none⟩)), eqS (.pointer (some ⟨g, i * 3, none⟩)), eqS (.pointer (some ⟨g, i * 3 + 2, none⟩)), eqS (.slice pa l2 pc), eqS (.int .i64 off), eqS (.slice ba bl bc), uS (w.heap.size + 2) b, wagS (w.heap.size + 2) off b, wsS (w.heap.size + 2) off b] [] 63 0 (by kernel_rfl) (by kernel_rfl) rfl rfl (by decide) (by rfl) (by kernel_rfl) (fun f => by simp [frm, dstOf, Act.put]; exact rfl) ?_ ?_ ?_
      · refine ⟨?_, ?_, ?_, ?_, ?_, ?_, ?_, ?_, ?_, ?_, trivial⟩
        · intro f w1 hb hd
          clear hd
          dsimp only
          go_wp2_with fail
          exact ⟨rfl, Below.refl _ _, fun t ht => by injection ht with ht; subst ht; exact ⟨rfl, fun h => by simp at h⟩⟩
        · intro f w1 hb hd
          clear hd
          dsimp only
          go_wp2_with fail
          exact ⟨rfl, Below.refl _ _, fun t ht => by injection ht with ht; subst ht; exact ⟨rfl, fun h => by simp at h⟩⟩
        · intro f w1 hb hd
          have d1 : f 1 = .pointer (some ⟨g, i * 3, none⟩) := hd 1 (by kernel_rfl)
          clear hd
          dsimp only
          rw [d1]
          go_wp2_with fail
          exact ⟨rfl, Below.refl _ _, fun t ht => by injection ht with ht; subst ht; exact ⟨rfl, fun h => by simp at h⟩⟩
        · intro f w1 hb hd
          have d2 : f 2 = .pointer (some ⟨g, i * 3, none⟩) := hd 2 (by kernel_rfl)
          clear hd
          dsimp only
          rw [d2]
          go_wp2_with fail
          exact ⟨rfl, Below.refl _ _, fun t ht => by injection ht with ht; subst ht; exact ⟨rfl, fun h => by simp at h⟩⟩
        · intro f w1 hb hd
          have d3 : f 3 = .pointer (some ⟨g, i * 3 + 2, none⟩) := hd 3 (by kernel_rfl)
          clear hd
          dsimp only
          rw [d3]
          have c := (HK.out w1 hb).1
          go_wp2_with fail
          exact ⟨rfl, Below.refl _ _, fun t ht => by injection ht with ht; subst ht; exact ⟨rfl, fun h => by simp at h⟩⟩
        · intro f w1 hb hd
          clear hd
          dsimp only
          go_wp2_with fail
          exact ⟨rfl, Below.refl _ _, fun t ht => by injection ht with ht; subst ht; exact ⟨rfl, fun h => by simp at h⟩⟩
        · intro f w1 hb hd
          clear hd
          dsimp only
          go_wp2_with fail
          exact ⟨rfl, Below.refl _ _, fun t ht => by injection ht with ht; subst ht; exact ⟨rfl, fun h => by simp at h⟩⟩
        · intro f w1 hb hd
          have d6 : f 6 = .slice ba bl bc := hd 6 (by kernel_rfl)
          clear hd
          dsimp only
          rw [d6]
          go_wp2_with fail
          ((with_reducible refine (HBc.out w1 (bstep HW0.out hb)).mono ?_); rintro e w2 ⟨v, rfl, ho, hbe⟩)
          go_wp2_with fail
          exact ⟨rfl, hbe, fun t ht => by injection ht with ht; subst ht; exact ⟨ho.lower (Nat.le_trans hBB hb.size), fun h => by simp at h⟩⟩
        · intro f w1 hb hd
          have d5 : f 5 = .int .i64 off := hd 5 (by kernel_rfl)
          have d7 := hd 7 (by kernel_rfl)
          have o7 : OwnU w1 (w.heap.size + 2) (f 7) b := d7
          clear d7
          clear hd
          dsimp only
          rw [d5]
          obtain ⟨xa, xc, ed, _⟩ := o7.form
          rw [ed] at o7 ⊢
          go_wp2_with fail
          exact ⟨rfl, Below.refl _ _, fun t ht => by injection ht with ht; subst ht; exact ⟨⟨_, rfl, o7⟩, fun h => by simp at h⟩⟩
        · intro f w1 hb hd
          have d8 := hd 8 (by kernel_rfl)
          obtain ⟨dv, e8, o8⟩ := d8
          clear hd
          dsimp only
          rw [e8]
          obtain ⟨xa, xc, ed, hx1, hx2, _⟩ := o8.form
          subst ed
          go_wp2_with fail
          exact ⟨rfl, (Below.refl _ _).alloc (Nat.le_refl _) _, fun t ht => by injection ht with ht; subst ht; exact ⟨⟨_, Rd.new w1 3 (wrC (⟨off, b, false⟩, .slice xa b.length xc)) 95 1 rfl (by decide), o8.keep ((Below.refl _ _).alloc (Nat.le_refl _) _)⟩, fun h => by simp at h⟩⟩
      · intro f w1 hb hA _
        have d0 : f 0 = .pointer (some ⟨g, i * 3, none⟩) := hA 0 (show 0 < 10 by decide)
        have d1 : f 1 = .pointer (some ⟨g, i * 3, none⟩) := hA 1 (show 1 < 10 by decide)
        have d2 : f 2 = .pointer (some ⟨g, i * 3, none⟩) := hA 2 (show 2 < 10 by decide)
        have d3 : f 3 = .pointer (some ⟨g, i * 3 + 2, none⟩) := hA 3 (show 3 < 10 by decide)
        have d4 : f 4 = .slice pa l2 pc := hA 4 (show 4 < 10 by decide)
        have d5 : f 5 = .int .i64 off := hA 5 (show 5 < 10 by decide)
        have d6 : f 6 = .slice ba bl bc := hA 6 (show 6 < 10 by decide)
        have d7 := hA 7 (show 7 < 10 by decide)
        have d8 := hA 8 (show 8 < 10 by decide)
        have d9 := hA 9 (show 9 < 10 by decide)
        clear hA
        try dsimp only at *
        rw [d0]
        rw [d1]
        rw [d2]
        rw [d3]
        rw [d4]
        rw [d5]
        rw [d6]
        clear d0 d1 d2 d3 d4 d5 d6
        obtain ⟨dv, r9, o9⟩ := d9
        have hF2 := HF.out.below hb
        have hbw := bstep HW0.out hb
        have hrow : w1.ownsRow (T i) 95 3 (.slice pa l2 pc) l2 (ws.flatMap wrC) := by
          have := own_keep Hws.out.row hbw
          rw [Hwl.out] at this
          exact this
        have hws2 : OwnWs w1 (T i) (es.getD i fe0).2.2 ws := by
          rw [HP.out]
          exact ⟨own_keep Hws.out.row hbw, fun q hq => (Hws.out.dat q hq).keep hbw⟩
        have hfst2 : ws.map (·.1) = (es.getD i fe0).1.pend := by rw [HP.out]; exact Hwf.out
        have hk2 := HK.out w1 hb
        have hX1 := X.out.below hb
        have hR1 := Rz.out.below hb
        have hd0 := HD0.out.below hb
        have hd1 := HD1.out.below hb
        have hgw : g < w1.heap.size := by have := hbw.size; omega
        have HF2 := Lib.hid hF2
        have Hws2 := Lib.hid hws2
        have Hfst2 := Lib.hid hfst2
        have HO9 := Lib.hid o9
        have HD2 := Lib.hid (And.intro hd0 hd1)
        have HXR := Lib.hid (And.intro hX1 hR1)
        have HBw := Lib.hid hbw
        have hTb : T es.length ≤ w.heap.size := htop
        have hTw : T i ≤ w1.heap.size := by have := hbw.size; omega
        obtain ⟨hk2, hkf⟩ := hk2
        have Hrow := Lib.hid hrow
        have HR9 := Lib.hid r9
        have H1 := Lib.hid (wr_one1 (x := ⟨off, b, false⟩) o9)
        have Hkf := Lib.hid hkf
        have hmx : l2 + 1 ≤ 5001 := by omega
        clear d7 d8 hF2 hws2 hfst2 hX1 hR1 hd0 hd1 hrow r9 o9 hkf hbw
        change wpList _ _ _ (_ :: _ :: _ :: _ :: []) _ _
        refine wpList_app (n := l2) (m := 1) rfl (.tmp 29) (.tmp 34) 67 rfl elemWi (T i) rfl Hrow.out (by rfl) HR9.out H1.out (by unfold maxLen; omega) (by omega) hTw ?_
        intro v4 w4 hown4 hgr4 hv4
        clear hv4
        obtain ⟨a4, c4, e4, _⟩ := own_form hown4
        subst e4
        have hbk : w4.heap[g]? = w1.heap[g]? := hgr4.block g hgw (by
          rcases own_ne HF2.out.row Hrow.out (by decide) with e | e
          · cases e
          · exact e)
        have q2 := (World.cell?_of_block (a := ⟨g, i * 3 + 2, none⟩) hbk).trans hk2
        have qf := (World.frozen?_of_block (a := ⟨g, i * 3 + 2, none⟩) hbk).trans (Hkf.out _)
        have Hown4 := Lib.hid hown4
        have Hgr4 := Lib.hid hgr4
        clear hown4 hgr4 hbk hk2
        go_wp2_with fail
        have hwr := HF2.out.wrote (b0 := w.heap.size) hie rfl (.inl hTb) HD2.out.1 HD2.out.2 Hws2.out Hfst2.out (x := ⟨off, b, false⟩) (dv := dv) HO9.out (by omega) (m := l2 + 1) (by rw [Hwl.out]) Hown4.out (by rw [HP.out]; exact Hgr4.out)
        have hX4 := (HXR.out.1.of_block (Hgr4.out.block w.heap.size HXR.out.1.lt (fun e => HD2.out.1.ne Hrow.out (by decide) e.symm))).set_ne (p := ⟨g, i * 3 + 2, none⟩) (by dsimp only; omega) (.slice a4 (l2 + 1) c4)
        have hR4 := (HXR.out.2.of_block (Hgr4.out.block (w.heap.size + 1) HXR.out.2.lt (fun e => HD2.out.2.ne Hrow.out (by decide) e.symm))).set_ne (p := ⟨g, i * 3 + 2, none⟩) (by dsimp only; omega) (.slice a4 (l2 + 1) c4)
        have hB4 := (Below.grown (HBw.out.mono hB) Hgr4.out (by omega) (fun k hk => by
          have h1 := (Hrow.out.lt k hk).1
          have h2 := HF2.out.base
          have h3 := HF2.out.mono 0 i (by omega) (by omega)
          omega)).setCell (p := ⟨g, i * 3 + 2, none⟩) (by dsimp only; omega) (.slice a4 (l2 + 1) c4)
        have hs4 := Hgr4.out.size
        have hs5 := HBw.out.size
        have hs6 := hb.size
        go_meet
        case rel => exact ⟨Lib.hid (by
          have := hwr.1
          rw [Hes.out, HP.out] at this
          dsimp only at this
          rw [← Hat.out, hnm] at this
          rw [← Hat.out]
          exact this), Lib.hid hX4, Lib.hid hR4, Lib.hid hB4, by simp; omega⟩
      · intro f w1 hb hA _
        have d1 : f 1 = .pointer (some ⟨g, i * 3, none⟩) := hA 1 (show 1 < 10 by decide) (show 1 ≠ 0 by decide)
        have d2 : f 2 = .pointer (some ⟨g, i * 3, none⟩) := hA 2 (show 2 < 10 by decide) (show 2 ≠ 0 by decide)
        have d3 : f 3 = .pointer (some ⟨g, i * 3 + 2, none⟩) := hA 3 (show 3 < 10 by decide) (show 3 ≠ 0 by decide)
        have d4 : f 4 = .slice pa l2 pc := hA 4 (show 4 < 10 by decide) (show 4 ≠ 0 by decide)
        have d5 : f 5 = .int .i64 off := hA 5 (show 5 < 10 by decide) (show 5 ≠ 0 by decide)
        have d6 : f 6 = .slice ba bl bc := hA 6 (show 6 < 10 by decide) (show 6 ≠ 0 by decide)
        have d7 := hA 7 (show 7 < 10 by decide) (show 7 ≠ 0 by decide)
        have d8 := hA 8 (show 8 < 10 by decide) (show 8 ≠ 0 by decide)
        have d9 := hA 9 (show 9 < 10 by decide) (show 9 ≠ 0 by decide)
        clear hA
        try dsimp only at *
        rw [d1]
        rw [d2]
        rw [d3]
        rw [d4]
        rw [d5]
        rw [d6]
        clear d1 d2 d3 d4 d5 d6
        obtain ⟨dv, r9, o9⟩ := d9
        have hF2 := HF.out.below hb
        have hbw := bstep HW0.out hb
        have hrow : w1.ownsRow (T i) 95 3 (.slice pa l2 pc) l2 (ws.flatMap wrC) := by
          have := own_keep Hws.out.row hbw
          rw [Hwl.out] at this
          exact this
        have hws2 : OwnWs w1 (T i) (es.getD i fe0).2.2 ws := by
          rw [HP.out]
          exact ⟨own_keep Hws.out.row hbw, fun q hq => (Hws.out.dat q hq).keep hbw⟩
        have hfst2 : ws.map (·.1) = (es.getD i fe0).1.pend := by rw [HP.out]; exact Hwf.out
        have hk2 := HK.out w1 hb
        have hX1 := X.out.below hb
        have hR1 := Rz.out.below hb
        have hd0 := HD0.out.below hb
        have hd1 := HD1.out.below hb
        have hgw : g < w1.heap.size := by have := hbw.size; omega
        have HF2 := Lib.hid hF2
        have Hws2 := Lib.hid hws2
        have Hfst2 := Lib.hid hfst2
        have HO9 := Lib.hid o9
        have HD2 := Lib.hid (And.intro hd0 hd1)
        have HXR := Lib.hid (And.intro hX1 hR1)
        have HBw := Lib.hid hbw
        have hTb : T es.length ≤ w.heap.size := htop
        have hTw : T i ≤ w1.heap.size := by have := hbw.size; omega
        obtain ⟨hk2, hkf⟩ := hk2
        have Hrow := Lib.hid hrow
        have HR9 := Lib.hid r9
        have H1 := Lib.hid (wr_one1 (x := ⟨off, b, false⟩) o9)
        have Hkf := Lib.hid hkf
        have hmx : l2 + 1 ≤ 5001 := by omega
        clear d7 d8 hF2 hws2 hfst2 hX1 hR1 hd0 hd1 hrow r9 o9 hkf hbw
        change wpList _ _ _ (_ :: _ :: _ :: _ :: _ :: []) _ _
        refine wpList_app (n := l2) (m := 1) rfl (.tmp 29) (.tmp 34) 67 rfl elemWi (T i) rfl Hrow.out (by rfl) HR9.out H1.out (by unfold maxLen; omega) (by omega) hTw ?_
        intro v4 w4 hown4 hgr4 hv4
        clear hv4
        obtain ⟨a4, c4, e4, _⟩ := own_form hown4
        subst e4
        have hbk : w4.heap[g]? = w1.heap[g]? := hgr4.block g hgw (by
          rcases own_ne HF2.out.row Hrow.out (by decide) with e | e
          · cases e
          · exact e)
        have q2 := (World.cell?_of_block (a := ⟨g, i * 3 + 2, none⟩) hbk).trans hk2
        have qf := (World.frozen?_of_block (a := ⟨g, i * 3 + 2, none⟩) hbk).trans (Hkf.out _)
        have Hown4 := Lib.hid hown4
        have Hgr4 := Lib.hid hgr4
        clear hown4 hgr4 hbk hk2
        go_wp2_with fail
        have hwr := HF2.out.wrote (b0 := w.heap.size) hie rfl (.inl hTb) HD2.out.1 HD2.out.2 Hws2.out Hfst2.out (x := ⟨off, b, false⟩) (dv := dv) HO9.out (by omega) (m := l2 + 1) (by rw [Hwl.out]) Hown4.out (by rw [HP.out]; exact Hgr4.out)
        have hX4 := (HXR.out.1.of_block (Hgr4.out.block w.heap.size HXR.out.1.lt (fun e => HD2.out.1.ne Hrow.out (by decide) e.symm))).set_ne (p := ⟨g, i * 3 + 2, none⟩) (by dsimp only; omega) (.slice a4 (l2 + 1) c4)
        have hR4 := (HXR.out.2.of_block (Hgr4.out.block (w.heap.size + 1) HXR.out.2.lt (fun e => HD2.out.2.ne Hrow.out (by decide) e.symm))).set_ne (p := ⟨g, i * 3 + 2, none⟩) (by dsimp only; omega) (.slice a4 (l2 + 1) c4)
        have hB4 := (Below.grown (HBw.out.mono hB) Hgr4.out (by omega) (fun k hk => by
          have h1 := (Hrow.out.lt k hk).1
          have h2 := HF2.out.base
          have h3 := HF2.out.mono 0 i (by omega) (by omega)
          omega)).setCell (p := ⟨g, i * 3 + 2, none⟩) (by dsimp only; omega) (.slice a4 (l2 + 1) c4)
        have hs4 := Hgr4.out.size
        have hs5 := HBw.out.size
        have hs6 := hb.size
        go_meet
        case rel => exact ⟨Lib.hid (by
          have := hwr.1
          rw [Hes.out, HP.out] at this
          dsimp only at this
          rw [← Hat.out, hnm] at this
          rw [← Hat.out]
          exact this), Lib.hid hX4, Lib.hid hR4, Lib.hid hB4, by simp; omega⟩
    case rest =>
      obtain ⟨St3, X3, R3, HB3, hs3⟩ := hcut
      generalize hwc : wc = W5 at *
      clear hwc X Rz HF HD0 HD1 HW0 hBB HK HBc Hown Hrd HTop
      have Hset := Lib.hid (show atN (fl.set i ⟨nm, pf0.base, pf0.pend ++ [⟨off, b, false⟩]⟩) i = ⟨nm, pf0.base, pf0.pend ++ [⟨off, b, false⟩]⟩ from atN_set _ (by rw [← Hes.out, List.length_map]; exact hie))
      obtain ⟨gb, go, ub, up, eg, hrb, hrp, k0, k1, k2⟩ := St3.out.rd.at hie
      injection eg with eg
      injection eg with eg eg2
      subst eg eg2
      rw [Hset.out] at hrb hrp k0
      rw [Nat.zero_add] at k0 k1 k2
      dsimp only at hrb hrp k0
      have hL2 := HL2.out W5 ub up (by rw [Hat.out]; exact hrb) (by rw [Hat.out]; exact hrp)
      obtain ⟨qa, qc, rfl, _⟩ := hrb.shape0
      obtain ⟨qb, qd, rfl, _⟩ := hrp.shape
      have HTo := Lib.hid (fun hle W h => HTot.out hle W (.slice (some ⟨g, 0, none⟩) es.length cap) h)
      rw [Hat.out] at HTo
      clear hrb hrp HL2 HTot
      generalize (pf0.pend ++ [(⟨off, b, false⟩ : Wr)]).length = pl3 at *
      generalize pf0.base.length = pl4 at *
      go_wp2_with fail
      refine hL2.mono ?_
      rintro e W6 ⟨rfl, hb6⟩
      replace HB3 := Lib.hid (HB3.out.trans (hb6.mono (Nat.le_trans hB (by omega))))
      replace X3 := Lib.hid (X3.out.below hb6)
      replace R3 := Lib.hid (R3.out.below hb6)
      replace St3 := Lib.hid (St3.out.keep (.below hb6))
      replace hs3 := Nat.le_trans hs3 hb6.size
      clear hb6 hL2 k0 k1 k2
      have HTt := Lib.hid (fun hle W (h : Below W6.heap.size W6 W) => HTo.out hle W (St3.out.keep (.below h)).rd)
      generalize hnow : max was (off + (bl : Int)) = nw at *
      have Hnow := Lib.hid hnow
      clear HTo
      by_cases hm : 1048576 < off + (bl : Int)
      · have HE := Lib.hid (show R = (dk0, 9) by rw [HX.out, if_pos hm])
        have i2 : (1048576 : Int) < nw := by omega
        have b1 : decide ((1048576 : Int) < nw) = true := decide_eq_true i2
        clear HTt hnow
        have x0 := X3.out.c0
        have x1 := X3.out.c1
        have x2 := X3.out.c2
        have e0 := cell_by x0
        have e1 := cell_by x1
        have e2 := cell_by x2
        clear x0 x1 x2
        go_wp2_with fail
        refine wp_region_below (by kernel_rfl) (by kernel_rfl) ?_
        repeat (go_big_quiet_step (fail))
        refine wpQuiet_nil ?_
        intro _ hw'
        obtain ⟨u, hw'⟩ := hw'
        subst hw'
        have hub := u.h
        have HB4 := Lib.hid (HB3.out.trans (hub.mono (Nat.le_trans hB (by omega))))
        replace X3 := Lib.hid (X3.out.below hub)
        replace R3 := Lib.hid (R3.out.below hub)
        replace St3 := Lib.hid (St3.out.keep (.below hub))
        clear hub e0 e1 e2
        generalize u.w' = W7 at *
        have r0 := R3.out.c0
        have r1 := R3.out.c1
        have r2 := R3.out.c2
        have rf := R3.out.f
        go_wp2_with fail
        exact bodyPost_ret (v := .tuple #[diskVal 0 0 nilS, .int .i64 9]) (by simp [results, Tryd.results52, go_sem, r0, r1, r2]) rfl ⟨⟨_, by rw [HE.out], by rw [HE.out]; exact stD_zero _ _⟩, HB4.out.all3 (by omega) _ _ _⟩
      · replace HTt := Lib.hid (HTt.out (by omega))
        have i2 : ¬ (1048576 : Int) < nw := by omega
        have b1 : decide ((1048576 : Int) < nw) = false := decide_eq_false i2
        by_cases hw : was < nw
        · by_cases hc : 0 < c
          · by_cases ht : c < tot + (nw - was)
            · have HE := Lib.hid (show R = (dk0, 9) by rw [HX.out, if_neg hm, if_pos ⟨hc, hw, ht⟩])
              have b2 : decide (was < nw) = true := decide_eq_true hw
              have b3 : decide (0 < c) = true := decide_eq_true hc
              have b4 : decide (c < tot + (nw - was)) = true := decide_eq_true ht
              clear hnow
              have x0 := X3.out.c0
              have x1 := X3.out.c1
              have x2 := X3.out.c2
              have e0 := cell_by x0
              have e1 := cell_by x1
              have e2 := cell_by x2
              clear x0 x1 x2
              go_wp2_with fail
              refine wp_region_below (by kernel_rfl) (by kernel_rfl) ?_
              repeat (go_big_quiet_step (with_reducible exact calls_by (HTt.out _ (BelowBy.h _))))
              refine wpQuiet_nil ?_
              intro _ hw'
              obtain ⟨u, hw'⟩ := hw'
              subst hw'
              have hub := u.h
              have HB4 := Lib.hid (HB3.out.trans (hub.mono (Nat.le_trans hB (by omega))))
              replace X3 := Lib.hid (X3.out.below hub)
              replace R3 := Lib.hid (R3.out.below hub)
              replace St3 := Lib.hid (St3.out.keep (.below hub))
              clear hub e0 e1 e2
              generalize u.w' = W7 at *
              have r0 := R3.out.c0
              have r1 := R3.out.c1
              have r2 := R3.out.c2
              have rf := R3.out.f
              go_wp2_with fail
              exact bodyPost_ret (v := .tuple #[diskVal 0 0 nilS, .int .i64 9]) (by simp [results, Tryd.results52, go_sem, r0, r1, r2]) rfl ⟨⟨_, by rw [HE.out], by rw [HE.out]; exact stD_zero _ _⟩, HB4.out.all3 (by omega) _ _ _⟩
            · have HE := Lib.hid (show R = (⟨c, lf, fl.set i ⟨nm, pf0.base, pf0.pend ++ [⟨off, b, false⟩]⟩⟩, 0) by rw [HX.out, if_neg hm, if_neg (fun h => ht h.2.2), Hat.out])
              have b2 : decide (was < nw) = true := decide_eq_true hw
              have b3 : decide (0 < c) = true := decide_eq_true hc
              have b4 : decide (c < tot + (nw - was)) = false := decide_eq_false ht
              clear hnow
              have x0 := X3.out.c0
              have x1 := X3.out.c1
              have x2 := X3.out.c2
              have e0 := cell_by x0
              have e1 := cell_by x1
              have e2 := cell_by x2
              clear x0 x1 x2
              go_wp2_with fail
              refine wp_region_below (by kernel_rfl) (by kernel_rfl) ?_
              repeat (go_big_quiet_step (with_reducible exact calls_by (HTt.out _ (BelowBy.h _))))
              refine wpQuiet_nil ?_
              intro _ hw'
              obtain ⟨u, hw'⟩ := hw'
              subst hw'
              have hub := u.h
              have HB4 := Lib.hid (HB3.out.trans (hub.mono (Nat.le_trans hB (by omega))))
              replace X3 := Lib.hid (X3.out.below hub)
              replace R3 := Lib.hid (R3.out.below hub)
              replace St3 := Lib.hid (St3.out.keep (.below hub))
              clear hub e0 e1 e2
              generalize u.w' = W7 at *
              have x0 := X3.out.c0
              have x1 := X3.out.c1
              have x2 := X3.out.c2
              have r0 := R3.out.c0
              have r1 := R3.out.c1
              have r2 := R3.out.c2
              have rf := R3.out.f
              have hrd := fun W' (h' : KeepB B _ W') => St3.out W' ((KeepX.all1 (.int .i64 c) (.int .i64 lf) (.slice (some ⟨g, 0, none⟩) es.length cap)).trans h'.x)
              have HRd := Lib.hid (show StD B _ (diskVal c lf (.slice (some ⟨g, 0, none⟩) es.length cap)) ⟨c, lf, fl.set i ⟨nm, pf0.base, pf0.pend ++ [⟨off, b, false⟩]⟩⟩ from fun W' h' => ⟨_, rfl, hrd W' h'⟩)
              clear hrd
              go_wp2_with fail
              exact bodyPost_ret (v := .tuple #[diskVal c lf (.slice (some ⟨g, 0, none⟩) es.length cap), .int .i64 0]) (by simp [results, Tryd.results52, go_sem, r0, r1, r2]) rfl ⟨⟨_, by rw [HE.out], by rw [HE.out]; exact HRd.out⟩, HB4.out.all3 (by omega) _ _ _⟩
          · have HE := Lib.hid (show R = (⟨c, lf, fl.set i ⟨nm, pf0.base, pf0.pend ++ [⟨off, b, false⟩]⟩⟩, 0) by rw [HX.out, if_neg hm, if_neg (fun h => hc h.1), Hat.out])
            have b2 : decide (was < nw) = true := decide_eq_true hw
            have b3 : decide (0 < c) = false := decide_eq_false hc
            clear hnow
            have x0 := X3.out.c0
            have x1 := X3.out.c1
            have x2 := X3.out.c2
            have e0 := cell_by x0
            have e1 := cell_by x1
            have e2 := cell_by x2
            clear x0 x1 x2
            go_wp2_with fail
            refine wp_region_below (by kernel_rfl) (by kernel_rfl) ?_
            repeat (go_big_quiet_step (with_reducible exact calls_by (HTt.out _ (BelowBy.h _))))
            refine wpQuiet_nil ?_
            intro _ hw'
            obtain ⟨u, hw'⟩ := hw'
            subst hw'
            have hub := u.h
            have HB4 := Lib.hid (HB3.out.trans (hub.mono (Nat.le_trans hB (by omega))))
            replace X3 := Lib.hid (X3.out.below hub)
            replace R3 := Lib.hid (R3.out.below hub)
            replace St3 := Lib.hid (St3.out.keep (.below hub))
            clear hub e0 e1 e2
            generalize u.w' = W7 at *
            have x0 := X3.out.c0
            have x1 := X3.out.c1
            have x2 := X3.out.c2
            have r0 := R3.out.c0
            have r1 := R3.out.c1
            have r2 := R3.out.c2
            have rf := R3.out.f
            have hrd := fun W' (h' : KeepB B _ W') => St3.out W' ((KeepX.all1 (.int .i64 c) (.int .i64 lf) (.slice (some ⟨g, 0, none⟩) es.length cap)).trans h'.x)
            have HRd := Lib.hid (show StD B _ (diskVal c lf (.slice (some ⟨g, 0, none⟩) es.length cap)) ⟨c, lf, fl.set i ⟨nm, pf0.base, pf0.pend ++ [⟨off, b, false⟩]⟩⟩ from fun W' h' => ⟨_, rfl, hrd W' h'⟩)
            clear hrd
            go_wp2_with fail
            exact bodyPost_ret (v := .tuple #[diskVal c lf (.slice (some ⟨g, 0, none⟩) es.length cap), .int .i64 0]) (by simp [results, Tryd.results52, go_sem, r0, r1, r2]) rfl ⟨⟨_, by rw [HE.out], by rw [HE.out]; exact HRd.out⟩, HB4.out.all3 (by omega) _ _ _⟩
        · have HE := Lib.hid (show R = (⟨c, lf, fl.set i ⟨nm, pf0.base, pf0.pend ++ [⟨off, b, false⟩]⟩⟩, 0) by rw [HX.out, if_neg hm, if_neg (fun h => hw h.2.1), Hat.out])
          have b2 : decide (was < nw) = false := decide_eq_false hw
          clear hnow
          have x0 := X3.out.c0
          have x1 := X3.out.c1
          have x2 := X3.out.c2
          have e0 := cell_by x0
          have e1 := cell_by x1
          have e2 := cell_by x2
          clear x0 x1 x2
          go_wp2_with fail
          refine wp_region_below (by kernel_rfl) (by kernel_rfl) ?_
          repeat (go_big_quiet_step (with_reducible exact calls_by (HTt.out _ (BelowBy.h _))))
          refine wpQuiet_nil ?_
          intro _ hw'
          obtain ⟨u, hw'⟩ := hw'
          subst hw'
          have hub := u.h
          have HB4 := Lib.hid (HB3.out.trans (hub.mono (Nat.le_trans hB (by omega))))
          replace X3 := Lib.hid (X3.out.below hub)
          replace R3 := Lib.hid (R3.out.below hub)
          replace St3 := Lib.hid (St3.out.keep (.below hub))
          clear hub e0 e1 e2
          generalize u.w' = W7 at *
          have x0 := X3.out.c0
          have x1 := X3.out.c1
          have x2 := X3.out.c2
          have r0 := R3.out.c0
          have r1 := R3.out.c1
          have r2 := R3.out.c2
          have rf := R3.out.f
          have hrd := fun W' (h' : KeepB B _ W') => St3.out W' ((KeepX.all1 (.int .i64 c) (.int .i64 lf) (.slice (some ⟨g, 0, none⟩) es.length cap)).trans h'.x)
          have HRd := Lib.hid (show StD B _ (diskVal c lf (.slice (some ⟨g, 0, none⟩) es.length cap)) ⟨c, lf, fl.set i ⟨nm, pf0.base, pf0.pend ++ [⟨off, b, false⟩]⟩⟩ from fun W' h' => ⟨_, rfl, hrd W' h'⟩)
          clear hrd
          go_wp2_with fail
          exact bodyPost_ret (v := .tuple #[diskVal c lf (.slice (some ⟨g, 0, none⟩) es.length cap), .int .i64 0]) (by simp [results, Tryd.results52, go_sem, r0, r1, r2]) rfl ⟨⟨_, by rw [HE.out], by rw [HE.out]; exact HRd.out⟩, HB4.out.all3 (by omega) _ _ _⟩
end Go.Proofs.YtkabcpmnbjllcaaDoor
