/- Flip of the program: plain facts, the walk. Printed by mkDkf.py. -/
import Derived.Test.YtkabcpmnbjllcaaDoorYu
import Derived.Laws.BitsAllLaws
namespace Go.Proofs.YtkabcpmnbjllcaaDoor
open Go.RowKit

theorem flip_arg {d : Dk} {s : List UInt8} {bit : Int} (h : (validD d && nameB s) = false) : flipD d s bit = (dk0, 1) := by unfold flipD; rw [if_pos (by simp [h])]
theorem flip_none {d : Dk} {s : List UInt8} {bit : Int} (h : (validD d && nameB s) = true) (h1 : hasN d.files s = false) : flipD d s bit = (dk0, 6) := by unfold flipD; rw [if_neg (by simp [h]), if_pos (by simp [h1])]
theorem flip_state {d : Dk} {s : List UInt8} {bit : Int} (h : (validD d && nameB s) = true) (h1 : hasN d.files s = true) (h2 : (atN d.files (lowN d.files s)).pend ≠ []) : flipD d s bit = (dk0, 12) := by
  unfold flipD; rw [if_neg (by simp [h]), if_neg (by simp [h1])]; dsimp only; rw [if_pos h2]
theorem flip_range {d : Dk} {s : List UInt8} {bit : Int} (h : (validD d && nameB s) = true) (h1 : hasN d.files s = true) (h2 : (atN d.files (lowN d.files s)).pend = []) (h3 : bit < 0 ∨ ((atN d.files (lowN d.files s)).base.length : Int) ≤ bit / 8) : flipD d s bit = (dk0, 2) := by
  unfold flipD; rw [if_neg (by simp [h]), if_neg (by simp [h1])]; dsimp only; rw [if_neg (by simpa using h2), if_pos h3]
theorem flip_yes {d : Dk} {s : List UInt8} {bit : Nat} (h : (validD d && nameB s) = true) (h1 : hasN d.files s = true) (h2 : (atN d.files (lowN d.files s)).pend = []) (h3 : bit / 8 < (atN d.files (lowN d.files s)).base.length) :
    flipD d s (bit : Int) = (⟨d.cap, d.left, d.files.set (lowN d.files s) ⟨(atN d.files (lowN d.files s)).name, xorAt (atN d.files (lowN d.files s)).base (bit / 8) (bit % 8), []⟩⟩, 0) := by
  unfold flipD
  rw [if_neg (by simp [h]), if_neg (by simp [h1])]
  dsimp only
  rw [if_neg (by simpa using h2), if_neg (by omega), h2]
  have e1 : ((bit : Int) / 8).toNat = bit / 8 := by omega
  have e2 : ((bit : Int) % 8).toNat = bit % 8 := by omega
  rw [e1, e2]
theorem flip_yes' {d : Dk} {s : List UInt8} {bit : Int} (bt : Nat) (hbt : bit = (bt : Int)) (h : (validD d && nameB s) = true) (h1 : hasN d.files s = true) (h2 : (atN d.files (lowN d.files s)).pend = []) (h3 : bt / 8 < (atN d.files (lowN d.files s)).base.length) :
    flipD d s bit = (⟨d.cap, d.left, d.files.set (lowN d.files s) ⟨(atN d.files (lowN d.files s)).name, xorAt (atN d.files (lowN d.files s)).base (bt / 8) (bt % 8), []⟩⟩, 0) := by
  rw [hbt]; exact flip_yes h h1 h2 h3
theorem RdW.any {w w' : World} {v : Value} (h : RdW w v []) : RdW w' v [] := by
  obtain ⟨es, e, h1, _⟩ := h
  have e2 : es = [] := by simpa using e
  subst e2
  obtain ⟨hf, h0, a, cap, h2, h3, h4, h5, h6⟩ := h1
  exact ⟨[], rfl, ⟨hf, h0, a, cap, h2, h3, h4, h5, fun hp => by simp at hp⟩, fun _ h => by cases h⟩
/-- A byte of file i has changed. -/
theorem OwnFs.flipped {W : World} {B b0 g gb n cap bl bc i j : Nat} {es : List FE} {T : Nat → Nat} (h : OwnFs W B (.slice (some ⟨g, 0, none⟩) n cap) es T es.length) (hi : i < es.length) (hn : n = es.length) (hb0 : b0 + 2 ≤ B) (hd0 : BlkD W b0) (hd1 : BlkD W (b0 + 1))
    (hbv : (es.getD i fe0).2.1 = .slice (some ⟨gb, 0, none⟩) bl bc) (hp : (es.getD i fe0).1.pend = []) (x : UInt8) :
    StF (W.setCell ⟨gb, j, none⟩ (byteV x)) b0 B (.slice (some ⟨g, 0, none⟩) n cap) ((es.map (·.1)).set i ⟨(es.getD i fe0).1.name, (es.getD i fe0).1.base.set j x, []⟩) := by
  subst hn
  have hgB := (h.row.lt g rfl).1
  have hT0 := h.mono 0 i (Nat.zero_le _) (by omega)
  have hT1 := h.mono (i + 1) es.length (by omega) (Nat.le_refl _)
  have hBT := h.base
  have htop := h.top
  have hlow := h.low g rfl
  have hU : OwnU W (T i) (.slice (some ⟨gb, 0, none⟩) bl bc) (es.getD i fe0).1.base := hbv ▸ (h.fil i hi).1.base
  obtain rfl : bl = (es.getD i fe0).1.base.length := by
    obtain ⟨_, _, e, _⟩ := hU.form
    injection e
  have hgb0 : T i ≤ gb := (World.ownsRow.lt hU gb rfl).1
  have hgb1 : gb < T (i + 1) := (h.cap i hi).1 gb (by rw [hbv]; rfl)
  have hU2 := (World.ownsRow.stored hU j (byteV x)).1
  have blk : ∀ b, BlkD W b → BlkD (W.setCell ⟨gb, j, none⟩ (byteV x)) b := fun b hb => hb.set gb j (byteV x)
  have hr2 := set_kept h.row hU (by decide) (i := j) (byteV x)
  intro W' hk
  have hr := hk.own hr2 (Nat.le_refl _) (blk _ hd0) (blk _ hd1) (by decide)
  have ho := hk.own hU2 (by omega) (blk _ hd0) (blk _ hd1) (by decide)
  have e1 : es.flatMap filC = (es.set i (⟨(es.getD i fe0).1.name, (es.getD i fe0).1.base.set j x, []⟩, (es.getD i fe0).2.1, (es.getD i fe0).2.2)).flatMap filC := by
    have e2 := flat_set3 filC (fun _ => rfl) es i 0 (.string (strB (es.getD i fe0).1.name)) (⟨(es.getD i fe0).1.name, (es.getD i fe0).1.base.set j x, []⟩, (es.getD i fe0).2.1, (es.getD i fe0).2.2) hi (by decide) (fun y hy => by rw [List.getD_eq_getElem?_getD, hy]; rfl)
    have e3 := flat_set3 filC (fun _ => rfl) es i 0 (.string (strB (es.getD i fe0).1.name)) (es.getD i fe0) hi (by decide) (fun y hy => by rw [List.getD_eq_getElem?_getD, hy]; rfl)
    have e4 : es.set i (es.getD i fe0) = es := by
      rw [List.getD_eq_getElem?_getD, List.getElem?_eq_getElem hi]; exact List.set_getElem_self hi
    rw [e4] at e3
    rw [← e2, e3]
  rw [e1] at hr
  refine h.changed hi rfl (fun b hb0' hb h1 h2 => ?_) (p := (⟨(es.getD i fe0).1.name, (es.getD i fe0).1.base.set j x, []⟩, (es.getD i fe0).2.1, (es.getD i fe0).2.2)) hr ?_ ?_
  · have hsz : (W.setCell ⟨gb, j, none⟩ (byteV x)).heap.size = W.heap.size := by simp
    rw [hk.same b (by omega) (by rw [hsz]; omega) (by omega) (by omega), Below.heap_setCell W ⟨gb, j, none⟩ _ b (by dsimp only; intro e; subst e; exact h1 ⟨hgb0, hgb1⟩)]
  · dsimp only
    rw [hbv]
    refine OwnU.rd (base := T i) ?_
    refine OwnU.of ho ?_
    rw [List.map_set]
  · have := ((h.fil i hi).1.rd).2
    dsimp only at this ⊢
    rw [hp] at this
    exact this.any
set_option maxRecDepth 100000 in
set_option maxHeartbeats 6400000 in
theorem flip_any (d : Dk) (s : List UInt8) (bit : Int) (fv : Value) (w : World) (h : RdF w fv d.files) (hL : LiteD d) (hs : s.length ≤ 9223372036854775807) :
    Calls Tryd.prog 66 #[diskVal d.cap d.left fv, .string (strB s), .int .i64 bit] w (WrRes w.heap.size w (flipD d s bit)) := by
  obtain ⟨a, cap, rfl, h1, h2, _⟩ := h.shape
  have HV := Lib.hid (fun W (hW : Below w.heap.size w W) => dvalid_any d.cap d.left _ d.files W (h.below hW) hL.fs)
  have HVn := Lib.hid (fun W => vname_any (strB s) W (by rw [strB_size]; exact hs))
  change Hid (∀ W, Calls _ _ _ W fun e w' => e = .returned (.bool (nameB s)) ∧ _) at HVn
  have HF := Lib.hid (fun (hv : VldD d) W (hW : Below w.heap.size w W) => find_any d.cap d.left _ d.files s W (h.below hW) hv.asc (by have := hL.len; omega))
  have HC := Lib.hid (fun W (hW : Below w.heap.size w W) => dclone_any d.cap d.left _ d.files W (h.below hW) hL.fs (by have := hL.len; omega))
  have E1 := Lib.hid (fun e => flip_arg (d := d) (s := s) (bit := bit) e)
  have E6 := Lib.hid (fun e e' => flip_none (d := d) (s := s) (bit := bit) e e')
  have E12 := Lib.hid (fun e e' e2 => flip_state (d := d) (s := s) (bit := bit) e e' e2)
  have E2 := Lib.hid (fun e e' e2 e3 => flip_range (d := d) (s := s) (bit := bit) e e' e2 e3)
  have E0 := Lib.hid (fun (bt : Nat) (hbt : bit = (bt : Int)) e e' e2 e3 => flip_yes' (d := d) (s := s) (bit := bit) bt hbt e e' e2 e3)
  have HVd := Lib.hid (fun e => (validD_iff d).1 e)
  have HHas := Lib.hid (fun (hv : VldD d) => (hasN_iff hv.asc s).1)
  have HSz := Lib.hid (fun (hv : VldD d) i hi => (lenF_bounds (sized_of_vld hv (i := i) hi)))
  have HBs := Lib.hid (fun (hv : VldD d) i (hi : i < d.files.length) => ((sizedF_iff _).1 (sized_of_vld hv (i := i) hi)).1)
  have HR := Lib.hid h
  have Hfl := Lib.hid hL.len
  clear h hL
  generalize flipD d s bit = RS at *
  have hqv : validD d = true ∨ validD d = false := by cases validD d <;> simp
  have hqn : nameB s = true ∨ nameB s = false := by cases nameB s <;> simp
  have hqh : hasN d.files s = true ∨ hasN d.files s = false := by cases hasN d.files s <;> simp
  have hvd : ∀ vd, validD d = vd → validD d = vd := fun _ h => h
  generalize hVV : validD d = vd at *
  have HVV := Lib.hid hVV
  generalize nameB s = vn at *
  generalize hasN d.files s = hn at *
  generalize lowN d.files s = lo at *
  generalize hnn : d.files.length = n at *
  have Hn := Lib.hid hnn
  clear hnn hVV hvd
  obtain ⟨c, lf, fl⟩ := d
  dsimp only at *
  have HB0 := Lib.hid (show Below w.heap.size w ((w.alloc (.cells #[.int .i64 c, .int .i64 lf, .slice a n cap] 33)).alloc (.cells #[.int .i64 0, .int .i64 0, .slice none 0 0] 33)) from ((Below.refl _ _).alloc (Nat.le_refl _) _).alloc (by simp) _)
  have X := Lib.hid (show BoxD ((w.alloc (.cells #[.int .i64 c, .int .i64 lf, .slice a n cap] 33)).alloc (.cells #[.int .i64 0, .int .i64 0, .slice none 0 0] 33)) w.heap.size c lf (.slice a n cap) from ⟨by simp, by simp, by simp, fun i => by simp⟩)
  have R := Lib.hid (show BoxD ((w.alloc (.cells #[.int .i64 c, .int .i64 lf, .slice a n cap] 33)).alloc (.cells #[.int .i64 0, .int .i64 0, .slice none 0 0] 33)) (w.heap.size + 1) 0 0 (.slice none 0 0) from ⟨by simp, by simp, by simp, fun i => by simp⟩)
  have HD := Lib.hid (twoBlk w (.cells #[.int .i64 c, .int .i64 lf, .slice a n cap] 33) (.cells #[.int .i64 0, .int .i64 0, .slice none 0 0] 33) ⟨_, rfl⟩ ⟨_, rfl⟩)
  have hBB : w.heap.size + 2 ≤ ((w.alloc (.cells #[.int .i64 c, .int .i64 lf, .slice a n cap] 33)).alloc (.cells #[.int .i64 0, .int .i64 0, .slice none 0 0] 33)).heap.size := by simp
  go_enter Tryd.func66, Tryd.ntmps66
  go_upto_region 1 with fail
  generalize (w.alloc (.cells #[.int .i64 c, .int .i64 lf, .slice a n cap] 33)).alloc (.cells #[.int .i64 0, .int .i64 0, .slice none 0 0] 33) = W0 at *
  have x0 := X.out.c0
  have x1 := X.out.c1
  have x2 := X.out.c2
  have hBB0 := hBB
  clear hBB
  rcases hqv with hqv | hqv
  · subst hqv
    have hv := HVd.out rfl
    have HVl := Lib.hid hv
    go_wp2_with fail
    refine (HV.out W0 HB0.out).mono ?_
    rintro e w1 ⟨rfl, hb1⟩
    replace X := Lib.hid (X.out.below hb1)
    replace R := Lib.hid (R.out.below hb1)
    replace HD := Lib.hid (And.intro (HD.out.1.below hb1) (HD.out.2.below hb1))
    have HB1 := Lib.hid (bstep HB0.out hb1)
    have hBB1 := Nat.le_trans hBB0 hb1.size
    clear hb1 x0 x1 x2 HB0 hBB0
    have x0 := X.out.c0
    have x1 := X.out.c1
    have x2 := X.out.c2
    rcases hqn with hqn | hqn
    · subst hqn
      go_wp2_with fail
      refine (HVn.out w1).mono ?_
      rintro e w2 ⟨rfl, hb2⟩
      replace X := Lib.hid (X.out.below hb2)
      replace R := Lib.hid (R.out.below hb2)
      replace HD := Lib.hid (And.intro (HD.out.1.below hb2) (HD.out.2.below hb2))
      have HB2 := Lib.hid (bstep HB1.out hb2)
      have hBB2 := Nat.le_trans hBB1 hb2.size
      clear hb2 x0 x1 x2 HB1 hBB1
      have x0 := X.out.c0
      have x1 := X.out.c1
      have x2 := X.out.c2
      go_wp2_with fail
      refine (HF.out hv w2 HB2.out).mono ?_
      rintro e w3 ⟨rfl, hb3⟩
      replace X := Lib.hid (X.out.below hb3)
      replace R := Lib.hid (R.out.below hb3)
      replace HD := Lib.hid (And.intro (HD.out.1.below hb3) (HD.out.2.below hb3))
      have HB3 := Lib.hid (bstep HB2.out hb3)
      have hBB3 := Nat.le_trans hBB2 hb3.size
      clear hb3 x0 x1 x2 HB2 hBB2
      have x0 := X.out.c0
      have x1 := X.out.c1
      have x2 := X.out.c2
      rcases hqh with hqh | hqh
      · subst hqh
        obtain ⟨hlo, hnm⟩ := HHas.out hv rfl
        have hfls := Hfl.out
        obtain ⟨b, off, bv, pv, rfl, hb, hp, c0, c1, c2⟩ := (HR.out.below HB3.out).at hlo
        obtain ⟨ba, bc, rfl, _⟩ := hb.shape0
        obtain ⟨pa, pc, rfl, _⟩ := hp.shape
        have i1 : (lo : Int) < (n : Int) := by omega
        have hbs := HBs.out hv lo hlo
        have HAt := Lib.hid (show atN fl lo = atN fl lo from rfl)
        generalize hf : atN fl lo = f at *
        have Hf := Lib.hid hf
        clear hf HAt hb hp hv HVd HHas HSz HBs HF HV HVn E1 E6 hnm
        obtain ⟨nm, base, ws⟩ := f
        dsimp only at *
        by_cases hps : ws = []
        · subst hps
          by_cases hneg : bit < 0
          · have HE := Lib.hid (E2.out rfl rfl rfl (.inl hneg))
            clear E2 E12 E0
            have r0 := R.out.c0
            have r1 := R.out.c1
            have r2 := R.out.c2
            have rf := R.out.f
            go_wp2_with fail
            exact bodyPost_ret (v := .tuple #[diskVal 0 0 nilS, .int .i64 2]) (by simp [results, Tryd.results66, go_sem, r0, r1, r2]) rfl ⟨⟨_, by rw [HE.out], by rw [HE.out]; exact stD_zero _ _⟩, HB3.out.all3 (by omega) _ _ _⟩
          · obtain ⟨bt, rfl⟩ := Int.eq_ofNat_of_zero_le (show 0 ≤ bit by omega)
            by_cases hbig : base.length ≤ bt / 8
            · have HE := Lib.hid (E2.out rfl rfl rfl (.inr (by omega)))
              have i3 : (8 : Int) * (base.length : Int) ≤ (bt : Int) := by omega
              clear E2 E12 E0
              generalize base.length = bl at *
              have r0 := R.out.c0
              have r1 := R.out.c1
              have r2 := R.out.c2
              have rf := R.out.f
              go_wp2_with fail
              exact bodyPost_ret (v := .tuple #[diskVal 0 0 nilS, .int .i64 2]) (by simp [results, Tryd.results66, go_sem, r0, r1, r2]) rfl ⟨⟨_, by rw [HE.out], by rw [HE.out]; exact stD_zero _ _⟩, HB3.out.all3 (by omega) _ _ _⟩
            · have i3 : ¬ (8 : Int) * (base.length : Int) ≤ (bt : Int) := by omega
              have HE := Lib.hid (E0.out bt rfl rfl rfl rfl (by omega))
              clear E2 E12 E0
              go_wp2_with fail
              refine (HC.out w3 HB3.out).mono ?_
              rintro e w4 ⟨v, rfl, ⟨fv, es, T, rfl, hes, hO⟩, hb4⟩
              replace X := Lib.hid (X.out.below hb4)
              replace R := Lib.hid (R.out.below hb4)
              replace HD := Lib.hid (And.intro (HD.out.1.below hb4) (HD.out.2.below hb4))
              have HB4 := Lib.hid (bstep HB3.out hb4)
              have hBB4 := Nat.le_trans hBB3 hb4.size
              clear x0 x1 x2 c0 c1 c2
              have x0 := X.out.c0
              have x1 := X.out.c1
              have x2 := X.out.c2
              have xf := X.out.f
              have hat := hO.row
              obtain ⟨a2, k2, rfl, hk2, hk3, _⟩ := own_form hat
              clear hat
              dsimp only at *
              have HO5 := Lib.hid (((hO.lower (B' := w.heap.size + 2) hBB3 rfl).all_ne (b := w.heap.size) (by omega) (.int .i64 c) (.int .i64 lf) (.slice a2 es.length k2)))
              have X5 := Lib.hid (X.out.all c lf (.slice a2 es.length k2))
              have R5 := Lib.hid (((R.out.set_ne (p := ⟨w.heap.size, 0, none⟩) (by dsimp only; omega) (.int .i64 c)).set_ne (p := ⟨w.heap.size, 1, none⟩) (by dsimp only; omega) (.int .i64 lf)).set_ne (p := ⟨w.heap.size, 2, none⟩) (by dsimp only; omega) (.slice a2 es.length k2))
              have HB5 := Lib.hid (HB4.out.all3 (b := w.heap.size) (Nat.le_refl _) (.int .i64 c) (.int .i64 lf) (.slice a2 es.length k2))
              have HD5 := Lib.hid (And.intro (HD.out.1.all3 w.heap.size (.int .i64 c) (.int .i64 lf) (.slice a2 es.length k2)) (HD.out.2.all3 w.heap.size (.int .i64 c) (.int .i64 lf) (.slice a2 es.length k2)))
              have hs5 : w.heap.size + 2 ≤ (((w4.setCell ⟨w.heap.size, 0, none⟩ (.int .i64 c)).setCell ⟨w.heap.size, 1, none⟩ (.int .i64 lf)).setCell ⟨w.heap.size, 2, none⟩ (.slice a2 es.length k2)).heap.size := by simp; omega
              have Hes := Lib.hid hes
              have hel : es.length = n := by rw [← Hn.out, ← hes, List.length_map]
              have hlo2 : lo < es.length := by rw [hel]; exact hlo
              have i4 : (lo : Int) < (es.length : Int) := by omega
              clear hel
              clear hO hes X R HB4 HD hb4 HB3 hBB3 HC HR
              go_upto_region 11 with fail
              change Code.wp _ _ _ _ (((w4.setCell ⟨w.heap.size, 0, none⟩ (.int .i64 c)).setCell ⟨w.heap.size, 1, none⟩ (.int .i64 lf)).setCell ⟨w.heap.size, 2, none⟩ (.slice a2 es.length k2))
              clear x0 x1 x2 xf
              generalize (((w4.setCell ⟨w.heap.size, 0, none⟩ (.int .i64 c)).setCell ⟨w.heap.size, 1, none⟩ (.int .i64 lf)).setCell ⟨w.heap.size, 2, none⟩ (.slice a2 es.length k2)) = W2 at *
              obtain ⟨g, rfl, hgB, hgl, d0, d1, d2, _⟩ := HO5.out.at hlo2 rfl
              have hfe : (es.getD lo fe0).1 = ⟨nm, base, []⟩ := by
                rw [← Hf.out, ← Hes.out]
                unfold atN
                rw [List.getD_eq_getElem?_getD, List.getD_eq_getElem?_getD, List.getElem?_map, List.getElem?_eq_getElem hlo2]
                rfl
              have hU := (HO5.out.fil lo hlo2).1.base
              rw [hfe] at hU
              dsimp only at hU
              obtain ⟨va, vc, hvE, _⟩ := hU.form
              have hUr : W2.ownsRow (T lo) 5 1 (.slice va base.length vc) base.length (base.map byteV) := hvE ▸ hU
              obtain ⟨gb, rfl, hgb1, hgb2⟩ := own_some hUr (by omega)
              rw [hvE] at d1
              have hjl : bt / 8 < base.length := by omega
              have hby : W2.cell? ⟨gb, bt / 8, none⟩ = some (byteV (base.getD (bt / 8) 0)) := by
                have h := (show RdB W2 (.slice (some ⟨gb, 0, none⟩) base.length vc) base from own_rdl hUr)
                obtain ⟨_, _, e, _, _, _, h6⟩ := h.shape 0
                injection e with e1 e2 e3
                obtain ⟨b', off', e4, hc⟩ := h6 (by omega)
                rw [← e1] at e4
                injection e4 with e4
                injection e4 with e5 e6
                subst e5 e6
                have h := hc (bt / 8) hjl
                rw [Nat.zero_add] at h
                exact h
              have hbf : ∀ i, W2.frozen? ⟨gb, i, none⟩ = false := fun i => own_frozen hUr i
              have hgbB : w.heap.size + 2 ≤ gb := by have := HO5.out.base; have := HO5.out.mono 0 lo (Nat.zero_le _) (by omega); omega
              have HFl := Lib.hid (fun W (hW : Below W2.heap.size W2 W) y => by
                have := (HO5.out.below hW).flipped (j := bt / 8) hlo2 rfl (Nat.le_refl _) (HD5.out.1.below hW) (HD5.out.2.below hW) hvE (by rw [hfe]) y
                rw [hfe, Hes.out] at this
                exact this)
              have q1 : (bt : Int) / 8 = ((bt / 8 : Nat) : Int) := by omega
              have q3 : (bt : Int) % 8 = ((bt % 8 : Nat) : Int) := by omega
              have q2 : (bt : Int).tdiv 8 = ((bt / 8 : Nat) : Int) := by rw [Int.tdiv_eq_ediv_of_nonneg (by omega)]; exact q1
              have q4 : (bt : Int).tmod 8 = ((bt % 8 : Nat) : Int) := by rw [Int.tmod_eq_emod_of_nonneg (by omega)]; exact q3
              have hkk : bt % 8 < 8 := Nat.mod_lt _ (by decide)
              obtain ⟨rv, hrv⟩ : ∃ rv, rv = 2 ^ (bt % 8) := ⟨_, rfl⟩
              have hrv1 : rv < 256 := by
                rw [hrv]
                exact Nat.lt_of_lt_of_le (Nat.pow_lt_pow_right (by decide) hkk) (by decide)
              obtain ⟨y, hy⟩ : ∃ y, y = base.getD (bt / 8) 0 ^^^ UInt8.ofNat (2 ^ (bt % 8)) := ⟨_, rfl⟩
              have HXo := Lib.hid (show xorAt base (bt / 8) (bt % 8) = base.set (bt / 8) y by rw [hy]; rfl)
              have hxr := u8_xor_nat (base.getD (bt / 8) 0).toNat rv (base.getD (bt / 8) 0).toNat_lt hrv1
              have hyn : y.toNat = (base.getD (bt / 8) 0).toNat ^^^ rv := by
                rw [hy, UInt8.toNat_xor, UInt8.toNat_ofNat', ← hrv, Nat.mod_eq_of_lt hrv1]
              rw [← hyn] at hxr
              have Hrv := Lib.hid hrv
              clear hU hUr hfe hy hyn hrv hvE hrv1
              generalize base.getD (bt / 8) 0 = x at *
              generalize bt / 8 = j at *
              generalize bt % 8 = kk at *
              have i5 : (j : Int) < (base.length : Int) := by omega
              change W2.cell? ⟨gb, j, none⟩ = some (.int .u8 (x.toNat : Int)) at hby
              refine wp_region_rel [eqS (.pointer (some ⟨w.heap.size, 2, none⟩)), eqS (.slice (some ⟨g, 0, none⟩) es.length k2), eqS (.int .i64 (lo : Int)), eqS (.pointer (some ⟨g, lo * 3, none⟩)), eqS (.pointer (some ⟨g, lo * 3 + 1, none⟩)), eqS (.slice (some ⟨gb, 0, none⟩) base.length vc), eqS (.int .i64 (bt : Int)), eqS (.int .i64 (j : Int)), eqS (.pointer (some ⟨gb, j, none⟩)), eqS (.int .u8 (x.toNat : Int)), eqS (.int .i64 (bt : Int)), eqS (.int .i64 (kk : Int)), eqS (.int .u8 (rv : Int)), eqS (.int .u8 (y.toNat : Int))] [] 73 (by kernel_rfl) (by kernel_rfl) (by rfl) (by kernel_rfl) (fun f => by simp [frm, dstOf, Act.put]; exact rfl) ?_ ?_
              · refine ⟨?_, ?_, ?_, ?_, ?_, ?_, ?_, ?_, ?_, ?_, ?_, ?_, ?_, ?_, trivial⟩
                · intro f w1 hb hd
                  clear hd
                  dsimp only
                  go_wp2_with fail
                  exact ⟨rfl, Below.refl _ _, fun t ht => by injection ht with ht; subst ht; exact ⟨rfl, fun h => by simp at h⟩⟩
                · intro f w1 hb hd
                  have d0 : f 0 = .pointer (some ⟨w.heap.size, 2, none⟩) := hd 0 (by kernel_rfl)
                  clear hd
                  dsimp only
                  rw [d0]
                  have z := (X5.out.below hb).c2
                  go_wp2_with fail
                  exact ⟨rfl, Below.refl _ _, fun t ht => by injection ht with ht; subst ht; exact ⟨rfl, fun h => by simp at h⟩⟩
                · intro f w1 hb hd
                  clear hd
                  dsimp only
                  go_wp2_with fail
                  exact ⟨rfl, Below.refl _ _, fun t ht => by injection ht with ht; subst ht; exact ⟨rfl, fun h => by simp at h⟩⟩
                · intro f w1 hb hd
                  have d1 : f 1 = .slice (some ⟨g, 0, none⟩) es.length k2 := hd 1 (by kernel_rfl)
                  have d2 : f 2 = .int .i64 (lo : Int) := hd 2 (by kernel_rfl)
                  clear hd
                  dsimp only
                  rw [d1]
                  rw [d2]
                  go_wp2_with fail
                  exact ⟨rfl, Below.refl _ _, fun t ht => by injection ht with ht; subst ht; exact ⟨rfl, fun h => by simp at h⟩⟩
                · intro f w1 hb hd
                  have d3 : f 3 = .pointer (some ⟨g, lo * 3, none⟩) := hd 3 (by kernel_rfl)
                  clear hd
                  dsimp only
                  rw [d3]
                  go_wp2_with fail
                  exact ⟨rfl, Below.refl _ _, fun t ht => by injection ht with ht; subst ht; exact ⟨rfl, fun h => by simp at h⟩⟩
                · intro f w1 hb hd
                  have d4 : f 4 = .pointer (some ⟨g, lo * 3 + 1, none⟩) := hd 4 (by kernel_rfl)
                  clear hd
                  dsimp only
                  rw [d4]
                  have z := Below.keeps hb _ _ d1
                  go_wp2_with fail
                  exact ⟨rfl, Below.refl _ _, fun t ht => by injection ht with ht; subst ht; exact ⟨rfl, fun h => by simp at h⟩⟩
                · intro f w1 hb hd
                  clear hd
                  dsimp only
                  go_wp2_with fail
                  exact ⟨rfl, Below.refl _ _, fun t ht => by injection ht with ht; subst ht; exact ⟨rfl, fun h => by simp at h⟩⟩
                · intro f w1 hb hd
                  have d6 : f 6 = .int .i64 (bt : Int) := hd 6 (by kernel_rfl)
                  clear hd
                  dsimp only
                  rw [d6]
                  go_wp2_with fail
                  exact ⟨rfl, Below.refl _ _, fun t ht => by injection ht with ht; subst ht; exact ⟨rfl, fun h => by simp at h⟩⟩
                · intro f w1 hb hd
                  have d5 : f 5 = .slice (some ⟨gb, 0, none⟩) base.length vc := hd 5 (by kernel_rfl)
                  have d7 : f 7 = .int .i64 (j : Int) := hd 7 (by kernel_rfl)
                  clear hd
                  dsimp only
                  rw [d5]
                  rw [d7]
                  go_wp2_with fail
                  exact ⟨rfl, Below.refl _ _, fun t ht => by injection ht with ht; subst ht; exact ⟨rfl, fun h => by simp at h⟩⟩
                · intro f w1 hb hd
                  have d8 : f 8 = .pointer (some ⟨gb, j, none⟩) := hd 8 (by kernel_rfl)
                  clear hd
                  dsimp only
                  rw [d8]
                  have z := Below.keeps hb _ _ hby
                  go_wp2_with fail
                  exact ⟨rfl, Below.refl _ _, fun t ht => by injection ht with ht; subst ht; exact ⟨rfl, fun h => by simp at h⟩⟩
                · intro f w1 hb hd
                  clear hd
                  dsimp only
                  go_wp2_with fail
                  exact ⟨rfl, Below.refl _ _, fun t ht => by injection ht with ht; subst ht; exact ⟨rfl, fun h => by simp at h⟩⟩
                · intro f w1 hb hd
                  have d10 : f 10 = .int .i64 (bt : Int) := hd 10 (by kernel_rfl)
                  clear hd
                  dsimp only
                  rw [d10]
                  go_wp2_with fail
                  exact ⟨rfl, Below.refl _ _, fun t ht => by injection ht with ht; subst ht; exact ⟨rfl, fun h => by simp at h⟩⟩
                · intro f w1 hb hd
                  have d11 : f 11 = .int .i64 (kk : Int) := hd 11 (by kernel_rfl)
                  clear hd
                  dsimp only
                  rw [d11]
                  have hk8 : kk = 0 ∨ kk = 1 ∨ kk = 2 ∨ kk = 3 ∨ kk = 4 ∨ kk = 5 ∨ kk = 6 ∨ kk = 7 := by omega
                  have hrv := Hrv.out
                  clear Hrv hxr q3 q4
                  rcases hk8 with e | e | e | e | e | e | e | e
                  all_goals
                    subst e
                    subst hrv
                    clear hkk
                    go_wp2_with fail
                    exact ⟨rfl, Below.refl _ _, fun t ht => by injection ht with ht; subst ht; exact ⟨rfl, fun h => by simp at h⟩⟩
                · intro f w1 hb hd
                  have d9 : f 9 = .int .u8 (x.toNat : Int) := hd 9 (by kernel_rfl)
                  have d12 : f 12 = .int .u8 (rv : Int) := hd 12 (by kernel_rfl)
                  clear hd
                  dsimp only
                  rw [d9]
                  rw [d12]
                  go_wp2_with fail
                  exact ⟨rfl, Below.refl _ _, fun t ht => by injection ht with ht; subst ht; exact ⟨rfl, fun h => by simp at h⟩⟩
              · intro f w1 hb hA _
                have d0 : f 0 = .pointer (some ⟨w.heap.size, 2, none⟩) := hA 0 (show 0 < 14 by decide)
                have d1 : f 1 = .slice (some ⟨g, 0, none⟩) es.length k2 := hA 1 (show 1 < 14 by decide)
                have d2 : f 2 = .int .i64 (lo : Int) := hA 2 (show 2 < 14 by decide)
                have d3 : f 3 = .pointer (some ⟨g, lo * 3, none⟩) := hA 3 (show 3 < 14 by decide)
                have d4 : f 4 = .pointer (some ⟨g, lo * 3 + 1, none⟩) := hA 4 (show 4 < 14 by decide)
                have d5 : f 5 = .slice (some ⟨gb, 0, none⟩) base.length vc := hA 5 (show 5 < 14 by decide)
                have d6 : f 6 = .int .i64 (bt : Int) := hA 6 (show 6 < 14 by decide)
                have d7 : f 7 = .int .i64 (j : Int) := hA 7 (show 7 < 14 by decide)
                have d8 : f 8 = .pointer (some ⟨gb, j, none⟩) := hA 8 (show 8 < 14 by decide)
                have d9 : f 9 = .int .u8 (x.toNat : Int) := hA 9 (show 9 < 14 by decide)
                have d10 : f 10 = .int .i64 (bt : Int) := hA 10 (show 10 < 14 by decide)
                have d11 : f 11 = .int .i64 (kk : Int) := hA 11 (show 11 < 14 by decide)
                have d12 : f 12 = .int .u8 (rv : Int) := hA 12 (show 12 < 14 by decide)
                have d13 : f 13 = .int .u8 (y.toNat : Int) := hA 13 (show 13 < 14 by decide)
                clear hA
                try dsimp only at *
                rw [d0]
                rw [d1]
                rw [d2]
                rw [d3]
                rw [d4]
                rw [d5]
                rw [d6]
                rw [d7]
                rw [d8]
                rw [d9]
                rw [d10]
                rw [d11]
                rw [d12]
                rw [d13]
                clear d0 d1 d2 d3 d4 d5 d6 d7 d8 d9 d10 d11 d12 d13
                have X6 := Lib.hid (X5.out.below hb)
                have R6 := Lib.hid (R5.out.below hb)
                have HB6 := Lib.hid (bstep HB5.out hb)
                have hs6 := Nat.le_trans hs5 hb.size
                have z := Below.keeps hb _ _ hby
                have zf : ∀ i, w1.frozen? ⟨gb, i, none⟩ = false := fun i => (hb.frozen (p := ⟨gb, i, none⟩) hgb2).trans (hbf i)
                have HSt := Lib.hid (HFl.out w1 hb y)
                have X7 := Lib.hid (X6.out.set_ne (p := ⟨gb, j, none⟩) (by dsimp only; omega) (byteV y))
                have R7 := Lib.hid (R6.out.set_ne (p := ⟨gb, j, none⟩) (by dsimp only; omega) (byteV y))
                have HB7 := Lib.hid (HB6.out.setCell (p := ⟨gb, j, none⟩) (show w.heap.size ≤ gb by omega) (byteV y))
                clear X6 R6 HB6 HFl
                go_upto_region 12 with fail
                change Code.wp _ _ _ _ (w1.setCell ⟨gb, j, none⟩ (byteV y))
                clear z zf
                generalize w1.setCell ⟨gb, j, none⟩ (byteV y) = W7 at *
                have HRd := Lib.hid (show StD w.heap.size (((W7.setCell ⟨w.heap.size + 1, 0, none⟩ (.int .i64 c)).setCell ⟨w.heap.size + 1, 1, none⟩ (.int .i64 lf)).setCell ⟨w.heap.size + 1, 2, none⟩ (.slice (some ⟨g, 0, none⟩) es.length k2)) (diskVal c lf (.slice (some ⟨g, 0, none⟩) es.length k2)) ⟨c, lf, fl.set lo ⟨nm, base.set j y, []⟩⟩ from fun W' h' => ⟨_, rfl,
                  HSt.out W' ((KeepX.all1 (.int .i64 c) (.int .i64 lf) (.slice (some ⟨g, 0, none⟩) es.length k2)).trans (h'.up (Nat.le_add_right _ 2)).x)⟩)
                rw [HXo.out] at HE
                have x0 := X7.out.c0
                have x1 := X7.out.c1
                have x2 := X7.out.c2
                have r0 := R7.out.c0
                have r1 := R7.out.c1
                have r2 := R7.out.c2
                have rf := R7.out.f
                go_wp2_with fail
                exact bodyPost_ret (v := .tuple #[diskVal c lf (.slice (some ⟨g, 0, none⟩) es.length k2), .int .i64 0]) (by simp [results, Tryd.results66, go_sem, r0, r1, r2]) rfl ⟨⟨_, by rw [HE.out], by rw [HE.out]; exact HRd.out⟩, HB7.out.all3 (by omega) _ _ _⟩
        · have HE := Lib.hid (E12.out rfl rfl hps)
          have i2 : (0 : Int) < (ws.length : Int) := by
            have := List.length_pos_iff.2 hps
            omega
          clear E2 E12 E0
          generalize ws.length = wl at *
          have r0 := R.out.c0
          have r1 := R.out.c1
          have r2 := R.out.c2
          have rf := R.out.f
          go_wp2_with fail
          exact bodyPost_ret (v := .tuple #[diskVal 0 0 nilS, .int .i64 12]) (by simp [results, Tryd.results66, go_sem, r0, r1, r2]) rfl ⟨⟨_, by rw [HE.out], by rw [HE.out]; exact stD_zero _ _⟩, HB3.out.all3 (by omega) _ _ _⟩
      · subst hqh
        have HE := Lib.hid (E6.out rfl rfl)
        clear hv
        have r0 := R.out.c0
        have r1 := R.out.c1
        have r2 := R.out.c2
        have rf := R.out.f
        go_wp2_with fail
        exact bodyPost_ret (v := .tuple #[diskVal 0 0 nilS, .int .i64 6]) (by simp [results, Tryd.results66, go_sem, r0, r1, r2]) rfl ⟨⟨_, by rw [HE.out], by rw [HE.out]; exact stD_zero _ _⟩, HB3.out.all3 (by omega) _ _ _⟩
    · subst hqn
      have HE := Lib.hid (E1.out rfl)
      clear hv
      go_wp2_with fail
      refine (HVn.out w1).mono ?_
      rintro e w2 ⟨rfl, hb2⟩
      replace X := Lib.hid (X.out.below hb2)
      replace R := Lib.hid (R.out.below hb2)
      replace HD := Lib.hid (And.intro (HD.out.1.below hb2) (HD.out.2.below hb2))
      have HB2 := Lib.hid (bstep HB1.out hb2)
      have hBB2 := Nat.le_trans hBB1 hb2.size
      clear hb2 x0 x1 x2 HB1 hBB1
      have x0 := X.out.c0
      have x1 := X.out.c1
      have x2 := X.out.c2
      have r0 := R.out.c0
      have r1 := R.out.c1
      have r2 := R.out.c2
      have rf := R.out.f
      go_wp2_with fail
      exact bodyPost_ret (v := .tuple #[diskVal 0 0 nilS, .int .i64 1]) (by simp [results, Tryd.results66, go_sem, r0, r1, r2]) rfl ⟨⟨_, by rw [HE.out], by rw [HE.out]; exact stD_zero _ _⟩, HB2.out.all3 (by omega) _ _ _⟩
  · subst hqv
    have HE := Lib.hid (E1.out (by simp))
    go_wp2_with fail
    refine (HV.out W0 HB0.out).mono ?_
    rintro e w1 ⟨rfl, hb1⟩
    replace X := Lib.hid (X.out.below hb1)
    replace R := Lib.hid (R.out.below hb1)
    replace HD := Lib.hid (And.intro (HD.out.1.below hb1) (HD.out.2.below hb1))
    have HB1 := Lib.hid (bstep HB0.out hb1)
    have hBB1 := Nat.le_trans hBB0 hb1.size
    clear hb1 x0 x1 x2 HB0 hBB0
    have x0 := X.out.c0
    have x1 := X.out.c1
    have x2 := X.out.c2
    have r0 := R.out.c0
    have r1 := R.out.c1
    have r2 := R.out.c2
    have rf := R.out.f
    go_wp2_with fail
    exact bodyPost_ret (v := .tuple #[diskVal 0 0 nilS, .int .i64 1]) (by simp [results, Tryd.results66, go_sem, r0, r1, r2]) rfl ⟨⟨_, by rw [HE.out], by rw [HE.out]; exact stD_zero _ _⟩, HB1.out.all3 (by omega) _ _ _⟩
end Go.Proofs.YtkabcpmnbjllcaaDoor
