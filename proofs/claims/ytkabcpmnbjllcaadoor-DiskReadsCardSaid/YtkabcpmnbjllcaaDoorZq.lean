/- open and begin of the program: the walks. -/
import Derived.Test.YtkabcpmnbjllcaaDoorZp
namespace Go.Proofs.YtkabcpmnbjllcaaDoor
open Go.RowKit

theorem LiteD.fs {d : Dk} (h : LiteD d) : LiteFs d.files := ⟨h.fil⟩
theorem atE_cases (d : Dk) (s : List UInt8) : atE d s = 0 ∨ atE d s = 1 ∨ atE d s = 6 ∨ atE d s = 13 := by
  unfold atE
  rcases readyE_le d s with h | h | h <;> rw [h] <;> simp
  cases hasN d.files s <;> simp
def openI (d : Dk) (s : List UInt8) : Nat := if atE d s = 0 then lowN d.files s else 0
set_option maxHeartbeats 1600000 in
theorem open_any (d : Dk) (s : List UInt8) (fv : Value) (w : World) (h : RdF w fv d.files) (hL : LiteD d) (hs : s.length ≤ 9223372036854775807) :
    Calls Tryd.prog 54 #[diskVal d.cap d.left fv, .string (strB s)] w fun e w' => e = .returned (.tuple #[.int .i64 (openI d s : Int), .int .i64 (atE d s)]) ∧ Below w.heap.size w w' := by
  obtain ⟨a, cap, rfl, h1, h2, _⟩ := h.shape
  have HV := Lib.hid (fun W (hW : Below w.heap.size w W) => dvalid_any d.cap d.left _ d.files W (h.below hW) hL.fs)
  have HN := Lib.hid (fun W => vname_any (strB s) W (by rw [strB_size]; exact hs))
  have HF := Lib.hid (fun (hv : validD d = true) W (hW : Below w.heap.size w W) => find_any d.cap d.left _ d.files s W (h.below hW) ((validD_iff d).1 hv).asc (by have := hL.len; omega))
  have HI := Lib.hid (show openI d s = if atE d s = 0 then lowN d.files s else 0 from rfl)
  have HA := Lib.hid (show atE d s = if readyE d s ≠ 0 then readyE d s else if hasN d.files s then 0 else 6 from rfl)
  have HR := Lib.hid (show readyE d s = if !(validD d && nameB s) then 1 else if d.left = 0 then 13 else 0 from rfl)
  clear h hL
  change Hid (∀ W, Below w.heap.size w W → Calls Tryd.prog 16 #[diskVal d.cap d.left (.slice a d.files.length cap)] W fun e w' => e = .returned (.bool (validD d)) ∧ Below W.heap.size W w') at HV
  change Hid (∀ W, Calls Tryd.prog 23 #[.string (strB s)] W fun e w' => e = .returned (.bool (nameB s)) ∧ Below W.heap.size W w') at HN
  generalize openI d s = I at *
  generalize atE d s = E at *
  generalize readyE d s = Q at *
  generalize validD d = vb at *
  generalize nameB s = nb at *
  generalize hasN d.files s = hb at *
  generalize lowN d.files s = lo at *
  generalize d.files.length = n at *
  obtain ⟨c, lf, fl⟩ := d
  dsimp only at *
  have HBx := Lib.hid (show Below w.heap.size w (w.alloc (.cells #[.int .i64 c, .int .i64 lf, .slice a n cap] 33)) from (Below.refl _ _).alloc (Nat.le_refl _) _)
  cases vb
  · have HE := Lib.hid (show E = 1 ∧ I = 0 by
      have e1 : Q = 1 := by rw [HR.out]; rfl
      have e2 : E = 1 := by rw [HA.out, e1]; rfl
      exact ⟨e2, by rw [HI.out, e2]; rfl⟩)
    clear HA HI HR HF HN
    go_enter Tryd.func54, Tryd.ntmps54
    go_wp2_with fail
    refine (HV.out _ HBx.out).mono ?_
    rintro e w1 ⟨rfl, hb1⟩
    have HB1 := Lib.hid (bstep HBx.out hb1)
    clear hb1
    go_wp2_with fail
    go_ret2
    exact ⟨by rw [HE.out.1, HE.out.2]; rfl, HB1.out⟩
  · cases nb
    · have HE := Lib.hid (show E = 1 ∧ I = 0 by
        have e1 : Q = 1 := by rw [HR.out]; rfl
        have e2 : E = 1 := by rw [HA.out, e1]; rfl
        exact ⟨e2, by rw [HI.out, e2]; rfl⟩)
      clear HA HI HR HF
      go_enter Tryd.func54, Tryd.ntmps54
      go_wp2_with fail
      refine (HV.out _ HBx.out).mono ?_
      rintro e w1 ⟨rfl, hb1⟩
      have HB1 := Lib.hid (bstep HBx.out hb1)
      clear hb1
      go_wp2_with fail
      refine (HN.out _).mono ?_
      rintro e w2 ⟨rfl, hb2⟩
      have HB2 := Lib.hid (bstep HB1.out hb2)
      clear hb2
      go_wp2_with fail
      go_ret2
      exact ⟨by rw [HE.out.1, HE.out.2]; rfl, HB2.out⟩
    · have X := Lib.hid (BoxD.new w c lf (.slice a n cap) 33)
      by_cases hl : lf = 0
      · have HE := Lib.hid (show E = 13 ∧ I = 0 by
          have e1 : Q = 13 := by rw [HR.out, if_neg (by simp), if_pos hl]
          have e2 : E = 13 := by rw [HA.out, e1]; rfl
          exact ⟨e2, by rw [HI.out, e2]; rfl⟩)
        subst hl
        clear HA HI HR HF
        go_enter Tryd.func54, Tryd.ntmps54
        go_wp2_with fail
        refine (HV.out _ HBx.out).mono ?_
        rintro e w1 ⟨rfl, hb1⟩
        replace X := Lib.hid (X.out.below hb1)
        have HB1 := Lib.hid (bstep HBx.out hb1)
        clear hb1
        go_wp2_with fail
        refine (HN.out _).mono ?_
        rintro e w2 ⟨rfl, hb2⟩
        replace X := Lib.hid (X.out.below hb2)
        have HB2 := Lib.hid (bstep HB1.out hb2)
        have x1 := X.out.c1
        clear hb2
        go_wp2_with fail
        go_ret2
        exact ⟨by rw [HE.out.1, HE.out.2]; rfl, HB2.out⟩
      · have hl' : (lf == 0) = false := beq_eq_false_iff_ne.2 hl
        have HE := Lib.hid (show E = (if hb then 0 else 6) ∧ I = if hb then lo else 0 by
          have e1 : Q = 0 := by rw [HR.out, if_neg (by simp), if_neg hl]
          have e2 : E = if hb then 0 else 6 := by rw [HA.out, e1]; rfl
          exact ⟨e2, by rw [HI.out, e2]; cases hb <;> simp⟩)
        have HFt := Lib.hid (HF.out rfl)
        clear HA HI HR HF hl
        cases hb
        all_goals
          go_enter Tryd.func54, Tryd.ntmps54
          go_wp2_with fail
          refine (HV.out _ HBx.out).mono ?_
          rintro e w1 ⟨rfl, hb1⟩
          replace X := Lib.hid (X.out.below hb1)
          have HB1 := Lib.hid (bstep HBx.out hb1)
          clear hb1
          go_wp2_with fail
          refine (HN.out _).mono ?_
          rintro e w2 ⟨rfl, hb2⟩
          replace X := Lib.hid (X.out.below hb2)
          have HB2 := Lib.hid (bstep HB1.out hb2)
          have x0 := X.out.c0
          have x1 := X.out.c1
          have x2 := X.out.c2
          clear hb2
          go_wp2_with fail
          refine (HFt.out _ HB2.out).mono ?_
          rintro e w3 ⟨rfl, hb3⟩
          have HB3 := Lib.hid (bstep HB2.out hb3)
          clear hb3
          go_wp2_with fail
          go_ret2
          exact ⟨by rw [HE.out.1, HE.out.2]; rfl, HB3.out⟩
theorem openI_ok {d : Dk} {s : List UInt8} (h : atE d s = 0) : openI d s = lowN d.files s := by unfold openI; rw [if_pos h]
theorem openI_no {d : Dk} {s : List UInt8} (h : atE d s ≠ 0) : openI d s = 0 := by unfold openI; rw [if_neg h]
/-- The error of begin: of an operation on a file that must be there, or on one that must not. -/
def begE (d : Dk) (s : List UInt8) (th : Bool) : Int := if th then atE d s else if atE d s = 6 then 0 else if atE d s = 0 then 7 else atE d s
abbrev nilS : Value := .slice none 0 0
/-- What begin hands back: an error, or a disk of its own and where the file is. -/
def BegRes (w0 : World) (d : Dk) (s : List UInt8) (th : Bool) (e : Ending) (w' : World) : Prop :=
  ((begE d s th ≠ 0 ∧ e = .returned (.tuple #[diskVal 0 0 nilS, .int .i64 0, .int .i64 (begE d s th)])) ∨
    (begE d s th = 0 ∧ VldD d ∧ ∃ v, e = .returned (.tuple #[v, .int .i64 (lowN d.files s : Int), .int .i64 0]) ∧ OwnD w' w0.heap.size v ⟨d.cap, nextL d.left, d.files⟩)) ∧ Below w0.heap.size w0 w'
theorem begE_vld {d : Dk} {s : List UInt8} {th : Bool} (h : begE d s th = 0) : VldD d := by
  unfold begE at h
  cases th
  · simp only [Bool.false_eq_true, if_false] at h
    split at h
    · rename_i h6
      unfold atE at h6
      split at h6
      · rename_i h7
        rcases readyE_le d s with h8 | h8 | h8 <;> rw [h8] at h6 h7 <;> simp at h6 h7
      · rename_i h7
        exact (readyE_ok (by simpa using h7)).1
    · split at h
      · cases h
      · rename_i h0; exact absurd h h0
  · exact (atE_ok h).1
theorem OwnFs.all_ne {W : World} {B b k : Nat} {v : Value} {es : List FE} {T : Nat → Nat} (h : OwnFs W B v es T k) (hb : b < B) (x y z : Value) : OwnFs (((W.setCell ⟨b, 0, none⟩ x).setCell ⟨b, 1, none⟩ y).setCell ⟨b, 2, none⟩ z) B v es T k :=
  ((h.set_ne hb 0 x).set_ne hb 1 y).set_ne hb 2 z
theorem _root_.Go.RowKit.Below.all3 {B b : Nat} {w W : World} (h : Below B w W) (hb : B ≤ b) (x y z : Value) : Below B w (((W.setCell ⟨b, 0, none⟩ x).setCell ⟨b, 1, none⟩ y).setCell ⟨b, 2, none⟩ z) :=
  ((h.setCell (p := ⟨b, 0, none⟩) hb x).setCell (p := ⟨b, 1, none⟩) hb y).setCell (p := ⟨b, 2, none⟩) hb z
set_option maxRecDepth 100000 in
set_option maxHeartbeats 3200000 in
theorem begin_any (d : Dk) (s : List UInt8) (th : Bool) (fv : Value) (w : World) (h : RdF w fv d.files) (hL : LiteD d) (hs : s.length ≤ 9223372036854775807) :
    Calls Tryd.prog 50 #[diskVal d.cap d.left fv, .string (strB s), .bool th] w (BegRes w d s th) := by
  obtain ⟨a, cap, rfl, h1, h2, _⟩ := h.shape
  have HO := Lib.hid (fun W (hW : Below w.heap.size w W) => open_any d s _ W (h.below hW) hL hs)
  have HF := Lib.hid (fun (hv : VldD d) W (hW : Below w.heap.size w W) => find_any d.cap d.left _ d.files s W (h.below hW) hv.asc (by have := hL.len; omega))
  have HC := Lib.hid (fun W (hW : Below w.heap.size w W) => dclone_any d.cap d.left _ d.files W (h.below hW) hL.fs (by have := hL.len; omega))
  have HIy := Lib.hid (fun h => openI_ok (d := d) (s := s) h)
  have HIn := Lib.hid (fun h => openI_no (d := d) (s := s) h)
  have HV := Lib.hid (fun h => begE_vld (d := d) (s := s) (th := th) h)
  have HE := Lib.hid (show begE d s th = if th then atE d s else if atE d s = 6 then 0 else if atE d s = 0 then 7 else atE d s from rfl)
  have HA := Lib.hid (atE_cases d s)
  have HLf := Lib.hid hL.left
  unfold BegRes
  have Hnx := Lib.hid (show nextL d.left = if 0 < d.left then d.left - 1 else d.left from rfl)
  clear h hL
  generalize begE d s th = E at *
  generalize atE d s = A at *
  generalize openI d s = I at *
  generalize lowN d.files s = lo at *
  generalize hasN d.files s = hb at *
  generalize nextL d.left = nx at *
  generalize d.files.length = n at *
  obtain ⟨c, lf, fl⟩ := d
  dsimp only at *
  have HB0 := Lib.hid (show Below w.heap.size w ((w.alloc (.cells #[.int .i64 c, .int .i64 lf, .slice a n cap] 33)).alloc (.cells #[.int .i64 0, .int .i64 0, .slice none 0 0] 33)) from ((Below.refl _ _).alloc (Nat.le_refl _) _).alloc (by simp) _)
  have X := Lib.hid (show BoxD ((w.alloc (.cells #[.int .i64 c, .int .i64 lf, .slice a n cap] 33)).alloc (.cells #[.int .i64 0, .int .i64 0, .slice none 0 0] 33)) w.heap.size c lf (.slice a n cap) from ⟨by simp, by simp, by simp, fun i => by simp⟩)
  have R := Lib.hid (show BoxD ((w.alloc (.cells #[.int .i64 c, .int .i64 lf, .slice a n cap] 33)).alloc (.cells #[.int .i64 0, .int .i64 0, .slice none 0 0] 33)) (w.heap.size + 1) 0 0 (.slice none 0 0) from ⟨by simp, by simp, by simp, fun i => by simp⟩)
  have hBB : w.heap.size + 2 ≤ ((w.alloc (.cells #[.int .i64 c, .int .i64 lf, .slice a n cap] 33)).alloc (.cells #[.int .i64 0, .int .i64 0, .slice none 0 0] 33)).heap.size := by simp
  go_enter Tryd.func50, Tryd.ntmps50
  go_upto_region 1 with fail
  generalize (w.alloc (.cells #[.int .i64 c, .int .i64 lf, .slice a n cap] 33)).alloc (.cells #[.int .i64 0, .int .i64 0, .slice none 0 0] 33) = W0 at *
  have x0 := X.out.c0
  have x1 := X.out.c1
  have x2 := X.out.c2
  go_wp2_with fail
  refine (HO.out W0 HB0.out).mono ?_
  rintro e w1 ⟨rfl, hb1⟩
  replace X := Lib.hid (X.out.below hb1)
  replace R := Lib.hid (R.out.below hb1)
  replace hBB := Nat.le_trans hBB hb1.size
  have HB1 := Lib.hid (bstep HB0.out hb1)
  clear hb1 HB0 HO x0 x1 x2
  cases th
  · rcases HA.out with h | h | h | h
    · subst h
      have HEq := Lib.hid (show E = 7 by rw [HE.out]; simp)
      have HI0 := HIy.out rfl
      subst HI0
      clear HE HIn HIy HV HF HC
      have r0 := R.out.c0
      have r1 := R.out.c1
      have r2 := R.out.c2
      have rf := R.out.f
      go_wp2_with fail
      exact bodyPost_ret (v := .tuple #[diskVal 0 0 nilS, .int .i64 0, .int .i64 7]) (by simp [results, Tryd.results50, go_sem, r0, r1, r2]) rfl ⟨.inl ⟨by rw [HEq.out]; decide, by rw [HEq.out]⟩, HB1.out.all3 (by omega) _ _ _⟩
    · subst h
      have HEq := Lib.hid (show E = 1 by rw [HE.out]; simp)
      have HI0 := HIn.out (by decide)
      subst HI0
      clear HE HIn HIy HV HF HC
      have r0 := R.out.c0
      have r1 := R.out.c1
      have r2 := R.out.c2
      have rf := R.out.f
      go_wp2_with fail
      exact bodyPost_ret (v := .tuple #[diskVal 0 0 nilS, .int .i64 0, .int .i64 1]) (by simp [results, Tryd.results50, go_sem, r0, r1, r2]) rfl ⟨.inl ⟨by rw [HEq.out]; decide, by rw [HEq.out]⟩, HB1.out.all3 (by omega) _ _ _⟩
    · subst h
      have HEq := Lib.hid (show E = 0 by rw [HE.out]; simp)
      clear HE HIn HIy
      have x0 := X.out.c0
      have x1 := X.out.c1
      have x2 := X.out.c2
      go_wp2_with fail
      refine (HF.out (HV.out HEq.out) _ HB1.out).mono ?_
      rintro e w2 ⟨rfl, hb2⟩
      replace X := Lib.hid (X.out.below hb2)
      replace R := Lib.hid (R.out.below hb2)
      have HB2 := Lib.hid (bstep HB1.out hb2)
      have hsz2 := hb2.size
      clear hb2 x0 x1 x2 HF
      have x0 := X.out.c0
      have x1 := X.out.c1
      have x2 := X.out.c2
      go_wp2_with fail
      refine (HC.out _ HB2.out).mono ?_
      rintro e w5 ⟨v5, rfl, ⟨fv5, es, T, rfl, hes, hO⟩, hb5⟩
      obtain ⟨xa, xc, rfl, _⟩ := own_form hO.row
      replace X := Lib.hid (X.out.below hb5)
      replace R := Lib.hid (R.out.below hb5)
      have hO2 := hO.lower (Nat.le_trans hBB (hsz2)) rfl
      clear hO
      have HB5 := Lib.hid (bstep HB2.out hb5)
      have hBB5 : w.heap.size + 2 ≤ w5.heap.size := Nat.le_trans hBB (Nat.le_trans (hsz2) hb5.size)
      have Hes := Lib.hid hes
      have x0 := X.out.c0
      have x1 := X.out.c1
      have x2 := X.out.c2
      have xf := X.out.f
      have X2 := Lib.hid (X.out.all c lf (.slice xa es.length xc))
      have R2 := Lib.hid (((R.out.set_ne (p := ⟨w.heap.size, 0, none⟩) (by dsimp only; omega) (.int .i64 c)).set_ne (p := ⟨w.heap.size, 1, none⟩) (by dsimp only; omega) (.int .i64 lf)).set_ne (p := ⟨w.heap.size, 2, none⟩) (by dsimp only; omega) (.slice xa es.length xc))
      have O2 := Lib.hid (hO2.all_ne (b := w.heap.size) (by omega) (.int .i64 c) (.int .i64 lf) (.slice xa es.length xc))
      have HB6 := Lib.hid (HB5.out.all3 (b := w.heap.size) (Nat.le_refl _) (.int .i64 c) (.int .i64 lf) (.slice xa es.length xc))
      clear hO2 hb5 hes X R HB5 hBB5
      generalize hen : es.length = en at *
      have Hen := Lib.hid hen
      clear hen
      go_upto_region 10 with fail
      change Code.wp _ _ _ _ (((w5.setCell ⟨w.heap.size, 0, none⟩ (.int .i64 c)).setCell ⟨w.heap.size, 1, none⟩ (.int .i64 lf)).setCell ⟨w.heap.size, 2, none⟩ (.slice xa en xc))
      clear x0 x1 x2 xf
      generalize (((w5.setCell ⟨w.heap.size, 0, none⟩ (.int .i64 c)).setCell ⟨w.heap.size, 1, none⟩ (.int .i64 lf)).setCell ⟨w.heap.size, 2, none⟩ (.slice xa en xc)) = W6 at *
      have x0 := X2.out.c0
      have x1 := X2.out.c1
      have x2 := X2.out.c2
      have xf := X2.out.f
      by_cases hl : 0 < lf
      · have hn1 : nx = lf - 1 := by rw [Hnx.out, if_pos hl]
        have R3 := Lib.hid (R2.out.set_ne (p := ⟨w.heap.size, 1, none⟩) (by dsimp only; omega) (.int .i64 (lf - 1)))
        have X3 := Lib.hid (X2.out.set1 (lf - 1))
        have HB7 := Lib.hid ((HB6.out.setCell (p := ⟨w.heap.size, 1, none⟩) (Nat.le_refl _) (.int .i64 (lf - 1))).all3 (b := w.heap.size + 1) (by omega) (.int .i64 c) (.int .i64 (lf - 1)) (.slice xa en xc))
        have O7 := Lib.hid ((((O2.out.set_ne (b := w.heap.size) (by omega) 1 (.int .i64 (lf - 1))).all_ne (b := w.heap.size + 1) (by omega) (.int .i64 c) (.int .i64 (lf - 1)) (.slice xa en xc))).lower (B' := w.heap.size) (by omega) Hen.out)
        have z0 := X3.out.c0
        have z1 := X3.out.c1
        have z2 := X3.out.c2
        have r0 := R3.out.c0
        have r1 := R3.out.c1
        have r2 := R3.out.c2
        have rf := R3.out.f
        have hlf := HLf.out.2
        have hi : IntKind.i64.wrap (lf - 1) = lf - 1 := IntWalk.i64_in _ (by constructor <;> omega)
        have Hn1 := Lib.hid hn1
        clear hn1
        go_wp2_with fail
        exact bodyPost_ret (v := .tuple #[diskVal c (lf - 1) (.slice xa en xc), .int .i64 (lo : Int), .int .i64 0]) (by simp [results, Tryd.results50, go_sem, r0, r1, r2]) rfl ⟨.inr ⟨HEq.out, HV.out HEq.out, _, rfl, _, es, T, by rw [Hn1.out], Hes.out, O7.out⟩, HB7.out⟩
      · have hn1 : nx = lf := by rw [Hnx.out, if_neg hl]
        have HB7 := Lib.hid (HB6.out.all3 (b := w.heap.size + 1) (by omega) (.int .i64 c) (.int .i64 lf) (.slice xa en xc))
        have O7 := Lib.hid ((O2.out.all_ne (b := w.heap.size + 1) (by omega) (.int .i64 c) (.int .i64 lf) (.slice xa en xc)).lower (B' := w.heap.size) (by omega) Hen.out)
        have r0 := R2.out.c0
        have r1 := R2.out.c1
        have r2 := R2.out.c2
        have rf := R2.out.f
        have Hn1 := Lib.hid hn1
        clear hn1
        go_wp2_with fail
        exact bodyPost_ret (v := .tuple #[diskVal c lf (.slice xa en xc), .int .i64 (lo : Int), .int .i64 0]) (by simp [results, Tryd.results50, go_sem, r0, r1, r2]) rfl ⟨.inr ⟨HEq.out, HV.out HEq.out, _, rfl, _, es, T, by rw [Hn1.out], Hes.out, O7.out⟩, HB7.out⟩
    · subst h
      have HEq := Lib.hid (show E = 13 by rw [HE.out]; simp)
      have HI0 := HIn.out (by decide)
      subst HI0
      clear HE HIn HIy HV HF HC
      have r0 := R.out.c0
      have r1 := R.out.c1
      have r2 := R.out.c2
      have rf := R.out.f
      go_wp2_with fail
      exact bodyPost_ret (v := .tuple #[diskVal 0 0 nilS, .int .i64 0, .int .i64 13]) (by simp [results, Tryd.results50, go_sem, r0, r1, r2]) rfl ⟨.inl ⟨by rw [HEq.out]; decide, by rw [HEq.out]⟩, HB1.out.all3 (by omega) _ _ _⟩
  · rcases HA.out with h | h | h | h
    · subst h
      have HEq := Lib.hid (show E = 0 by rw [HE.out]; simp)
      have HI0 := (HIy.out rfl).symm
      subst HI0
      clear HE HIn HIy HF
      have x0 := X.out.c0
      have x1 := X.out.c1
      have x2 := X.out.c2
      go_wp2_with fail
      refine (HC.out _ HB1.out).mono ?_
      rintro e w5 ⟨v5, rfl, ⟨fv5, es, T, rfl, hes, hO⟩, hb5⟩
      obtain ⟨xa, xc, rfl, _⟩ := own_form hO.row
      replace X := Lib.hid (X.out.below hb5)
      replace R := Lib.hid (R.out.below hb5)
      have hO2 := hO.lower (Nat.le_trans hBB (Nat.le_refl _)) rfl
      clear hO
      have HB5 := Lib.hid (bstep HB1.out hb5)
      have hBB5 : w.heap.size + 2 ≤ w5.heap.size := Nat.le_trans hBB (Nat.le_trans (Nat.le_refl _) hb5.size)
      have Hes := Lib.hid hes
      have x0 := X.out.c0
      have x1 := X.out.c1
      have x2 := X.out.c2
      have xf := X.out.f
      have X2 := Lib.hid (X.out.all c lf (.slice xa es.length xc))
      have R2 := Lib.hid (((R.out.set_ne (p := ⟨w.heap.size, 0, none⟩) (by dsimp only; omega) (.int .i64 c)).set_ne (p := ⟨w.heap.size, 1, none⟩) (by dsimp only; omega) (.int .i64 lf)).set_ne (p := ⟨w.heap.size, 2, none⟩) (by dsimp only; omega) (.slice xa es.length xc))
      have O2 := Lib.hid (hO2.all_ne (b := w.heap.size) (by omega) (.int .i64 c) (.int .i64 lf) (.slice xa es.length xc))
      have HB6 := Lib.hid (HB5.out.all3 (b := w.heap.size) (Nat.le_refl _) (.int .i64 c) (.int .i64 lf) (.slice xa es.length xc))
      clear hO2 hb5 hes X R HB5 hBB5
      generalize hen : es.length = en at *
      have Hen := Lib.hid hen
      clear hen
      go_upto_region 10 with fail
      change Code.wp _ _ _ _ (((w5.setCell ⟨w.heap.size, 0, none⟩ (.int .i64 c)).setCell ⟨w.heap.size, 1, none⟩ (.int .i64 lf)).setCell ⟨w.heap.size, 2, none⟩ (.slice xa en xc))
      clear x0 x1 x2 xf
      generalize (((w5.setCell ⟨w.heap.size, 0, none⟩ (.int .i64 c)).setCell ⟨w.heap.size, 1, none⟩ (.int .i64 lf)).setCell ⟨w.heap.size, 2, none⟩ (.slice xa en xc)) = W6 at *
      have x0 := X2.out.c0
      have x1 := X2.out.c1
      have x2 := X2.out.c2
      have xf := X2.out.f
      by_cases hl : 0 < lf
      · have hn1 : nx = lf - 1 := by rw [Hnx.out, if_pos hl]
        have R3 := Lib.hid (R2.out.set_ne (p := ⟨w.heap.size, 1, none⟩) (by dsimp only; omega) (.int .i64 (lf - 1)))
        have X3 := Lib.hid (X2.out.set1 (lf - 1))
        have HB7 := Lib.hid ((HB6.out.setCell (p := ⟨w.heap.size, 1, none⟩) (Nat.le_refl _) (.int .i64 (lf - 1))).all3 (b := w.heap.size + 1) (by omega) (.int .i64 c) (.int .i64 (lf - 1)) (.slice xa en xc))
        have O7 := Lib.hid ((((O2.out.set_ne (b := w.heap.size) (by omega) 1 (.int .i64 (lf - 1))).all_ne (b := w.heap.size + 1) (by omega) (.int .i64 c) (.int .i64 (lf - 1)) (.slice xa en xc))).lower (B' := w.heap.size) (by omega) Hen.out)
        have z0 := X3.out.c0
        have z1 := X3.out.c1
        have z2 := X3.out.c2
        have r0 := R3.out.c0
        have r1 := R3.out.c1
        have r2 := R3.out.c2
        have rf := R3.out.f
        have hlf := HLf.out.2
        have hi : IntKind.i64.wrap (lf - 1) = lf - 1 := IntWalk.i64_in _ (by constructor <;> omega)
        have Hn1 := Lib.hid hn1
        clear hn1
        go_wp2_with fail
        exact bodyPost_ret (v := .tuple #[diskVal c (lf - 1) (.slice xa en xc), .int .i64 (lo : Int), .int .i64 0]) (by simp [results, Tryd.results50, go_sem, r0, r1, r2]) rfl ⟨.inr ⟨HEq.out, HV.out HEq.out, _, rfl, _, es, T, by rw [Hn1.out], Hes.out, O7.out⟩, HB7.out⟩
      · have hn1 : nx = lf := by rw [Hnx.out, if_neg hl]
        have HB7 := Lib.hid (HB6.out.all3 (b := w.heap.size + 1) (by omega) (.int .i64 c) (.int .i64 lf) (.slice xa en xc))
        have O7 := Lib.hid ((O2.out.all_ne (b := w.heap.size + 1) (by omega) (.int .i64 c) (.int .i64 lf) (.slice xa en xc)).lower (B' := w.heap.size) (by omega) Hen.out)
        have r0 := R2.out.c0
        have r1 := R2.out.c1
        have r2 := R2.out.c2
        have rf := R2.out.f
        have Hn1 := Lib.hid hn1
        clear hn1
        go_wp2_with fail
        exact bodyPost_ret (v := .tuple #[diskVal c lf (.slice xa en xc), .int .i64 (lo : Int), .int .i64 0]) (by simp [results, Tryd.results50, go_sem, r0, r1, r2]) rfl ⟨.inr ⟨HEq.out, HV.out HEq.out, _, rfl, _, es, T, by rw [Hn1.out], Hes.out, O7.out⟩, HB7.out⟩
    · subst h
      have HEq := Lib.hid (show E = 1 by rw [HE.out]; simp)
      have HI0 := HIn.out (by decide)
      subst HI0
      clear HE HIn HIy HV HF HC
      have r0 := R.out.c0
      have r1 := R.out.c1
      have r2 := R.out.c2
      have rf := R.out.f
      go_wp2_with fail
      exact bodyPost_ret (v := .tuple #[diskVal 0 0 nilS, .int .i64 0, .int .i64 1]) (by simp [results, Tryd.results50, go_sem, r0, r1, r2]) rfl ⟨.inl ⟨by rw [HEq.out]; decide, by rw [HEq.out]⟩, HB1.out.all3 (by omega) _ _ _⟩
    · subst h
      have HEq := Lib.hid (show E = 6 by rw [HE.out]; simp)
      have HI0 := HIn.out (by decide)
      subst HI0
      clear HE HIn HIy HV HF HC
      have r0 := R.out.c0
      have r1 := R.out.c1
      have r2 := R.out.c2
      have rf := R.out.f
      go_wp2_with fail
      exact bodyPost_ret (v := .tuple #[diskVal 0 0 nilS, .int .i64 0, .int .i64 6]) (by simp [results, Tryd.results50, go_sem, r0, r1, r2]) rfl ⟨.inl ⟨by rw [HEq.out]; decide, by rw [HEq.out]⟩, HB1.out.all3 (by omega) _ _ _⟩
    · subst h
      have HEq := Lib.hid (show E = 13 by rw [HE.out]; simp)
      have HI0 := HIn.out (by decide)
      subst HI0
      clear HE HIn HIy HV HF HC
      have r0 := R.out.c0
      have r1 := R.out.c1
      have r2 := R.out.c2
      have rf := R.out.f
      go_wp2_with fail
      exact bodyPost_ret (v := .tuple #[diskVal 0 0 nilS, .int .i64 0, .int .i64 13]) (by simp [results, Tryd.results50, go_sem, r0, r1, r2]) rfl ⟨.inl ⟨by rw [HEq.out]; decide, by rw [HEq.out]⟩, HB1.out.all3 (by omega) _ _ _⟩
end Go.Proofs.YtkabcpmnbjllcaaDoor
