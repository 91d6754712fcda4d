/- Flip of the reference: the walk. Printed by mkDrn.py. -/
import Derived.Test.YtkabcpmnbjllcaaDoorKF
import Derived.Test.YtkabcpmnbjllcaaDoorDkf
namespace Go.Proofs.YtkabcpmnbjllcaaDoor
open Go.RowKit

/-- The bytes of a file are put into a row of the call's own. -/
theorem own_put1 {W : World} {B g n cap i : Nat} {es : List FE} {t : TypeId} (h : W.ownsRow B t 3 (.slice (some ⟨g, 0, none⟩) n cap) n (es.flatMap filC)) (hi : i < es.length) (f : Fil) (u : Value) (hn : f.name = (es.getD i fe0).1.name) :
    (W.setCell ⟨g, i * 3 + 1, none⟩ u).ownsRow B t 3 (.slice (some ⟨g, 0, none⟩) n cap) n ((es.set i (f, u, (es.getD i fe0).2.2)).flatMap filC) := by
  have r1 := (h.stored (i * 3 + 1) u).1
  rw [flat_set3 filC (fun _ => rfl) es i 1 u (f, u, (es.getD i fe0).2.2) hi (by decide) (fun y hy => by
    rw [List.getD_eq_getElem?_getD, hy] at hn ⊢
    show [Value.string (strB f.name), u, y.2.2] = [Value.string (strB y.1.name), u, y.2.2]
    rw [show f.name = y.1.name from hn])] at r1
  exact r1
theorem feX_getD (xs : List FX) (i : Nat) (h : i < xs.length) : (feX xs).getD i fe0 = (xs.getD i fx0).1 := by
  unfold feX
  rw [List.getD_eq_getElem?_getD, List.getD_eq_getElem?_getD, List.getElem?_map, List.getElem?_eq_getElem h]; rfl
set_option maxRecDepth 100000 in
set_option maxHeartbeats 6400000 in
theorem rflip_any (d : Dk) (s : List UInt8) (bit : Int) (fv : Value) (xs : List FX) (w : World) (hr : RdS 3 filC w fv (feX xs)) (hx : PartsX w xs) (hes : filX xs = d.files) (hL : LiteD d) (hs : s.length ≤ 9223372036854775807) (hbit : I64 bit) :
    Calls Tryd.prog 75 #[diskVal d.cap d.left fv, .string (strB s), .int .i64 bit] w (RefOp w xs (flipD d s bit)) := by
  have h := rdFE_x hr hx
  have hF : RdF w fv d.files := ⟨feX xs, by rw [feX_fst, hes], h⟩
  obtain ⟨a, cap, rfl, h1, h2, _⟩ := hF.shape
  have Hxl := Lib.hid (show d.files.length = xs.length by rw [← hes]; exact List.length_map ..)
  have HV := Lib.hid (fun W (hW : Below w.heap.size w W) => rvalid_any d.cap d.left _ d.files W (hF.below hW) hL.fs)
  have HVn := Lib.hid (show ∀ W, Calls Tryd.prog 24 #[.string (strB s)] W fun e w' => e = .returned (.bool (nameB s)) ∧ W = w' from fun W => rvname_any (strB s) W (by rw [strB_size]; exact hs))
  have HF := Lib.hid (fun (hv : VldD d) W (hW : Below w.heap.size w W) => rfind_any d.cap d.left _ d.files s W (hF.below hW) hv.asc (by have := hL.len; omega))
  have HX := Lib.hid (fun i (hi : i < d.files.length) => atX hes hi)
  have HRw := Lib.hid (show ∀ W, Below w.heap.size w W → RdS 3 filC W _ (feX xs) from fun W hW => RdS.below hr hW)
  have HP := Lib.hid hx
  have HSet := Lib.hid (fun (i : Nat) (q : FX) => show filX (xs.set i q) = d.files.set i q.1.1 by rw [← hes]; unfold filX; rw [List.map_set])
  have HSfe := Lib.hid (fun (i : Nat) (q : FX) => show feX (xs.set i q) = (feX xs).set i q.1 by unfold feX; rw [List.map_set])
  have HSmem := Lib.hid (fun (i : Nat) (q p : FX) (hp : p ∈ xs.set i q) => show p ∈ xs ∨ p = q from List.mem_or_eq_of_mem_set hp)
  have Hfl := Lib.hid (show (feX xs).length = d.files.length by rw [feX_len, ← Hxl.out])
  have Hnl := Lib.hid hL.len
  have Hone := Lib.hid (fil_one h.base h.pend)
  have E1 := Lib.hid (fun e => flip_arg (d := d) (s := s) (bit := bit) e)
  have E6 := Lib.hid (fun e e' => flip_none (d := d) (s := s) (bit := bit) e e')
  have E12 := Lib.hid (fun e e' e2 => flip_state (d := d) (s := s) (bit := bit) e e' e2)
  have E2 := Lib.hid (fun e e' e2 e3 => flip_range (d := d) (s := s) (bit := bit) e e' e2 e3)
  have E0 := Lib.hid (fun (bt : Nat) (hbt : bit = (bt : Int)) e e' e2 e3 => flip_yes' (d := d) (s := s) (bit := bit) bt hbt e e' e2 e3)
  have HVd := Lib.hid (fun e => (validD_iff d).1 e)
  have HHas := Lib.hid (fun (hv : VldD d) => (hasN_iff hv.asc s).1)
  have HBs := Lib.hid (fun (hv : VldD d) i (hi : i < d.files.length) => ((sizedF_iff _).1 (sized_of_vld hv (i := i) hi)).1)
  have HFi := Lib.hid (show rfndI d.files s = if hasN d.files s then (lowN d.files s : Int) else -1 from rfl)
  clear h hF hr hx hL hs
  generalize flipD d s bit = RS at *
  have hqv : validD d = true ∨ validD d = false := by cases validD d <;> simp
  have hqn : nameB s = true ∨ nameB s = false := by cases nameB s <;> simp
  have hqh : hasN d.files s = true ∨ hasN d.files s = false := by cases hasN d.files s <;> simp
  generalize hVV : validD d = vd at *
  have HVV := Lib.hid hVV
  clear hVV
  generalize nameB s = vn at *
  generalize hasN d.files s = hn at *
  generalize rfndI d.files s = fi at *
  generalize lowN d.files s = lo at *
  generalize strB s = sv at *
  obtain ⟨c, lf, fl⟩ := d
  dsimp only [diskVal] at *
  generalize fl.length = n at *
  have HB0 := Lib.hid (show Below w.heap.size w ((w.alloc (.cells #[.int .i64 c, .int .i64 lf, .slice a n cap] 24)).alloc (.cells #[.int .i64 0, .int .i64 0, .slice none 0 0] 24)) from ((Below.refl _ _).alloc (Nat.le_refl _) _).alloc (by simp) _)
  have X := Lib.hid (show BoxD ((w.alloc (.cells #[.int .i64 c, .int .i64 lf, .slice a n cap] 24)).alloc (.cells #[.int .i64 0, .int .i64 0, .slice none 0 0] 24)) w.heap.size c lf (.slice a n cap) from ⟨by simp, by simp, by simp, fun i => by simp⟩)
  have R := Lib.hid (show BoxD ((w.alloc (.cells #[.int .i64 c, .int .i64 lf, .slice a n cap] 24)).alloc (.cells #[.int .i64 0, .int .i64 0, .slice none 0 0] 24)) (w.heap.size + 1) 0 0 (.slice none 0 0) from ⟨by simp, by simp, by simp, fun i => by simp⟩)
  have hB0 : w.heap.size + 2 ≤ ((w.alloc (.cells #[.int .i64 c, .int .i64 lf, .slice a n cap] 24)).alloc (.cells #[.int .i64 0, .int .i64 0, .slice none 0 0] 24)).heap.size := by simp
  go_enter Tryd.func75, Tryd.ntmps75
  go_upto_region 1 with fail
  generalize (w.alloc (.cells #[.int .i64 c, .int .i64 lf, .slice a n cap] 24)).alloc (.cells #[.int .i64 0, .int .i64 0, .slice none 0 0] 24) = W0 at *
  have x0 := X.out.c0
  have x1 := X.out.c1
  have x2 := X.out.c2
  rcases hqv with hqv | hqv
  · subst hqv
    have hv := HVd.out rfl
    go_wp2_with fail
    refine (HV.out W0 HB0.out).mono ?_
    rintro e w1 ⟨rfl, hb1⟩
    replace X := Lib.hid (X.out.below hb1)
    replace R := Lib.hid (R.out.below hb1)
    have HB1 := Lib.hid (bstep HB0.out hb1)
    have hB1 := Nat.le_trans hB0 hb1.size
    clear HB0 hB0 hb1 x0 x1 x2
    have x0 := X.out.c0
    have x1 := X.out.c1
    have x2 := X.out.c2
    rcases hqn with hqn | hqn
    · subst hqn
      go_wp2_with fail
      refine (HVn.out w1).mono ?_
      rintro e w2 ⟨rfl, rfl⟩
      rcases hqh with hqh | hqh
      · subst hqh
        have hfi : fi = (lo : Int) := HFi.out
        subst hfi
        obtain ⟨hlo, hnm⟩ := HHas.out hv rfl
        have HFv := Lib.hid (HF.out hv)
        have i0 : ¬ (lo : Int) < 0 := by omega
        go_wp2_with fail
        refine (HFv.out w1 HB1.out).mono ?_
        rintro e w3 ⟨rfl, hb3⟩
        replace X := Lib.hid (X.out.below hb3)
        replace R := Lib.hid (R.out.below hb3)
        have HB3 := Lib.hid (bstep HB1.out hb3)
        have hB3 := Nat.le_trans hB1 hb3.size
        clear HB1 hB1 hb3 x0 x1 x2
        have x0 := X.out.c0
        have x1 := X.out.c1
        have x2 := X.out.c2
        obtain ⟨hqm, hqf⟩ := HX.out _ hlo
        have hbs := HBs.out hv lo hlo
        have HMem := Lib.hid hqm
        have HPq := Lib.hid (HP.out _ hqm)
        have HGe := Lib.hid (feX_getD xs lo (by rw [← Hxl.out]; exact hlo))
        have HAt := Lib.hid (fun W (hW : Below w.heap.size w W) => RdFE.at2 (HRw.out W hW) Hxl.out hlo)
        rw [← hqf] at hbs E12 E2 E0
        clear hqm HVd HHas HBs HF HFv HV HVn E1 E6 hnm HX hv
        generalize xs.getD lo fx0 = q at *
        obtain ⟨⟨f, bv, pv⟩, wes⟩ := q
        dsimp only at hqf
        subst hqf
        generalize atN fl lo = f at *
        obtain ⟨hb1, hp1, hp2⟩ := HPq.out
        dsimp only at *
        obtain ⟨ba, bc, rfl, _⟩ := hb1.shape0
        obtain ⟨pa, pc, rfl, _⟩ := hp1.shape
        have HPr := Lib.hid (fun W (hW : Below w.heap.size w W) => (HPq.out.below hW).rd)
        dsimp only at HPr
        have hwl : f.pend.length = wes.length := by rw [← hp2]; exact List.length_map ..
        clear hb1 hp1
        obtain ⟨nm, base, ws⟩ := f
        dsimp only at *
        obtain ⟨b0, off, rfl, _⟩ := HAt.out w (Below.refl _ _)
        obtain ⟨b', off', e, c0, c1, c2⟩ := HAt.out _ HB3.out
        injection e with e
        injection e with e1 e2
        subst e1 e2
        clear HAt
        have i1 : (lo : Int) < (n : Int) := by omega
        by_cases hps : wes = []
        · subst hps
          obtain rfl : ws = [] := by rw [← hp2]; rfl
          clear hwl hp2
          dsimp only [List.length_nil] at *
          by_cases hneg : bit < 0
          · have HE := Lib.hid (E2.out (by trivial) (by trivial) (by trivial) (.inl hneg))
            clear E2 E12 E0
            have r0 := R.out.c0
            have r1 := R.out.c1
            have r2 := R.out.c2
            have rf := R.out.f
            go_wp2_with fail
            exact bodyPost_ret (v := .tuple #[diskVal 0 0 nilS, .int .i64 2]) (by simp [results, Tryd.results75, go_sem, r0, r1, r2]) rfl ⟨⟨_, [], by rw [HE.out]; first | done | rfl, by rw [HE.out]; rfl, RowR.nil _ _ _⟩, HB3.out.all3 (by omega) _ _ _⟩
          · obtain ⟨bt, rfl⟩ := Int.eq_ofNat_of_zero_le (show 0 ≤ bit by omega)
            obtain ⟨_, q0⟩ := hbit
            have q0b : (bt : Int) / 8 ≤ 9223372036854775807 := by omega
            have q0c : (0 : Int) ≤ (bt : Int) / 8 := by omega
            by_cases hbig : base.length ≤ bt / 8
            · have HE := Lib.hid (E2.out (by trivial) (by trivial) (by trivial) (.inr (by omega)))
              have i3 : (8 : Int) * (base.length : Int) ≤ (bt : Int) := by omega
              clear E2 E12 E0
              generalize base.length = bl at *
              have r0 := R.out.c0
              have r1 := R.out.c1
              have r2 := R.out.c2
              have rf := R.out.f
              go_wp2_with fail
              exact bodyPost_ret (v := .tuple #[diskVal 0 0 nilS, .int .i64 2]) (by simp [results, Tryd.results75, go_sem, r0, r1, r2]) rfl ⟨⟨_, [], by rw [HE.out]; first | done | rfl, by rw [HE.out]; rfl, RowR.nil _ _ _⟩, HB3.out.all3 (by omega) _ _ _⟩
            · have i3 : ¬ (8 : Int) * (base.length : Int) ≤ (bt : Int) := by omega
              have HE := Lib.hid (E0.out bt rfl (by trivial) (by trivial) (by trivial) (by omega))
              clear E2 E12 E0
              have HRd := Lib.hid (show Rd w3 1 (.slice ba base.length bc) base.length (base.map byteV) from (HPr.out w3 HB3.out).1)
              have hfls := Hnl.out
              have hAl := (Below.refl w3.heap.size w3).alloc (Nat.le_refl _) (.cells #[] 5)
              have y2 := (X.out.below hAl).c2
              have y1 := Below.keeps hAl _ _ c1
              clear hAl
              go_upto_region 11 with (at_builtin; go_must (refine wpList_app rfl (.tmp 49) (.tmp 55) 47 rfl elemU8 w3.heap.size rfl (World.ownsRow_made (size := 1) _ #[] 0 (Nat.le_refl _) (by decide) rfl) rfl (HRd.out.alloc _) (bytes_one base) (by unfold maxLen; omega) (by omega) (by simp) ?_); intro v4 w4 hown4 hgr4 hv4; clear hv4; obtain ⟨ga, gc, e4, _⟩ := own_form hown4; subst e4; have hb4 := own_below ((Below.refl w3.heap.size w3).alloc (Nat.le_refl _) (.cells #[] 5)) (World.ownsRow_made (e := 5) (size := 1) w3 #[] 0 (Nat.le_refl _) (by decide) rfl) (by simp) hgr4; have Hb4 := Lib.hid hb4; have Hown := Lib.hid hown4; clear hown4 hgr4 hb4)
              clear x0 x1 x2 c0 c1 c2 y1 y2 HRd
              have hOw := Hown.out
              rw [Nat.zero_add, List.nil_append] at hOw
              rw [Nat.zero_add] at *
              have HU4 := Lib.hid (show OwnU w4 w3.heap.size (.slice ga base.length gc) base from hOw)
              replace X := Lib.hid (X.out.below Hb4.out)
              replace R := Lib.hid (R.out.below Hb4.out)
              have HB4 := Lib.hid (bstep HB3.out Hb4.out)
              have hw34 := Hb4.out.size
              clear Hown Hb4
              obtain ⟨gb, rfl, hgb1, hgb2⟩ := own_some hOw (by omega)
              have hjl : bt / 8 < base.length := by omega
              have hby : w4.cell? ⟨gb, bt / 8, none⟩ = some (byteV (base.getD (bt / 8) 0)) := by
                have h := (show RdB w4 (.slice (some ⟨gb, 0, none⟩) base.length gc) base from own_rdl hOw)
                obtain ⟨_, _, e, _, _, _, h6⟩ := h.shape 0
                injection e with e1 e2 e3
                obtain ⟨b', off', e4, hc⟩ := h6 (by omega)
                rw [← e1] at e4
                injection e4 with e4
                injection e4 with e5 e6
                subst e5 e6
                have h := hc (bt / 8) hjl
                rw [Nat.zero_add] at h
                exact h
              have hbf : ∀ i, w4.frozen? ⟨gb, i, none⟩ = false := fun i => own_frozen hOw i
              have q1 : (bt : Int) / 8 = ((bt / 8 : Nat) : Int) := by omega
              have q3 : (bt : Int) % 8 = ((bt % 8 : Nat) : Int) := by omega
              have q2 : (bt : Int).tdiv 8 = ((bt / 8 : Nat) : Int) := by rw [Int.tdiv_eq_ediv_of_nonneg (by omega)]; exact q1
              have q4 : (bt : Int).tmod 8 = ((bt % 8 : Nat) : Int) := by rw [Int.tmod_eq_emod_of_nonneg (by omega)]; exact q3
              have hkk : bt % 8 < 8 := Nat.mod_lt _ (by decide)
              obtain ⟨rv, hrv⟩ : ∃ rv, rv = 2 ^ (bt % 8) := ⟨_, rfl⟩
              have hrv1 : rv < 256 := by
                rw [hrv]
                exact Nat.lt_of_lt_of_le (Nat.pow_lt_pow_right (by decide) hkk) (by decide)
              obtain ⟨y, hy⟩ : ∃ y, y = base.getD (bt / 8) 0 ^^^ UInt8.ofNat (2 ^ (bt % 8)) := ⟨_, rfl⟩
              have HXo := Lib.hid (show xorAt base (bt / 8) (bt % 8) = base.set (bt / 8) y by rw [hy]; rfl)
              have hxr := u8_xor_nat (base.getD (bt / 8) 0).toNat rv (base.getD (bt / 8) 0).toNat_lt hrv1
              have hyn : y.toNat = (base.getD (bt / 8) 0).toNat ^^^ rv := by
                rw [hy, UInt8.toNat_xor, UInt8.toNat_ofNat', ← hrv, Nat.mod_eq_of_lt hrv1]
              rw [← hyn] at hxr
              have Hrv := Lib.hid hrv
              rw [HXo.out] at HE
              have hp2 : (2 : Int) ^ (bt % 8) % 256 = (rv : Int) := by
                have h := Nat.mod_eq_of_lt hrv1
                rw [hrv] at h ⊢
                exact_mod_cast h
              clear hOw hy hyn hrv hrv1 HXo
              generalize base.getD (bt / 8) 0 = x at *
              generalize bt / 8 = j at *
              generalize bt % 8 = kk at *
              have i5 : (j : Int) < (base.length : Int) := by omega
              change w4.cell? ⟨gb, j, none⟩ = some (.int .u8 (x.toNat : Int)) at hby
              have X6 := Lib.hid X.out
              have R6 := Lib.hid R.out
              have HB6 := Lib.hid HB4.out
              have X7 := Lib.hid (X6.out.set_ne (p := ⟨gb, j, none⟩) (by dsimp only; omega) (byteV y))
              have R7 := Lib.hid (R6.out.set_ne (p := ⟨gb, j, none⟩) (by dsimp only; omega) (byteV y))
              have HB7 := Lib.hid (HB6.out.setCell (p := ⟨gb, j, none⟩) (show w.heap.size ≤ gb by omega) (byteV y))
              have HU7 := Lib.hid (show OwnU (w4.setCell ⟨gb, j, none⟩ (byteV y)) w3.heap.size (.slice (some ⟨gb, 0, none⟩) base.length gc) (base.set j y) from OwnU.of (World.ownsRow.stored HU4.out j (byteV y)).1 (by rw [List.map_set]))
              have hw7 : w4.heap.size ≤ (w4.setCell ⟨gb, j, none⟩ (byteV y)).heap.size := by simp
              have x2 := X7.out.c2
              have xf := X7.out.f
              clear X6 R6 HB6 HU4 X R HB4
              go_upto_region 12 with fail
              change Code.wp _ _ _ _ (w4.setCell ⟨gb, j, none⟩ (byteV y))
              clear hby hbf
              generalize w4.setCell ⟨gb, j, none⟩ (byteV y) = W7 at *
              have HRd7 := Lib.hid (show Rd W7 3 (.slice (some ⟨b0, off, none⟩) n cap) n ((feX xs).flatMap filC) from by
                have h := (HRw.out W7 HB7.out).2
                rw [Hfl.out] at h
                exact h)
              have X7b := Lib.hid (X7.out.below ((Below.refl W7.heap.size W7).alloc (Nat.le_refl _) (.cells #[] 73)))
              have y2 := X7b.out.c2
              clear X7b
              go_upto_region 13 with (at_builtin; go_must (refine wpList_app rfl (.tmp 68) (.tmp 70) 22 rfl elemFr W7.heap.size rfl (World.ownsRow_made (size := 3) _ #[] 0 (Nat.le_refl _) (by decide) rfl) rfl (HRd7.out.alloc _) Hone.out (by unfold maxLen; omega) (by omega) (by simp) ?_); intro v8 w8 hown8 hgr8 hv8; clear hv8; obtain ⟨na, nc, e8, _⟩ := own_form hown8; subst e8; have hb8 := own_below ((Below.refl W7.heap.size W7).alloc (Nat.le_refl _) (.cells #[] 73)) (World.ownsRow_made (e := 73) (size := 3) W7 #[] 0 (Nat.le_refl _) (by decide) rfl) (by simp) hgr8; have Hb8 := Lib.hid hb8; have Hown8 := Lib.hid hown8; have z2 := (X7.out.below hb8).c2; have zf := (X7.out.below hb8).f; clear hown8 hgr8 hb8)
              clear x2 xf y2 z2 zf HRd7
              have hO := Hown8.out
              rw [Nat.zero_add, List.nil_append] at hO
              rw [Nat.zero_add] at *
              have X8 := Lib.hid ((X7.out.below Hb8.out).set2 (.slice na n nc))
              have R8 := Lib.hid ((R7.out.below Hb8.out).set_ne (p := ⟨w.heap.size, 2, none⟩) (by dsimp only; omega) (.slice na n nc))
              have HB8 := Lib.hid ((bstep HB7.out Hb8.out).setCell (p := ⟨w.heap.size, 2, none⟩) (Nat.le_refl _) (.slice na n nc))
              have HRow := Lib.hid (own_set_ne (p := ⟨w.heap.size, 2, none⟩) hO (own_above hO (show w.heap.size < W7.heap.size by omega)) (.slice na n nc))
              have HU8 := Lib.hid (OwnU.set_ne (p := ⟨w.heap.size, 2, none⟩) (HU7.out.keep Hb8.out) (show w.heap.size < w3.heap.size by omega) (.slice na n nc))
              have hw8 : W7.heap.size ≤ (w8.setCell ⟨w.heap.size, 2, none⟩ (.slice na n nc)).heap.size := by simp; exact Hb8.out.size
              clear hO Hown8 Hb8 X7 R7 HB7 HU7
              generalize w8.setCell ⟨w.heap.size, 2, none⟩ (.slice na n nc) = W8 at *
              obtain ⟨g, rfl, hgB, hgl⟩ := own_some HRow.out (by omega)
              have x2 := X8.out.c2
              have gf : ∀ i, W8.frozen? ⟨g, i, none⟩ = false := fun i => own_frozen HRow.out i
              have hfe : lo < (feX xs).length := by rw [Hfl.out]; omega
              have g1 : ∃ u, W8.cell? ⟨g, lo * 3 + 1, none⟩ = some u := by
                have hS : RdS 3 filC W8 _ (feX xs) := own_rds (fun _ _ => rfl) (by decide) (Hfl.out.symm ▸ HRow.out)
                obtain ⟨_, _, eS, _, _, _, hcS⟩ := hS.shape (by decide) fe0
                injection eS with eS1 eS2 eS3
                obtain ⟨bS, oS, eS4, hcS⟩ := hcS (by omega)
                rw [← eS1] at eS4
                injection eS4 with eS4
                injection eS4 with eS5 eS6
                subst eS5 eS6
                have gc := hcS lo hfe
                simp only [Nat.zero_add] at gc
                exact ⟨_, gc 1 _ rfl⟩
              obtain ⟨u1, g1⟩ := g1
              have HRow9 := Lib.hid (own_put1 HRow.out hfe ⟨nm, base.set j y, []⟩ (.slice (some ⟨gb, 0, none⟩) base.length gc) (by rw [HGe.out]))
              have e9 : (feX xs).getD lo fe0 = (⟨nm, base, []⟩, .slice ba base.length bc, .slice pa 0 pc) := HGe.out
              rw [e9] at HRow9
              clear e9
              have hne : (Value.slice (some ⟨gb, 0, none⟩) base.length gc).ownBlock ≠ some g := by
                intro e
                have e : some gb = some g := e
                injection e with e
                have := (World.ownsRow.lt HU8.out gb rfl)
                omega
              have HU9 := Lib.hid (show OwnU (W8.setCell ⟨g, lo * 3 + 1, none⟩ (.slice (some ⟨gb, 0, none⟩) base.length gc)) w3.heap.size (.slice (some ⟨gb, 0, none⟩) base.length gc) (base.set j y) from own_set_ne (p := ⟨g, lo * 3 + 1, none⟩) HU8.out hne (.slice (some ⟨gb, 0, none⟩) base.length gc))
              have X9 := Lib.hid (X8.out.set_ne (p := ⟨g, lo * 3 + 1, none⟩) (by dsimp only; omega) (.slice (some ⟨gb, 0, none⟩) base.length gc))
              have R := Lib.hid (R8.out.set_ne (p := ⟨g, lo * 3 + 1, none⟩) (by dsimp only; omega) (.slice (some ⟨gb, 0, none⟩) base.length gc))
              have HB9 := Lib.hid (HB8.out.setCell (p := ⟨g, lo * 3 + 1, none⟩) (show w.heap.size ≤ g by omega) (.slice (some ⟨gb, 0, none⟩) base.length gc))
              clear HRow HU8 X8 R8 HB8 hne
              go_upto_region 14 with fail
              try change Code.wp _ _ _ _ (W8.setCell ⟨g, lo * 3 + 1, none⟩ (.slice (some ⟨gb, 0, none⟩) base.length gc))
              clear x2 gf g1
              generalize W8.setCell ⟨g, lo * 3 + 1, none⟩ (.slice (some ⟨gb, 0, none⟩) base.length gc) = W9 at *
              have HRb := Lib.hid (show RowB w xs W9 w3.heap.size (.slice (some ⟨g, 0, none⟩) n nc) (xs.set lo ((⟨nm, base.set j y, []⟩, .slice (some ⟨gb, 0, none⟩) base.length gc, .slice pa 0 pc), [])) from ⟨by
                  rw [HSfe.out, List.length_set, Hfl.out]
                  exact World.ownsRow.mono HRow9.out (by omega), by omega, fun W' hk hp q hq => by
                rcases HSmem.out _ _ q hq with h | h
                · exact hp q h
                · rw [h]
                  have hpo := hp _ HMem.out
                  refine ⟨?_, hpo.2.1, hpo.2.2⟩
                  have hu : RdB W' (.slice (some ⟨gb, 0, none⟩) base.length gc) (base.set j y) := own_rdl (hk.own (show W9.ownsRow w3.heap.size 5 1 (.slice (some ⟨gb, 0, none⟩) base.length gc) (base.set j y).length ((base.set j y).map byteV) from HU9.out) (Nat.le_refl _))
                  exact hu⟩)
              have x0 := X9.out.c0
              have x1 := X9.out.c1
              have x2 := X9.out.c2
              clear HRow9 HU9
              have r0 := R.out.c0
              have r1 := R.out.c1
              have r2 := R.out.c2
              have rf := R.out.f
              have HRz := Lib.hid (RowR.set3 (b := w.heap.size + 1) HRb.out (by omega) (.int .i64 c) (.int .i64 lf) (.slice (some ⟨g, 0, none⟩) n nc))
              go_wp2_with fail
              exact bodyPost_ret (v := .tuple #[diskVal c lf (.slice (some ⟨g, 0, none⟩) n nc), .int .i64 0]) (by simp [results, Tryd.results75, go_sem, r0, r1, r2]) rfl ⟨⟨_, _, by rw [HE.out]; first | done | rfl, by rw [HE.out]; exact (by rw [HSet.out]), HRz.out⟩, HB9.out.all3 (by omega) _ _ _⟩
        · have HE := Lib.hid (E12.out (by trivial) (by trivial) (fun e => hps (by have := List.length_eq_zero_iff.2 e; rw [hwl] at this; exact List.length_eq_zero_iff.1 this)))
          have i2 : (0 : Int) < (wes.length : Int) := by
            have := List.length_pos_iff.2 hps
            omega
          clear E2 E12 E0 hwl hp2
          generalize wes.length = wl at *
          generalize base.length = bl at *
          have r0 := R.out.c0
          have r1 := R.out.c1
          have r2 := R.out.c2
          have rf := R.out.f
          go_wp2_with fail
          exact bodyPost_ret (v := .tuple #[diskVal 0 0 nilS, .int .i64 12]) (by simp [results, Tryd.results75, go_sem, r0, r1, r2]) rfl ⟨⟨_, [], by rw [HE.out]; first | done | rfl, by rw [HE.out]; rfl, RowR.nil _ _ _⟩, HB3.out.all3 (by omega) _ _ _⟩
      · subst hqh
        have hfi : fi = -1 := HFi.out
        subst hfi
        have HE := Lib.hid (E6.out rfl rfl)
        have HFv := Lib.hid (HF.out hv)
        clear hv
        go_wp2_with fail
        refine (HFv.out w1 HB1.out).mono ?_
        rintro e w3 ⟨rfl, hb3⟩
        replace X := Lib.hid (X.out.below hb3)
        replace R := Lib.hid (R.out.below hb3)
        have HB3 := Lib.hid (bstep HB1.out hb3)
        have hB3 := Nat.le_trans hB1 hb3.size
        clear HB1 hB1 hb3 x0 x1 x2
        have x0 := X.out.c0
        have x1 := X.out.c1
        have x2 := X.out.c2
        have r0 := R.out.c0
        have r1 := R.out.c1
        have r2 := R.out.c2
        have rf := R.out.f
        go_wp2_with fail
        exact bodyPost_ret (v := .tuple #[diskVal 0 0 nilS, .int .i64 6]) (by simp [results, Tryd.results75, go_sem, r0, r1, r2]) rfl ⟨⟨_, [], by rw [HE.out]; first | done | rfl, by rw [HE.out]; rfl, RowR.nil _ _ _⟩, HB3.out.all3 (by omega) _ _ _⟩
    · subst hqn
      have HE := Lib.hid (E1.out rfl)
      clear hv
      go_wp2_with fail
      refine (HVn.out w1).mono ?_
      rintro e w2 ⟨rfl, rfl⟩
      have r0 := R.out.c0
      have r1 := R.out.c1
      have r2 := R.out.c2
      have rf := R.out.f
      go_wp2_with fail
      exact bodyPost_ret (v := .tuple #[diskVal 0 0 nilS, .int .i64 1]) (by simp [results, Tryd.results75, go_sem, r0, r1, r2]) rfl ⟨⟨_, [], by rw [HE.out]; first | done | rfl, by rw [HE.out]; rfl, RowR.nil _ _ _⟩, HB1.out.all3 (by omega) _ _ _⟩
  · subst hqv
    have HE := Lib.hid (E1.out (by simp))
    go_wp2_with fail
    refine (HV.out W0 HB0.out).mono ?_
    rintro e w1 ⟨rfl, hb1⟩
    replace X := Lib.hid (X.out.below hb1)
    replace R := Lib.hid (R.out.below hb1)
    have HB1 := Lib.hid (bstep HB0.out hb1)
    have hB1 := Nat.le_trans hB0 hb1.size
    clear HB0 hB0 hb1 x0 x1 x2
    have x0 := X.out.c0
    have x1 := X.out.c1
    have x2 := X.out.c2
    have r0 := R.out.c0
    have r1 := R.out.c1
    have r2 := R.out.c2
    have rf := R.out.f
    go_wp2_with fail
    exact bodyPost_ret (v := .tuple #[diskVal 0 0 nilS, .int .i64 1]) (by simp [results, Tryd.results75, go_sem, r0, r1, r2]) rfl ⟨⟨_, [], by rw [HE.out]; first | done | rfl, by rw [HE.out]; rfl, RowR.nil _ _ _⟩, HB1.out.all3 (by omega) _ _ _⟩
end Go.Proofs.YtkabcpmnbjllcaaDoor
