/- DiskCapacity: the walk. Printed by mkDkm.py. -/
import Derived.Test.YtkabcpmnbjllcaaDoorDkl
import Derived.Test.YtkabcpmnbjllcaaDoorDkj
namespace Go.Proofs.YtkabcpmnbjllcaaDoor
open Go.RowKit

theorem CapI.valid {c : Int} {fl : List Fil} (h : CapI c ⟨c, -1, fl⟩) : validD ⟨c, -1, fl⟩ = true := (validD_iff _).2 h.vld
theorem CapI.size {c : Int} {fl : List Fil} (h : CapI c ⟨c, -1, fl⟩) {j : Nat} (hj : j < fl.length) : sizeD ⟨c, -1, fl⟩ (atN fl j).name = (lenF (atN fl j), 0) := by
  have hv := h.vld
  have ha : fl.Pairwise (fun a b => a.name < b.name) := hv.asc
  have hlo : lowN fl (atN fl j).name = j := lowN_eq ha hj rfl
  have hn : nameB (atN fl j).name = true := name_of_vld hv hj
  have hh : hasN fl (atN fl j).name = true := (hasN_iff ha _).2 ⟨by rw [hlo]; exact hj, by rw [hlo]⟩
  have he : atE ⟨c, -1, fl⟩ (atN fl j).name = 0 := by
    have hr : readyE ⟨c, -1, fl⟩ (atN fl j).name = 0 := by unfold readyE; rw [h.valid, hn]; rfl
    unfold atE; rw [hr, if_neg (by simp)]; show (if hasN fl _ = true then (0 : Int) else 6) = 0; rw [hh]; rfl
  unfold sizeD
  rw [he, if_neg (by simp)]
  show (lenF (atN fl (lowN fl _)), (0 : Int)) = _
  rw [hlo]
theorem OwnN.at {w : World} {B : Nat} {a : Option Addr} {n cap : Nat} {l : List (List UInt8)} (h : OwnN w B (.slice a n cap) l) {j : Nat} (hj : j < l.length) : n = l.length ∧ ∃ b off, a = some ⟨b, off, none⟩ ∧ w.cell? ⟨b, off + j, none⟩ = some (.string (strB (l.getD j []))) := by
  have hr : RdL strV w (.slice a n cap) l := own_rdl h
  obtain ⟨_, _, e, _, _, _, h6⟩ := hr.shape []
  injection e with e1 e2 e3
  subst e1 e2 e3
  obtain ⟨b, off, e4, hc⟩ := h6 (by omega)
  exact ⟨rfl, b, off, e4, hc j hj⟩
set_option maxRecDepth 100000 in
set_option maxHeartbeats 12800000 in
theorem capacity_go (qn : Nat) (lv : Value) (l : List (Opr × Value × Value)) (w : World) (hqn : qn < 256) (h2 : RdO w lv l) : Calls Tryd.prog 12 #[.int .u8 (qn : Int), lv] w fun e w' => e = .returned (.bool true) ∧ Below w.heap.size w w' := by
  obtain ⟨la, lc, rfl, hl1, hl2⟩ := h2.shape
  obtain ⟨c, hc⟩ : ∃ c : Int, (qn : Int) + 1 = c := ⟨_, rfl⟩
  have hc0 : 0 < c := by omega
  have hc2 : c ≤ 256 := by omega
  have HL := Lib.hid h2
  have HNew := Lib.hid (show ∀ W, Calls Tryd.prog 25 #[.int .i64 c] W fun e w' => e = .returned (.agg #[.int .i64 c, .int .i64 (-1), .slice none 0 0]) ∧ Below W.heap.size W w' from fun W => by
    have := new_any c W
    rw [show max c 0 = c by omega] at this
    exact this)
  clear h2
  generalize l.length = ln at *
  go_enter Tryd.func12, Tryd.ntmps12
  go_wp2_with fail
  refine (HNew.out _).mono ?_
  rintro e w1 ⟨rfl, hb1⟩
  have HB1 := Lib.hid hb1
  clear hb1
  have X := Lib.hid (show BoxR (w1.alloc (.cells #[.int .i64 c, .int .i64 (-1), .slice none 0 0] 33)) w1.heap.size ⟨c, -1, []⟩ (.slice none 0 0) from BoxR.new (d := ⟨c, -1, []⟩) (RdF_nil _))
  have HB := Lib.hid (HB1.out.alloc HB1.out.size (.cells #[.int .i64 c, .int .i64 (-1), .slice none 0 0] 33))
  have hb0 := HB1.out.size
  clear HB1
  go_upto_region 2 with fail
  generalize w1.alloc (.cells #[.int .i64 c, .int .i64 (-1), .slice none 0 0] 33) = W0 at *
  generalize w1.heap.size = b0 at *
  have HC0 := Lib.hid (show CapI c ⟨c, -1, []⟩ from ⟨⟨by show 0 ≤ c; omega, by show (-1 : Int) ≤ -1; omega, Nat.zero_le _, (fun f h => by cases h), List.Pairwise.nil⟩, rfl, rfl, by show totL [] 0 ≤ c; unfold totL; simp; omega⟩)
  have HS0 := Lib.hid (show SmallD ⟨c, -1, []⟩ 0 from ⟨⟨by show _ ≤ c; omega, by show c ≤ _; omega⟩, ⟨by show _ ≤ (-1 : Int); omega, by show (-1 : Int) ≤ _; omega⟩, fun f h => by cases h⟩)
  go_wp2_with fail
  go_loopw [6] (fun iv W => ∃ (k : Nat) (fl : List Fil), iv = .int .i64 (k : Int) ∧ k ≤ ln ∧ k ≤ 16 ∧ Hid (CapI c ⟨c, -1, fl⟩) ∧ Hid (SmallD ⟨c, -1, fl⟩ k) ∧ ∃ ra rn rc, Hid (BoxR W b0 ⟨c, -1, fl⟩ (.slice ra rn rc)) ∧ Hid (Below w.heap.size w W)) (fun iv _ => ln - (intOf iv).toNat)
  case atStart => exact ⟨0, [], rfl, Nat.zero_le _, Nat.zero_le _, HC0, HS0, _, _, _, X, HB⟩
  case round =>
    obtain ⟨k, fl, rfl, hkl, hk16, HC, HS, ra, rn, rc, X, HB⟩ := hrel
    clear HC0 HS0
    by_cases hlt : k < ln ∧ k < 16
    · obtain ⟨hlt1, hlt2⟩ := hlt
      have i1 : (k : Int) < (ln : Int) := by omega
      have i2 : (k : Int) < 16 := by omega
      obtain ⟨bb, boff, rfl, hin, c0, c1, c2, c3, c4, c5⟩ := (HL.out.below HB.out).at hlt1
      generalize l.getD k op0 = q at *
      obtain ⟨o, dv, kv⟩ := q
      obtain ⟨hdv, hkv, hwf⟩ := hin
      dsimp only at *
      obtain ⟨da, dc, rfl, _⟩ := hdv.shape0
      obtain ⟨ka, kc, rfl, _⟩ := hkv.shape
      have HCu := Lib.hid (cut_any o _ _ wr hdv hkv)
      have HO := Lib.hid hwf.lite
      have HLi := Lib.hid (show LiteD ⟨c, -1, fl⟩ from HC.out.vld.lite HS.out (by omega))
      have HCh := Lib.hid (fun W fv dv kv (h : RdF W fv fl) (hd : RdB W dv (cutO o).data) (hk : RdK W kv (cutO o).keep) => (change_any ⟨c, -1, fl⟩ (cutO o) fv dv kv W h HLi.out hd hk HO.out).mono fun _ _ h => h.op)
      have HNa := Lib.hid (show ∀ W fv, RdF W fv fl → Calls Tryd.prog 33 #[.agg #[.int .i64 c, .int .i64 (-1), fv]] W fun e w' => ∃ v', e = .returned v' ∧ OwnN w' W.heap.size v' (fl.map (·.name)) ∧ Below W.heap.size W w' from fun W fv h => by
        have := names_any ⟨c, -1, fl⟩ fv W h HLi.out
        unfold namesD at this
        rw [if_pos HC.out.valid] at this
        exact this)
      have HSi := Lib.hid (show ∀ j, j < fl.length → ∀ W fv, RdF W fv fl → Calls Tryd.prog 29 #[.agg #[.int .i64 c, .int .i64 (-1), fv], .string (strB (atN fl j).name)] W fun e w' => e = .returned (.tuple #[.int .i64 (lenF (atN fl j)), .int .i64 0]) ∧ Below W.heap.size W w' from fun j hj W fv h => by
        have := size_any ⟨c, -1, fl⟩ (atN fl j).name fv W h HLi.out (Nat.le_trans (HLi.out.fil (atN fl j) (atN_mem hj)).name (by omega))
        rw [HC.out.size hj] at this
        exact this)
      have HTk := Lib.hid (fun j (hj : j < fl.length) => totL_take fl 0 j hj)
      have HTb := Lib.hid (fun j (hj : j < fl.length) => And.intro (HC.out.vld.pos _ (atN_mem hj)) (show lenF (atN fl j) ≤ c by have := len_le_tot HC.out.vld.pos hj; have h3 : totL fl 0 ≤ c := HC.out.tot; exact Int.le_trans this h3))
      have HTs := Lib.hid (fun j => And.intro (show 0 ≤ totL (fl.take j) 0 by
        have := totL_sub (List.nil_sublist (fl.take j)) (fun f hf => HC.out.vld.pos f (List.mem_of_mem_take hf))
        exact this) (show totL (fl.take j) 0 ≤ c from Int.le_trans (totL_sub (List.take_sublist j fl) HC.out.vld.pos) HC.out.tot))
      have HTt := Lib.hid (show totL (fl.take fl.length) 0 = totL fl 0 by rw [List.take_length])
      have htot : totL fl 0 ≤ c := HC.out.tot
      have htot0 : 0 ≤ totL fl 0 := by have := (HTs.out fl.length).1; rwa [HTt.out] at this
      have HFu := Lib.hid (fun hk => HC.out.full hc0 hc2 (cutO o) hk (show (o.data.take 200).length ≤ 200 by rw [List.length_take]; omega))
      have HNx := Lib.hid (fun hk he => HC.out.change hc0 (cutO o) hk he)
      have HSx := Lib.hid (changeD_small HS.out (cutO o))
      have hfl5 : fl.length ≤ 1000 := HLi.out.len
      have hdl : (cutO o).data.length ≤ 200 := by show (o.data.take 200).length ≤ 200; rw [List.length_take]; omega
      have HNm := Lib.hid (fun j (hj : j < fl.length) => show (fl.map (·.name)).getD j [] = (atN fl j).name by
        unfold atN
        rw [List.getD_eq_getElem?_getD, List.getD_eq_getElem?_getD, List.getElem?_map, List.getElem?_eq_getElem hj]; rfl)
      have HNl := Lib.hid (show (fl.map (·.name)).length = fl.length from List.length_map ..)
      obtain ⟨r, q, e1, r1, r2, e2, e3, hqk, q1, q2⟩ := kind_mod HO.out.kind
      have Hqk := Lib.hid (show q = (cutO o).kind % 10 from hqk)
      change o.kind.tmod 10 = r at e1
      clear hqk HO hwf HLi hdv hkv
      generalize hRS : changeD ⟨c, -1, fl⟩ (cutO o) = RS at *
      clear hRS
      obtain ⟨⟨xc, xl, xf⟩, xE⟩ := RS
      dsimp only [totD] at *
      generalize totL fl 0 = tot at *
      dsimp only [opVal, cutO] at HCu HCh HFu hdl Hqk HNx
      generalize o.data.take 200 = D at *
      generalize o.keep.take 10 = K at *
      generalize o.data.length = odl at *
      generalize o.keep.length = okl at *
      generalize o.kind = kd at *
      generalize strB o.name = snm at *
      generalize strB o.to = sto at *
      generalize o.off = off at *
      go_wp2_with fail
      refine HCu.out.mono ?_
      rintro e w1' ⟨da', dn, dc', ka', kn, kc', rfl, hd1, hk1, hb1⟩
      obtain rfl : dn = D.length := by
        obtain ⟨_, _, e0, _⟩ := hd1.shape0
        injection e0
      have hA := (Below.refl w1'.heap.size w1').alloc (Nat.le_refl _) (.cells #[.int .i64 kd, .string snm, .string sto, .int .i64 off, .slice da' D.length dc', .slice ka' kn kc'] 85)
      have hbA := bstep hb1 hA
      have X2 := Lib.hid (X.out.below hbA)
      have HB2 := Lib.hid (bstep HB.out hbA)
      have HD2 := Lib.hid (hd1.below hA)
      have HK2 := Lib.hid (hk1.below hA)
      have O2 := Lib.hid (BoxO.newK (rfl : w1'.heap.size = w1'.heap.size) kd snm sto off (.slice da' D.length dc') (.slice ka' kn kc') 85)
      clear hA hbA hb1 hd1 hk1 HCu X HB c0 c1 c2 c3 c4 c5
      generalize hDl : D.length = dl at *
      clear hDl
      go_upto_region 6 with fail
      generalize w1'.alloc (.cells #[.int .i64 kd, .string snm, .string sto, .int .i64 off, .slice da' dl dc', .slice ka' kn kc'] 85) = w2 at *
      generalize w1'.heap.size = b7 at *
      have y0 := O2.out.c0
      by_cases hq7 : 7 < q
      · go_wp2_with fail
        exact ⟨⟨k + 1, fl, by go_num, by omega, by omega, HC, Lib.hid (HS.out.more (Nat.le_succ k)), _, _, _, X2, HB2⟩, by simp [intOf]; omega⟩
      · go_upto_region 9 with fail
        clear y0
        have Hcap := Lib.hid (fun W fl fv (h : BoxR W b0 ⟨c, -1, fl⟩ fv) => show W.cell? ⟨b0, 0, none⟩ = some (.int .i64 c) ∧ W.cell? ⟨b0, 1, none⟩ = some (.int .i64 (-1)) ∧ W.cell? ⟨b0, 2, none⟩ = some fv from ⟨h.x.c0, h.x.c1, h.x.c2⟩)
        obtain ⟨x0, x1, x2⟩ := Hcap.out _ _ _ X2.out
        go_wp2_with fail
        refine (HNa.out _ _ X2.out.r).mono ?_
        rintro e w3 ⟨nv, rfl, hnv, hb3⟩
        have X3 := Lib.hid (X2.out.below hb3)
        have O3 := Lib.hid (O2.out.below hb3)
        have HD3 := Lib.hid (HD2.out.below hb3)
        have HK3 := Lib.hid (HK2.out.below hb3)
        have HB3 := Lib.hid (bstep HB2.out hb3)
        have ho := hnv
        unfold OwnN at ho
        rw [HNl.out] at ho
        obtain ⟨na, nc, hnvE, _⟩ := own_form ho
        subst hnvE
        have HN3 := Lib.hid hnv
        clear ho hnv hb3 x0 x1 x2 X2 O2 HD2 HK2 HB2 HNa
        have Htt := Lib.hid (show ∀ j, j < fl.length → totL (fl.take (j + 1)) 0 = totL (fl.take j) 0 + lenF (atN fl j) from HTk.out)
        generalize hfn : fl.length = fn at *
        clear hfn
        go_wp2_with fail
        go_loopw [9, 46] (fun sv iv W => ∃ j : Nat, iv = .int .i64 (j : Int) ∧ j ≤ fn ∧ sv = .int .i64 (totL (fl.take j) 0) ∧ Hid (Below w3.heap.size w3 W)) (fun _ iv _ => fn - (intOf iv).toNat)
        case atStart => exact ⟨0, rfl, Nat.zero_le _, rfl, Lib.hid (Below.refl _ _)⟩
        case round =>
          obtain ⟨j, rfl, hj, rfl, HBj⟩ := hrel
          have XJ := Lib.hid (X3.out.below HBj.out)
          have HTj := HTs.out j
          by_cases hlj : j < fn
          · have j1 : (j : Int) < (fn : Int) := by omega
            obtain ⟨hnn, nb, noff, rfl, n0⟩ := OwnN.at (World.ownsRow.mono (own_keep HN3.out HBj.out) (Nat.le_refl _)) (show j < (fl.map (·.name)).length by rw [HNl.out]; exact hlj)
            clear hnn
            rw [HNm.out j hlj] at n0
            have HSj := Lib.hid (HSi.out j hlj)
            have HTk1 := Lib.hid (HTk.out j hlj)
            have hTb := HTb.out j hlj
            generalize strB (atN fl j).name = sj at *
            generalize lenF (atN fl j) = lj at *
            generalize totL (fl.take j) 0 = tj at *
            obtain ⟨t1, t2⟩ := HTj
            obtain ⟨t3, t4⟩ := hTb
            obtain ⟨x0, x1, x2⟩ := Hcap.out _ _ _ XJ.out
            go_wp2_with fail
            refine (HSj.out _ _ XJ.out.r).mono ?_
            rintro e w5 ⟨rfl, hb5⟩
            have HB5 := Lib.hid (bstep HBj.out hb5)
            clear hb5 x0 x1 x2 n0
            go_wp2_with fail
            exact ⟨⟨j + 1, by go_num, by omega, by rw [HTk1.out], HB5⟩, by simp [intOf]; omega⟩
          · have j1 : ¬ (j : Int) < (fn : Int) := by omega
            obtain rfl : j = fn := by omega
            have OJ := Lib.hid (O3.out.below HBj.out)
            have HDJ := Lib.hid (HD3.out.below HBj.out)
            have HKJ := Lib.hid (HK3.out.below HBj.out)
            have HBJ := Lib.hid (bstep HB3.out HBj.out)
            rw [HTt.out]
            have j2 : ¬ c < tot := by omega
            clear HTj X3 O3 HD3 HK3 HB3 HBj HN3
            go_upto_region 17 with fail
            obtain ⟨x0, x1, x2⟩ := Hcap.out _ _ _ XJ.out
            have o0 := OJ.out.c0
            have o1 := OJ.out.c1
            have o2 := OJ.out.c2
            have o3 := OJ.out.c3
            have o4 := OJ.out.c4
            have o5 := OJ.out.c5
            go_wp2_with fail
            refine (HCh.out _ _ _ _ XJ.out.r HDJ.out HKJ.out).mono ?_
            rintro e w8 ⟨a8, n8, c8, rfl, hs8, _, hb8⟩
            have hA := (Below.refl w8.heap.size w8).alloc (Nat.le_refl _) (.cells #[.int .i64 xc, .int .i64 xl, .slice a8 n8 c8] 33)
            have hbA := bstep hb8 hA
            have X9 := Lib.hid (XJ.out.below hbA)
            have O9 := Lib.hid (OJ.out.below hbA)
            have HB9 := Lib.hid (bstep HBJ.out hbA)
            have HS9 := Lib.hid (hs8.keep (KeepB.below hA) (Nat.le_refl _))
            have Y9 := Lib.hid (BoxD.new w8 xc xl (.slice a8 n8 c8) 33)
            have hbx := XJ.out.x.lt
            clear hA hbA hb8 hs8 x0 x1 x2 o0 o1 o2 o3 o4 o5 XJ OJ HBJ HDJ HKJ
            go_upto_region 18 with fail
            generalize w8.alloc (.cells #[.int .i64 xc, .int .i64 xl, .slice a8 n8 c8] 33) = w9 at *
            generalize w8.heap.size = b14 at *
            have o0 := O9.out.c0
            have o4 := O9.out.c4
            by_cases hk12 : q = 1 ∨ q = 2
            · have hF := HFu.out (by rw [← Hqk.out]; exact hk12)
              by_cases hov : c < tot + (dl : Int)
              · by_cases hE6 : xE = 6
                · subst hE6
                  clear hF
                  rcases hk12 with hk | hk
                  all_goals
                    subst hk
                    go_wp2_with fail
                    exact ⟨⟨k + 1, fl, by go_num, by omega, by omega, HC, Lib.hid (HS.out.more (Nat.le_succ k)), _, _, _, X9, HB9⟩, by simp [intOf]; omega⟩
                · by_cases hE1 : xE = 1
                  · subst hE1
                    clear hF
                    rcases hk12 with hk | hk
                    all_goals
                      subst hk
                      go_wp2_with fail
                      exact ⟨⟨k + 1, fl, by go_num, by omega, by omega, HC, Lib.hid (HS.out.more (Nat.le_succ k)), _, _, _, X9, HB9⟩, by simp [intOf]; omega⟩
                  · have hE9 : xE = 9 := hF.2 ⟨hov, hE6, hE1⟩
                    subst hE9
                    clear hF hE6 hE1
                    rcases hk12 with hk | hk
                    all_goals
                      subst hk
                      go_wp2_with fail
                      exact ⟨⟨k + 1, fl, by go_num, by omega, by omega, HC, Lib.hid (HS.out.more (Nat.le_succ k)), _, _, _, X9, HB9⟩, by simp [intOf]; omega⟩
              · have hE9 : ¬ xE = 9 := fun e => hov (hF.1 e).1
                clear hF
                by_cases hE0 : xE = 0
                · subst hE0
                  clear hE9
                  rcases hk12 with hk | hk
                  all_goals
                    subst hk
                    have hN := HNx.out (by rw [← Hqk.out]; omega) rfl
                    have hNc : c = xc := hN.cap.symm
                    have hNl : (-1 : Int) = xl := hN.left.symm
                    subst hNc hNl
                    have HN := Lib.hid hN
                    clear hN
                    have X10 := Lib.hid (BoxD.put (d := ⟨c, -1, xf⟩) X9.out.x HS9.out hbx)
                    have HB10 := Lib.hid (HB9.out.all3 (b := b0) hb0 (.int .i64 c) (.int .i64 (-1)) (.slice a8 n8 c8))
                    change Hid (BoxR (((w9.setCell ⟨b0, 0, none⟩ (.int .i64 c)).setCell ⟨b0, 1, none⟩ (.int .i64 (-1))).setCell ⟨b0, 2, none⟩ (.slice a8 n8 c8)) _ _ _) at X10
                    have y0 := Y9.out.c0
                    have y1 := Y9.out.c1
                    have y2 := Y9.out.c2
                    obtain ⟨x0, x1, x2⟩ := Hcap.out _ _ _ X9.out
                    have xf' := X9.out.x.f
                    go_wp2_with fail
                    exact ⟨⟨k + 1, xf, by go_num, by omega, by omega, HN, HSx, _, _, _, X10, HB10⟩, by simp [intOf]; omega⟩
                · rcases hk12 with hk | hk
                  all_goals
                    subst hk
                    go_wp2_with fail
                    exact ⟨⟨k + 1, fl, by go_num, by omega, by omega, HC, Lib.hid (HS.out.more (Nat.le_succ k)), _, _, _, X9, HB9⟩, by simp [intOf]; omega⟩
            · have hq1 : ¬ q = 1 := fun e => hk12 (.inl e)
              have hq2 : ¬ q = 2 := fun e => hk12 (.inr e)
              clear hk12
              by_cases hE0 : xE = 0
              · subst hE0
                have hN := HNx.out (by rw [← Hqk.out]; omega) rfl
                have hNc : c = xc := hN.cap.symm
                have hNl : (-1 : Int) = xl := hN.left.symm
                subst hNc hNl
                have HN := Lib.hid hN
                clear hN
                have X10 := Lib.hid (BoxD.put (d := ⟨c, -1, xf⟩) X9.out.x HS9.out hbx)
                have HB10 := Lib.hid (HB9.out.all3 (b := b0) hb0 (.int .i64 c) (.int .i64 (-1)) (.slice a8 n8 c8))
                change Hid (BoxR (((w9.setCell ⟨b0, 0, none⟩ (.int .i64 c)).setCell ⟨b0, 1, none⟩ (.int .i64 (-1))).setCell ⟨b0, 2, none⟩ (.slice a8 n8 c8)) _ _ _) at X10
                have y0 := Y9.out.c0
                have y1 := Y9.out.c1
                have y2 := Y9.out.c2
                obtain ⟨x0, x1, x2⟩ := Hcap.out _ _ _ X9.out
                have xf' := X9.out.x.f
                go_wp2_with fail
                exact ⟨⟨k + 1, xf, by go_num, by omega, by omega, HN, HSx, _, _, _, X10, HB10⟩, by simp [intOf]; omega⟩
              · go_wp2_with fail
                exact ⟨⟨k + 1, fl, by go_num, by omega, by omega, HC, Lib.hid (HS.out.more (Nat.le_succ k)), _, _, _, X9, HB9⟩, by simp [intOf]; omega⟩
    · by_cases hl2 : k < ln
      · have i1 : (k : Int) < (ln : Int) := by omega
        have i2 : ¬ (k : Int) < 16 := by omega
        clear hlt
        go_wp2_with fail
        refine (awake_any _).mono ?_
        rintro e w15 ⟨rfl, hb15⟩
        have HB15 := Lib.hid (bstep HB.out hb15)
        clear hb15
        go_wp2_with fail
        go_ret
        exact ⟨rfl, HB15.out⟩
      · have i1 : ¬ (k : Int) < (ln : Int) := by omega
        clear hlt
        go_wp2_with fail
        refine (awake_any _).mono ?_
        rintro e w15 ⟨rfl, hb15⟩
        have HB15 := Lib.hid (bstep HB.out hb15)
        clear hb15
        go_wp2_with fail
        go_ret
        exact ⟨rfl, HB15.out⟩
theorem capacity_walk (q : Int) (a : Option Addr) (n cap : Nat) (w : World) (hq : (Lit.int .u8 q).wf = true) (h : ∃ l, RdO w (.slice a n cap) l) :
    Calls Tryd.prog 12 #[.int .u8 q, .slice a n cap] w fun e w' => e = .returned (.bool true) ∧ Below w.heap.size w w' := by
  obtain ⟨qn, rfl, hqn⟩ := nat_of_u8 hq
  obtain ⟨l, hl⟩ := h
  exact capacity_go qn _ l w hqn hl
end Go.Proofs.YtkabcpmnbjllcaaDoor
