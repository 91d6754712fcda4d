/- Several texts in one, each over the last: given and told of the law: the walks. Printed by mkDrv.py. A region that draws its order, all of whose operations may come in any order (wp_region_inv without a tail). -/
import Derived.Test.YtkabcpmnbjllcaaDoorDru
import Derived.Test.YtkabcpmnbjllcaaDoorRn
namespace Go.Proofs.YtkabcpmnbjllcaaDoor
open Go.RowKit

/-- A row on its way from the one package to the other: the rows are the call's own, the bytes those that came in. -/
structure GvR (TF TW : TypeId) (w : World) (B : Nat) (W : World) (v : Value) (ys : List FX) : Prop where
  row : W.ownsRow B TF 3 v ys.length ((feX ys).flatMap filC)
  new : ∀ q ∈ ys, W.ownsRow B TW 3 q.1.2.2 q.2.length (q.2.flatMap wrC)
  old : ∀ q ∈ ys, RdB w q.1.2.1 q.1.1.base ∧ (∀ p ∈ q.2, RdB w p.2 p.1.data) ∧ q.2.map (·.1) = q.1.1.pend
section
variable {TF TW : TypeId} {w W W' : World} {B : Nat} {v : Value} {ys : List FX}
theorem GvR.nil (TF TW : TypeId) (w : World) (B : Nat) (W : World) : GvR TF TW w B W (.slice none 0 0) [] := ⟨World.ownsRow_nil W B TF 3, (fun _ h => by cases h), fun _ h => by cases h⟩
theorem GvR.below (h : GvR TF TW w B W v ys) (hb : Below W.heap.size W W') : GvR TF TW w B W' v ys := ⟨own_keep h.row hb, fun q hq => own_keep (h.new q hq) hb, h.old⟩
theorem GvR.set (h : GvR TF TW w B W v ys) {b : Nat} (hb : b < B) (i : Nat) (u : Value) : GvR TF TW w B (W.setCell ⟨b, i, none⟩ u) v ys :=
  ⟨own_set_ne (p := ⟨b, i, none⟩) h.row (own_above h.row hb) u, fun q hq => own_set_ne (p := ⟨b, i, none⟩) (h.new q hq) (own_above (h.new q hq) hb) u, h.old⟩
theorem GvR.grown (h : GvR TF TW w B W v ys) (hne : TW ≠ TF) {v' : Value} (hg : W.grownBy W' v.ownBlock) (q : FX) (hn : W.ownsRow B TW 3 q.1.2.2 q.2.length (q.2.flatMap wrC)) (ho : RdB w q.1.2.1 q.1.1.base ∧ (∀ p ∈ q.2, RdB w p.2 p.1.data) ∧ q.2.map (·.1) = q.1.1.pend)
    (hr : W'.ownsRow B TF 3 v' (ys.length + 1) ((feX ys).flatMap filC ++ filC q.1)) : GvR TF TW w B W' v' (ys ++ [q]) := by
  refine ⟨?_, fun p hp => ?_, fun p hp => ?_⟩
  · rw [List.length_append, show feX (ys ++ [q]) = feX ys ++ [q.1] by unfold feX; rw [List.map_append]; rfl, List.flatMap_append]
    show W'.ownsRow B TF 3 v' (ys.length + 1) ((feX ys).flatMap filC ++ ([q.1].flatMap filC))
    rw [List.flatMap_singleton]
    exact hr
  · rcases List.mem_append.1 hp with hp | hp
    · exact World.ownsRow.kept (h.new p hp) hg (own_ne (h.new p hp) h.row hne)
    · rw [List.mem_singleton.1 hp]; exact World.ownsRow.kept hn hg (own_ne hn h.row hne)
  · rcases List.mem_append.1 hp with hp | hp
    · exact h.old p hp
    · rw [List.mem_singleton.1 hp]; exact ho
theorem GvR.done (h : GvR TF TW w B W v ys) (hb : Below w.heap.size w W) : RdF W v (filX ys) := by
  refine ⟨feX ys, feX_fst ys, rdFE_x (own_rds (fun _ _ => rfl) (by decide) h.row) fun q hq => ?_⟩
  obtain ⟨h1, h2, h3⟩ := h.old q hq
  exact ⟨RdL.below h1 hb, ⟨own_rds (fun _ _ => rfl) (by decide) (h.new q hq), fun p hp => RdL.below (h2 p hp) hb⟩, h3⟩
end
theorem RdWE.at2 {w : World} {a : Option Addr} {n cap j : Nat} {es : List (Wr × Value)} (h : RdWE w (.slice a n cap) es) (hj : j < n) : n = es.length ∧ ∃ b off, a = some ⟨b, off, none⟩ ∧ RdB w (es.getD j (wr0, nilS)).2 (es.getD j (wr0, nilS)).1.data ∧
    w.cell? ⟨b, off + j * 3, none⟩ = some (.int .i64 (es.getD j (wr0, nilS)).1.off) ∧ w.cell? ⟨b, off + j * 3 + 1, none⟩ = some (es.getD j (wr0, nilS)).2 ∧ w.cell? ⟨b, off + j * 3 + 2, none⟩ = some (.bool (es.getD j (wr0, nilS)).1.cut) := by
  obtain ⟨a', cap', e, h1, h2, h3, h4⟩ := h.row.shape (by decide) (wr0, nilS)
  injection e with e1 e2 e3
  subst e1 e2 e3
  obtain ⟨b, off, e4, hc⟩ := h4 (by omega)
  have c := hc j hj
  refine ⟨rfl, b, off, e4, ?_, c 0 _ rfl, c 1 _ rfl, c 2 _ rfl⟩
  exact h.dat _ (by rw [List.getD_eq_getElem?_getD, List.getElem?_eq_getElem hj]; exact List.getElem_mem hj)
set_option maxRecDepth 100000 in
set_option maxHeartbeats 6400000 in
theorem given_any (d : Dk) (fv : Value) (w : World) (hF : RdF w fv d.files) (hn : d.files.length ≤ 1000) (hpn : ∀ f ∈ d.files, f.pend.length ≤ 5000) :
    Calls Tryd.prog 17 #[diskVal d.cap d.left fv] w fun e w' => ∃ fv', e = .returned (diskVal d.cap d.left fv') ∧ RdF w' fv' d.files ∧ Below w.heap.size w w' := by
  obtain ⟨a, cap, rfl, h1, h2, _⟩ := hF.shape
  obtain ⟨xs, hes, hE, hx⟩ := rdF_x hF
  have Hxl := Lib.hid (show d.files.length = xs.length by rw [← hes]; exact List.length_map ..)
  have HRw := Lib.hid (show ∀ W, Below w.heap.size w W → RdS 3 filC W _ (feX xs) from fun W hW => RdS.below hE.row hW)
  have HP := Lib.hid hx
  have Hn := Lib.hid hn
  have HX := Lib.hid (fun k (hk : k < d.files.length) => atX (i := k) hes hk)
  have Hpn := Lib.hid (fun k (hk : k < d.files.length) => hpn _ (atN_mem hk))
  have HTk := Lib.hid (fun k (hk : k < d.files.length) => take_nextE d.files k fil0 hk)
  have HTe := Lib.hid (show d.files.take d.files.length = d.files from List.take_length)
  have HTl := Lib.hid (fun k (hk : k ≤ d.files.length) => show (d.files.take k).length = k by rw [List.length_take]; omega)
  clear hF hE hx hes hn hpn
  obtain ⟨c, lf, fl⟩ := d
  dsimp only [diskVal] at *
  generalize fl.length = n at *
  have HB0 := Lib.hid (show Below w.heap.size w ((w.alloc (.cells #[.int .i64 c, .int .i64 lf, .slice a n cap] 24)).alloc (.cells #[.int .i64 0, .int .i64 0, .slice none 0 0] 33)) from ((Below.refl _ _).alloc (Nat.le_refl _) _).alloc (by simp) _)
  have X := Lib.hid (show BoxD ((w.alloc (.cells #[.int .i64 c, .int .i64 lf, .slice a n cap] 24)).alloc (.cells #[.int .i64 0, .int .i64 0, .slice none 0 0] 33)) w.heap.size c lf (.slice a n cap) from ⟨by simp, by simp, by simp, fun i => by simp⟩)
  have R := Lib.hid (show BoxD ((w.alloc (.cells #[.int .i64 c, .int .i64 lf, .slice a n cap] 24)).alloc (.cells #[.int .i64 0, .int .i64 0, .slice none 0 0] 33)) (w.heap.size + 1) 0 0 (.slice none 0 0) from ⟨by simp, by simp, by simp, fun i => by simp⟩)
  have O := Lib.hid (BoxD.newK (show ((w.alloc (.cells #[.int .i64 c, .int .i64 lf, .slice a n cap] 24)).alloc (.cells #[.int .i64 0, .int .i64 0, .slice none 0 0] 33)).heap.size = w.heap.size + 2 by simp) c lf (.slice none 0 0) 33)
  go_enter Tryd.func17, Tryd.ntmps17
  go_upto_region 1 with fail
  generalize hW0 : (w.alloc (.cells #[.int .i64 c, .int .i64 lf, .slice a n cap] 24)).alloc (.cells #[.int .i64 0, .int .i64 0, .slice none 0 0] 33) = W0 at *
  have hs0 : W0.heap.size = w.heap.size + 2 := by rw [← hW0]; simp
  clear hW0
  have x0 := X.out.c0
  have x1 := X.out.c1
  have hA := (Below.refl W0.heap.size W0).alloc (Nat.le_refl _) (.cells #[.int .i64 c, .int .i64 lf, .slice none 0 0] 33)
  have HB1 := Lib.hid (bstep HB0.out hA)
  have X1 := Lib.hid (X.out.below hA)
  have R1 := Lib.hid (R.out.below hA)
  have hs1 : (W0.alloc (.cells #[.int .i64 c, .int .i64 lf, .slice none 0 0] 33)).heap.size = w.heap.size + 3 := by simp; omega
  clear hA
  go_upto_region 2 with fail
  try rw [hs0]
  clear x0 x1 X R HB0
  generalize W0.alloc (.cells #[.int .i64 c, .int .i64 lf, .slice none 0 0] 33) = w1 at *
  have x2 := X1.out.c2
  have HG0 := Lib.hid (GvR.nil 69 95 w (w.heap.size + 3) w1)
  go_wp2_with fail
  clear x2
  go_loopw [17] (fun iv W => ∃ k : Nat, k ≤ n ∧ iv = .int .i64 (k : Int) ∧ ∃ v ys, Hid (BoxD W (w.heap.size + 1) 0 0 (.slice none 0 0) ∧ BoxD W (w.heap.size + 2) c lf v) ∧ Hid (Below w.heap.size w W) ∧ Hid (w.heap.size + 3 ≤ W.heap.size) ∧ Hid (GvR 69 95 w (w.heap.size + 3) W v ys) ∧ Hid (filX ys = fl.take k)) (fun iv _ => n - (intOf iv).toNat)
  case atStart => exact ⟨0, Nat.zero_le _, rfl, _, [], Lib.hid ⟨R1.out, O.out⟩, HB1, Lib.hid (by omega), HG0, Lib.hid rfl⟩
  case round =>
    obtain ⟨k, hk, rfl, v, ys, HO, HB, HS, HG, HY⟩ := hrel
    clear HG0 HB1 O R1 X1
    have hyk : ys.length = k := by
      have h := congrArg List.length HY.out
      unfold filX at h
      rw [List.length_map, HTl.out k hk] at h
      exact h
    have hro := HG.out.row
    rw [hyk] at hro
    obtain ⟨ya, yc, hyv, _⟩ := own_form hro
    subst hyv
    have Hro := Lib.hid hro
    have Hyk := Lib.hid hyk
    clear hro hyk
    have hss := HS.out
    by_cases hlt : k < n
    · have i1 : (k : Int) < (n : Int) := by omega
      obtain ⟨hqm, hqf⟩ := HX.out k hlt
      have HPq := Lib.hid (HP.out _ hqm)
      have hpl := Hpn.out k hlt
      have HTn := Lib.hid (HTk.out k hlt)
      change Hid (fl.take (k + 1) = fl.take k ++ [atN fl k]) at HTn
      obtain ⟨b, off, rfl, c0, c1, c2⟩ := RdFE.at2 (HRw.out wr HB.out) Hxl.out hlt
      rw [← hqf] at HTn hpl
      clear hqm hqf
      generalize xs.getD k fx0 = q at *
      obtain ⟨⟨f, bv, pv⟩, wes⟩ := q
      obtain ⟨hb1, hp1, hp2⟩ := HPq.out
      dsimp only at *
      obtain ⟨ba, bc, rfl, _⟩ := hb1.shape0
      have hwl : wes.length = f.pend.length := by rw [← hp2]; exact (List.length_map ..).symm
      obtain ⟨pa, pc, rfl, _⟩ := hp1.row.shape (by decide) (wr0, nilS)
      have HWe := Lib.hid hp1
      have HOld := Lib.hid (And.intro hb1 (And.intro hp1.dat hp2))
      clear hb1 hp1 hp2 HPq
      generalize hpl9 : wes.length = pl at *
      have Hwl := Lib.hid hpl9
      clear hpl9
      have hpl8 : pl ≤ 5000 := by omega
      clear hpl hwl
      have HLt := Lib.hid (show ∀ j, j ≤ pl → (wes.take j).length = j from fun j hj => by rw [List.length_take, Hwl.out]; omega)
      have HTj := Lib.hid (fun j (hj : j < pl) => take_nextE wes j (wr0, nilS) (by rw [Hwl.out]; exact hj))
      have HTa := Lib.hid (show wes.take pl = wes by rw [← Hwl.out]; exact List.take_length)
      obtain ⟨nm, base, ws⟩ := f
      dsimp only at *
      generalize hbl : base.length = bl at *
      have Hbl := Lib.hid hbl
      clear hbl
      generalize hsn : strB nm = sn at *
      have Hsn := Lib.hid hsn
      clear hsn
      have hA1 := (Below.refl wr.heap.size wr).alloc (Nat.le_refl _) (.cells #[.string sn, .slice ba bl bc, .slice pa pl pc] 73)
      have hA2 := hA1.alloc hA1.size (.cells #[.string sn, .slice ba bl bc, .slice none 0 0] 69)
      have F := Lib.hid ((BoxF.new wr sn (.slice ba bl bc) (.slice pa pl pc) 73).below ((Below.refl _ _).alloc (Nat.le_refl _) (.cells #[.string sn, .slice ba bl bc, .slice none 0 0] 69)))
      have Fz := Lib.hid (BoxF.new wr sn (.slice ba bl bc) (.slice pa pl pc) 73)
      have Y := Lib.hid (BoxF.newR (show (wr.alloc (.cells #[.string sn, .slice ba bl bc, .slice pa pl pc] 73)).heap.size = wr.heap.size + 1 by simp) sn (.slice ba bl bc) (.slice none 0 0) 69)
      have HA := Lib.hid hA2
      have hsz2 : wr.heap.size + 2 = ((wr.alloc (.cells #[.string sn, .slice ba bl bc, .slice pa pl pc] 73)).alloc (.cells #[.string sn, .slice ba bl bc, .slice none 0 0] 69)).heap.size := by simp
      clear hA1 hA2
      go_upto_region 5 with fail
      have f0 := Fz.out.c0
      have f1 := Fz.out.c1
      go_upto_region 6 with fail
      clear f0 f1 Fz c0 c1 c2
      try rw [show (wr.alloc (.cells #[.string sn, .slice ba bl bc, .slice pa pl pc] 73)).heap.size = wr.heap.size + 1 by simp]
      generalize (wr.alloc (.cells #[.string sn, .slice ba bl bc, .slice pa pl pc] 73)).alloc (.cells #[.string sn, .slice ba bl bc, .slice none 0 0] 69) = w4 at *
      have f2 := F.out.c2
      have hn0 := World.ownsRow_nil w4 (wr.heap.size + 2) 95 3
      have Hn0 := Lib.hid hn0
      clear hn0
      go_wp2_with fail
      clear f2
      generalize wr = wo at *
      go_loopw [29] (fun jv W => ∃ j : Nat, j ≤ pl ∧ jv = .int .i64 (j : Int) ∧ ∃ pv, Hid (BoxF W (wo.heap.size + 1) sn (.slice ba bl bc) pv) ∧ Hid (Below wo.heap.size wo W) ∧ Hid (wo.heap.size + 2 ≤ W.heap.size) ∧ Hid (W.ownsRow (wo.heap.size + 2) 95 3 pv j ((wes.take j).flatMap wrC))) (fun jv _ => pl - (intOf jv).toNat)
      case atStart => exact ⟨0, Nat.zero_le _, rfl, _, Y, HA, Lib.hid (by omega), Hn0⟩
      case round =>
        obtain ⟨j, hj, rfl, pv, Y, HA, HS2, HW⟩ := hrel
        clear Hn0
        have hs2 := HS2.out
        have hw := HW.out
        obtain ⟨qa, qc, e9, _⟩ := own_form hw
        subst e9
        clear hw
        by_cases hjt : j < pl
        · have i2 : (j : Int) < (pl : Int) := by omega
          have HBj := Lib.hid (bstep HB.out HA.out)
          obtain ⟨-, b', off', rfl, hd, c0, c1, c2⟩ := RdWE.at2 (HWe.out.belowX HBj.out) hjt
          have HTq := Lib.hid (HTj.out j hjt)
          generalize wes.getD j (wr0, nilS) = p at *
          obtain ⟨⟨xo, xd, xc⟩, dv⟩ := p
          dsimp only at *
          obtain ⟨da, dc, rfl, _⟩ := hd.shape0
          clear hd
          generalize xd.length = dl at *
          have hA3 := (Below.refl wr.heap.size wr).alloc (Nat.le_refl _) (.cells #[.int .i64 xo, .slice da dl dc, .bool xc] 94)
          have Y5 := Lib.hid (Y.out.below hA3)
          have HA5 := Lib.hid (bstep HA.out hA3)
          have HW5 := Lib.hid (own_keep HW.out hA3)
          have hs5 := Nat.le_trans hs2 hA3.size
          have Z := Lib.hid (show BoxW (wr.alloc (.cells #[.int .i64 xo, .slice da dl dc, .bool xc] 94)) wr.heap.size xo (.slice da dl dc) xc from ⟨by simp, by simp, by simp⟩)
          clear hA3 Y HA HS2 HW hs2
          go_upto_region 9 with fail
          clear c0 c1 c2
          generalize wr.alloc (.cells #[.int .i64 xo, .slice da dl dc, .bool xc] 94) = w5 at *
          generalize wr.heap.size = ZB at *
          have HBV := Lib.hid (show Below w5.heap.size w5 (w5.alloc (.cells #[.int .i64 xo, .slice da dl dc, .bool xc] 95)) from (Below.refl _ _).alloc (Nat.le_refl _) _)
          have HOw := Lib.hid (own_keep HW5.out HBV.out)
          have y2 := Y5.out.c2
          have z0 := Z.out.c0
          have z1 := Z.out.c1
          have z2 := Z.out.c2
          go_upto_region 10 with (at_builtin; go_must (refine wpList_app (m := 1) rfl (.tmp 34) (.tmp 42) 67 rfl elemWi (wo.heap.size + 2) rfl HOw.out rfl (Rd.newK w5.heap.size w5 rfl 3 [.int .i64 xo, .slice da dl dc, .bool xc] 95 1 rfl (by decide)) (fun u hu => by simp at hu; rcases hu with rfl | rfl | rfl <;> rfl) (by unfold maxLen; omega) (by omega) (by simp; omega) ?_); intro v6 w6 hown6 hgr6 hv6; clear hv6; obtain ⟨ra, rc, e6, _⟩ := own_form hown6; subst e6; have hb6 := own_below ((Below.refl (wo.heap.size + 2) w5).trans (HBV.out.mono hs5)) HOw.out (Nat.le_trans hs5 HBV.out.size) hgr6; have Hb6 := Lib.hid hb6; have Hown := Lib.hid hown6; have HA6 := Lib.hid (own_below (bstep HA5.out HBV.out) (World.ownsRow.mono HOw.out (show wo.heap.size ≤ wo.heap.size + 2 by omega)) (Nat.le_trans (show wo.heap.size ≤ w5.heap.size by omega) HBV.out.size) hgr6); have Y6 := Lib.hid (Y5.out.of_block (hb6.block _ (by omega))); have zz := Y6.out.c2; have zf := Y6.out.f; have hsz6 := hb6.size; clear hown6 hgr6 hb6)
          clear y2 z0 z1 z2 zz zf
          have Y7 := Lib.hid (Y6.out.set2 (.slice ra (j + 1) rc))
          have HA7 := Lib.hid (HA6.out.setCell (p := ⟨wo.heap.size + 1, 2, none⟩) (show wo.heap.size ≤ wo.heap.size + 1 by omega) (.slice ra (j + 1) rc))
          have HW7 := Lib.hid (own_set_ne (p := ⟨wo.heap.size + 1, 2, none⟩) Hown.out (own_above Hown.out (show wo.heap.size + 1 < wo.heap.size + 2 by omega)) (.slice ra (j + 1) rc))
          have HS7 := Lib.hid (show wo.heap.size + 2 ≤ (w6.setCell ⟨wo.heap.size + 1, 2, none⟩ (.slice ra (j + 1) rc)).heap.size by simp; omega)
          clear Y5 HA5 HW5 Hown HA6 Y6 HOw HBV Hb6
          go_wp2_with fail
          exact ⟨⟨j + 1, by omega, by go_num, _, Y7, HA7, HS7, Lib.hid (by rw [HTq.out, List.flatMap_append]; exact HW7.out)⟩, by simp [intOf]; omega⟩
        · have i2 : ¬ (j : Int) < (pl : Int) := by omega
          obtain rfl : j = pl := by omega
          have HBj := Lib.hid (bstep HB.out HA.out)
          have O5 := Lib.hid (HO.out.2.below HA.out)
          have R5 := Lib.hid (HO.out.1.below HA.out)
          have HG5 := Lib.hid (HG.out.below HA.out)
          have HBV := Lib.hid (show Below wr.heap.size wr (wr.alloc (.cells #[.string sn, .slice ba bl bc, .slice qa j qc] 69)) from (Below.refl _ _).alloc (Nat.le_refl _) _)
          have HOw := Lib.hid (own_keep (own_keep Hro.out HA.out) HBV.out)
          have HWw := Lib.hid (own_keep HW.out HBV.out)
          have hso := Nat.le_trans hss HA.out.size
          have y0 := Y.out.c0
          have y1 := Y.out.c1
          have y2 := Y.out.c2
          have o2 := O5.out.c2
          have hn9 := Hn.out
          have HG6 := Lib.hid (HG5.out.below HBV.out)
          go_upto_region 12 with (at_builtin; go_must (refine wpList_app (m := 1) rfl (.tmp 47) (.tmp 49) 31 rfl elemFi (w.heap.size + 3) rfl HOw.out rfl (Rd.newK wr.heap.size wr rfl 3 [.string sn, .slice ba bl bc, .slice qa j qc] 69 1 rfl (by decide)) (fun u hu => by simp at hu; rcases hu with rfl | rfl | rfl <;> rfl) (by unfold maxLen; omega) (by omega) (by simp; omega) ?_); intro v6 w6 hown6 hgr6 hv6; clear hv6; obtain ⟨ra, rc, e6, _⟩ := own_form hown6; subst e6; have hb6 := own_below ((Below.refl (w.heap.size + 3) wr).trans (HBV.out.mono hso)) HOw.out (Nat.le_trans hso HBV.out.size) hgr6; have HB6 := Lib.hid (own_below (bstep HBj.out HBV.out) (World.ownsRow.mono HOw.out (show w.heap.size ≤ w.heap.size + 3 by omega)) (Nat.le_trans (show w.heap.size ≤ wr.heap.size by omega) HBV.out.size) hgr6); have O6 := Lib.hid (O5.out.of_block (hb6.block _ (by omega))); have R6 := Lib.hid (R5.out.of_block (hb6.block _ (by omega))); have zz := O6.out.c2; have zf := O6.out.f; have hsz6 := hb6.size; have HG7 := Lib.hid (HG6.out.grown (by decide) hgr6 ((⟨nm, base, ws⟩, .slice ba bl bc, .slice qa j qc), wes) (show World.ownsRow _ (w.heap.size + 3) _ 3 (.slice qa j qc) wes.length (wes.flatMap wrC) by rw [Hwl.out]; have h := HWw.out; rw [HTa.out] at h; exact World.ownsRow.mono h (by omega)) HOld.out (by rw [Hyk.out]; show World.ownsRow _ _ _ _ _ (k + 1) (_ ++ [.string (strB nm), .slice ba bl bc, .slice qa j qc]); rw [Hsn.out]; exact hown6)); clear hown6 hgr6 hb6)
          clear y0 y1 y2 o2 zz zf
          have O7 := Lib.hid (O6.out.set2 (.slice ra (k + 1) rc))
          have R7 := Lib.hid (R6.out.set_ne (p := ⟨w.heap.size + 2, 2, none⟩) (by dsimp only; omega) (.slice ra (k + 1) rc))
          have HB7 := Lib.hid (HB6.out.setCell (p := ⟨w.heap.size + 2, 2, none⟩) (show w.heap.size ≤ w.heap.size + 2 by omega) (.slice ra (k + 1) rc))
          have HG8 := Lib.hid (HG7.out.set (b := w.heap.size + 2) (by omega) 2 (.slice ra (k + 1) rc))
          have HS8 := Lib.hid (show w.heap.size + 3 ≤ (w6.setCell ⟨w.heap.size + 2, 2, none⟩ (.slice ra (k + 1) rc)).heap.size by simp; omega)
          have HY8 := Lib.hid (show filX (ys ++ [((⟨nm, base, ws⟩, .slice ba bl bc, .slice qa j qc), wes)]) = fl.take (k + 1) from by rw [HTn.out, ← HY.out]; unfold filX; rw [List.map_append]; rfl)
          clear O5 R5 HG5 HG6 HG7 O6 R6 HB6 HO HB HG HY HA HW Y
          go_wp2_with fail
          exact ⟨⟨k + 1, by omega, by go_num, _, _, Lib.hid ⟨R7.out, O7.out⟩, HB7, HS8, HG8, HY8⟩, by simp [intOf]; omega⟩
    · have i1 : ¬ (k : Int) < (n : Int) := by omega
      obtain rfl : k = n := by omega
      have HFi := Lib.hid (show filX ys = fl from HY.out.trans HTe.out)
      have HGz := Lib.hid ((((HG.out.set (b := w.heap.size + 1) (by omega) 0 (.int .i64 c)).set (b := w.heap.size + 1) (by omega) 1 (.int .i64 lf)).set (b := w.heap.size + 1) (by omega) 2 (.slice ya k yc)))
      have HBz := Lib.hid (HB.out.all3 (b := w.heap.size + 1) (by omega) (.int .i64 c) (.int .i64 lf) (.slice ya k yc))
      have o0 := HO.out.2.c0
      have o1 := HO.out.2.c1
      have o2 := HO.out.2.c2
      have r0 := HO.out.1.c0
      have r1 := HO.out.1.c1
      have r2 := HO.out.1.c2
      have rf := HO.out.1.f
      go_wp2_with fail
      exact bodyPost_ret (v := diskVal c lf (.slice ya k yc)) (by simp [results, Tryd.results17, go_sem, r0, r1, r2]) rfl ⟨_, rfl, by rw [← HFi.out]; exact HGz.out.done HBz.out, HBz.out⟩
set_option maxRecDepth 100000 in
set_option maxHeartbeats 6400000 in
theorem told_any (d : Dk) (fv : Value) (w : World) (hF : RdF w fv d.files) (hn : d.files.length ≤ 1000) (hpn : ∀ f ∈ d.files, f.pend.length ≤ 5000) :
    Calls Tryd.prog 20 #[diskVal d.cap d.left fv] w fun e w' => ∃ fv', e = .returned (diskVal d.cap d.left fv') ∧ RdF w' fv' d.files ∧ Below w.heap.size w w' := by
  obtain ⟨a, cap, rfl, h1, h2, _⟩ := hF.shape
  obtain ⟨xs, hes, hE, hx⟩ := rdF_x hF
  have Hxl := Lib.hid (show d.files.length = xs.length by rw [← hes]; exact List.length_map ..)
  have HRw := Lib.hid (show ∀ W, Below w.heap.size w W → RdS 3 filC W _ (feX xs) from fun W hW => RdS.below hE.row hW)
  have HP := Lib.hid hx
  have Hn := Lib.hid hn
  have HX := Lib.hid (fun k (hk : k < d.files.length) => atX (i := k) hes hk)
  have Hpn := Lib.hid (fun k (hk : k < d.files.length) => hpn _ (atN_mem hk))
  have HTk := Lib.hid (fun k (hk : k < d.files.length) => take_nextE d.files k fil0 hk)
  have HTe := Lib.hid (show d.files.take d.files.length = d.files from List.take_length)
  have HTl := Lib.hid (fun k (hk : k ≤ d.files.length) => show (d.files.take k).length = k by rw [List.length_take]; omega)
  clear hF hE hx hes hn hpn
  obtain ⟨c, lf, fl⟩ := d
  dsimp only [diskVal] at *
  generalize fl.length = n at *
  have HB0 := Lib.hid (show Below w.heap.size w ((w.alloc (.cells #[.int .i64 c, .int .i64 lf, .slice a n cap] 33)).alloc (.cells #[.int .i64 0, .int .i64 0, .slice none 0 0] 24)) from ((Below.refl _ _).alloc (Nat.le_refl _) _).alloc (by simp) _)
  have X := Lib.hid (show BoxD ((w.alloc (.cells #[.int .i64 c, .int .i64 lf, .slice a n cap] 33)).alloc (.cells #[.int .i64 0, .int .i64 0, .slice none 0 0] 24)) w.heap.size c lf (.slice a n cap) from ⟨by simp, by simp, by simp, fun i => by simp⟩)
  have R := Lib.hid (show BoxD ((w.alloc (.cells #[.int .i64 c, .int .i64 lf, .slice a n cap] 33)).alloc (.cells #[.int .i64 0, .int .i64 0, .slice none 0 0] 24)) (w.heap.size + 1) 0 0 (.slice none 0 0) from ⟨by simp, by simp, by simp, fun i => by simp⟩)
  have O := Lib.hid (BoxD.newK (show ((w.alloc (.cells #[.int .i64 c, .int .i64 lf, .slice a n cap] 33)).alloc (.cells #[.int .i64 0, .int .i64 0, .slice none 0 0] 24)).heap.size = w.heap.size + 2 by simp) c lf (.slice none 0 0) 24)
  go_enter Tryd.func20, Tryd.ntmps20
  go_upto_region 1 with fail
  generalize hW0 : (w.alloc (.cells #[.int .i64 c, .int .i64 lf, .slice a n cap] 33)).alloc (.cells #[.int .i64 0, .int .i64 0, .slice none 0 0] 24) = W0 at *
  have hs0 : W0.heap.size = w.heap.size + 2 := by rw [← hW0]; simp
  clear hW0
  have x0 := X.out.c0
  have x1 := X.out.c1
  have hA := (Below.refl W0.heap.size W0).alloc (Nat.le_refl _) (.cells #[.int .i64 c, .int .i64 lf, .slice none 0 0] 24)
  have HB1 := Lib.hid (bstep HB0.out hA)
  have X1 := Lib.hid (X.out.below hA)
  have R1 := Lib.hid (R.out.below hA)
  have hs1 : (W0.alloc (.cells #[.int .i64 c, .int .i64 lf, .slice none 0 0] 24)).heap.size = w.heap.size + 3 := by simp; omega
  clear hA
  go_upto_region 2 with fail
  try rw [hs0]
  clear x0 x1 X R HB0
  generalize W0.alloc (.cells #[.int .i64 c, .int .i64 lf, .slice none 0 0] 24) = w1 at *
  have x2 := X1.out.c2
  have HG0 := Lib.hid (GvR.nil 73 94 w (w.heap.size + 3) w1)
  go_wp2_with fail
  clear x2
  go_loopw [17] (fun iv W => ∃ k : Nat, k ≤ n ∧ iv = .int .i64 (k : Int) ∧ ∃ v ys, Hid (BoxD W (w.heap.size + 1) 0 0 (.slice none 0 0) ∧ BoxD W (w.heap.size + 2) c lf v) ∧ Hid (Below w.heap.size w W) ∧ Hid (w.heap.size + 3 ≤ W.heap.size) ∧ Hid (GvR 73 94 w (w.heap.size + 3) W v ys) ∧ Hid (filX ys = fl.take k)) (fun iv _ => n - (intOf iv).toNat)
  case atStart => exact ⟨0, Nat.zero_le _, rfl, _, [], Lib.hid ⟨R1.out, O.out⟩, HB1, Lib.hid (by omega), HG0, Lib.hid rfl⟩
  case round =>
    obtain ⟨k, hk, rfl, v, ys, HO, HB, HS, HG, HY⟩ := hrel
    clear HG0 HB1 O R1 X1
    have hyk : ys.length = k := by
      have h := congrArg List.length HY.out
      unfold filX at h
      rw [List.length_map, HTl.out k hk] at h
      exact h
    have hro := HG.out.row
    rw [hyk] at hro
    obtain ⟨ya, yc, hyv, _⟩ := own_form hro
    subst hyv
    have Hro := Lib.hid hro
    have Hyk := Lib.hid hyk
    clear hro hyk
    have hss := HS.out
    by_cases hlt : k < n
    · have i1 : (k : Int) < (n : Int) := by omega
      obtain ⟨hqm, hqf⟩ := HX.out k hlt
      have HPq := Lib.hid (HP.out _ hqm)
      have hpl := Hpn.out k hlt
      have HTn := Lib.hid (HTk.out k hlt)
      change Hid (fl.take (k + 1) = fl.take k ++ [atN fl k]) at HTn
      obtain ⟨b, off, rfl, c0, c1, c2⟩ := RdFE.at2 (HRw.out wr HB.out) Hxl.out hlt
      rw [← hqf] at HTn hpl
      clear hqm hqf
      generalize xs.getD k fx0 = q at *
      obtain ⟨⟨f, bv, pv⟩, wes⟩ := q
      obtain ⟨hb1, hp1, hp2⟩ := HPq.out
      dsimp only at *
      obtain ⟨ba, bc, rfl, _⟩ := hb1.shape0
      have hwl : wes.length = f.pend.length := by rw [← hp2]; exact (List.length_map ..).symm
      obtain ⟨pa, pc, rfl, _⟩ := hp1.row.shape (by decide) (wr0, nilS)
      have HWe := Lib.hid hp1
      have HOld := Lib.hid (And.intro hb1 (And.intro hp1.dat hp2))
      clear hb1 hp1 hp2 HPq
      generalize hpl9 : wes.length = pl at *
      have Hwl := Lib.hid hpl9
      clear hpl9
      have hpl8 : pl ≤ 5000 := by omega
      clear hpl hwl
      have HLt := Lib.hid (show ∀ j, j ≤ pl → (wes.take j).length = j from fun j hj => by rw [List.length_take, Hwl.out]; omega)
      have HTj := Lib.hid (fun j (hj : j < pl) => take_nextE wes j (wr0, nilS) (by rw [Hwl.out]; exact hj))
      have HTa := Lib.hid (show wes.take pl = wes by rw [← Hwl.out]; exact List.take_length)
      obtain ⟨nm, base, ws⟩ := f
      dsimp only at *
      generalize hbl : base.length = bl at *
      have Hbl := Lib.hid hbl
      clear hbl
      generalize hsn : strB nm = sn at *
      have Hsn := Lib.hid hsn
      clear hsn
      have hA1 := (Below.refl wr.heap.size wr).alloc (Nat.le_refl _) (.cells #[.string sn, .slice ba bl bc, .slice pa pl pc] 69)
      have hA2 := hA1.alloc hA1.size (.cells #[.string sn, .slice ba bl bc, .slice none 0 0] 73)
      have F := Lib.hid ((BoxF.new wr sn (.slice ba bl bc) (.slice pa pl pc) 69).below ((Below.refl _ _).alloc (Nat.le_refl _) (.cells #[.string sn, .slice ba bl bc, .slice none 0 0] 73)))
      have Fz := Lib.hid (BoxF.new wr sn (.slice ba bl bc) (.slice pa pl pc) 69)
      have Y := Lib.hid (BoxF.newR (show (wr.alloc (.cells #[.string sn, .slice ba bl bc, .slice pa pl pc] 69)).heap.size = wr.heap.size + 1 by simp) sn (.slice ba bl bc) (.slice none 0 0) 73)
      have HA := Lib.hid hA2
      have hsz2 : wr.heap.size + 2 = ((wr.alloc (.cells #[.string sn, .slice ba bl bc, .slice pa pl pc] 69)).alloc (.cells #[.string sn, .slice ba bl bc, .slice none 0 0] 73)).heap.size := by simp
      clear hA1 hA2
      go_upto_region 5 with fail
      have f0 := Fz.out.c0
      have f1 := Fz.out.c1
      go_upto_region 6 with fail
      clear f0 f1 Fz c0 c1 c2
      try rw [show (wr.alloc (.cells #[.string sn, .slice ba bl bc, .slice pa pl pc] 69)).heap.size = wr.heap.size + 1 by simp]
      generalize (wr.alloc (.cells #[.string sn, .slice ba bl bc, .slice pa pl pc] 69)).alloc (.cells #[.string sn, .slice ba bl bc, .slice none 0 0] 73) = w4 at *
      have f2 := F.out.c2
      have hn0 := World.ownsRow_nil w4 (wr.heap.size + 2) 94 3
      have Hn0 := Lib.hid hn0
      clear hn0
      go_wp2_with fail
      clear f2
      generalize wr = wo at *
      go_loopw [29] (fun jv W => ∃ j : Nat, j ≤ pl ∧ jv = .int .i64 (j : Int) ∧ ∃ pv, Hid (BoxF W (wo.heap.size + 1) sn (.slice ba bl bc) pv) ∧ Hid (Below wo.heap.size wo W) ∧ Hid (wo.heap.size + 2 ≤ W.heap.size) ∧ Hid (W.ownsRow (wo.heap.size + 2) 94 3 pv j ((wes.take j).flatMap wrC))) (fun jv _ => pl - (intOf jv).toNat)
      case atStart => exact ⟨0, Nat.zero_le _, rfl, _, Y, HA, Lib.hid (by omega), Hn0⟩
      case round =>
        obtain ⟨j, hj, rfl, pv, Y, HA, HS2, HW⟩ := hrel
        clear Hn0
        have hs2 := HS2.out
        have hw := HW.out
        obtain ⟨qa, qc, e9, _⟩ := own_form hw
        subst e9
        clear hw
        by_cases hjt : j < pl
        · have i2 : (j : Int) < (pl : Int) := by omega
          have HBj := Lib.hid (bstep HB.out HA.out)
          obtain ⟨-, b', off', rfl, hd, c0, c1, c2⟩ := RdWE.at2 (HWe.out.belowX HBj.out) hjt
          have HTq := Lib.hid (HTj.out j hjt)
          generalize wes.getD j (wr0, nilS) = p at *
          obtain ⟨⟨xo, xd, xc⟩, dv⟩ := p
          dsimp only at *
          obtain ⟨da, dc, rfl, _⟩ := hd.shape0
          clear hd
          generalize xd.length = dl at *
          have hA3 := (Below.refl wr.heap.size wr).alloc (Nat.le_refl _) (.cells #[.int .i64 xo, .slice da dl dc, .bool xc] 95)
          have Y5 := Lib.hid (Y.out.below hA3)
          have HA5 := Lib.hid (bstep HA.out hA3)
          have HW5 := Lib.hid (own_keep HW.out hA3)
          have hs5 := Nat.le_trans hs2 hA3.size
          have Z := Lib.hid (show BoxW (wr.alloc (.cells #[.int .i64 xo, .slice da dl dc, .bool xc] 95)) wr.heap.size xo (.slice da dl dc) xc from ⟨by simp, by simp, by simp⟩)
          clear hA3 Y HA HS2 HW hs2
          go_upto_region 9 with fail
          clear c0 c1 c2
          generalize wr.alloc (.cells #[.int .i64 xo, .slice da dl dc, .bool xc] 95) = w5 at *
          generalize wr.heap.size = ZB at *
          have HBV := Lib.hid (show Below w5.heap.size w5 (w5.alloc (.cells #[.int .i64 xo, .slice da dl dc, .bool xc] 94)) from (Below.refl _ _).alloc (Nat.le_refl _) _)
          have HOw := Lib.hid (own_keep HW5.out HBV.out)
          have y2 := Y5.out.c2
          have z0 := Z.out.c0
          have z1 := Z.out.c1
          have z2 := Z.out.c2
          go_upto_region 10 with (at_builtin; go_must (refine wpList_app (m := 1) rfl (.tmp 34) (.tmp 42) 71 rfl elemWr (wo.heap.size + 2) rfl HOw.out rfl (Rd.newK w5.heap.size w5 rfl 3 [.int .i64 xo, .slice da dl dc, .bool xc] 94 1 rfl (by decide)) (fun u hu => by simp at hu; rcases hu with rfl | rfl | rfl <;> rfl) (by unfold maxLen; omega) (by omega) (by simp; omega) ?_); intro v6 w6 hown6 hgr6 hv6; clear hv6; obtain ⟨ra, rc, e6, _⟩ := own_form hown6; subst e6; have hb6 := own_below ((Below.refl (wo.heap.size + 2) w5).trans (HBV.out.mono hs5)) HOw.out (Nat.le_trans hs5 HBV.out.size) hgr6; have Hb6 := Lib.hid hb6; have Hown := Lib.hid hown6; have HA6 := Lib.hid (own_below (bstep HA5.out HBV.out) (World.ownsRow.mono HOw.out (show wo.heap.size ≤ wo.heap.size + 2 by omega)) (Nat.le_trans (show wo.heap.size ≤ w5.heap.size by omega) HBV.out.size) hgr6); have Y6 := Lib.hid (Y5.out.of_block (hb6.block _ (by omega))); have zz := Y6.out.c2; have zf := Y6.out.f; have hsz6 := hb6.size; clear hown6 hgr6 hb6)
          clear y2 z0 z1 z2 zz zf
          have Y7 := Lib.hid (Y6.out.set2 (.slice ra (j + 1) rc))
          have HA7 := Lib.hid (HA6.out.setCell (p := ⟨wo.heap.size + 1, 2, none⟩) (show wo.heap.size ≤ wo.heap.size + 1 by omega) (.slice ra (j + 1) rc))
          have HW7 := Lib.hid (own_set_ne (p := ⟨wo.heap.size + 1, 2, none⟩) Hown.out (own_above Hown.out (show wo.heap.size + 1 < wo.heap.size + 2 by omega)) (.slice ra (j + 1) rc))
          have HS7 := Lib.hid (show wo.heap.size + 2 ≤ (w6.setCell ⟨wo.heap.size + 1, 2, none⟩ (.slice ra (j + 1) rc)).heap.size by simp; omega)
          clear Y5 HA5 HW5 Hown HA6 Y6 HOw HBV Hb6
          go_wp2_with fail
          exact ⟨⟨j + 1, by omega, by go_num, _, Y7, HA7, HS7, Lib.hid (by rw [HTq.out, List.flatMap_append]; exact HW7.out)⟩, by simp [intOf]; omega⟩
        · have i2 : ¬ (j : Int) < (pl : Int) := by omega
          obtain rfl : j = pl := by omega
          have HBj := Lib.hid (bstep HB.out HA.out)
          have O5 := Lib.hid (HO.out.2.below HA.out)
          have R5 := Lib.hid (HO.out.1.below HA.out)
          have HG5 := Lib.hid (HG.out.below HA.out)
          have HBV := Lib.hid (show Below wr.heap.size wr (wr.alloc (.cells #[.string sn, .slice ba bl bc, .slice qa j qc] 73)) from (Below.refl _ _).alloc (Nat.le_refl _) _)
          have HOw := Lib.hid (own_keep (own_keep Hro.out HA.out) HBV.out)
          have HWw := Lib.hid (own_keep HW.out HBV.out)
          have hso := Nat.le_trans hss HA.out.size
          have y0 := Y.out.c0
          have y1 := Y.out.c1
          have y2 := Y.out.c2
          have o2 := O5.out.c2
          have hn9 := Hn.out
          have HG6 := Lib.hid (HG5.out.below HBV.out)
          go_upto_region 12 with (at_builtin; go_must (refine wpList_app (m := 1) rfl (.tmp 47) (.tmp 49) 22 rfl elemFr (w.heap.size + 3) rfl HOw.out rfl (Rd.newK wr.heap.size wr rfl 3 [.string sn, .slice ba bl bc, .slice qa j qc] 73 1 rfl (by decide)) (fun u hu => by simp at hu; rcases hu with rfl | rfl | rfl <;> rfl) (by unfold maxLen; omega) (by omega) (by simp; omega) ?_); intro v6 w6 hown6 hgr6 hv6; clear hv6; obtain ⟨ra, rc, e6, _⟩ := own_form hown6; subst e6; have hb6 := own_below ((Below.refl (w.heap.size + 3) wr).trans (HBV.out.mono hso)) HOw.out (Nat.le_trans hso HBV.out.size) hgr6; have HB6 := Lib.hid (own_below (bstep HBj.out HBV.out) (World.ownsRow.mono HOw.out (show w.heap.size ≤ w.heap.size + 3 by omega)) (Nat.le_trans (show w.heap.size ≤ wr.heap.size by omega) HBV.out.size) hgr6); have O6 := Lib.hid (O5.out.of_block (hb6.block _ (by omega))); have R6 := Lib.hid (R5.out.of_block (hb6.block _ (by omega))); have zz := O6.out.c2; have zf := O6.out.f; have hsz6 := hb6.size; have HG7 := Lib.hid (HG6.out.grown (by decide) hgr6 ((⟨nm, base, ws⟩, .slice ba bl bc, .slice qa j qc), wes) (show World.ownsRow _ (w.heap.size + 3) _ 3 (.slice qa j qc) wes.length (wes.flatMap wrC) by rw [Hwl.out]; have h := HWw.out; rw [HTa.out] at h; exact World.ownsRow.mono h (by omega)) HOld.out (by rw [Hyk.out]; show World.ownsRow _ _ _ _ _ (k + 1) (_ ++ [.string (strB nm), .slice ba bl bc, .slice qa j qc]); rw [Hsn.out]; exact hown6)); clear hown6 hgr6 hb6)
          clear y0 y1 y2 o2 zz zf
          have O7 := Lib.hid (O6.out.set2 (.slice ra (k + 1) rc))
          have R7 := Lib.hid (R6.out.set_ne (p := ⟨w.heap.size + 2, 2, none⟩) (by dsimp only; omega) (.slice ra (k + 1) rc))
          have HB7 := Lib.hid (HB6.out.setCell (p := ⟨w.heap.size + 2, 2, none⟩) (show w.heap.size ≤ w.heap.size + 2 by omega) (.slice ra (k + 1) rc))
          have HG8 := Lib.hid (HG7.out.set (b := w.heap.size + 2) (by omega) 2 (.slice ra (k + 1) rc))
          have HS8 := Lib.hid (show w.heap.size + 3 ≤ (w6.setCell ⟨w.heap.size + 2, 2, none⟩ (.slice ra (k + 1) rc)).heap.size by simp; omega)
          have HY8 := Lib.hid (show filX (ys ++ [((⟨nm, base, ws⟩, .slice ba bl bc, .slice qa j qc), wes)]) = fl.take (k + 1) from by rw [HTn.out, ← HY.out]; unfold filX; rw [List.map_append]; rfl)
          clear O5 R5 HG5 HG6 HG7 O6 R6 HB6 HO HB HG HY HA HW Y
          go_wp2_with fail
          exact ⟨⟨k + 1, by omega, by go_num, _, _, Lib.hid ⟨R7.out, O7.out⟩, HB7, HS8, HG8, HY8⟩, by simp [intOf]; omega⟩
    · have i1 : ¬ (k : Int) < (n : Int) := by omega
      obtain rfl : k = n := by omega
      have HFi := Lib.hid (show filX ys = fl from HY.out.trans HTe.out)
      have HGz := Lib.hid ((((HG.out.set (b := w.heap.size + 1) (by omega) 0 (.int .i64 c)).set (b := w.heap.size + 1) (by omega) 1 (.int .i64 lf)).set (b := w.heap.size + 1) (by omega) 2 (.slice ya k yc)))
      have HBz := Lib.hid (HB.out.all3 (b := w.heap.size + 1) (by omega) (.int .i64 c) (.int .i64 lf) (.slice ya k yc))
      have o0 := HO.out.2.c0
      have o1 := HO.out.2.c1
      have o2 := HO.out.2.c2
      have r0 := HO.out.1.c0
      have r1 := HO.out.1.c1
      have r2 := HO.out.1.c2
      have rf := HO.out.1.f
      go_wp2_with fail
      exact bodyPost_ret (v := diskVal c lf (.slice ya k yc)) (by simp [results, Tryd.results20, go_sem, r0, r1, r2]) rfl ⟨_, rfl, by rw [← HFi.out]; exact HGz.out.done HBz.out, HBz.out⟩
end Go.Proofs.YtkabcpmnbjllcaaDoor

namespace Go.Proofs.YtkabcpmnbjllcaaDoor
open Go Go.RowKit

section
variable {P : Program} {ops : Array Oper} {md : Region.Mode}
def allB (md : Region.Mode) (ops : Array Oper) (n : Nat) : Bool :=
  decide (n = ops.size) &&
  ((List.range n).all fun i => ((ops[i]?).map fun o => o.after.all fun e => !Region.binds md e || decide (e.on < i)).getD false) &&
  ((List.range n).all fun i => (List.range n).all fun j => decide (i = j) || decide (dstOf ops i = none) || decide (dstOf ops i ≠ dstOf ops j)) &&
  Region.seqB md ops (ops.size - n) n ((List.range ops.size).map fun j => decide (j < n)).toArray
variable {Q : Exit → Act → World → Prop}
/-- What is left by each operation done. -/
def RzI (n : Nat) (w0 : World) (Φ : Nat → Value → World → Prop) (L : Nat → Bool) (f : Nat → Value) (w : World) : Prop := Below w0.heap.size w0 w ∧ ∀ j, j < n → L j = true → Φ j (f j) w
theorem relz_any {n : Nat} {a0 : Act} {w0 : World} {Φ : Nat → Value → World → Prop} (hΦ : ∀ j v w1 w2, Below w1.heap.size w1 w2 → Φ j v w1 → Φ j v w2) {l : List Oper} (hl : ops = l.toArray) (hds : ∀ i, i < n → (dstOf ops i).isSome = true) (hB : allB md ops n = true) (hN : ∀ i, i < n → ∀ t, dstOf ops i = some t → t < a0.tmps.size)
    (head : ∀ i o, i < n → ops[i]? = some o → ∀ L f w, L i = false → (∀ e ∈ o.after, Region.binds md e = true → L e.on = true) → RzI n w0 Φ L f w →
      wpList P ops (Exit.then (RelPost (Φ i) False (frm ops a0 f n).defers o.dst w) Q) [o] (frm ops a0 f n) w)
    (tail : ∀ L f w, (∀ j, j < n → L j = true) → RzI n w0 Φ L f w → wpList P ops Q (l.drop n) (frm ops a0 f n) w) :
    ∀ (fuel : Nat) (T : List Nat) (s : Array Bool) (L : Nat → Bool) (f : Nat → Value) (w : World), (∀ j, s.getD j false = L j) → T.Nodup → T.length = fuel → (∀ j, j < n → (s.getD j false = false ↔ j ∈ T)) → (∀ j ∈ T, j < n) → HeadInv md ops n s → RzI n w0 Φ L f w →
      wpAny P md ops Q (fuel + (ops.size - n)) s (frm ops a0 f n) w := by
  simp only [allB, Bool.and_eq_true, decide_eq_true_eq] at hB
  obtain ⟨⟨⟨hn, hfw⟩, hdd⟩, hsq⟩ := hB
  have hfw' : ∀ i o, i < n → ops[i]? = some o → ∀ e ∈ o.after, Region.binds md e = true → e.on < i := fun i o hi ho e he hb => by
    have := List.all_eq_true.1 hfw i (List.mem_range.2 hi)
    rw [ho] at this
    simp only [Option.map_some, Option.getD_some] at this
    have h2 := Array.all_eq_true_iff_forall_mem.1 this e he
    rw [hb] at h2
    simpa using h2
  have hdd' : ∀ i j, i < n → j < n → i ≠ j → dstOf ops i = none ∨ dstOf ops i ≠ dstOf ops j := fun i j hi hj hij => by
    have := List.all_eq_true.1 (List.all_eq_true.1 hdd i (List.mem_range.2 hi)) j (List.mem_range.2 hj)
    simpa [hij] using this
  intro fuel
  induction fuel with
  | zero =>
    intro T s L f w hL hT hlen hsT hTn inv hI
    have hT0 : T = [] := List.length_eq_zero_iff.1 hlen
    subst hT0
    have hall : ∀ j, j < n → s.getD j false = true := fun j hj => by
      cases h : s.getD j false with
      | true => rfl
      | false => exact absurd ((hsT j hj).1 h) (by simp)
    have hse : s = ((List.range ops.size).map fun j => decide (j < n)).toArray := by
      apply Array.ext
      · simp [inv.size]
      · intro j h1 h2
        have hjs : j < ops.size := by rw [← inv.size]; exact h1
        simp only [List.getElem_toArray, List.getElem_map, List.getElem_range]
        by_cases e : j < n
        · have := hall j e
          rw [Array.getD_eq_getD_getElem?, Array.getElem?_eq_getElem h1] at this
          simp only [Option.getD_some] at this
          rw [this]; simp [e]
        · have := inv.tail j (by omega) hjs
          rw [Array.getD_eq_getD_getElem?, Array.getElem?_eq_getElem h1] at this
          simp only [Option.getD_some] at this
          rw [this]; simp [e]
    rw [Nat.zero_add]
    have hdl : (l.drop n).length = ops.size - n := by rw [hl]; simp
    have h3 := wpAny_of_seq (P := P) (md := md) (ops := ops) (Q' := Q) (l.drop n) n s (frm ops a0 f n) w (fun j => by rw [hl]; simp [List.getElem?_drop]) (by rw [hdl, hse]; exact hsq) (tail L f w (fun j hj => by rw [← hL]; exact hall j hj) hI)
    rwa [hdl] at h3
  | succ fuel ih =>
    intro T s L f w hL hT hlen hsT hTn inv hI
    have hTne : T ≠ [] := fun e => by rw [e] at hlen; cases hlen
    obtain ⟨m, hm, hle⟩ := least_of hTne
    have hmn := hTn m hm
    have hun : s.getD m false = false := (hsT m hmn).2 hm
    have hms : m < s.size := by rw [inv.size]; omega
    obtain ⟨om, hom⟩ : ∃ o, ops[m]? = some o := ⟨_, Array.getElem?_eq_getElem (by omega)⟩
    have hready : m ∈ Region.ready md ops s := mem_ready.2 ⟨getD_in hms hun, om, hom, fun e he hbnd => by
      have h1 := hfw' m om hmn hom e he hbnd
      cases h2 : s.getD e.on false with
      | true => rfl
      | false =>
        have := hle _ ((hsT e.on (by omega)).1 h2)
        omega⟩
    rw [show fuel + 1 + (ops.size - n) = (fuel + (ops.size - n)) + 1 by omega]
    refine ⟨fun e => absurd hready (by rw [e]; simp), fun i hi => ?_⟩
    obtain ⟨hiu, oi, hoi, hdeps⟩ := mem_ready.1 hi
    have hin : i < n := by rw [hn]; exact (Array.getElem?_eq_some_iff.1 hoi).1
    have hiT : i ∈ T := (hsT i hin).1 (getD_both hiu)
    have hdo : dstOf ops i = oi.dst := by unfold dstOf; rw [hoi]; rfl
    unfold wpOp
    rw [hoi]
    simp only []
    have hh := head i oi hin hoi L f w (by rw [← hL]; exact getD_both hiu) (fun e he hbnd => by rw [← hL]; exact hdeps e he hbnd) hI
    refine rel_one hh (fun v w' hR => ?_) (fun d v w' hR => ?_)
    · obtain ⟨_, hbel, hv⟩ := hR
      have hval : RzI n w0 Φ (onL L i) (updF f i v) w' := by
        have hsome := hds i hin
        rw [hdo] at hsome
        cases hd : oi.dst with
        | none => rw [hd] at hsome; cases hsome
        | some t =>
          have h4 := (hv t hd).1
          have h5 : t < (frm ops a0 f n).tmps.size := by rw [frm_size]; exact hN i hin t (by rw [hdo, hd])
          rw [hd] at h4
          have h6 : Φ i v w' := by simpa [Act.put, h5] using h4
          refine ⟨bstep hI.1 hbel, fun j hj hLj => ?_⟩
          unfold onL at hLj
          unfold updF
          by_cases e : j = i
          · rw [if_pos e]; rw [e]; exact h6
          · rw [if_neg e] at hLj ⊢
            exact hΦ j _ _ _ hbel (hI.2 j hj hLj)
      rw [← hdo, frm_put ops a0 f i v n hin fun j hj hji => hdd' i j hin hj (Ne.symm hji)]
      refine ih (T.erase i) _ (onL L i) _ w' (fun j => ?_) (hT.erase i) (by rw [List.length_erase_of_mem hiT]; omega) (fun j hj => ?_) (fun j hj => hTn j (List.mem_of_mem_erase hj)) (inv.set hi hin) hval
      · unfold onL
        by_cases e : j = i
        · subst e
          have hjs : j < s.size := by rw [inv.size]; omega
          simp [Array.getD_eq_getD_getElem?, hjs]
        · rw [getD_set_ne false (Ne.symm e), hL j, if_neg e]
      · rw [hT.mem_erase_iff]
        by_cases e : j = i
        · subst e
          have hjs : j < s.size := by rw [inv.size]; omega
          simp [Array.getD_eq_getD_getElem?, hjs]
        · rw [getD_set_ne false (Ne.symm e), hsT j hj]
          simp [e]
    · have h1 := hR.1
      have h2 := congrArg List.length h1
      cases hod : oi.dst <;> simp [Act.put, hod] at h2
def dstB (ops : Array Oper) (n : Nat) : Bool := (List.range n).all fun i => (dstOf ops i).isSome
/-- As wp_region_rel, without a tail: all operations may come in any order. -/
theorem wp_region_relz {id : Nat} {a0 : Act} {w : World} {l : List Oper} (L : List Sta) (N : Nat) (hm : P.follows .mixedOrders = true) (hB : allB .any l.toArray L.length = true) (hD : dstB l.toArray L.length = true)
    (hsz : a0.tmps.size = N) (hN : dstLtB l.toArray L.length N = true) {fr : (Nat → Value) → Act} (hfr : ∀ f, frm l.toArray a0 f L.length = fr f)
    (head : HeadL P Q l.toArray L [] fr w l L 0)
    (tail : ∀ f w1, Below w.heap.size w w1 → (∀ j, j < L.length → (stA L j).p (f j) w1) → wpList P l.toArray Q [] (fr f) w1) : (Code.region id l.toArray true).wp P Q a0 w := by
  have hn : L.length = l.toArray.size := by
    simp only [allB, Bool.and_eq_true, decide_eq_true_eq] at hB
    exact hB.1.1.1
  refine wp_region_any hm ?_
  have h := relz_any (md := .any) (Q := Q) (P := P) (n := L.length) (a0 := a0) (w0 := w) (Φ := fun j => (stA L j).p) (fun j v w1 w2 hb h => (stA L j).m v w1 w2 hb h) rfl (fun i hi => List.all_eq_true.1 hD i (List.mem_range.2 hi)) hB
    (fun i hi t ht => by
      have h1 := List.all_eq_true.1 hN i (List.mem_range.2 hi)
      rw [ht] at h1
      rw [hsz]
      simpa using h1)
    (fun i o hi ho Lb f w1 h0 hd hI => by
      rw [hfr]
      have hS : L[i]? = some (stA L i) := by
        unfold stA
        rw [List.getD_eq_getElem?_getD, List.getElem?_eq_getElem hi]; rfl
      have h2 := headL_at l L 0 head i o (stA L i) (by simpa using ho) hS f w1 hI.1 (fun j hj => by
        unfold depB at hj
        obtain ⟨e, he, h3⟩ := Array.any_eq_true'.1 hj
        simp only [Bool.and_eq_true, beq_iff_eq] at h3
        have hlt : e.on < i := by
          have hB2 := hB
          simp only [allB, Bool.and_eq_true, decide_eq_true_eq] at hB2
          have := List.all_eq_true.1 hB2.1.1.2 i (List.mem_range.2 hi)
          rw [ho] at this
          simp only [Option.map_some, Option.getD_some] at this
          have h5 := Array.all_eq_true_iff_forall_mem.1 this e he
          rw [h3.1] at h5
          simpa using h5
        have h4 := hI.2 e.on (by omega) (hd e he h3.1)
        rwa [h3.2] at h4)
      have h3 : (0 + i ∈ ([] : List Nat)) = False := by simp
      rw [h3] at h2
      exact h2)
    (fun Lb f w1 hA hI => by
      rw [hfr]
      have hdl : l.drop L.length = [] := List.drop_of_length_le (by rw [hn]; simp)
      rw [hdl]
      exact tail f w1 hI.1 fun j hj => hI.2 j hj (hA j hj))
    L.length (List.range L.length) (Array.replicate l.toArray.size false) (fun _ => false) (fun j => match dstOf l.toArray j with | some d => a0.tmps.getD d undef | none => undef) w.drew
    (fun j => getD_replicate_false _ _) List.nodup_range (by simp) (fun j hj => by rw [getD_replicate_false]; simp [hj]) (fun j hj => by simpa using hj)
    ⟨by simp, fun j oj _ hl => (by rw [getD_replicate_false] at hl; cases hl), fun t _ ht => getD_in (by simpa using ht) (getD_replicate_false _ _)⟩
    ⟨below_drew (Below.refl _ _), fun j _ h => by cases h⟩
  have e0 : frm l.toArray a0 (fun j => match dstOf l.toArray j with | some d => a0.tmps.getD d undef | none => undef) L.length = a0 := frm_id _ _ _
  rw [e0, show L.length + (l.toArray.size - L.length) = l.toArray.size by omega] at h
  exact h
end
end Go.Proofs.YtkabcpmnbjllcaaDoor
