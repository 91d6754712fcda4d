/- apply of the program: the walk. Printed by mkYc.py. -/
import Derived.Test.YtkabcpmnbjllcaaDoorYb
namespace Go.Proofs.YtkabcpmnbjllcaaDoor
open Go.RowKit

theorem wpList_copy_run {P : Program} {w : World} {ops : Array Oper} {rest : List Oper} {o : Oper} {a : Act} {Q : Exit → Act → World → Prop} (hgd : o.guard = none) (d s : Operand) (dT sT : TypeId)
    (ho : o.op = .call { callee := .builtin .copy, args := #[d, s], argTypes := #[dT, sT] }) (vd vs : Value) (hd : a.eval d = vd) (hs : a.eval s = vs) (n : Value) (w' : World) (hr : ∀ ty, (Builtin.copy_ #[dT, sT] ty #[vd, vs]).run P w = .ok n w')
    (h : wpList P ops Q rest (a.put o.dst n) w') : wpList P ops Q (o :: rest) a w := by
  refine wpList_plain hgd fun K hK => ?_
  unfold Oper.wp
  simp [execOp, ho, resolve, invoke, builtin, hd, hs, hr, Result.andThen]
  exact hK _ _ h
theorem put_grow (b data : List UInt8) (o : Nat) (h : b.length < o + data.length) : putW b o data = (b ++ zer (o + data.length - b.length)).take o ++ data ++ (b ++ zer (o + data.length - b.length)).drop (o + data.length) := by
  unfold putW
  rw [List.drop_of_length_le (l := b) (by omega), List.drop_of_length_le (by rw [List.length_append, zer_length]; omega)]
  congr 2
  by_cases hb : o ≤ b.length
  · rw [List.take_append_of_le_length hb, List.take_append_of_le_length hb]
  · rw [List.take_of_length_le (by rw [List.length_append, zer_length]; omega)]
    obtain ⟨k, hk⟩ : ∃ k, o = b.length + k := ⟨o - b.length, by omega⟩
    rw [List.take_append, List.take_of_length_le (l := b) (by omega), show o - b.length = k by omega]
    congr 1
    unfold zer
    rw [List.take_replicate]
    congr 1
    omega
theorem put_in (b data : List UInt8) (o : Nat) (h : o + data.length ≤ b.length) : putW b o data = b.take o ++ data ++ b.drop (o + data.length) := by
  unfold putW
  rw [List.take_append_of_le_length (by omega)]
theorem OwnC.from_ {w : World} {B : Nat} {v : Value} {b : List UInt8} (h : OwnC w B v b) (o : Nat) (ho : o ≤ b.length) : ∃ sl, ∀ W kl, (Instr.slice 47 v (some (.int kl (o : Int))) none none).run Tryd.prog W = .ok sl W := by
  have hrd := h.rd
  obtain ⟨ba, bc, rfl, _⟩ := hrd.shape0
  obtain ⟨x1, y1, g1, _⟩ := RdL.from_ (P := Tryd.prog) elemU8 hrd o ho
  exact ⟨_, g1⟩
/-- The bytes behind a copy. -/
theorem OwnC.copy {w : World} {B : Nat} {v dv sl : Value} {b data : List UInt8} (h : OwnC w B v b) (o : Nat) (hsl : ∀ W kl, (Instr.slice 47 v (some (.int kl (o : Int))) none none).run Tryd.prog W = .ok sl W) (hd : RdB w dv data) (hB : B ≤ w.heap.size) (ho : o + data.length ≤ b.length) :
    ∃ n w', (∀ ty, (Builtin.copy_ #[47, 47] ty #[sl, dv]).run Tryd.prog w = .ok n w') ∧ OwnC w' B v (b.take o ++ data ++ b.drop (o + data.length)) ∧ Below B w w' ∧ w.grownBy w' v.ownBlock := by
  obtain ⟨a, cap, c', rfl, hown, h1, h2⟩ := h
  have hrd : RdB w (.slice a b.length c') b := OwnC.rd ⟨a, cap, c', rfl, hown, h1, h2⟩
  obtain ⟨da, dc, rfl, hd1, hd2, hd3⟩ := hd.shape0
  by_cases h0 : data = []
  · subst h0
    obtain ⟨x1, y1, g1, _⟩ := RdL.from_ (P := Tryd.prog) elemU8 hrd o (by simpa using ho)
    have hsz : (Tryd.prog.info? 5).map (·.size) = some 1 := by kernel_rfl
    have e := (hsl w .i64).symm.trans (g1 w .i64)
    injection e with e
    subst e
    refine ⟨goInt 0, w, fun ty => run_copy_none (P := Tryd.prog) w 47 47 ty 5 x1 da _ _ _ _ Tryd.underlying47 hsz (by simp), ⟨a, cap, c', ?_, ?_, ?_, h2⟩, Below.refl _ _, World.grownBy.refl w _⟩
    · simp
    · simpa using hown
    · simpa using h1
  · have hdl : 0 < data.length := List.length_pos_iff.2 h0
    obtain ⟨g, rfl, hgB, hgl⟩ : ∃ g, a = some ⟨g, 0, none⟩ ∧ B ≤ g ∧ g < w.heap.size := by
      rcases hown.2 with ⟨e, e0⟩ | ⟨g, _, cur, e, hb, hg, _⟩
      · omega
      · injection e with e _ _
        exact ⟨g, e, hb, (Array.getElem?_eq_some_iff.1 hg).1⟩
    have g1 := slice_own (P := Tryd.prog) elemU8 g b.length c' o (by omega) (by omega)
    have e := (hsl w .i64).symm.trans (g1 w .i64)
    injection e with e
    subst e
    obtain ⟨w', hcp, hown', hgr⟩ := copy_row (P := Tryd.prog) (sT := 47) elemU8 hown hd o (b.length - o) (c' - o) data.length (by show _ = min _ _; omega) hdl (by decide) ho (fun u hu => bytes_one data u (List.mem_of_mem_take hu))
    have e : (b.map byteV).take (o * 1) ++ (data.map byteV).take (data.length * 1) ++ (b.map byteV).drop (o * 1 + data.length * 1) = (b.take o ++ data ++ b.drop (o + data.length)).map byteV := by
      simp only [Nat.mul_one, List.map_append, List.map_take, List.map_drop]
      rw [List.take_of_length_le (l := data.map byteV) (by rw [List.length_map]; exact Nat.le_refl _)]
    have el : (b.take o ++ data ++ b.drop (o + data.length)).length = b.length := by
      rw [List.length_append, List.length_append, List.length_take, List.length_drop]; omega
    rw [e] at hown'
    exact ⟨_, w', hcp, ⟨some ⟨g, 0, none⟩, cap, c', by rw [el], by rw [el]; exact hown', by rw [el]; exact h1, h2⟩, (Below.refl B w).grown hgr hB (fun q hq => by injection hq with hq; omega), hgr⟩
theorem OwnC.block {w : World} {B : Nat} {v : Value} {b : List UInt8} (h : OwnC w B v b) : ∀ g, v.ownBlock = some g → B ≤ g ∧ g < w.heap.size := by
  obtain ⟨a, cap, c', rfl, hown, _⟩ := h
  intro g hg
  rcases hown.2 with ⟨e, _⟩ | ⟨g', _, cur, e, hb, hh, _⟩
  · injection e with e1 _ _
    subst e1; cases hg
  · injection e with e1 _ _
    subst e1; injection hg with hg; subst hg
    exact ⟨hb, (Array.getElem?_eq_some_iff.1 hh).1⟩
theorem OwnC.spot {w : World} {B : Nat} {v : Value} {b : List UInt8} (h : OwnC w B v b) : ∀ a n c, v = .slice a n c → ∀ x, a = some x → ∃ b off, x = ⟨b, off, none⟩ := by
  obtain ⟨a', cap, c', rfl, hown, _⟩ := h
  intro a n c e x hx
  injection e with e1 _ _
  obtain ⟨a2, _, e2, _, _, h2⟩ := own_form hown
  injection e2 with e2 _ _
  exact h2 x (by rw [← e2, e1, hx])
theorem OwnC.take {w : World} {B : Nat} {a : Option Addr} {n c : Nat} {b : List UInt8} (h : OwnC w B (.slice a n c) b) (k : Nat) (hk : k ≤ n) : OwnC w B (.slice a k c) (b.take k) := by
  obtain ⟨a', cap, c', e, hown, h1, h2⟩ := h
  injection e with e1 e2 e3
  subst e1 e2 e3
  have ho := own_take hown k hk
  have e : (b.take k).length = k := by rw [List.length_take]; omega
  refine ⟨a, cap, c, by rw [e], ?_, by omega, h2⟩
  rw [e, List.map_take, show k = k * 1 by omega]
  simpa using ho
/-- A write in a box. -/
structure BoxW (w : World) (b : Nat) (o : Int) (dv : Value) (cut : Bool) : Prop where
  c0 : w.cell? ⟨b, 0, none⟩ = some (.int .i64 o)
  c1 : w.cell? ⟨b, 1, none⟩ = some dv
  c2 : w.cell? ⟨b, 2, none⟩ = some (.bool cut)
theorem BoxW.below {w w' : World} {b : Nat} {o : Int} {dv : Value} {cut : Bool} (h : BoxW w b o dv cut) (hb : Below w.heap.size w w') : BoxW w' b o dv cut := ⟨Below.keeps hb _ _ h.c0, Below.keeps hb _ _ h.c1, Below.keeps hb _ _ h.c2⟩
theorem BoxW.lt {w : World} {b : Nat} {o : Int} {dv : Value} {cut : Bool} (h : BoxW w b o dv cut) : b < w.heap.size := World.block_lt_of_cell? w _ h.c0
theorem BoxW.grown {w w' : World} {b : Nat} {o : Int} {dv : Value} {cut : Bool} {g : Option Nat} (h : BoxW w b o dv cut) (hg : w.grownBy w' g) (hne : ∀ k, g = some k → k ≠ b) : BoxW w' b o dv cut := by
  have e := hg.block b h.lt (fun e => hne b e.symm rfl)
  exact ⟨by rw [← h.c0]; unfold World.cell?; simp only [e], by rw [← h.c1]; unfold World.cell?; simp only [e], by rw [← h.c2]; unfold World.cell?; simp only [e]⟩
set_option maxRecDepth 100000 in
set_option maxHeartbeats 1600000 in
theorem apply_any (o : Nat) (data b : List UInt8) (cut : Bool) (dv bv : Value) (B : Nat) (w : World) (hb : OwnC w B bv b) (hB : B ≤ w.heap.size) (hd : ∀ W, Below B w W → RdB W dv data) (ho : o ≤ 2000000) (hdl : data.length ≤ 2000000) (hbl : b.length ≤ 4000000) :
    Calls Tryd.prog 60 #[.agg #[.int .i64 (o : Int), dv, .bool cut], bv] w fun e w' => ∃ v', e = .returned v' ∧ OwnC w' B v' (appl ⟨(o : Int), data, cut⟩ b) ∧ Below B w w' := by
  obtain ⟨da, dc, rfl, hd1, hd2, _⟩ := (hd w (Below.refl _ _)).shape0
  have hrd := hb.rd
  have hbk := hb.block
  have hsp0 := hb.spot
  have Hb := Lib.hid hb
  have Hd := Lib.hid hd
  have HG := Lib.hid (fun W (h : Below B w W) => grown_any ⟨(o : Int), data, cut⟩ _ (b.length : Int) W (hd W h) ⟨⟨by dsimp only; omega, by dsimp only; omega⟩, hdl⟩)
  clear hd hb
  obtain ⟨ba, bc, rfl, hb1, hb2, hb3⟩ := hrd.shape0
  cases cut
  · have hgw : grownW ⟨(o : Int), data, false⟩ (b.length : Int) = max (b.length : Int) ((o : Int) + (data.length : Int)) := rfl
    rw [hgw] at HG
    have HA := Lib.hid (show appl ⟨(o : Int), data, false⟩ b = putW b o data by unfold appl; simp)
    have HPg := Lib.hid (put_grow b data o)
    have HPi := Lib.hid (put_in b data o)
    have hlen : ∀ k, (b ++ zer k).length = b.length + k := fun k => by rw [List.length_append, zer_length]
    have Hlen := Lib.hid hlen
    clear hgw hlen hrd hsp0
    generalize appl ⟨(o : Int), data, false⟩ b = AP at *
    generalize hdn : data.length = dn at *
    have Hdn := Lib.hid hdn
    clear hdn
    generalize hbn : b.length = bn at *
    have Hbn := Lib.hid hbn
    clear hbn
    have hbq : Below w.heap.size w (w.alloc (.cells #[.int .i64 (o : Int), .slice da dn dc, .bool false] 95)) := (Below.refl _ _).alloc (Nat.le_refl _) _
    have HX := Lib.hid (show BoxW (w.alloc (.cells #[.int .i64 (o : Int), .slice da dn dc, .bool false] 95)) w.heap.size (o : Int) (.slice da dn dc) false from ⟨by simp, by simp, by simp⟩)
    have HB1 := Lib.hid (hbq.mono hB)
    have hs1 : w.heap.size + 1 ≤ (w.alloc (.cells #[.int .i64 (o : Int), .slice da dn dc, .bool false] 95)).heap.size := by simp
    replace Hb := Lib.hid (Hb.out.keep hbq)
    have Hbk := Lib.hid (show ∀ k, (Value.slice ba bn bc).ownBlock = some k → k ≠ w.heap.size from fun k hk => by have := (hbk k hk).2; omega)
    clear hbk
    go_enter Tryd.func60, Tryd.ntmps60
    go_upto_region 1 with fail
    clear hbq
    generalize w.alloc (.cells #[.int .i64 (o : Int), .slice da dn dc, .bool false] 95) = w1 at *
    generalize w.heap.size = bx at *
    have x2 := HX.out.c2
    have x0 := HX.out.c0
    have x1 := HX.out.c1
    go_wp2_with fail
    refine (HG.out _ HB1.out).mono ?_
    rintro e w2 ⟨rfl, hb2'⟩
    clear x0 x1 x2
    have X2 := Lib.hid (HX.out.below hb2')
    have Hb2 := Lib.hid (Hb.out.keep (hb2'.mono (by omega)))
    have HB2 := Lib.hid (HB1.out.trans (hb2'.mono (by omega)))
    have hs2 : bx + 1 ≤ w2.heap.size := by have := hb2'.size; omega
    clear hb2' Hb HX HB1 HG hs1
    generalize hend : max (bn : Int) ((o : Int) + (dn : Int)) = en at *
    by_cases hz : bn < o + dn
    · have he : en = (o : Int) + (dn : Int) := by omega
      have i1 : (bn : Int) < (o : Int) + (dn : Int) := by omega
      obtain ⟨v3, w3, hap, hb3', hbe3, hgr3⟩ := Hb2.out.zeros (by omega) (o + dn - bn) (by omega) (by rw [Hbn.out]; omega)
      have hap2 : ∀ ty, (Builtin.append_ #[47, 2] ty #[.slice ba bn bc, .int .i64 ((o : Int) + (dn : Int) - (bn : Int))]).run Tryd.prog w2 = .ok v3 w3 := fun ty => by
        have := hap ty
        rw [show ((o + dn - bn : Nat) : Int) = (o : Int) + (dn : Int) - (bn : Int) by omega] at this
        exact this
      clear hap
      have X3 := Lib.hid (X2.out.grown hgr3 (by simpa [Hbn.out] using Hbk.out))
      have HB3 := Lib.hid (HB2.out.trans hbe3)
      have hs3 : bx + 1 ≤ w3.heap.size := by have := hbe3.size; omega
      have HP := Lib.hid (HPg.out (by omega))
      have hl3 : o + dn ≤ (b ++ zer (o + dn - bn)).length := by rw [Hlen.out]; omega
      generalize b ++ zer (o + dn - bn) = b3 at *
      obtain ⟨a3, cp3, c3, rfl, h31, h32, h33⟩ := hb3'
      have H3 := Lib.hid (show OwnC w3 B (.slice a3 b3.length c3) b3 from ⟨a3, cp3, c3, rfl, h31, h32, h33⟩)
      clear h31 h32 h33 hgr3 hbe3 X2 Hb2 HB2 HPg HPi Hlen Hbk
      subst he
      clear hend
      generalize hbl3 : b3.length = bn3 at *
      have Hbl3 := Lib.hid hbl3
      clear hbl3
      go_upto_region 6 with (at_builtin; go_must (refine Lib.wpList_append_run _ rfl (.tmp 24) (.tmp 28) 47 2 rfl _ _ rfl rfl _ _ (hap2 _) ?_))
      obtain ⟨sl, hsl⟩ := H3.out.from_ o (by rw [Hbl3.out]; omega)
      refine wp_region_rel [eqS (.slice a3 bn3 c3), eqS (.pointer (some ⟨bx, 0, none⟩)), eqS (.int .i64 (o : Int)), eqS (sl), eqS (.pointer (some ⟨bx, 1, none⟩)), eqS (.slice da dn dc)] [] 38 (by kernel_rfl) (by kernel_rfl) (by rfl) (by kernel_rfl) (fun f => by simp [frm, dstOf, Act.put]; exact rfl) ?_ ?_
      · refine ⟨?_, ?_, ?_, ?_, ?_, ?_, trivial⟩
        · intro f w1 hb hd
          clear hd
          dsimp only
          go_wp2_with fail
          exact ⟨rfl, Below.refl _ _, fun t ht => by injection ht with ht; subst ht; exact ⟨rfl, fun h => by simp at h⟩⟩
        · intro f w1 hb hd
          clear hd
          dsimp only
          go_wp2_with fail
          exact ⟨rfl, Below.refl _ _, fun t ht => by injection ht with ht; subst ht; exact ⟨rfl, fun h => by simp at h⟩⟩
        · intro f w1 hb hd
          have d1 : f 1 = .pointer (some ⟨bx, 0, none⟩) := hd 1 (by kernel_rfl)
          clear hd
          dsimp only
          rw [d1]
          have x0 := (X3.out.below hb).c0
          go_wp2_with fail
          exact ⟨rfl, Below.refl _ _, fun t ht => by injection ht with ht; subst ht; exact ⟨rfl, fun h => by simp at h⟩⟩
        · intro f w1 hb hd
          have d0 : f 0 = .slice a3 bn3 c3 := hd 0 (by kernel_rfl)
          have d2 : f 2 = .int .i64 (o : Int) := hd 2 (by kernel_rfl)
          clear hd
          dsimp only
          rw [d0]
          rw [d2]
          go_wp2_with fail
          exact ⟨rfl, Below.refl _ _, fun t ht => by injection ht with ht; subst ht; exact ⟨rfl, fun h => by simp at h⟩⟩
        · intro f w1 hb hd
          clear hd
          dsimp only
          go_wp2_with fail
          exact ⟨rfl, Below.refl _ _, fun t ht => by injection ht with ht; subst ht; exact ⟨rfl, fun h => by simp at h⟩⟩
        · intro f w1 hb hd
          have d4 : f 4 = .pointer (some ⟨bx, 1, none⟩) := hd 4 (by kernel_rfl)
          clear hd
          dsimp only
          rw [d4]
          have x1 := (X3.out.below hb).c1
          go_wp2_with fail
          exact ⟨rfl, Below.refl _ _, fun t ht => by injection ht with ht; subst ht; exact ⟨rfl, fun h => by simp at h⟩⟩
      · intro f w1 hb hA _
        have d0 : f 0 = .slice a3 bn3 c3 := hA 0 (show 0 < 6 by decide)
        have d1 : f 1 = .pointer (some ⟨bx, 0, none⟩) := hA 1 (show 1 < 6 by decide)
        have d2 : f 2 = .int .i64 (o : Int) := hA 2 (show 2 < 6 by decide)
        have d3 : f 3 = sl := hA 3 (show 3 < 6 by decide)
        have d4 : f 4 = .pointer (some ⟨bx, 1, none⟩) := hA 4 (show 4 < 6 by decide)
        have d5 : f 5 = .slice da dn dc := hA 5 (show 5 < 6 by decide)
        clear hA
        try dsimp only at *
        rw [d0]
        rw [d1]
        rw [d2]
        rw [d3]
        rw [d4]
        rw [d5]
        clear d0 d1 d2 d3 d4 d5
        have HbD := Lib.hid hb
        have Hc := Lib.hid (H3.out.keep hb)
        obtain ⟨nn, w5, hcp, ho5, hb5, hg5⟩ := Hc.out.copy o hsl (Hd.out _ (HB3.out.trans (hb.mono (by omega)))) (Nat.le_trans (by omega) hb.size) (by rw [Hdn.out, Hbl3.out]; omega)
        refine wpList_copy_run rfl (.tmp 33) (.tmp 35) 47 47 rfl _ _ rfl rfl nn w5 hcp ?_
        clear hsl hcp
        rw [Hdn.out] at ho5
        have hF := Lib.hid (HB3.out.trans ((hb.mono (by omega)).trans hb5))
        go_wp2_with fail
        go_ret
        exact ⟨_, rfl, by rw [HA.out, HP.out]; exact ho5, hF.out⟩
    · have he : en = (bn : Int) := by omega
      have i1 : ¬ (bn : Int) < (bn : Int) := by omega
      have HP := Lib.hid (HPi.out (by omega))
      have hl3 : o + dn ≤ bn := by omega
      clear Hlen HPg HPi Hbk hend
      subst he
      go_upto_region 6 with fail
      obtain ⟨sl, hsl⟩ := Hb2.out.from_ o (by rw [Hbn.out]; omega)
      refine wp_region_rel [eqS (.slice ba bn bc), eqS (.pointer (some ⟨bx, 0, none⟩)), eqS (.int .i64 (o : Int)), eqS (sl), eqS (.pointer (some ⟨bx, 1, none⟩)), eqS (.slice da dn dc)] [] 38 (by kernel_rfl) (by kernel_rfl) (by rfl) (by kernel_rfl) (fun f => by simp [frm, dstOf, Act.put]; exact rfl) ?_ ?_
      · refine ⟨?_, ?_, ?_, ?_, ?_, ?_, trivial⟩
        · intro f w1 hb hd
          clear hd
          dsimp only
          go_wp2_with fail
          exact ⟨rfl, Below.refl _ _, fun t ht => by injection ht with ht; subst ht; exact ⟨rfl, fun h => by simp at h⟩⟩
        · intro f w1 hb hd
          clear hd
          dsimp only
          go_wp2_with fail
          exact ⟨rfl, Below.refl _ _, fun t ht => by injection ht with ht; subst ht; exact ⟨rfl, fun h => by simp at h⟩⟩
        · intro f w1 hb hd
          have d1 : f 1 = .pointer (some ⟨bx, 0, none⟩) := hd 1 (by kernel_rfl)
          clear hd
          dsimp only
          rw [d1]
          have x0 := (X2.out.below hb).c0
          go_wp2_with fail
          exact ⟨rfl, Below.refl _ _, fun t ht => by injection ht with ht; subst ht; exact ⟨rfl, fun h => by simp at h⟩⟩
        · intro f w1 hb hd
          have d0 : f 0 = .slice ba bn bc := hd 0 (by kernel_rfl)
          have d2 : f 2 = .int .i64 (o : Int) := hd 2 (by kernel_rfl)
          clear hd
          dsimp only
          rw [d0]
          rw [d2]
          go_wp2_with fail
          exact ⟨rfl, Below.refl _ _, fun t ht => by injection ht with ht; subst ht; exact ⟨rfl, fun h => by simp at h⟩⟩
        · intro f w1 hb hd
          clear hd
          dsimp only
          go_wp2_with fail
          exact ⟨rfl, Below.refl _ _, fun t ht => by injection ht with ht; subst ht; exact ⟨rfl, fun h => by simp at h⟩⟩
        · intro f w1 hb hd
          have d4 : f 4 = .pointer (some ⟨bx, 1, none⟩) := hd 4 (by kernel_rfl)
          clear hd
          dsimp only
          rw [d4]
          have x1 := (X2.out.below hb).c1
          go_wp2_with fail
          exact ⟨rfl, Below.refl _ _, fun t ht => by injection ht with ht; subst ht; exact ⟨rfl, fun h => by simp at h⟩⟩
      · intro f w1 hb hA _
        have d0 : f 0 = .slice ba bn bc := hA 0 (show 0 < 6 by decide)
        have d1 : f 1 = .pointer (some ⟨bx, 0, none⟩) := hA 1 (show 1 < 6 by decide)
        have d2 : f 2 = .int .i64 (o : Int) := hA 2 (show 2 < 6 by decide)
        have d3 : f 3 = sl := hA 3 (show 3 < 6 by decide)
        have d4 : f 4 = .pointer (some ⟨bx, 1, none⟩) := hA 4 (show 4 < 6 by decide)
        have d5 : f 5 = .slice da dn dc := hA 5 (show 5 < 6 by decide)
        clear hA
        try dsimp only at *
        rw [d0]
        rw [d1]
        rw [d2]
        rw [d3]
        rw [d4]
        rw [d5]
        clear d0 d1 d2 d3 d4 d5
        have HbD := Lib.hid hb
        have Hc := Lib.hid (Hb2.out.keep hb)
        obtain ⟨nn, w5, hcp, ho5, hb5, hg5⟩ := Hc.out.copy o hsl (Hd.out _ (HB2.out.trans (hb.mono (by omega)))) (Nat.le_trans (by omega) hb.size) (by rw [Hdn.out, Hbn.out]; omega)
        refine wpList_copy_run rfl (.tmp 33) (.tmp 35) 47 47 rfl _ _ rfl rfl nn w5 hcp ?_
        clear hsl hcp
        rw [Hdn.out] at ho5
        have hF := Lib.hid (HB2.out.trans ((hb.mono (by omega)).trans hb5))
        go_wp2_with fail
        go_ret
        exact ⟨_, rfl, by rw [HA.out, HP.out]; exact ho5, hF.out⟩
  · have HA := Lib.hid (show appl ⟨(o : Int), data, true⟩ b = b.take (min b.length o) from by
      show b.take ((o : Int).toNat) = _
      rw [Int.toNat_natCast, List.take_eq_take_iff]; omega)
    have HT := Lib.hid (fun W (h : OwnC W B (.slice ba b.length bc) b) => h.take (min b.length o) (Nat.min_le_left _ _))
    have hsp := hsp0 ba b.length bc rfl
    clear hsp0
    have gto := slice_to (P := Tryd.prog) elemU8 (a := ba) (n := b.length) (cap := bc) hsp (min b.length o) (by omega)
    have hbq : Below w.heap.size w (w.alloc (.cells #[.int .i64 (o : Int), .slice da data.length dc, .bool true] 95)) := (Below.refl _ _).alloc (Nat.le_refl _) _
    have HX := Lib.hid (show BoxW (w.alloc (.cells #[.int .i64 (o : Int), .slice da data.length dc, .bool true] 95)) w.heap.size (o : Int) (.slice da data.length dc) true from ⟨by simp, by simp, by simp⟩)
    have HB1 := Lib.hid (hbq.mono hB)
    replace Hb := Lib.hid (Hb.out.keep hbq)
    clear hbk HG hrd
    generalize appl ⟨(o : Int), data, true⟩ b = AP at *
    generalize hmn : min b.length o = mn at *
    generalize hbn : b.length = bn at *
    have Hbn := Lib.hid hbn
    clear hbn
    generalize data.length = dn at *
    go_enter Tryd.func60, Tryd.ntmps60
    go_upto_region 1 with fail
    clear hbq
    generalize w.alloc (.cells #[.int .i64 (o : Int), .slice da dn dc, .bool true] 95) = w1 at *
    generalize w.heap.size = bx at *
    have x2 := HX.out.c2
    have x0 := HX.out.c0
    have i1 : max (o : Int) 0 = (o : Int) := by omega
    have i2 : min (bn : Int) (o : Int) = (mn : Int) := by omega
    go_wp2_with fail
    go_ret
    exact ⟨_, rfl, by rw [HA.out]; exact HT.out _ Hb.out, HB1.out⟩
end Go.Proofs.YtkabcpmnbjllcaaDoor
