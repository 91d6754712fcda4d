/- left of the program: what a crash keeps of a file. The walk. Printed by mkYi.py. -/
import Derived.Test.YtkabcpmnbjllcaaDoorYh
namespace Go.Proofs.YtkabcpmnbjllcaaDoor
open Go.RowKit

abbrev keepVal (k : Kp) : Value := .agg #[.string (strB k.name), .int .i64 k.wri, .int .i64 k.torn]
theorem cutN_le (n : Int) (m : Nat) : cutN n m ≤ m := by unfold cutN; omega
theorem cutN_int (n : Int) (m : Nat) : max (0 : Int) (min n (m : Int)) = (cutN n m : Int) := by unfold cutN; omega
theorem leftF_end {f : Fil} {k : Kp} (h : cutN k.wri f.pend.length = f.pend.length) : leftF f k = contF ⟨[], f.base, f.pend.take (cutN k.wri f.pend.length)⟩ := by
  unfold leftF
  dsimp only
  rw [h, List.getElem?_eq_none (Nat.le_refl _)]
  rfl
theorem leftF_in {f : Fil} {k : Kp} (h : cutN k.wri f.pend.length < f.pend.length) : leftF f k = if (watW f.pend (cutN k.wri f.pend.length)).cut then contF ⟨[], f.base, f.pend.take (cutN k.wri f.pend.length)⟩ else
    if (watW f.pend (cutN k.wri f.pend.length)).data.take (cutN k.torn (watW f.pend (cutN k.wri f.pend.length)).data.length) = [] then contF ⟨[], f.base, f.pend.take (cutN k.wri f.pend.length)⟩ else
      appl ⟨(watW f.pend (cutN k.wri f.pend.length)).off, (watW f.pend (cutN k.wri f.pend.length)).data.take (cutN k.torn (watW f.pend (cutN k.wri f.pend.length)).data.length), false⟩ (contF ⟨[], f.base, f.pend.take (cutN k.wri f.pend.length)⟩) := by
  unfold leftF watW
  dsimp only
  rw [List.getD_eq_getElem?_getD, List.getElem?_eq_getElem h]
  rfl
/-- The first k writes. -/
theorem slice_wr {w : World} {a : Option Addr} {n cap : Nat} {ws : List Wr} (h : RdW w (.slice a n cap) ws) (k : Nat) (hk : k ≤ n) :
    ∃ a', (∀ W kh, (Instr.slice 67 (.slice a n cap) none (some (.int kh (k : Int))) none).run Tryd.prog W = .ok (.slice a' k cap) W) ∧ RdW w (.slice a' k cap) (ws.take k) := by
  obtain ⟨a0, c0, e, h1, h2, h3⟩ := h.shape
  injection e with e1 e2 e3
  subst e1 e3
  rcases Nat.eq_zero_or_pos n with h0 | h0
  · obtain rfl : k = 0 := by omega
    obtain ⟨g1, g2⟩ := elem_of (P := Tryd.prog) elemWi
    refine ⟨if cap = 0 then a else a.map (·.add (0 * 3)), fun W kh => ?_, ?_⟩
    · rw [run_slice_h W 67 a n cap g1 kh ((0 : Nat) : Int) (by omega) (by omega), g2]
      simp [Result.andThen, sliced]
    · rw [List.take_zero]
      refine ⟨[], rfl, ⟨fun _ h => (by cases h), rfl, _, cap, rfl, Nat.zero_le _, h2, fun e => ?_, fun hp => absurd hp (by simp)⟩, fun _ h => by cases h⟩
      split at e
      · assumption
      · cases a with
        | none => exact h3 rfl
        | some x => cases e
  · obtain ⟨b, off, _, rfl, _⟩ := h.at h0
    exact ⟨_, slice_to (P := Tryd.prog) elemWi (fun x hx => ⟨b, off, by injection hx with hx; exact hx.symm⟩) k (by omega), h.take k hk⟩
theorem OwnC.set_ne {w : World} {B b : Nat} {v : Value} {l : List UInt8} (h : OwnC w B v l) (hne : v.ownBlock ≠ some b) (i : Nat) (u : Value) : OwnC (w.setCell ⟨b, i, none⟩ u) B v l := by
  obtain ⟨a, c, c', rfl, ho, h1⟩ := h
  exact ⟨a, c, c', rfl, own_set_ne (p := ⟨b, i, none⟩) ho (fun e => hne (by cases a <;> exact e)) u, h1⟩
/-- The first k bytes. -/
theorem slice_by {w : World} {a : Option Addr} {n cap : Nat} {l : List UInt8} (h : RdB w (.slice a n cap) l) (k : Nat) (hk : k ≤ n) :
    ∃ a', (∀ W kh, (Instr.slice 47 (.slice a n cap) none (some (.int kh (k : Int))) none).run Tryd.prog W = .ok (.slice a' k cap) W) ∧ RdB w (.slice a' k cap) (l.take k) := by
  obtain ⟨a0, c0, e, h1, h2, h3⟩ := h.shape0
  injection e with e1 e2 e3
  subst e1 e3
  rcases Nat.eq_zero_or_pos n with h0 | h0
  · obtain rfl : k = 0 := by omega
    obtain ⟨g1, g2⟩ := elem_of (P := Tryd.prog) elemU8
    refine ⟨if cap = 0 then a else a.map (·.add (0 * 1)), fun W kh => ?_, ?_⟩
    · rw [run_slice_h W 47 a n cap g1 kh ((0 : Nat) : Int) (by omega) (by omega), g2]
      simp [Result.andThen, sliced]
    · rw [List.take_zero]
      refine ⟨rfl, _, cap, rfl, Nat.zero_le _, h2, fun e => ?_, fun hp => absurd hp (by simp)⟩
      split at e
      · assumption
      · cases a with
        | none => exact h3 rfl
        | some x => cases e
  · exact ⟨_, slice_to (P := Tryd.prog) elemU8 (RdL.spot h h0) k (by omega), RdL.take h k hk⟩
/-- A keep in a box. -/
structure BoxK (w : World) (b : Nat) (nm : ByteArray) (a c : Int) : Prop where
  c0 : w.cell? ⟨b, 0, none⟩ = some (.string nm)
  c1 : w.cell? ⟨b, 1, none⟩ = some (.int .i64 a)
  c2 : w.cell? ⟨b, 2, none⟩ = some (.int .i64 c)
theorem BoxK.below {w w' : World} {b : Nat} {nm : ByteArray} {a c : Int} (h : BoxK w b nm a c) (hb : Below w.heap.size w w') : BoxK w' b nm a c := ⟨Below.keeps hb _ _ h.c0, Below.keeps hb _ _ h.c1, Below.keeps hb _ _ h.c2⟩
set_option maxRecDepth 100000 in
set_option maxHeartbeats 3200000 in
theorem left_any (f : Fil) (k : Kp) (bv pv : Value) (w : World) (hb : RdB w bv f.base) (hp : RdW w pv f.pend) (hr : LiteF f) (hsz : sizedF f = true) :
    Calls Tryd.prog 57 #[filVal f.name bv pv, keepVal k] w fun e w' => ∃ v', e = .returned v' ∧ OwnC w' w.heap.size v' (leftF f k) ∧ Below w.heap.size w w' := by
  have hcl := contF_le ⟨[], f.base, f.pend.take (cutN k.wri f.pend.length)⟩
  have hcn := cutN_le k.wri f.pend.length
  have hci := cutN_int k.wri f.pend.length
  obtain ⟨ba, bc, rfl, hb1, hb2, _⟩ := hb.shape0
  obtain ⟨pa, pc, rfl, hp1, hp2, hp3⟩ := hp.shape
  obtain ⟨pq, hgs, hpt⟩ := slice_wr hp _ hcn
  have HCt := Lib.hid (fun W (hW : Below w.heap.size w W) => content_any [] f.base (f.pend.take (cutN k.wri f.pend.length)) _ _ W (hb.below hW) (hpt.below hW) (fun x hx => hr.wr x (List.mem_of_mem_take hx)))
  change Hid (∀ W, Below w.heap.size w W → Calls Tryd.prog 37 #[.agg #[.string ⟨#[]⟩, .slice ba f.base.length bc, .slice pq (cutN k.wri f.pend.length) pc]] W _) at HCt
  have HLe := Lib.hid (leftF_end (f := f) (k := k))
  have HLi := Lib.hid (leftF_in (f := f) (k := k))
  have HP := Lib.hid hp
  have Hway := Lib.hid (fun h => sized_way (nm := f.name) (b := f.base) (ws := f.pend) hsz (j := cutN k.wri f.pend.length) h)
  clear hb hp hr hsz hp3 hpt
  generalize leftF f k = RS at *
  generalize contF ⟨[], f.base, f.pend.take (cutN k.wri f.pend.length)⟩ = C at *
  generalize cutN k.wri f.pend.length = cn at *
  obtain ⟨nm, base, ws⟩ := f
  obtain ⟨kn, kw, kt⟩ := k
  dsimp only at *
  generalize base.length = l at *
  generalize hpl : ws.length = pl at *
  have Hpl := Lib.hid hpl
  clear hpl
  obtain ⟨W0, hW0⟩ : ∃ W0, (w.alloc (.cells #[.string (strB nm), .slice ba l bc, .slice pa pl pc] 69)).alloc (.cells #[.string (strB kn), .int .i64 kw, .int .i64 kt] 52) = W0 := ⟨_, rfl⟩
  have HB := Lib.hid (show Below w.heap.size w W0 from hW0 ▸ ((Below.refl _ _).alloc (Nat.le_refl _) _).alloc (by simp) _)
  have X := Lib.hid (show BoxF W0 w.heap.size (strB nm) (.slice ba l bc) (.slice pa pl pc) from hW0 ▸ ⟨by simp, by simp, by simp, fun i => by simp⟩)
  have K := Lib.hid (show BoxK W0 (w.heap.size + 1) (strB kn) kw kt from hW0 ▸ ⟨by simp, by simp, by simp⟩)
  have hs0 : w.heap.size + 2 ≤ W0.heap.size := by rw [← hW0]; simp
  change Calls Tryd.prog 57 #[.agg #[.string (strB nm), .slice ba l bc, .slice pa pl pc], .agg #[.string (strB kn), .int .i64 kw, .int .i64 kt]] w _
  go_enter Tryd.func57, Tryd.ntmps57
  go_upto_region 1 with fail
  clear hW0
  have x2 := X.out.c2
  have k1 := K.out.c1
  go_upto_region 2 with fail
  clear x2 k1
  refine wp_region_rel [eqS (.pointer (some ⟨w.heap.size, 1, none⟩)), eqS (.slice ba l bc), eqS (.pointer (some ⟨w.heap.size, 2, none⟩)), eqS (.slice pa pl pc), eqS (.int .i64 (cn : Int)), eqS (.slice pq cn pc), eqS (.agg #[.string ⟨#[]⟩, .slice ba l bc, .slice pq cn pc])] [] 61 (by kernel_rfl) (by kernel_rfl) (by rfl) (by kernel_rfl) (fun f => by simp [frm, dstOf, Act.put]; exact rfl) ?_ ?_
  · refine ⟨?_, ?_, ?_, ?_, ?_, ?_, ?_, trivial⟩
    · intro f w1 hb hd
      clear hd
      dsimp only
      go_wp2_with fail
      exact ⟨rfl, Below.refl _ _, fun t ht => by injection ht with ht; subst ht; exact ⟨rfl, fun h => by simp at h⟩⟩
    · intro f w1 hb hd
      have d0 : f 0 = .pointer (some ⟨w.heap.size, 1, none⟩) := hd 0 (by kernel_rfl)
      clear hd
      dsimp only
      rw [d0]
      have y := (X.out.below hb).c1
      go_wp2_with fail
      exact ⟨rfl, Below.refl _ _, fun t ht => by injection ht with ht; subst ht; exact ⟨rfl, fun h => by simp at h⟩⟩
    · intro f w1 hb hd
      clear hd
      dsimp only
      go_wp2_with fail
      exact ⟨rfl, Below.refl _ _, fun t ht => by injection ht with ht; subst ht; exact ⟨rfl, fun h => by simp at h⟩⟩
    · intro f w1 hb hd
      have d2 : f 2 = .pointer (some ⟨w.heap.size, 2, none⟩) := hd 2 (by kernel_rfl)
      clear hd
      dsimp only
      rw [d2]
      have y := (X.out.below hb).c2
      go_wp2_with fail
      exact ⟨rfl, Below.refl _ _, fun t ht => by injection ht with ht; subst ht; exact ⟨rfl, fun h => by simp at h⟩⟩
    · intro f w1 hb hd
      clear hd
      dsimp only
      go_wp2_with fail
      exact ⟨rfl, Below.refl _ _, fun t ht => by injection ht with ht; subst ht; exact ⟨rfl, fun h => by simp at h⟩⟩
    · intro f w1 hb hd
      have d3 : f 3 = .slice pa pl pc := hd 3 (by kernel_rfl)
      have d4 : f 4 = .int .i64 (cn : Int) := hd 4 (by kernel_rfl)
      clear hd
      dsimp only
      rw [d3]
      rw [d4]
      go_wp2_with fail
      exact ⟨rfl, Below.refl _ _, fun t ht => by injection ht with ht; subst ht; exact ⟨rfl, fun h => by simp at h⟩⟩
    · intro f w1 hb hd
      have d1 : f 1 = .slice ba l bc := hd 1 (by kernel_rfl)
      have d5 : f 5 = .slice pq cn pc := hd 5 (by kernel_rfl)
      clear hd
      dsimp only
      rw [d1]
      rw [d5]
      go_wp2_with fail
      exact ⟨rfl, Below.refl _ _, fun t ht => by injection ht with ht; subst ht; exact ⟨rfl, fun h => by simp at h⟩⟩
  · intro f w1 hb hA _
    have d0 : f 0 = .pointer (some ⟨w.heap.size, 1, none⟩) := hA 0 (show 0 < 7 by decide)
    have d1 : f 1 = .slice ba l bc := hA 1 (show 1 < 7 by decide)
    have d2 : f 2 = .pointer (some ⟨w.heap.size, 2, none⟩) := hA 2 (show 2 < 7 by decide)
    have d3 : f 3 = .slice pa pl pc := hA 3 (show 3 < 7 by decide)
    have d4 : f 4 = .int .i64 (cn : Int) := hA 4 (show 4 < 7 by decide)
    have d5 : f 5 = .slice pq cn pc := hA 5 (show 5 < 7 by decide)
    have d6 : f 6 = .agg #[.string ⟨#[]⟩, .slice ba l bc, .slice pq cn pc] := hA 6 (show 6 < 7 by decide)
    clear hA
    try dsimp only at *
    rw [d0]
    rw [d1]
    rw [d2]
    rw [d3]
    rw [d4]
    rw [d5]
    rw [d6]
    clear d0 d1 d2 d3 d4 d5 d6
    have X1 := Lib.hid (X.out.below hb)
    have K1 := Lib.hid (K.out.below hb)
    have HB1 := Lib.hid (bstep HB.out hb)
    have hs1 := Nat.le_trans hs0 hb.size
    clear hb X K HB hs0
    go_wp2_with fail
    refine (HCt.out _ HB1.out).mono ?_
    rintro e w2 ⟨v2, rfl, ho, hb2'⟩
    have X2 := Lib.hid (X1.out.below hb2')
    have K2 := Lib.hid (K1.out.below hb2')
    have HB2 := Lib.hid (bstep HB1.out hb2')
    have HO2 := Lib.hid (show OwnC w2 w.heap.size v2 C from ho.lower HB1.out.size)
    have hs2 := Nat.le_trans hs1 hb2'.size
    clear ho hb2' X1 K1 HB1 hs1 HCt
    have hbk := HO2.out.block
    obtain ⟨va, vc, e2, _⟩ := HO2.out.rd.shape0
    subst e2
    have Hcl := Lib.hid hcl
    generalize hCl : C.length = cl at *
    have HCl := Lib.hid hCl
    clear hCl
    have x2 := X2.out.c2
    by_cases hc : cn = pl
    · have HR := Lib.hid (HLe.out hc)
      subst hc
      go_wp2_with fail
      go_ret
      exact ⟨_, rfl, by rw [HR.out]; exact HO2.out, HB2.out⟩
    · have hlt : cn < pl := by omega
      have i1 : ¬ (cn : Int) = (pl : Int) := by omega
      have HR := Lib.hid (HLi.out hlt)
      obtain ⟨q1, q2, q3, _⟩ := Hway.out hlt
      obtain ⟨b, off, dv, rfl, hd, c0, c1, c2⟩ := HP.out.at hlt
      obtain ⟨da, dc, rfl, hd1, hd2, _⟩ := hd.shape0
      obtain ⟨dq, hgd, hdq⟩ := slice_by hd (cutN kt (watW ws cn).data.length) (cutN_le _ _)
      have hcm := cutN_le kt (watW ws cn).data.length
      have hcmi := cutN_int kt (watW ws cn).data.length
      replace c0 := Below.keeps HB2.out _ _ c0
      replace c1 := Below.keeps HB2.out _ _ c1
      replace c2 := Below.keeps HB2.out _ _ c2
      clear HLi HLe Hway hd hgs
      generalize watW ws cn = x at *
      obtain ⟨xo, xd, xc⟩ := x
      dsimp only at *
      generalize cutN kt xd.length = cm at *
      have Hdq := Lib.hid hdq
      have Hxl := Lib.hid (show (xd.take cm).length = cm by rw [List.length_take]; omega)
      clear hdq
      generalize xd.length = dl at *
      cases xc
      · obtain ⟨o, rfl⟩ := Int.eq_ofNat_of_zero_le q1
        have hba := (Below.refl w2.heap.size w2).alloc (Nat.le_refl _) (.cells #[.int .i64 (o : Int), .slice da dl dc, .bool false] 95)
        have K3 := Lib.hid (K2.out.below hba)
        have HB3 := Lib.hid (bstep HB2.out hba)
        have HO3 := Lib.hid (HO2.out.keep hba)
        have Y := Lib.hid (show BoxW (w2.alloc (.cells #[.int .i64 (o : Int), .slice da dl dc, .bool false] 95)) w2.heap.size (o : Int) (.slice da dl dc) false ∧ ∀ i, (w2.alloc (.cells #[.int .i64 (o : Int), .slice da dl dc, .bool false] 95)).frozen? ⟨w2.heap.size, i, none⟩ = false from ⟨⟨by simp, by simp, by simp⟩, fun i => by simp⟩)
        have hbne : (Value.slice va cl vc).ownBlock ≠ some w2.heap.size := fun e => by have := (hbk _ e).2; omega
        clear hba hbk
        go_upto_region 6 with fail
        generalize w2.alloc (.cells #[.int .i64 (o : Int), .slice da dl dc, .bool false] 95) = w3 at *
        generalize w2.heap.size = bq at *
        have y1 := Y.out.1.c1
        have yf := Y.out.2
        have k2 := K3.out.c2
        clear c0 c1 c2 x2
        have hbq : w.heap.size ≤ bq := by omega
        have HB4 := Lib.hid (HB3.out.setCell (p := ⟨bq, 1, none⟩) hbq (.slice dq cm dc))
        have HO4 := Lib.hid (HO3.out.set_ne (b := bq) hbne 1 (.slice dq cm dc))
        have Y4 := Lib.hid (show BoxW (w3.setCell ⟨bq, 1, none⟩ (.slice dq cm dc)) bq (o : Int) (.slice dq cm dc) false from ⟨cell_set_off Y.out.1.c0 (by decide) _, cell_set_same y1 _, cell_set_off Y.out.1.c2 (by decide) _⟩)
        go_upto_region 7 with fail
        clear y1 yf k2 K3
        generalize w3.setCell ⟨bq, 1, none⟩ (.slice dq cm dc) = w4 at *
        have y0 := Y4.out.c0
        have y1 := Y4.out.c1
        have y2 := Y4.out.c2
        by_cases hz : cm = 0
        · have HR2 := Lib.hid (show RS = C by rw [HR.out, if_neg (by simp), if_pos (by rw [hz, List.take_zero])])
          subst hz
          go_wp2_with fail
          go_ret
          exact ⟨_, rfl, by rw [HR2.out]; exact HO4.out, HB4.out⟩
        · have i2 : (0 : Int) < (cm : Int) := by omega
          have HR2 := Lib.hid (show RS = appl ⟨(o : Int), xd.take cm, false⟩ C by
            rw [HR.out, if_neg (by simp), if_neg (fun e => hz (by rw [← Hxl.out, e]; rfl))])
          have hB4 : w.heap.size ≤ w4.heap.size := HB4.out.size
          have HAp := Lib.hid (apply_any o (xd.take cm) C false (.slice dq cm dc) _ w.heap.size w4 HO4.out hB4 (fun W hW => Hdq.out.below (HB4.out.trans hW)) (by omega) (by rw [Hxl.out]; omega) (by rw [HCl.out]; omega))
          go_wp2_with fail
          refine HAp.out.mono ?_
          rintro e w5 ⟨v5, rfl, ho5, hb5⟩
          have HO5 := Lib.hid ho5
          have HB5 := Lib.hid (HB4.out.trans hb5)
          clear ho5 hb5
          go_wp2_with fail
          go_ret
          exact ⟨_, rfl, by rw [HR2.out]; exact HO5.out, HB5.out⟩
      · have HR2 := Lib.hid (show RS = C by rw [HR.out, if_pos rfl])
        go_wp2_with fail
        go_ret
        exact ⟨_, rfl, by rw [HR2.out]; exact HO2.out, HB2.out⟩
end Go.Proofs.YtkabcpmnbjllcaaDoor
