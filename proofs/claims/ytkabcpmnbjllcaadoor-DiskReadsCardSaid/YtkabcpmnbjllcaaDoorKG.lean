/- Several texts in one, each over the last: kept of the reference: what a crash leaves of a file. The walk. Printed by mkDrp.py. Crash of the reference: the walk. Printed by mkDrq.py. Same of the reference on equal disks: the walk. Printed by mkDrs.py. -/
import Derived.Test.YtkabcpmnbjllcaaDoorDrn
import Derived.Test.YtkabcpmnbjllcaaDoorYf
namespace Go.Proofs.YtkabcpmnbjllcaaDoor
open Go.RowKit

/-- The first k writes, of the reference. -/
theorem slice_wrR {w : World} {a : Option Addr} {n cap : Nat} {ws : List Wr} (h : RdW w (.slice a n cap) ws) (k : Nat) (hk : k ≤ n) :
    ∃ a', (∀ W kh, (Instr.slice 71 (.slice a n cap) none (some (.int kh (k : Int))) none).run Tryd.prog W = .ok (.slice a' k cap) W) ∧ RdW w (.slice a' k cap) (ws.take k) := by
  obtain ⟨a0, c0, e, h1, h2, h3⟩ := h.shape
  injection e with e1 e2 e3
  subst e1 e3
  rcases Nat.eq_zero_or_pos n with h0 | h0
  · obtain rfl : k = 0 := by omega
    obtain ⟨g1, g2⟩ := elem_of (P := Tryd.prog) elemWr
    refine ⟨if cap = 0 then a else a.map (·.add (0 * 3)), fun W kh => ?_, ?_⟩
    · rw [run_slice_h W 71 a n cap g1 kh ((0 : Nat) : Int) (by omega) (by omega), g2]
      simp [Result.andThen, sliced]
    · rw [List.take_zero]
      refine ⟨[], rfl, ⟨fun _ h => (by cases h), rfl, _, cap, rfl, Nat.zero_le _, h2, fun e => ?_, fun hp => absurd hp (by simp)⟩, fun _ h => by cases h⟩
      split at e
      · assumption
      · cases a with
        | none => exact h3 rfl
        | some x => cases e
  · obtain ⟨b, off, _, rfl, _⟩ := h.at h0
    exact ⟨_, slice_to (P := Tryd.prog) elemWr (fun x hx => ⟨b, off, by injection hx with hx; exact hx.symm⟩) k (by omega), h.take k hk⟩
theorem keepOf_drop (l : List Kp) (s : List UInt8) (k : Nat) (h : k < l.length) : keepOf (l.drop k) s = if ((kpW l k).name == s) = true then kpW l k else keepOf (l.drop (k + 1)) s := by
  rw [List.drop_eq_getElem_cons h]
  have e : kpW l k = l[k] := by unfold kpW; rw [List.getD_eq_getElem?_getD, List.getElem?_eq_getElem h]; rfl
  rw [e]
  unfold keepOf
  by_cases hq : (l[k].name == s) = true
  · rw [if_pos hq, List.find?_cons_of_pos (by simpa using hq)]; rfl
  · rw [if_neg hq, List.find?_cons_of_neg (by simpa using hq)]
theorem BoxK.set3 {w : World} {b : Nat} {nm nm' : ByteArray} {a c a' c' : Int} (h : BoxK w b nm a c) : BoxK (((w.setCell ⟨b, 0, none⟩ (.string nm')).setCell ⟨b, 1, none⟩ (.int .i64 a')).setCell ⟨b, 2, none⟩ (.int .i64 c')) b nm' a' c' :=
  ⟨cell_set_off (cell_set_off (cell_set_same h.c0 _) (by decide) _) (by decide) _, cell_set_off (cell_set_same (cell_set_off h.c1 (by decide) _) _) (by decide) _, cell_set_same (cell_set_off (cell_set_off h.c2 (by decide) _) (by decide) _) _⟩
set_option maxRecDepth 100000 in
set_option maxHeartbeats 6400000 in
theorem rkept_any (f : Fil) (l : List Kp) (bv pv kv : Value) (w : World) (hb : RdB w bv f.base) (hp : RdW w pv f.pend) (hk : RdK w kv l) (hr : LiteF f) (hsz : sizedF f = true) (hl : l.length ≤ 1000000) :
    Calls Tryd.prog 96 #[filVal f.name bv pv, kv] w fun e w' => ∃ v', e = .returned v' ∧ OwnU w' w.heap.size v' (leftF f (keepOf l f.name)) ∧ Below w.heap.size w w' := by
  have HK0 := Lib.hid (show keepOf (l.drop 0) f.name = keepOf l f.name from rfl)
  have HKs := Lib.hid (fun k (h : k < l.length) => keepOf_drop l f.name k h)
  have HKn := Lib.hid (show keepOf (l.drop l.length) f.name = kp0 by rw [List.drop_length]; rfl)
  have HSm := Lib.hid (fun j => same_str (kpW l j).name f.name)
  have HKr := Lib.hid hk
  obtain ⟨ka, kc, rfl, hk1, hk2, _⟩ := hk.shape
  generalize keepOf l f.name = k at *
  have hcl := contF_le ⟨[], f.base, f.pend.take (cutN k.wri f.pend.length)⟩
  have hcn := cutN_le k.wri f.pend.length
  have hci := cutN_int k.wri f.pend.length
  obtain ⟨ba, bc, rfl, hb1, hb2, _⟩ := hb.shape0
  obtain ⟨pa, pc, rfl, hp1, hp2, hp3⟩ := hp.shape
  obtain ⟨pq, hgs, hpt⟩ := slice_wrR hp _ hcn
  have HCt := Lib.hid (fun W (hW : Below w.heap.size w W) => rcontent_any [] f.base (f.pend.take (cutN k.wri f.pend.length)) _ _ W (hb.below hW) (hpt.below hW) ⟨by simp, hr.base, by rw [List.length_take]; have := hr.pend; omega, fun x hx => hr.wr x (List.mem_of_mem_take hx)⟩)
  change Hid (∀ W, Below w.heap.size w W → Calls Tryd.prog 38 #[.agg #[.string ⟨#[]⟩, .slice ba f.base.length bc, .slice pq (cutN k.wri f.pend.length) pc]] W _) at HCt
  have HLe := Lib.hid (leftF_end (f := f) (k := k))
  have HLi := Lib.hid (leftF_in (f := f) (k := k))
  have HP := Lib.hid hp
  have Hway := Lib.hid (fun h => sized_way (nm := f.name) (b := f.base) (ws := f.pend) hsz (j := cutN k.wri f.pend.length) h)
  have HCi := Lib.hid hci
  have Hgs := Lib.hid hgs
  clear hb hp hr hsz hp3 hpt hk hci hgs
  generalize leftF f k = RS at *
  generalize contF ⟨[], f.base, f.pend.take (cutN k.wri f.pend.length)⟩ = C at *
  generalize cutN k.wri f.pend.length = cn at *
  obtain ⟨nm, base, ws⟩ := f
  obtain ⟨kn, kw, kt⟩ := k
  dsimp only at *
  generalize base.length = l0 at *
  generalize hpl : ws.length = pl at *
  have Hpl := Lib.hid hpl
  clear hpl
  generalize hKK : (fun k => keepOf (l.drop k) nm) = KK at *
  have HKK := Lib.hid (fun k => show keepOf (l.drop k) nm = KK k from congrFun hKK k)
  clear hKK
  have HKs2 := Lib.hid (show ∀ k, k < l.length → KK k = if ((kpW l k).name == nm) = true then kpW l k else KK (k + 1) from fun k h => by rw [← HKK.out, ← HKK.out]; exact HKs.out k h)
  have HKn2 := Lib.hid (show KK l.length = kp0 from (HKK.out _).symm.trans HKn.out)
  have HK02 := Lib.hid (show KK 0 = ⟨kn, kw, kt⟩ from (HKK.out _).symm.trans HK0.out)
  clear HKs HKn HK0 HKK
  generalize l.length = n at *
  have HB := Lib.hid (show Below w.heap.size w ((w.alloc (.cells #[.string (strB nm), .slice ba l0 bc, .slice pa pl pc] 73)).alloc (.cells #[.string ⟨#[]⟩, .int .i64 0, .int .i64 0] 113)) from ((Below.refl _ _).alloc (Nat.le_refl _) _).alloc (by simp) _)
  have X := Lib.hid (show BoxF ((w.alloc (.cells #[.string (strB nm), .slice ba l0 bc, .slice pa pl pc] 73)).alloc (.cells #[.string ⟨#[]⟩, .int .i64 0, .int .i64 0] 113)) w.heap.size (strB nm) (.slice ba l0 bc) (.slice pa pl pc) from ⟨by simp, by simp, by simp, fun i => by simp⟩)
  have K := Lib.hid (show BoxK ((w.alloc (.cells #[.string (strB nm), .slice ba l0 bc, .slice pa pl pc] 73)).alloc (.cells #[.string ⟨#[]⟩, .int .i64 0, .int .i64 0] 113)) (w.heap.size + 1) ⟨#[]⟩ 0 0 from ⟨by simp, by simp, by simp⟩)
  have KF := Lib.hid (show ∀ i, ((w.alloc (.cells #[.string (strB nm), .slice ba l0 bc, .slice pa pl pc] 73)).alloc (.cells #[.string ⟨#[]⟩, .int .i64 0, .int .i64 0] 113)).frozen? ⟨w.heap.size + 1, i, none⟩ = false from fun i => by simp)
  have hs0 : w.heap.size + 2 ≤ ((w.alloc (.cells #[.string (strB nm), .slice ba l0 bc, .slice pa pl pc] 73)).alloc (.cells #[.string ⟨#[]⟩, .int .i64 0, .int .i64 0] 113)).heap.size := by simp
  dsimp only [filVal]
  generalize strB nm = sv at *
  go_enter Tryd.func96, Tryd.ntmps96
  go_upto_region 2 with fail
  generalize (w.alloc (.cells #[.string sv, .slice ba l0 bc, .slice pa pl pc] 73)).alloc (.cells #[.string ⟨#[]⟩, .int .i64 0, .int .i64 0] 113) = W0 at *
  go_upto_region 3 with fail
  go_loopw [6] (fun iv W => ∃ j : Nat, j ≤ n ∧ iv = .int .i64 ((j : Int) - 1) ∧ Hid (Below w.heap.size w W) ∧ Hid (BoxF W w.heap.size sv (.slice ba l0 bc) (.slice pa pl pc)) ∧ Hid (BoxK W (w.heap.size + 1) (strB (KK j).name) (KK j).wri (KK j).torn) ∧ Hid (∀ i, W.frozen? ⟨w.heap.size + 1, i, none⟩ = false)) (fun iv _ => (intOf iv + 1).toNat)
  case atStart => exact ⟨n, Nat.le_refl _, by first | rfl | go_num, HB, X, Lib.hid (by rw [HKn2.out]; exact K.out), KF⟩
  case round =>
    obtain ⟨j, hj, rfl, HB, X, K, KF⟩ := hrel
    clear hs0
    have hs0 : w.heap.size + 2 ≤ wr.heap.size := by have := World.block_lt_of_cell? wr _ K.out.c0; dsimp only at this; omega
    rcases j with _ | j
    · rw [show (((0 : Nat) : Int) - 1) = -1 from rfl]
      rw [HK02.out] at K
      dsimp only at K
      have x2 := X.out.c2
      have k1 := K.out.c1
      have hci := HCi.out
      have hgs := Hgs.out
      go_upto_region 8 with fail
      clear x2 k1
      refine wp_region_rel [eqS (.pointer (some ⟨w.heap.size, 1, none⟩)), eqS (.slice ba l0 bc), eqS (.pointer (some ⟨w.heap.size, 2, none⟩)), eqS (.slice pa pl pc), eqS (.int .i64 (cn : Int)), eqS (.slice pq cn pc), eqS (.agg #[.string ⟨#[]⟩, .slice ba l0 bc, .slice pq cn pc])] [] 83 (by kernel_rfl) (by kernel_rfl) (by rfl) (by kernel_rfl) (fun f => by simp [frm, dstOf, Act.put]; exact rfl) ?_ ?_
      · refine ⟨?_, ?_, ?_, ?_, ?_, ?_, ?_, trivial⟩
        · intro f w1 hb hd
          clear hd
          dsimp only
          go_wp2_with fail
          exact ⟨rfl, Below.refl _ _, fun t ht => by injection ht with ht; subst ht; exact ⟨rfl, fun h => by simp at h⟩⟩
        · intro f w1 hb hd
          have d0 : f 0 = .pointer (some ⟨w.heap.size, 1, none⟩) := hd 0 (by kernel_rfl)
          clear hd
          dsimp only
          rw [d0]
          have y := (X.out.below hb).c1
          go_wp2_with fail
          exact ⟨rfl, Below.refl _ _, fun t ht => by injection ht with ht; subst ht; exact ⟨rfl, fun h => by simp at h⟩⟩
        · intro f w1 hb hd
          clear hd
          dsimp only
          go_wp2_with fail
          exact ⟨rfl, Below.refl _ _, fun t ht => by injection ht with ht; subst ht; exact ⟨rfl, fun h => by simp at h⟩⟩
        · intro f w1 hb hd
          have d2 : f 2 = .pointer (some ⟨w.heap.size, 2, none⟩) := hd 2 (by kernel_rfl)
          clear hd
          dsimp only
          rw [d2]
          have y := (X.out.below hb).c2
          go_wp2_with fail
          exact ⟨rfl, Below.refl _ _, fun t ht => by injection ht with ht; subst ht; exact ⟨rfl, fun h => by simp at h⟩⟩
        · intro f w1 hb hd
          clear hd
          dsimp only
          go_wp2_with fail
          exact ⟨rfl, Below.refl _ _, fun t ht => by injection ht with ht; subst ht; exact ⟨rfl, fun h => by simp at h⟩⟩
        · intro f w1 hb hd
          have d3 : f 3 = .slice pa pl pc := hd 3 (by kernel_rfl)
          have d4 : f 4 = .int .i64 (cn : Int) := hd 4 (by kernel_rfl)
          clear hd
          dsimp only
          rw [d3]
          rw [d4]
          go_wp2_with fail
          exact ⟨rfl, Below.refl _ _, fun t ht => by injection ht with ht; subst ht; exact ⟨rfl, fun h => by simp at h⟩⟩
        · intro f w1 hb hd
          have d1 : f 1 = .slice ba l0 bc := hd 1 (by kernel_rfl)
          have d5 : f 5 = .slice pq cn pc := hd 5 (by kernel_rfl)
          clear hd
          dsimp only
          rw [d1]
          rw [d5]
          go_wp2_with fail
          exact ⟨rfl, Below.refl _ _, fun t ht => by injection ht with ht; subst ht; exact ⟨rfl, fun h => by simp at h⟩⟩
      · intro f w1 hb hA _
        have d0 : f 0 = .pointer (some ⟨w.heap.size, 1, none⟩) := hA 0 (show 0 < 7 by decide)
        have d1 : f 1 = .slice ba l0 bc := hA 1 (show 1 < 7 by decide)
        have d2 : f 2 = .pointer (some ⟨w.heap.size, 2, none⟩) := hA 2 (show 2 < 7 by decide)
        have d3 : f 3 = .slice pa pl pc := hA 3 (show 3 < 7 by decide)
        have d4 : f 4 = .int .i64 (cn : Int) := hA 4 (show 4 < 7 by decide)
        have d5 : f 5 = .slice pq cn pc := hA 5 (show 5 < 7 by decide)
        have d6 : f 6 = .agg #[.string ⟨#[]⟩, .slice ba l0 bc, .slice pq cn pc] := hA 6 (show 6 < 7 by decide)
        clear hA
        try dsimp only at *
        rw [d0]
        rw [d1]
        rw [d2]
        rw [d3]
        rw [d4]
        rw [d5]
        rw [d6]
        clear d0 d1 d2 d3 d4 d5 d6
        have X1 := Lib.hid (X.out.below hb)
        have K1 := Lib.hid (K.out.below hb)
        have HB1 := Lib.hid (bstep HB.out hb)
        have hs1 := Nat.le_trans hs0 hb.size
        clear hb X K HB hs0
        go_wp2_with fail
        refine (HCt.out _ HB1.out).mono ?_
        rintro e w2 ⟨v2, rfl, ho, hb2'⟩
        have X2 := Lib.hid (X1.out.below hb2')
        have K2 := Lib.hid (K1.out.below hb2')
        have HB2 := Lib.hid (bstep HB1.out hb2')
        have HO2 := Lib.hid (show OwnU w2 w.heap.size v2 C from ho.lower HB1.out.size)
        have hs2 := Nat.le_trans hs1 hb2'.size
        clear ho hb2' X1 K1 HB1 hs1 HCt
        have hbk := fun g hg => World.ownsRow.lt HO2.out g hg
        obtain ⟨va, vc, e2, _⟩ := HO2.out.rd.shape0
        subst e2
        have Hcl := Lib.hid hcl
        generalize hCl : C.length = cl at *
        have HCl := Lib.hid hCl
        clear hCl
        have x2 := X2.out.c2
        by_cases hc : cn = pl
        · have HR := Lib.hid (HLe.out hc)
          subst hc
          go_wp2_with fail
          go_ret
          exact ⟨_, rfl, by rw [HR.out]; exact HO2.out, HB2.out⟩
        · have hlt : cn < pl := by omega
          have i1 : ¬ (cn : Int) = (pl : Int) := by omega
          have HR := Lib.hid (HLi.out hlt)
          obtain ⟨q1, q2, q3, _⟩ := Hway.out hlt
          obtain ⟨b, off, dv, rfl, hd, c0, c1, c2⟩ := HP.out.at hlt
          obtain ⟨da, dc, rfl, hd1, hd2, _⟩ := hd.shape0
          obtain ⟨dq, hgd, hdq⟩ := slice_by hd (cutN kt (watW ws cn).data.length) (cutN_le _ _)
          have hcm := cutN_le kt (watW ws cn).data.length
          have hcmi := cutN_int kt (watW ws cn).data.length
          replace c0 := Below.keeps HB2.out _ _ c0
          replace c1 := Below.keeps HB2.out _ _ c1
          replace c2 := Below.keeps HB2.out _ _ c2
          clear HLi HLe Hway hd hgs
          generalize watW ws cn = x at *
          obtain ⟨xo, xd, xc⟩ := x
          dsimp only at *
          generalize cutN kt xd.length = cm at *
          have Hdq := Lib.hid hdq
          have Hxl := Lib.hid (show (xd.take cm).length = cm by rw [List.length_take]; omega)
          clear hdq
          generalize xd.length = dl at *
          cases xc
          · obtain ⟨o, rfl⟩ := Int.eq_ofNat_of_zero_le q1
            have hba := (Below.refl w2.heap.size w2).alloc (Nat.le_refl _) (.cells #[.int .i64 (o : Int), .slice da dl dc, .bool false] 94)
            have K3 := Lib.hid (K2.out.below hba)
            have HB3 := Lib.hid (bstep HB2.out hba)
            have HO3 := Lib.hid (HO2.out.keep hba)
            have Y := Lib.hid (show BoxW (w2.alloc (.cells #[.int .i64 (o : Int), .slice da dl dc, .bool false] 94)) w2.heap.size (o : Int) (.slice da dl dc) false ∧ ∀ i, (w2.alloc (.cells #[.int .i64 (o : Int), .slice da dl dc, .bool false] 94)).frozen? ⟨w2.heap.size, i, none⟩ = false from ⟨⟨by simp, by simp, by simp⟩, fun i => by simp⟩)
            have hbne : (Value.slice va cl vc).ownBlock ≠ some w2.heap.size := fun e => by have := (hbk _ e).2; omega
            clear hba hbk
            go_upto_region 12 with fail
            generalize w2.alloc (.cells #[.int .i64 (o : Int), .slice da dl dc, .bool false] 94) = w3 at *
            generalize w2.heap.size = bq at *
            have y1 := Y.out.1.c1
            have yf := Y.out.2
            have k2 := K3.out.c2
            clear c0 c1 c2 x2
            have hbq : w.heap.size ≤ bq := by omega
            have HB4 := Lib.hid (HB3.out.setCell (p := ⟨bq, 1, none⟩) hbq (.slice dq cm dc))
            have HO4 := Lib.hid (show OwnU (w3.setCell ⟨bq, 1, none⟩ (.slice dq cm dc)) w.heap.size _ C from own_set_ne (p := ⟨bq, 1, none⟩) HO3.out hbne (.slice dq cm dc))
            have Y4 := Lib.hid (show BoxW (w3.setCell ⟨bq, 1, none⟩ (.slice dq cm dc)) bq (o : Int) (.slice dq cm dc) false from ⟨cell_set_off Y.out.1.c0 (by decide) _, cell_set_same y1 _, cell_set_off Y.out.1.c2 (by decide) _⟩)
            go_upto_region 13 with fail
            clear y1 yf k2 K3
            generalize w3.setCell ⟨bq, 1, none⟩ (.slice dq cm dc) = w4 at *
            have y0 := Y4.out.c0
            have y1 := Y4.out.c1
            have y2 := Y4.out.c2
            by_cases hz : cm = 0
            · have HR2 := Lib.hid (show RS = C by rw [HR.out, if_neg (by simp), if_pos (by rw [hz, List.take_zero])])
              subst hz
              go_wp2_with fail
              go_ret
              exact ⟨_, rfl, by rw [HR2.out]; exact HO4.out, HB4.out⟩
            · have i2 : (0 : Int) < (cm : Int) := by omega
              have HR2 := Lib.hid (show RS = appl ⟨(o : Int), xd.take cm, false⟩ C by
                rw [HR.out, if_neg (by simp), if_neg (fun e => hz (by rw [← Hxl.out, e]; rfl))])
              have hB4 : w.heap.size ≤ w4.heap.size := HB4.out.size
              have HAp := Lib.hid (rapplied_any o (xd.take cm) C false (.slice dq cm dc) _ w4 HO4.out.rd (Hdq.out.below HB4.out) (by omega) (by rw [Hxl.out]; omega) (by rw [HCl.out]; omega))
              go_wp2_with fail
              refine HAp.out.mono ?_
              rintro e w5 ⟨v5, rfl, ho5, hb5⟩
              have HO5 := Lib.hid (ho5.lower hB4)
              have HB5 := Lib.hid (bstep HB4.out hb5)
              clear ho5 hb5
              go_wp2_with fail
              go_ret
              exact ⟨_, rfl, by rw [HR2.out]; exact HO5.out, HB5.out⟩
          · have HR2 := Lib.hid (show RS = C by rw [HR.out, if_pos rfl])
            go_wp2_with fail
            go_ret
            exact ⟨_, rfl, by rw [HR2.out]; exact HO2.out, HB2.out⟩
    · rw [show (((j + 1 : Nat) : Int) - 1) = (j : Int) by omega]
      have i1 : (j : Int) < (n : Int) := by omega
      obtain ⟨b, off, rfl, c0, c1, c2⟩ := (HKr.out.below HB.out).at (show j < n by omega)
      have HK1 := Lib.hid (HKs2.out j (by omega))
      have x0 := X.out.c0
      have hsm := HSm.out j
      have hq : ((kpW l j).name == nm) = true ∨ ((kpW l j).name == nm) = false := by cases (kpW l j).name == nm <;> simp
      go_upto_region 5 with fail
      have e0 := cell_by c0
      have e1 := cell_by x0
      clear c0 c1 c2 x0
      refine wp_region_below (by kernel_rfl) (by kernel_rfl) ?_
      repeat (go_big_quiet_step (fail))
      refine wpQuiet_nil ?_
      intro _ hw'
      obtain ⟨u, hw'⟩ := hw'
      subst hw'
      have HBx := Lib.hid (bstep HB.out u.h)
      have Xx := Lib.hid (X.out.below u.h)
      have Kx := Lib.hid (K.out.below u.h)
      have KFx := Lib.hid (fun i => (u.h.frozen (p := ⟨w.heap.size + 1, i, none⟩) (show w.heap.size + 1 < wr.heap.size by omega)).trans (KF.out i))
      generalize u.w' = w8 at *
      clear e0 e1 u HB X K KF
      have HB := Lib.hid HBx.out
      have X := Lib.hid Xx.out
      have K := Lib.hid Kx.out
      have KF := Lib.hid KFx.out
      clear HBx Xx Kx KFx
      obtain ⟨b', off', e, c0, c1, c2⟩ := (HKr.out.below HB.out).at (show j < n by omega)
      injection e with e
      injection e with e1 e2
      subst e1 e2
      have k0 := K.out.c0
      have k1 := K.out.c1
      have k2 := K.out.c2
      have kf := KF.out
      rcases hq with hq | hq
      · rw [hq, if_pos rfl] at HK1
        rw [hq] at hsm
        have HBn := Lib.hid (HB.out.all3 (b := w.heap.size + 1) (by omega) (.string (strB (kpW l j).name)) (.int .i64 (kpW l j).wri) (.int .i64 (kpW l j).torn))
        have Xn := Lib.hid (((X.out.set_ne (p := ⟨w.heap.size + 1, 0, none⟩) (by dsimp only; omega) (.string (strB (kpW l j).name))).set_ne (p := ⟨w.heap.size + 1, 1, none⟩) (by dsimp only; omega) (.int .i64 (kpW l j).wri)).set_ne (p := ⟨w.heap.size + 1, 2, none⟩) (by dsimp only; omega) (.int .i64 (kpW l j).torn))
        have Kn := Lib.hid (K.out.set3 (nm' := strB (kpW l j).name) (a' := (kpW l j).wri) (c' := (kpW l j).torn))
        have KFn := Lib.hid (show ∀ i, (((w8.setCell ⟨w.heap.size + 1, 0, none⟩ (.string (strB (kpW l j).name))).setCell ⟨w.heap.size + 1, 1, none⟩ (.int .i64 (kpW l j).wri)).setCell ⟨w.heap.size + 1, 2, none⟩ (.int .i64 (kpW l j).torn)).frozen? ⟨w.heap.size + 1, i, none⟩ = false from fun i => by simp [kf])
        rw [hq]
        clear HKs2 HKn2 HK02 hsm hq
        go_wp2_with fail
        exact ⟨⟨j, by omega, by first | rfl | go_num, HBn, Xn, Lib.hid (by rw [HK1.out]; exact Kn.out), KFn⟩, by simp [intOf] <;> omega⟩
      · rw [hq, if_neg (by simp)] at HK1
        rw [hq] at hsm
        rw [← HK1.out] at K
        rw [hq]
        clear HKs2 HKn2 HK02 hsm hq
        go_wp2_with fail
        exact ⟨⟨j, by omega, by first | rfl | go_num, HB, X, K, KF⟩, by simp [intOf] <;> omega⟩
end Go.Proofs.YtkabcpmnbjllcaaDoor

namespace Go.Proofs.YtkabcpmnbjllcaaDoor
open Go.RowKit

/-- What Crash of the reference hands back. -/
def RefDk (w : World) (xs : List FX) (x : Dk) (e : Ending) (w' : World) : Prop := (∃ fv xs', e = .returned (diskVal x.cap x.left fv) ∧ filX xs' = x.files ∧ RowR w xs w' fv xs') ∧ Below w.heap.size w w'
/-- The row while Crash goes over the files: each new file's bytes are the call's own. -/
structure CrR (B : Nat) (W : World) (v : Value) (ys : List FX) : Prop where
  row : W.ownsRow B 73 3 v ys.length ((feX ys).flatMap filC)
  new : ∀ q ∈ ys, OwnU W B q.1.2.1 q.1.1.base ∧ q.1.2.2 = nilS ∧ q.1.1.pend = [] ∧ q.2 = []
theorem CrR.nil (B : Nat) (W : World) : CrR B W (.slice none 0 0) [] := ⟨World.ownsRow_nil W B 73 3, fun _ h => by cases h⟩
theorem CrR.below {B : Nat} {W W' : World} {v : Value} {ys : List FX} (h : CrR B W v ys) (hb : Below W.heap.size W W') : CrR B W' v ys := ⟨own_keep h.row hb, fun q hq => ⟨(h.new q hq).1.keep hb, (h.new q hq).2⟩⟩
theorem CrR.set {B b : Nat} {W : World} {v : Value} {ys : List FX} (h : CrR B W v ys) (hb : b < B) (i : Nat) (u : Value) : CrR B (W.setCell ⟨b, i, none⟩ u) v ys := ⟨own_set_ne (p := ⟨b, i, none⟩) h.row (own_above h.row hb) u, fun q hq => ⟨(h.new q hq).1.set_ne (p := ⟨b, i, none⟩) hb u, (h.new q hq).2⟩⟩
theorem OwnU.rowed {W W' : World} {B B' n : Nat} {v dv : Value} {b : List UInt8} {xs : List Value} (h : OwnU W B' dv b) (hr : W.ownsRow B 73 3 v n xs) (hg : W.grownBy W' v.ownBlock) : OwnU W' B' dv b :=
  World.ownsRow.kept h hg (own_ne h hr (by decide))
theorem CrR.grown {B : Nat} {W W' : World} {v v' : Value} {ys : List FX} (h : CrR B W v ys) (hg : W.grownBy W' v.ownBlock) (nm C : List UInt8) (dv : Value) (hd : OwnU W B dv C) (hr : W'.ownsRow B 73 3 v' (ys.length + 1) ((feX ys).flatMap filC ++ [.string (strB nm), dv, nilS])) : CrR B W' v' (ys ++ [((⟨nm, C, []⟩, dv, nilS), [])]) := by
  refine ⟨?_, fun q hq => ?_⟩
  · rw [List.length_append, show feX (ys ++ [((⟨nm, C, []⟩, dv, nilS), [])]) = feX ys ++ [(⟨nm, C, []⟩, dv, nilS)] by unfold feX; rw [List.map_append]; rfl, List.flatMap_append]
    exact hr
  · rcases List.mem_append.1 hq with hq | hq
    · exact ⟨(h.new q hq).1.rowed h.row hg, (h.new q hq).2⟩
    · rw [List.mem_singleton.1 hq]
      exact ⟨hd.rowed h.row hg, rfl, rfl, rfl⟩
theorem CrR.done {w W : World} {B : Nat} {v : Value} {xs ys : List FX} (h : CrR B W v ys) (hB : w.heap.size ≤ B) : RowB w xs W B v ys :=
  ⟨by rw [feX_len]; exact h.row, hB, fun W' hk _ q hq => by
    obtain ⟨h1, h2, h3, h4⟩ := h.new q hq
    refine ⟨own_rdl (hk.own h1 (Nat.le_refl _)), ?_, ?_⟩
    · rw [h2, h4]; exact RdWE.nilX _
    · rw [h3, h4]; rfl⟩
/-- A file of one row. -/
def fsS (B : Nat) (s : Value) (b : List UInt8) : Sta := ⟨fun v w => ∃ dv, Rd w 3 v 1 [s, dv, nilS] ∧ OwnU w B dv b, fun _ _ _ hb ⟨dv, h, h'⟩ => ⟨dv, h.below hb, h'.keep hb⟩⟩
theorem crash_yes {d : Dk} {l : List Kp} (h : validD d = true) : crashD d l = ⟨d.cap, -1, d.files.map fun f => ⟨f.name, leftF f (keepOf l f.name), []⟩⟩ := by unfold crashD; rw [if_pos h]
theorem crash_no {d : Dk} {l : List Kp} (h : validD d = false) : crashD d l = dk0 := by unfold crashD; rw [if_neg (by simp [h])]
theorem map_take_next {α β : Type} (f : α → β) (l : List α) (k : Nat) (d : α) (h : k < l.length) : (l.take (k + 1)).map f = (l.take k).map f ++ [f (l.getD k d)] := by
  rw [take_nextE l k d h, List.map_append]; rfl
set_option maxRecDepth 100000 in
set_option maxHeartbeats 6400000 in
theorem rcrash_any (d : Dk) (l : List Kp) (fv kv : Value) (xs : List FX) (w : World) (hr : RdS 3 filC w fv (feX xs)) (hx : PartsX w xs) (hes : filX xs = d.files) (hL : LiteD d) (hk : RdK w kv l) (hl : l.length ≤ 1000000) :
    Calls Tryd.prog 74 #[diskVal d.cap d.left fv, kv] w (RefDk w xs (crashD d l)) := by
  have h := rdFE_x hr hx
  have hF : RdF w fv d.files := ⟨feX xs, by rw [feX_fst, hes], h⟩
  obtain ⟨a, cap, rfl, h1, h2, _⟩ := hF.shape
  have HV := Lib.hid (fun W (hW : Below w.heap.size w W) => rvalid_any d.cap d.left _ d.files W (hF.below hW) hL.fs)
  have HK := Lib.hid (fun (hv : VldD d) k (hk9 : k < d.files.length) W u p (hW : Below w.heap.size w W) (hu : RdB W u (atN d.files k).base) (hp : RdW W p (atN d.files k).pend) => rkept_any (atN d.files k) l u p _ W hu hp (hk.below hW) (hL.fil _ (atN_mem hk9)) (sized_of_vld hv hk9) hl)
  have HR := Lib.hid hF
  have E1 := Lib.hid (fun e => crash_no (d := d) (l := l) e)
  have E0 := Lib.hid (fun e => crash_yes (d := d) (l := l) e)
  have HVd := Lib.hid (fun e => (validD_iff d).1 e)
  have HMp := Lib.hid (fun k (h : k < d.files.length) => map_take_next (fun f : Fil => (⟨f.name, leftF f (keepOf l f.name), []⟩ : Fil)) d.files k fil0 h)
  have HMe := Lib.hid (show (d.files.take d.files.length).map (fun f : Fil => (⟨f.name, leftF f (keepOf l f.name), []⟩ : Fil)) = d.files.map (fun f : Fil => ⟨f.name, leftF f (keepOf l f.name), []⟩) by rw [List.take_length])
  have Hlen := Lib.hid hL.len
  obtain ⟨ka, kc, rfl, _, _, _⟩ := hk.shape
  clear h hF hr hx hL hk hl hes
  dsimp only [filVal, diskVal] at *
  generalize crashD d l = RS at *
  generalize hMM : (fun f : Fil => (⟨f.name, leftF f (keepOf l f.name), []⟩ : Fil)) = MM at *
  have HMM := Lib.hid (fun f => show MM f = ⟨f.name, leftF f (keepOf l f.name), []⟩ from (congrFun hMM f).symm)
  clear hMM
  have hqv : validD d = true ∨ validD d = false := by cases validD d <;> simp
  generalize hVV : validD d = vd at *
  clear hVV
  generalize l.length = ln at *
  obtain ⟨c, lf, fl⟩ := d
  dsimp only at *
  generalize hfn : fl.length = n at *
  have Hfn := Lib.hid hfn
  clear hfn
  have HB0 := Lib.hid (show Below w.heap.size w ((w.alloc (.cells #[.int .i64 c, .int .i64 lf, .slice a n cap] 24)).alloc (.cells #[.int .i64 0, .int .i64 0, .slice none 0 0] 24)) from ((Below.refl _ _).alloc (Nat.le_refl _) _).alloc (by simp) _)
  have X := Lib.hid (show BoxD ((w.alloc (.cells #[.int .i64 c, .int .i64 lf, .slice a n cap] 24)).alloc (.cells #[.int .i64 0, .int .i64 0, .slice none 0 0] 24)) w.heap.size c lf (.slice a n cap) from ⟨by simp, by simp, by simp, fun i => by simp⟩)
  have R := Lib.hid (show BoxD ((w.alloc (.cells #[.int .i64 c, .int .i64 lf, .slice a n cap] 24)).alloc (.cells #[.int .i64 0, .int .i64 0, .slice none 0 0] 24)) (w.heap.size + 1) 0 0 (.slice none 0 0) from ⟨by simp, by simp, by simp, fun i => by simp⟩)
  have hB0 : w.heap.size + 2 ≤ ((w.alloc (.cells #[.int .i64 c, .int .i64 lf, .slice a n cap] 24)).alloc (.cells #[.int .i64 0, .int .i64 0, .slice none 0 0] 24)).heap.size := by simp
  go_enter Tryd.func74, Tryd.ntmps74
  go_upto_region 1 with fail
  generalize (w.alloc (.cells #[.int .i64 c, .int .i64 lf, .slice a n cap] 24)).alloc (.cells #[.int .i64 0, .int .i64 0, .slice none 0 0] 24) = W0 at *
  have x0 := X.out.c0
  have x1 := X.out.c1
  have x2 := X.out.c2
  rcases hqv with hqv | hqv
  · subst hqv
    have hv := HVd.out rfl
    have HKv := Lib.hid (HK.out hv)
    have HE := Lib.hid (E0.out rfl)
    clear hv HK HVd E0 E1
    go_wp2_with fail
    refine (HV.out W0 HB0.out).mono ?_
    rintro e w1 ⟨rfl, hb1⟩
    replace X := Lib.hid (X.out.below hb1)
    replace R := Lib.hid (R.out.below hb1)
    have HB1 := Lib.hid (bstep HB0.out hb1)
    have hB1 := Nat.le_trans hB0 hb1.size
    clear HB0 hB0 hb1 x0 x1 x2
    have x0 := X.out.c0
    have x1 := X.out.c1
    have x2 := X.out.c2
    have hA := (Below.refl w1.heap.size w1).alloc (Nat.le_refl _) (.cells #[.int .i64 c, .int .i64 (-1), .slice none 0 0] 24)
    have X2 := Lib.hid (X.out.below hA)
    have R2 := Lib.hid (R.out.below hA)
    have O2 := Lib.hid (BoxD.new w1 c (-1) (.slice none 0 0) 24)
    have HB2 := Lib.hid (bstep HB1.out hA)
    have hs2 : w1.heap.size + 1 = (w1.alloc (.cells #[.int .i64 c, .int .i64 (-1), .slice none 0 0] 24)).heap.size := by simp
    clear hA HV
    go_upto_region 4 with fail
    clear x0 x1 x2 X R HB1
    generalize w1.alloc (.cells #[.int .i64 c, .int .i64 (-1), .slice none 0 0] 24) = w2 at *
    generalize w1.heap.size = OB at *
    go_wp2_with fail
    go_loopw [6] (fun iv W => ∃ k : Nat, k ≤ n ∧ iv = .int .i64 (k : Int) ∧ ∃ v ys, Hid (BoxD W w.heap.size c lf (.slice a n cap) ∧ BoxD W (w.heap.size + 1) 0 0 (.slice none 0 0) ∧ BoxD W OB c (-1) v) ∧ Hid (Below w.heap.size w W) ∧ Hid (w2.heap.size ≤ W.heap.size) ∧ Hid (CrR w2.heap.size W v ys) ∧ Hid (filX ys = (fl.take k).map MM)) (fun iv _ => n - (intOf iv).toNat)
    case atStart => exact ⟨0, Nat.zero_le _, rfl, _, [], Lib.hid ⟨X2.out, R2.out, O2.out⟩, HB2, Lib.hid (Nat.le_refl _), Lib.hid (CrR.nil _ _), Lib.hid rfl⟩
    case round =>
      obtain ⟨k, hk, rfl, v, ys, HX, HB, HS, HC, HY⟩ := hrel
      clear X2 R2 O2 HB2
      obtain ⟨X, R, O⟩ : Hid (BoxD wr w.heap.size c lf (.slice a n cap)) ∧ Hid (BoxD wr (w.heap.size + 1) 0 0 (.slice none 0 0)) ∧ Hid (BoxD wr OB c (-1) v) := ⟨Lib.hid HX.out.1, Lib.hid HX.out.2.1, Lib.hid HX.out.2.2⟩
      clear HX
      have x2 := X.out.c2
      have hss := HS.out
      have hyk : ys.length = k := by
        have h := congrArg List.length HY.out
        unfold filX at h
        rw [List.length_map, List.length_map, List.length_take] at h
        have hn9 := Hfn.out
        omega
      have hro := HC.out.row
      obtain ⟨ya, yc, hyv, _⟩ := own_form hro
      subst hyv
      by_cases hlt : k < n
      · have i1 : (k : Int) < (n : Int) := by omega
        obtain ⟨b, off, bv, pv, rfl, hbv, hpv, c0, c1, c2⟩ := (HR.out.below HB.out).at hlt
        have HKk := Lib.hid (HKv.out k hlt)
        have HMk := Lib.hid (HMp.out k hlt)
        change Hid ((fl.take (k + 1)).map MM = (fl.take k).map MM ++ [⟨(atN fl k).name, leftF (atN fl k) (keepOf l (atN fl k).name), []⟩]) at HMk
        have HBd := Lib.hid (And.intro hbv hpv)
        obtain ⟨ba, bc, rfl, _⟩ := hbv.shape0
        obtain ⟨pa, pc, rfl, _⟩ := hpv.shape
        clear hbv hpv
        generalize hC : leftF (atN fl k) (keepOf l (atN fl k).name) = C at *
        clear hC
        generalize hnm : strB (atN fl k).name = nm at *
        have Hnm := Lib.hid hnm
        clear hnm
        have HCl := Lib.hid (show ∀ W, Below wr.heap.size wr W → W.cell? ⟨b, off + k * 3, none⟩ = some (.string nm) ∧ W.cell? ⟨b, off + k * 3 + 1, none⟩ = some (.slice ba (atN fl k).base.length bc) ∧ W.cell? ⟨b, off + k * 3 + 2, none⟩ = some (.slice pa (atN fl k).pend.length pc) from fun W h => ⟨Below.keeps h _ _ c0, Below.keeps h _ _ c1, Below.keeps h _ _ c2⟩)
        generalize (atN fl k).base.length = bl at *
        generalize (atN fl k).pend.length = pl at *
        clear c0 c1 c2
        have Hyk := Lib.hid hyk
        clear hyk
        have Hro := Lib.hid hro
        clear hro
        generalize hyy : ys.length = yl at *
        have Hyy := Lib.hid hyy
        clear hyy
        go_upto_region 7 with fail
        clear x2
        refine wp_region_rel [eqS (.pointer (some ⟨OB, 2, none⟩)), eqS (.slice ya yl yc), eqS (.pointer (some ⟨w.heap.size, 2, none⟩)), eqS (.slice (some ⟨b, off, none⟩) n cap), eqS (.int .i64 (k : Int)), eqS (.pointer (some ⟨b, off + k * 3, none⟩)), eqS (.pointer (some ⟨b, off + k * 3, none⟩)), eqS (.string nm), eqS (.pointer (some ⟨w.heap.size, 2, none⟩)), eqS (.slice (some ⟨b, off, none⟩) n cap), eqS (.int .i64 (k : Int)), eqS (.pointer (some ⟨b, off + k * 3, none⟩)), eqS (.agg #[.string nm, .slice ba bl bc, .slice pa pl pc]), eqS (.slice ka ln kc), uS w2.heap.size C, agS w2.heap.size (.string nm) C, fsS w2.heap.size (.string nm) C] [] 41 (by kernel_rfl) (by kernel_rfl) (by rfl) (by kernel_rfl) (fun f => by simp [frm, dstOf, Act.put]; exact rfl) ?_ ?_
        · refine ⟨?_, ?_, ?_, ?_, ?_, ?_, ?_, ?_, ?_, ?_, ?_, ?_, ?_, ?_, ?_, ?_, ?_, trivial⟩
          · intro f w1 hb hd
            clear hd
            dsimp only
            go_wp2_with fail
            exact ⟨rfl, Below.refl _ _, fun t ht => by injection ht with ht; subst ht; exact ⟨rfl, fun h => by simp at h⟩⟩
          · intro f w1 hb hd
            have d0 : f 0 = .pointer (some ⟨OB, 2, none⟩) := hd 0 (by kernel_rfl)
            clear hd
            dsimp only
            rw [d0]
            have z2 := (O.out.below hb).c2
            go_wp2_with fail
            exact ⟨rfl, Below.refl _ _, fun t ht => by injection ht with ht; subst ht; exact ⟨rfl, fun h => by simp at h⟩⟩
          · intro f w1 hb hd
            clear hd
            dsimp only
            go_wp2_with fail
            exact ⟨rfl, Below.refl _ _, fun t ht => by injection ht with ht; subst ht; exact ⟨rfl, fun h => by simp at h⟩⟩
          · intro f w1 hb hd
            have d2 : f 2 = .pointer (some ⟨w.heap.size, 2, none⟩) := hd 2 (by kernel_rfl)
            clear hd
            dsimp only
            rw [d2]
            have z2 := (X.out.below hb).c2
            go_wp2_with fail
            exact ⟨rfl, Below.refl _ _, fun t ht => by injection ht with ht; subst ht; exact ⟨rfl, fun h => by simp at h⟩⟩
          · intro f w1 hb hd
            clear hd
            dsimp only
            go_wp2_with fail
            exact ⟨rfl, Below.refl _ _, fun t ht => by injection ht with ht; subst ht; exact ⟨rfl, fun h => by simp at h⟩⟩
          · intro f w1 hb hd
            have d3 : f 3 = .slice (some ⟨b, off, none⟩) n cap := hd 3 (by kernel_rfl)
            have d4 : f 4 = .int .i64 (k : Int) := hd 4 (by kernel_rfl)
            clear hd
            dsimp only
            rw [d3]
            rw [d4]
            go_wp2_with fail
            exact ⟨rfl, Below.refl _ _, fun t ht => by injection ht with ht; subst ht; exact ⟨rfl, fun h => by simp at h⟩⟩
          · intro f w1 hb hd
            have d5 : f 5 = .pointer (some ⟨b, off + k * 3, none⟩) := hd 5 (by kernel_rfl)
            clear hd
            dsimp only
            rw [d5]
            go_wp2_with fail
            exact ⟨rfl, Below.refl _ _, fun t ht => by injection ht with ht; subst ht; exact ⟨rfl, fun h => by simp at h⟩⟩
          · intro f w1 hb hd
            have d6 : f 6 = .pointer (some ⟨b, off + k * 3, none⟩) := hd 6 (by kernel_rfl)
            clear hd
            dsimp only
            rw [d6]
            obtain ⟨c0, c1, c2⟩ := HCl.out _ hb
            go_wp2_with fail
            exact ⟨rfl, Below.refl _ _, fun t ht => by injection ht with ht; subst ht; exact ⟨rfl, fun h => by simp at h⟩⟩
          · intro f w1 hb hd
            clear hd
            dsimp only
            go_wp2_with fail
            exact ⟨rfl, Below.refl _ _, fun t ht => by injection ht with ht; subst ht; exact ⟨rfl, fun h => by simp at h⟩⟩
          · intro f w1 hb hd
            have d8 : f 8 = .pointer (some ⟨w.heap.size, 2, none⟩) := hd 8 (by kernel_rfl)
            clear hd
            dsimp only
            rw [d8]
            have z2 := (X.out.below hb).c2
            go_wp2_with fail
            exact ⟨rfl, Below.refl _ _, fun t ht => by injection ht with ht; subst ht; exact ⟨rfl, fun h => by simp at h⟩⟩
          · intro f w1 hb hd
            clear hd
            dsimp only
            go_wp2_with fail
            exact ⟨rfl, Below.refl _ _, fun t ht => by injection ht with ht; subst ht; exact ⟨rfl, fun h => by simp at h⟩⟩
          · intro f w1 hb hd
            have d9 : f 9 = .slice (some ⟨b, off, none⟩) n cap := hd 9 (by kernel_rfl)
            have d10 : f 10 = .int .i64 (k : Int) := hd 10 (by kernel_rfl)
            clear hd
            dsimp only
            rw [d9]
            rw [d10]
            go_wp2_with fail
            exact ⟨rfl, Below.refl _ _, fun t ht => by injection ht with ht; subst ht; exact ⟨rfl, fun h => by simp at h⟩⟩
          · intro f w1 hb hd
            have d11 : f 11 = .pointer (some ⟨b, off + k * 3, none⟩) := hd 11 (by kernel_rfl)
            clear hd
            dsimp only
            rw [d11]
            obtain ⟨c0, c1, c2⟩ := HCl.out _ hb
            go_wp2_with fail
            exact ⟨rfl, Below.refl _ _, fun t ht => by injection ht with ht; subst ht; exact ⟨rfl, fun h => by simp at h⟩⟩
          · intro f w1 hb hd
            clear hd
            dsimp only
            go_wp2_with fail
            exact ⟨rfl, Below.refl _ _, fun t ht => by injection ht with ht; subst ht; exact ⟨rfl, fun h => by simp at h⟩⟩
          · intro f w1 hb hd
            have d12 : f 12 = .agg #[.string nm, .slice ba bl bc, .slice pa pl pc] := hd 12 (by kernel_rfl)
            have d13 : f 13 = .slice ka ln kc := hd 13 (by kernel_rfl)
            clear hd
            dsimp only
            rw [d12]
            rw [d13]
            go_wp2_with fail
            ((with_reducible refine (HKk.out w1 _ _ (bstep HB.out hb) (HBd.out.1.below hb) (HBd.out.2.below hb)).mono ?_); rintro e w2 ⟨v2, rfl, ho, hbe⟩)
            go_wp2_with fail
            exact ⟨rfl, hbe, fun t ht => by injection ht with ht; subst ht; exact ⟨ho.lower (Nat.le_trans hss hb.size), fun h => by simp at h⟩⟩
          · intro f w1 hb hd
            have d7 : f 7 = .string nm := hd 7 (by kernel_rfl)
            have d14 := hd 14 (by kernel_rfl)
            have d14 : OwnU w1 w2.heap.size (f 14) C := d14
            clear hd
            dsimp only
            rw [d7]
            obtain ⟨da, dc, e9, _⟩ := d14.form
            rw [e9] at d14 ⊢
            have D9 := Lib.hid d14
            clear d14 e9
            go_wp2_with fail
            exact ⟨rfl, Below.refl _ _, fun t ht => by injection ht with ht; subst ht; exact ⟨⟨_, rfl, D9.out⟩, fun h => by simp at h⟩⟩
          · intro f w1 hb hd
            have d15 := hd 15 (by kernel_rfl)
            obtain ⟨dv, e15, d15⟩ : ∃ dv, f 15 = .agg #[.string nm, dv, nilS] ∧ OwnU w1 w2.heap.size dv C := d15
            clear hd
            dsimp only
            obtain ⟨da, dc, e9, _⟩ := d15.form
            subst e9
            rw [e15]
            have D9 := Lib.hid d15
            have hA := (Below.refl w1.heap.size w1).alloc (Nat.le_refl _) (.cells #[.string nm, .slice da C.length dc, nilS] 73)
            have HA := Lib.hid hA
            clear hA d15 e15
            go_wp2_with fail
            exact ⟨rfl, HA.out, fun t ht => by injection ht with ht; subst ht; exact ⟨⟨_, Rd.newK w1.heap.size w1 rfl 3 [.string nm, .slice da C.length dc, nilS] 73 1 rfl (by decide), D9.out.keep HA.out⟩, fun h => by simp at h⟩⟩
        · intro f w1 hb hA _
          have d0 : f 0 = .pointer (some ⟨OB, 2, none⟩) := hA 0 (show 0 < 17 by decide)
          have d1 : f 1 = .slice ya yl yc := hA 1 (show 1 < 17 by decide)
          have d2 : f 2 = .pointer (some ⟨w.heap.size, 2, none⟩) := hA 2 (show 2 < 17 by decide)
          have d3 : f 3 = .slice (some ⟨b, off, none⟩) n cap := hA 3 (show 3 < 17 by decide)
          have d4 : f 4 = .int .i64 (k : Int) := hA 4 (show 4 < 17 by decide)
          have d5 : f 5 = .pointer (some ⟨b, off + k * 3, none⟩) := hA 5 (show 5 < 17 by decide)
          have d6 : f 6 = .pointer (some ⟨b, off + k * 3, none⟩) := hA 6 (show 6 < 17 by decide)
          have d7 : f 7 = .string nm := hA 7 (show 7 < 17 by decide)
          have d8 : f 8 = .pointer (some ⟨w.heap.size, 2, none⟩) := hA 8 (show 8 < 17 by decide)
          have d9 : f 9 = .slice (some ⟨b, off, none⟩) n cap := hA 9 (show 9 < 17 by decide)
          have d10 : f 10 = .int .i64 (k : Int) := hA 10 (show 10 < 17 by decide)
          have d11 : f 11 = .pointer (some ⟨b, off + k * 3, none⟩) := hA 11 (show 11 < 17 by decide)
          have d12 : f 12 = .agg #[.string nm, .slice ba bl bc, .slice pa pl pc] := hA 12 (show 12 < 17 by decide)
          have d13 : f 13 = .slice ka ln kc := hA 13 (show 13 < 17 by decide)
          have d14 := hA 14 (show 14 < 17 by decide)
          have d15 := hA 15 (show 15 < 17 by decide)
          have d16 := hA 16 (show 16 < 17 by decide)
          clear hA
          try dsimp only at *
          rw [d0]
          rw [d1]
          rw [d2]
          rw [d3]
          rw [d4]
          rw [d5]
          rw [d6]
          rw [d7]
          rw [d8]
          rw [d9]
          rw [d10]
          rw [d11]
          rw [d12]
          rw [d13]
          clear d0 d1 d2 d3 d4 d5 d6 d7 d8 d9 d10 d11 d12 d13
          obtain ⟨dv, hsrc, hou⟩ : ∃ dv, Rd w1 3 (f 16) 1 [.string nm, dv, nilS] ∧ OwnU w1 w2.heap.size dv C := d16
          clear d14 d15
          have hrow := own_keep Hro.out hb
          have hsz := Nat.le_trans hss hb.size
          obtain ⟨da, dc, e9, _⟩ := hou.form
          have hyl := Hyk.out
          have hn9 := Hlen.out
          refine wpList_app (m := 1) rfl (.tmp 22) (.tmp 37) 22 rfl elemFr w2.heap.size rfl hrow rfl hsrc (fun u hu => by simp at hu; rcases hu with rfl | rfl | rfl <;> first | rfl | (rw [e9]; rfl)) (by unfold maxLen; omega) (by omega) hsz ?_
          intro v5 w5 hown5 hgr5 _
          have hb5 := own_below (Below.refl w2.heap.size w1) hrow hsz hgr5
          have HC5 := Lib.hid (CrR.grown (ys := ys) (nm := (atN fl k).name) (C := C) (HC.out.below hb) hgr5 dv hou (by rw [Hnm.out, Hyy.out]; exact hown5))
          obtain ⟨va, vc, e5, _⟩ := own_form hown5
          subst e5
          have hX : X.out = X.out := rfl
          have X5 := Lib.hid ((X.out.below hb).of_block (hb5.block _ (by omega)))
          have R5 := Lib.hid ((R.out.below hb).of_block (hb5.block _ (by omega)))
          have O5 := Lib.hid ((O.out.below hb).of_block (hb5.block _ (by omega)))
          have HB5 := Lib.hid (own_below (bstep HB.out hb) (World.ownsRow.mono hrow (show w.heap.size ≤ w2.heap.size by omega)) (show w.heap.size ≤ w1.heap.size by omega) hgr5)
          have z2 := O5.out.c2
          have zf := O5.out.f
          have X6 := Lib.hid (X5.out.set_ne (p := ⟨OB, 2, none⟩) (by dsimp only; omega) (.slice va (yl + 1) vc))
          have R6 := Lib.hid (R5.out.set_ne (p := ⟨OB, 2, none⟩) (by dsimp only; omega) (.slice va (yl + 1) vc))
          have O6 := Lib.hid (O5.out.set2 (.slice va (yl + 1) vc))
          have HB6 := Lib.hid (HB5.out.setCell (p := ⟨OB, 2, none⟩) (show w.heap.size ≤ OB by omega) (.slice va (yl + 1) vc))
          have HC6 := Lib.hid (HC5.out.set (b := OB) (by omega) 2 (.slice va (yl + 1) vc))
          have HS6 := Lib.hid (show w2.heap.size ≤ (w5.setCell ⟨OB, 2, none⟩ (.slice va (yl + 1) vc)).heap.size from by simp; exact Nat.le_trans hsz hgr5.size)
          have HY6 := Lib.hid (show filX (ys ++ [((⟨(atN fl k).name, C, []⟩, dv, nilS), [])]) = (fl.take (k + 1)).map MM from by rw [HMk.out, ← HY.out]; unfold filX; rw [List.map_append]; rfl)
          clear hX hrow hsrc hou hown5 hgr5 hb5 hsz X5 R5 O5 HB5 HC5 X R O HB HC HY e9 hyl
          go_wp2_with fail
          exact ⟨⟨k + 1, by omega, by go_num, _, _, Lib.hid ⟨X6.out, R6.out, O6.out⟩, HB6, HS6, HC6, HY6⟩, by simp [intOf]; omega⟩
      · have i1 : ¬ (k : Int) < (n : Int) := by omega
        obtain rfl : k = n := by omega
        have HRb := Lib.hid (HC.out.done (w := w) (xs := xs) (by omega))
        have HYf := Lib.hid (HY.out.trans HMe.out)
        clear HC HY hro hyk
        generalize ys.length = yl at *
        have o0 := O.out.c0
        have o1 := O.out.c1
        have o2 := O.out.c2
        have r0 := R.out.c0
        have r1 := R.out.c1
        have r2 := R.out.c2
        have rf := R.out.f
        have HRz := Lib.hid (RowR.set3 (b := w.heap.size + 1) HRb.out (by omega) (.int .i64 c) (.int .i64 (-1)) (.slice ya yl yc))
        go_wp2_with fail
        exact bodyPost_ret (v := diskVal c (-1) (.slice ya yl yc)) (by simp [results, Tryd.results74, go_sem, r0, r1, r2]) rfl ⟨⟨_, _, by rw [HE.out]; first | done | rfl, by rw [HE.out]; exact HYf.out, HRz.out⟩, HB.out.all3 (by omega) _ _ _⟩
  · subst hqv
    have HE := Lib.hid (E1.out rfl)
    clear HK HVd E0 E1
    go_wp2_with fail
    refine (HV.out W0 HB0.out).mono ?_
    rintro e w1 ⟨rfl, hb1⟩
    replace X := Lib.hid (X.out.below hb1)
    replace R := Lib.hid (R.out.below hb1)
    have HB1 := Lib.hid (bstep HB0.out hb1)
    have hB1 := Nat.le_trans hB0 hb1.size
    clear HB0 hB0 hb1 x0 x1 x2
    have x0 := X.out.c0
    have x1 := X.out.c1
    have x2 := X.out.c2
    have r0 := R.out.c0
    have r1 := R.out.c1
    have r2 := R.out.c2
    have rf := R.out.f
    go_wp2_with fail
    exact bodyPost_ret (v := diskVal 0 0 nilS) (by simp [results, Tryd.results74, go_sem, r0, r1, r2]) rfl ⟨⟨_, [], by rw [HE.out]; first | done | rfl, by rw [HE.out]; rfl, RowR.nil _ _ _⟩, HB1.out.all3 (by omega) _ _ _⟩
end Go.Proofs.YtkabcpmnbjllcaaDoor

namespace Go.Proofs.YtkabcpmnbjllcaaDoor
open Go.RowKit

/-- Three cells of a block that may be written. -/
structure Box3 (W : World) (k : Nat) (u0 u1 u2 : Value) : Prop where
  c0 : W.cell? ⟨k, 0, none⟩ = some u0
  c1 : W.cell? ⟨k, 1, none⟩ = some u1
  c2 : W.cell? ⟨k, 2, none⟩ = some u2
  f : ∀ i, W.frozen? ⟨k, i, none⟩ = false
section
variable {W W' : World} {k : Nat} {u0 u1 u2 : Value}
theorem Box3.lt (h : Box3 W k u0 u1 u2) : k < W.heap.size := World.block_lt_of_cell? W _ h.c0
theorem Box3.below (h : Box3 W k u0 u1 u2) (hb : Below W.heap.size W W') : Box3 W' k u0 u1 u2 := ⟨Below.keeps hb _ _ h.c0, Below.keeps hb _ _ h.c1, Below.keeps hb _ _ h.c2, fun i => (hb.frozen (p := ⟨k, i, none⟩) h.lt).trans (h.f i)⟩
theorem Box3.new (W : World) (u0 u1 u2 : Value) (T : TypeId) : Box3 (W.alloc (.cells #[u0, u1, u2] T)) W.heap.size u0 u1 u2 := ⟨by simp, by simp, by simp, fun i => by simp⟩
theorem Box3.ne {p : Addr} (h : Box3 W k u0 u1 u2) (hne : k ≠ p.block) (u : Value) : Box3 (W.setCell p u) k u0 u1 u2 := ⟨cell_set_ne h.c0 hne u, cell_set_ne h.c1 hne u, cell_set_ne h.c2 hne u, fun i => by simp [h.f i]⟩
theorem Box3.ne3 (h : Box3 W k u0 u1 u2) {g : Nat} (hne : k ≠ g) (a b c : Value) : Box3 (((W.setCell ⟨g, 0, none⟩ a).setCell ⟨g, 1, none⟩ b).setCell ⟨g, 2, none⟩ c) k u0 u1 u2 := ((h.ne (p := ⟨g, 0, none⟩) hne a).ne (p := ⟨g, 1, none⟩) hne b).ne (p := ⟨g, 2, none⟩) hne c
theorem Box3.set (h : Box3 W k u0 u1 u2) (a b c : Value) : Box3 (((W.setCell ⟨k, 0, none⟩ a).setCell ⟨k, 1, none⟩ b).setCell ⟨k, 2, none⟩ c) k a b c :=
  ⟨cell_set_off (cell_set_off (cell_set_same h.c0 _) (by decide) _) (by decide) _, cell_set_off (cell_set_same (cell_set_off h.c1 (by decide) _) _) (by decide) _, cell_set_same (cell_set_off (cell_set_off h.c2 (by decide) _) (by decide) _) _, fun i => by simp [h.f i]⟩
end
/-- What is done of a region that reads two rows, lays two boxes (10, 11) and stores the one (12). -/
structure TwS (T : TypeId) (z0 z1 z2 x0 x1 x2 : Value) (B0 : Nat) (w6 : World) (ps : List (Nat × Value)) (L : Nat → Bool) (f : Nat → Value) (W : World) : Prop where
  pur : PurR ps L f
  hb : Below B0 w6 W
  sz : B0 ≤ W.heap.size
  a : L 10 = true → ∃ k, f 10 = .pointer (some ⟨k, 0, none⟩) ∧ B0 ≤ k ∧ (L 12 = false → Box3 W k z0 z1 z2) ∧ (L 12 = true → Box3 W k x0 x1 x2) ∧ (L 11 = true → f 11 ≠ .pointer (some ⟨k, 0, none⟩))
  b : L 11 = true → ∃ k, f 11 = .pointer (some ⟨k, 0, none⟩) ∧ B0 ≤ k ∧ Box3 W k z0 z1 z2
  c : L 12 = true → L 10 = true
section
variable {T : TypeId} {z0 z1 z2 x0 x1 x2 : Value} {B0 : Nat} {w6 W : World} {ps : List (Nat × Value)} {L : Nat → Bool} {f : Nat → Value}
theorem TwS.start (hs : B0 = w6.heap.size) (f : Nat → Value) : TwS T z0 z1 z2 x0 x1 x2 B0 w6 ps (fun _ => false) f w6.drew := by
  subst hs
  exact ⟨(fun _ _ h => by cases h), below_drew (Below.refl _ _), Nat.le_refl _, (fun h => by cases h), (fun h => by cases h), fun h => by cases h⟩
theorem TwS.pure (h : TwS T z0 z1 z2 x0 x1 x2 B0 w6 ps L f W) {i : Nat} {v : Value} (ha : 10 ≠ i) (hb : 11 ≠ i) (hc : 12 ≠ i) (hp : ∀ q ∈ ps, q.1 = i → v = q.2) : TwS T z0 z1 z2 x0 x1 x2 B0 w6 ps (onL L i) (updF f i v) W := by
  refine ⟨h.pur.one hp, h.hb, h.sz, ?_, ?_, ?_⟩
  · rw [onR_ne ha, onR_ne hb, onR_ne hc, upR_ne ha, upR_ne hb]; exact h.a
  · rw [onR_ne hb, upR_ne hb]; exact h.b
  · rw [onR_ne hc, onR_ne ha]; exact h.c
theorem TwS.store (h : TwS T z0 z1 z2 x0 x1 x2 B0 w6 ps L f W) (h10 : L 10 = true) (h12 : L 12 = false) (hp : ∀ q ∈ ps, q.1 ≠ 12) : ∃ k, f 10 = .pointer (some ⟨k, 0, none⟩) ∧ Box3 W k z0 z1 z2 ∧ ∀ v, TwS T z0 z1 z2 x0 x1 x2 B0 w6 ps (onL L 12) (updF f 12 v) (((W.setCell ⟨k, 0, none⟩ x0).setCell ⟨k, 1, none⟩ x1).setCell ⟨k, 2, none⟩ x2) := by
  obtain ⟨k, e1, e2, hz, _, hne⟩ := h.a h10
  have hz := hz h12
  refine ⟨k, e1, hz, fun v => ⟨h.pur.one fun q hq e => absurd e (hp q hq), ((h.hb.setCell (p := ⟨k, 0, none⟩) e2 x0).setCell (p := ⟨k, 1, none⟩) e2 x1).setCell (p := ⟨k, 2, none⟩) e2 x2, by have := h.sz; simpa using this, fun _ => ⟨k, ?_, e2, fun e => ?_, fun _ => hz.set x0 x1 x2, fun e => ?_⟩, fun e => ?_, fun _ => ?_⟩⟩
  · rw [upR_ne (by decide)]; exact e1
  · rw [onR_eq] at e; cases e
  · rw [onR_ne (by decide)] at e
    rw [upR_ne (by decide)]
    exact hne e
  · rw [onR_ne (by decide)] at e
    rw [upR_ne (by decide)]
    obtain ⟨g, g1, g2, hg⟩ := h.b e
    refine ⟨g, g1, g2, hg.ne3 (fun e => hne (by assumption) (by rw [g1, e])) x0 x1 x2⟩
  · rw [onR_ne (by decide)]; exact h10
theorem TwS.ends (h : TwS T z0 z1 z2 x0 x1 x2 B0 w6 ps L f W) (h10 : L 10 = true) (h11 : L 11 = true) (h12 : L 12 = true) : ∃ k g, f 10 = .pointer (some ⟨k, 0, none⟩) ∧ f 11 = .pointer (some ⟨g, 0, none⟩) ∧ B0 ≤ k ∧ B0 ≤ g ∧ k ≠ g ∧ Box3 W k x0 x1 x2 ∧ Box3 W g z0 z1 z2 := by
  obtain ⟨k, e1, e2, _, hx, hne⟩ := h.a h10
  obtain ⟨g, g1, g2, hg⟩ := h.b h11
  exact ⟨k, g, e1, g1, e2, g2, fun e => hne h11 (by rw [g1, e]), hx h12, hg⟩
end
end Go.Proofs.YtkabcpmnbjllcaaDoor
