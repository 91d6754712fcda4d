/- Several texts in one, each over the last: Needles in memory. (The first part of XSl, for seats that have no record texts.) The reference's Add: the walk. Printed by genHd.py. -/
import Derived.Test.YtenkeodfijladaaGreatDoorGQ
import Derived.Test.YtenkeodfijladaaGreatDoorGE
import Derived.Deep.Cut
import Derived.Test.YtenkeodfijladaaGreatDoorGM
namespace Go.Proofs.YtenkeodfijladaaGreatDoor
open Go.RowKit

abbrev ndV (x : Nd) (v : Value) : Value := .agg #[.int .u64 (x.key : Int), .int .u32 (x.ck : Int), .bool x.del, v]
theorem RdB_nil (w : World) : RdB w (.slice none 0 0) [] := own_rdl (World.ownsRow_nil w 0 5 1)
def needC (p : Nd × Value) : List Value := [.int .u64 (p.1.key : Int), .int .u32 (p.1.ck : Int), .bool p.1.del, p.2]
theorem needC_len (p : Nd × Value) : (needC p).length = 4 := rfl
def needsC (es : List (Nd × Value)) : List Value := es.flatMap needC
theorem needsC_length (es : List (Nd × Value)) : (needsC es).length = es.length * 4 := flat_length 4 needC es fun x _ => needC_len x
theorem needsC_snoc (es : List (Nd × Value)) (p : Nd × Value) : needsC (es ++ [p]) = needsC es ++ needC p := by simp [needsC]
theorem need_one (x : Nd) (a : Option Addr) (n c : Nat) : ∀ u ∈ needC (x, .slice a n c), u.oneCell' = true := by
  intro u hu; simp only [needC, List.mem_cons, List.not_mem_nil, or_false] at hu; rcases hu with h | h | h | h <;> rw [h] <;> rfl
theorem elemN : ElemT Tryz.prog 28 36 4 40 := by
  obtain ⟨i, hi, hz, hs, hb⟩ := info_parts (P := Tryz.prog) (e := 36) (z := .agg #[.int .u64 0, .int .u32 0, .bool false, .slice none 0 0]) (size := 4) (bytes := 40) (by kernel_rfl)
  exact ⟨Tryz.underlying28, by decide, i, _, hi, hz, hs, hb, rfl⟩
/-- Reading of needles: the cells, and each one's data. -/
structure RdN (w : World) (v : Value) (es : List (Nd × Value)) : Prop where
  row : Rd w 4 v es.length (needsC es)
  dat : ∀ p ∈ es, RdB w p.2 p.1.data
theorem RdN.below {w w' : World} {v : Value} {es : List (Nd × Value)} (h : RdN w v es) (hb : Below w.heap.size w w') : RdN w' v es := ⟨h.row.below hb, fun p hp => RdL.below (h.dat p hp) hb⟩
def nat' (es : List (Nd × Value)) (j : Nat) : Nd × Value := es.getD j (nd0, .slice none 0 0)
theorem nat'_mem {es : List (Nd × Value)} {j : Nat} (h : j < es.length) : nat' es j ∈ es := by
  unfold nat'; rw [List.getD_eq_getElem?_getD, List.getElem?_eq_getElem h]; exact List.getElem_mem h
theorem RdN.shape {w : World} {v : Value} {es : List (Nd × Value)} (h : RdN w v es) : ∃ a cap, v = .slice a es.length cap ∧ es.length ≤ cap ∧ cap ≤ maxLen := by
  obtain ⟨_, a, cap, h1, h2, h3, _⟩ := h.row
  exact ⟨a, cap, h1, h2, h3⟩
theorem RdN.at {w : World} {a : Option Addr} {n cap : Nat} {es : List (Nd × Value)} (h : RdN w (.slice a n cap) es) {j : Nat} (hj : j < n) : ∃ b off, a = some ⟨b, off, none⟩ ∧ RdB w (nat' es j).2 (nat' es j).1.data ∧
    w.cell? ⟨b, off + j * 4, none⟩ = some (.int .u64 ((nat' es j).1.key : Int)) ∧ w.cell? ⟨b, off + j * 4 + 1, none⟩ = some (.int .u32 ((nat' es j).1.ck : Int)) ∧
    w.cell? ⟨b, off + j * 4 + 2, none⟩ = some (.bool (nat' es j).1.del) ∧ w.cell? ⟨b, off + j * 4 + 3, none⟩ = some (nat' es j).2 := by
  have hn : n = es.length := by
    obtain ⟨_, _, _, e, _⟩ := h.row
    injection e
  subst hn
  obtain ⟨_, a', cap', e, _, _, _, hc⟩ := h.row
  injection e with e1
  obtain ⟨b, off, e2, hc⟩ := hc (by rw [needsC_length]; omega)
  refine ⟨b, off, e1.trans e2, h.dat _ (nat'_mem hj), ?_⟩
  have hat : ∀ i, i < 4 → ∀ u, (needC (nat' es j))[i]? = some u → w.cell? ⟨b, off + (j * 4 + i), none⟩ = some u := fun i hi u hu => hc (j * 4 + i) u (by
    rw [show needsC es = es.flatMap needC from rfl, flat_at 4 needC (nd0, .slice none 0 0) es (fun _ _ => rfl) j i hj hi]; exact hu)
  exact ⟨hat 0 (by omega) _ rfl, hat 1 (by omega) _ rfl, hat 2 (by omega) _ rfl, hat 3 (by omega) _ rfl⟩
/-- A needle in a block of its own. -/
structure BoxD (W : World) (b : Nat) (x : Nd) (v : Value) : Prop where
  c0 : W.cell? ⟨b, 0, none⟩ = some (.int .u64 (x.key : Int))
  c1 : W.cell? ⟨b, 1, none⟩ = some (.int .u32 (x.ck : Int))
  c2 : W.cell? ⟨b, 2, none⟩ = some (.bool x.del)
  c3 : W.cell? ⟨b, 3, none⟩ = some v
  f : ∀ i, W.frozen? ⟨b, i, none⟩ = false
abbrev ndC (x : Nd) (v : Value) : Array Value := #[.int .u64 (x.key : Int), .int .u32 (x.ck : Int), .bool x.del, v]
theorem BoxD.new (W : World) (x : Nd) (v : Value) : BoxD (W.alloc (.cells (ndC x v) 36)) W.heap.size x v := ⟨by simp, by simp, by simp, by simp, fun i => by simp⟩
theorem BoxD.lt {W : World} {b : Nat} {x : Nd} {v : Value} (h : BoxD W b x v) : b < W.heap.size := World.block_lt_of_cell? W _ h.c0
theorem BoxD.below {W W' : World} {b : Nat} {x : Nd} {v : Value} (h : BoxD W b x v) (hB : Below W.heap.size W W') : BoxD W' b x v := ⟨Below.keeps hB _ _ h.c0, Below.keeps hB _ _ h.c1, Below.keeps hB _ _ h.c2, Below.keeps hB _ _ h.c3, fun i => (hB.frozen (p := ⟨b, i, none⟩) h.lt).trans (h.f i)⟩
theorem below_nd (w : World) (x : Nd) (v : Value) : Below w.heap.size w (w.alloc (.cells (ndC x v) 36)) := (Below.refl _ _).alloc (Nat.le_refl _) _
set_option maxRecDepth 100000 in
theorem rndvalid_any (x : Nd) (a : Option Addr) (cap : Nat) (w : World) : Calls Tryz.prog 34 #[ndV x (.slice a x.data.length cap)] w fun e w' => e = .returned (.bool (decide x.ok)) ∧ Below w.heap.size w w' := by
  obtain ⟨k, c, d, l⟩ := x
  dsimp only
  have HB := Lib.hid (show Below w.heap.size w (w.alloc (.cells #[.int .u64 (k : Int), .int .u32 (c : Int), .bool d, .slice a l.length cap] 36)) from (Below.refl _ _).alloc (Nat.le_refl _) _)
  have HO := Lib.hid (show decide (Nd.ok ⟨k, c, d, l⟩) = (decide ((l.length : Int) ≤ 4096) && !(d && decide (0 < (l.length : Int)))) by
    unfold Nd.ok
    dsimp only
    have e : (l = []) ↔ ¬ 0 < l.length := by rw [← List.length_eq_zero_iff]; omega
    cases d
    · simp only [Bool.false_and, Bool.not_false, Bool.and_true, reduceCtorEq, false_imp_iff, and_true]
      exact decide_eq_decide.2 (by omega)
    · simp only [Bool.true_and, forall_const, e]
      rw [Bool.eq_iff_iff, decide_eq_true_eq, Bool.and_eq_true, decide_eq_true_eq, Bool.not_eq_true', decide_eq_false_iff_not]
      omega)
  generalize decide (Nd.ok ⟨k, c, d, l⟩) = ob at *
  generalize l.length = n at *
  go_enter Tryz.func34, Tryz.ntmps34
  by_cases h1 : (n : Int) ≤ 4096
  · have d1 : decide ((n : Int) ≤ 4096) = true := decide_eq_true h1
    cases d
    · go_wp2_with fail
      go_ret
      exact ⟨ret_bool (by rw [HO.out, d1]; rfl), HB.out⟩
    · by_cases h2 : 0 < (n : Int)
      · have d2 : decide (0 < (n : Int)) = true := decide_eq_true h2
        go_wp2_with fail
        go_ret
        have h3 : 0 < n := by omega
        exact ⟨ret_bool (by rw [HO.out, d1, d2]; simp [h3]), HB.out⟩
      · have d2 : decide (0 < (n : Int)) = false := decide_eq_false h2
        go_wp2_with fail
        go_ret
        have h3 : ¬ 0 < n := by omega
        exact ⟨ret_bool (by rw [HO.out, d1, d2]; simp [h3]), HB.out⟩
  · have d1 : decide ((n : Int) ≤ 4096) = false := decide_eq_false h1
    go_wp2_with fail
    go_ret
    exact ⟨ret_bool (by rw [HO.out, d1]; rfl), HB.out⟩
end Go.Proofs.YtenkeodfijladaaGreatDoor

namespace Go.Proofs.YtenkeodfijladaaGreatDoor
open Go.RowKit

theorem szL_le (l : List Nd) : szL l ≤ l.length * 4127 := by
  induction l with
  | nil => exact Nat.zero_le _
  | cons x r ih =>
    have := szN_le x.data.length
    rw [szL_cons, List.length_cons, Nat.succ_mul]
    omega
theorem take_snoc' {es : List (Nd × Value)} {i : Nat} (h : i < es.length) : (es.map (·.1)).take (i + 1) = (es.map (·.1)).take i ++ [(nat' es i).1] := by
  rw [List.take_add_one, List.getElem?_map, List.getElem?_eq_getElem h]
  unfold nat'
  rw [List.getD_eq_getElem?_getD, List.getElem?_eq_getElem h]
  rfl
theorem okLB_iff (l : List Nd) : okLB l = true ↔ ∀ x ∈ l, x.ok := by
  unfold okLB
  rw [List.all_eq_true]
  exact ⟨fun h x hx => of_decide_eq_true (h x hx), fun h x hx => decide_eq_true (h x hx)⟩
set_option maxRecDepth 100000 in
set_option maxHeartbeats 16000000 in
theorem radd_any (g : Gn) (s : Sl) (v : Value) (es : List (Nd × Value)) (K : Nat) (w : World) (h : RdM w s g.m.st) (hs : ∀ i, i < 8 → (g.m.st i).length ≤ K) (hr : RdN w v es) (hK : K + es.length ≤ 9000) (hdl : ∀ p ∈ es, p.1.data.length ≤ 1000000) :
    Calls Tryz.prog 10 #[genV g.num g.rev g.mode g.size s g.m.live g.m.garb, v] w (GOO w s g.m.st (addG g (es.map (·.1)))) := by
  obtain ⟨va, vc, rfl, hv1, hv2⟩ := hr.shape
  have hs9 : ∀ i, i < 8 → (g.m.st i).length ≤ 10000 := fun i hi => Nat.le_trans (hs i hi) (by omega)
  have HV := Lib.hid (fun W (hb : Below w.heap.size w W) => rgvalid_any g s W (h.below hb) hs9)
  have HRn := Lib.hid hr
  have HRm := Lib.hid h
  have HR0 := Lib.hid (show ∀ W, OldOwn W w.heap.size s g.m.st Sl.nil gn0.m.st from fun W => OldOwn.nil W _ _ _)
  have HG := Lib.hid (show addG g (es.map (·.1)) = if vldG g = true ∧ okLB (es.map (·.1)) = true then (if g.mode = 1 then (if g.size + (szL (es.map (·.1)) : Int) ≤ 1048576 then (0, addAll g (es.map (·.1))) else (9, gn0)) else (12, gn0)) else (1, gn0) from rfl)
  have HSz := Lib.hid (show vldG g = true → 16 ≤ g.size ∧ g.size ≤ 1048576 from fun hv => ⟨((vldG_iff g).1 hv).size.1, ((vldG_iff g).1 hv).size.2.1⟩)
  have HLn := Lib.hid (fun i (hi : i ≤ es.length) => addAll_len ((es.map (·.1)).take i) g hs)
  have HMem := Lib.hid (fun i (hi : i < es.length) => hdl _ (nat'_mem hi))
  have HTk := Lib.hid (fun i (hi : i < es.length) => @take_snoc' es i hi)
  have HAll := Lib.hid (show ∀ i, i ≤ es.length → szL ((es.map (·.1)).take i) ≤ 9000 * 4127 from fun i hi => by
    have h1 := szL_le ((es.map (·.1)).take i)
    have h2 : ((es.map (·.1)).take i).length ≤ 9000 := by rw [List.length_take]; omega
    have := Nat.mul_le_mul_right 4127 h2
    omega)
  have HOkI := Lib.hid (okLB_iff (es.map (·.1)))
  have HOkM := Lib.hid (show ∀ i, i < es.length → (nat' es i).1 ∈ es.map (·.1) from fun i hi => List.mem_map_of_mem (nat'_mem hi))
  have HFull := Lib.hid (show (es.map (·.1)).take es.length = es.map (·.1) from List.take_of_length_le (by rw [List.length_map]; omega))
  have HOkA := Lib.hid (show (∀ j, j < es.length → (nat' es j).1.ok) → ∀ x ∈ es.map (·.1), x.ok from fun hh x hx => by
    obtain ⟨p, hp, rfl⟩ := List.mem_map.1 hx
    obtain ⟨j, hj, rfl⟩ := List.getElem_of_mem hp
    have := hh j hj
    unfold nat' at this
    rw [List.getD_eq_getElem?_getD, List.getElem?_eq_getElem hj] at this
    exact this)
  clear hr h hs hs9 hdl
  generalize hN : es.map (·.1) = N at *
  generalize hnn : es.length = n at *
  have Hnn := Lib.hid hnn
  clear hnn hN
  obtain ⟨gn, rv, md, z, ⟨f, L, G⟩⟩ := g
  generalize hgg : (⟨gn, rv, md, z, ⟨f, L, G⟩⟩ : Gn) = g at *
  have Hgg := Lib.hid hgg
  obtain ⟨W, hW, hbx, hbr, hbw⟩ := two_box w gn rv md z s L G 27
  have HX := Lib.hid hbx
  have HR := Lib.hid hbr
  have HB := Lib.hid hbw
  clear hbx hbr hbw
  generalize addG g N = TG at *
  generalize vldG g = vb at *
  subst hgg
  dsimp only at *
  go_enter Tryz.func10, Tryz.ntmps10
  go_upto_region 1 with fail
  change Code.wp _ _ _ _ ((w.alloc (.cells (genC gn rv md z s L G) 27)).alloc (.cells (genC 0 0 0 0 Sl.nil 0 0) 27))
  rw [hW]
  clear hW
  have x0 := HX.out.n0
  have x1 := HX.out.n1
  have x2 := HX.out.n2
  have x3 := HX.out.n3
  have x4 := HX.out.c0
  have x5 := HX.out.c1
  have x6 := HX.out.c2
  have x7 := HX.out.c3
  have x8 := HX.out.c4
  have x9 := HX.out.c5
  have x10 := HX.out.c6
  have x11 := HX.out.c7
  have x12 := HX.out.cl
  have x13 := HX.out.cg
  go_wp2_with fail
  refine (HV.out _ HB.out).mono ?_
  rintro e w1 ⟨rfl, hb1⟩
  have HX1 := Lib.hid (HX.out.below hb1)
  have HR1 := Lib.hid (HR.out.below hb1)
  have HB1 := Lib.hid (bstep HB.out hb1)
  have hlr : w.heap.size + 1 < W.heap.size := HR.out.lt
  clear x0 x1 x2 x3 x4 x5 x6 x7 x8 x9 x10 x11 x12 x13
  clear hb1 HX HR HB HV
  cases vb
  · have HPR := Lib.hid (show TG = (1, gn0) by rw [HG.out, if_neg (fun h => by cases h.1)])
    have r0 := HR1.out.n0
    have r1 := HR1.out.n1
    have r2 := HR1.out.n2
    have r3 := HR1.out.n3
    have r4 := HR1.out.c0
    have r5 := HR1.out.c1
    have r6 := HR1.out.c2
    have r7 := HR1.out.c3
    have r8 := HR1.out.c4
    have r9 := HR1.out.c5
    have r10 := HR1.out.c6
    have r11 := HR1.out.c7
    have r12 := HR1.out.cl
    have r13 := HR1.out.cg
    have rf := HR1.out.f
    go_wp2_with fail
    change bodyPost _ _ _ _ _ (pts w1 (w.heap.size + 1) (genL 0 0 0 0 Sl.nil 0 0))
    have hby := HR1.out.all 0 0 0 0 Sl.nil 0 0
    have HBz := Lib.hid (pts_below (B := w.heap.size) (b := (w.heap.size + 1)) (by omega) (genL 0 0 0 0 Sl.nil 0 0) HB1.out)
    have hrd := HR0.out (pts w1 (w.heap.size + 1) (genL 0 0 0 0 Sl.nil 0 0))
    rw [HPR.out]
    generalize pts w1 (w.heap.size + 1) (genL 0 0 0 0 Sl.nil 0 0) = V at *
    exact bodyPost_ret (v := .tuple #[genV 0 0 0 0 Sl.nil 0 0, .int .i64 1]) (by simp [results, Tryz.results10, go_sem, hby.n0, hby.n1, hby.n2, hby.n3, hby.c0, hby.c1, hby.c2, hby.c3, hby.c4, hby.c5, hby.c6, hby.c7, hby.cl, hby.cg]) rfl ⟨⟨_, rfl, hrd⟩, HBz.out⟩
  · obtain ⟨hz1, hz2⟩ := HSz.out rfl
    have x0 := HX1.out.n0
    have x1 := HX1.out.n1
    have x2 := HX1.out.n2
    have x3 := HX1.out.n3
    have x4 := HX1.out.c0
    have x5 := HX1.out.c1
    have x6 := HX1.out.c2
    have x7 := HX1.out.c3
    have x8 := HX1.out.c4
    have x9 := HX1.out.c5
    have x10 := HX1.out.c6
    have x11 := HX1.out.c7
    have x12 := HX1.out.cl
    have x13 := HX1.out.cg
    go_wp2_with fail
    go_loopw [6, 7] (fun sv iv W => ∃ i : Nat, iv = .int .i64 (i : Int) ∧ sv = .int .i64 (z + (szL (N.take i) : Int)) ∧ i ≤ n ∧ Hid (∀ j, j < i → (nat' es j).1.ok) ∧ Hid (BoxG W w.heap.size gn rv md z s L G) ∧ Hid (BoxG W (w.heap.size + 1) 0 0 0 0 Sl.nil 0 0) ∧ Hid (Below w.heap.size w W)) (fun _ iv _ => n - (intOf iv).toNat)
    case atStart => exact ⟨0, rfl, by simp [szL], Nat.zero_le _, Lib.hid (fun j hj => by omega), HX1, HR1, HB1⟩
    case round =>
      obtain ⟨i, rfl, rfl, hi, HOi, HXi, HRi, HBi⟩ := hrel
      clear HX1 HR1 HB1
      have hal := HAll.out i hi
      by_cases hlt : i < n
      · obtain ⟨b, off, rfl, hdat, c0, c1, c2, c3⟩ := (HRn.out.below HBi.out).at hlt
        have hxm := HMem.out i hlt
        have HTi := Lib.hid (HTk.out i hlt)
        have HOm := Lib.hid (HOkM.out i hlt)
        have HOs := Lib.hid (show (nat' es i).1.ok → ∀ j, j < i + 1 → (nat' es j).1.ok from fun ho j hj => by
          by_cases e : j = i
          · subst e; exact ho
          · exact HOi.out j (by omega))
        have hal2 := HAll.out (i + 1) hlt
        generalize nat' es i = X at c0 c1 c2 c3 hdat hxm HTi HOm HOs
        obtain ⟨x, xv⟩ := X
        dsimp only at c0 c1 c2 c3 hdat hxm HTi HOm HOs
        obtain ⟨xa, xc, rfl, hx1, hx2⟩ := hdat.shape0
        have HVn := Lib.hid (fun W => rndvalid_any x xa xc W)
        have HSn := Lib.hid (fun W => rsize_any x.data.length W hxm)
        rw [HTi.out, szL_snoc] at hal2
        have i1 : (i : Int) < (n : Int) := by omega
        clear hdat
        by_cases hok : x.ok
        · rw [decide_eq_true hok] at HVn
          go_wp2_with fail
          refine (HVn.out _).mono ?_
          rintro e w2 ⟨rfl, hb2⟩
          have c3' := hb2.keeps' c3
          have HX2 := Lib.hid (HXi.out.below hb2)
          have HR2 := Lib.hid (HRi.out.below hb2)
          have HB2 := Lib.hid (bstep HBi.out hb2)
          clear hb2 c0 c1 c2 c3 HXi HRi HBi
          generalize hm : x.data.length = m at *
          have Hm := Lib.hid hm
          clear hm
          go_wp2_with fail
          refine (HSn.out _).mono ?_
          rintro e w3 ⟨rfl, rfl⟩
          go_wp2_with fail
          go_roundw
          case rel => exact ⟨i + 1, by go_num, by rw [HTi.out, szL_snoc, Hm.out, Int.natCast_add, Int.add_assoc], by omega, Lib.hid (HOs.out hok), HX2, HR2, HB2⟩
          case measure => simp [intOf]; omega
        · have HPR := Lib.hid (show TG = (1, gn0) by rw [HG.out, if_neg (fun h => hok (HOkI.out.1 h.2 x HOm.out))])
          rw [decide_eq_false hok] at HVn
          go_wp2_with fail
          refine (HVn.out _).mono ?_
          rintro e w2 ⟨rfl, hb2⟩
          have HX2 := Lib.hid (HXi.out.below hb2)
          have HR2 := Lib.hid (HRi.out.below hb2)
          have HB2 := Lib.hid (bstep HBi.out hb2)
          clear hb2 c0 c1 c2 c3 HXi HRi HBi
          have r0 := HR2.out.n0
          have r1 := HR2.out.n1
          have r2 := HR2.out.n2
          have r3 := HR2.out.n3
          have r4 := HR2.out.c0
          have r5 := HR2.out.c1
          have r6 := HR2.out.c2
          have r7 := HR2.out.c3
          have r8 := HR2.out.c4
          have r9 := HR2.out.c5
          have r10 := HR2.out.c6
          have r11 := HR2.out.c7
          have r12 := HR2.out.cl
          have r13 := HR2.out.cg
          have rf := HR2.out.f
          go_wp2_with fail
          change bodyPost _ _ _ _ _ (pts w2 (w.heap.size + 1) (genL 0 0 0 0 Sl.nil 0 0))
          have hby := HR2.out.all 0 0 0 0 Sl.nil 0 0
          have HBz := Lib.hid (pts_below (B := w.heap.size) (b := (w.heap.size + 1)) (by omega) (genL 0 0 0 0 Sl.nil 0 0) HB2.out)
          have hrd := HR0.out (pts w2 (w.heap.size + 1) (genL 0 0 0 0 Sl.nil 0 0))
          rw [HPR.out]
          generalize pts w2 (w.heap.size + 1) (genL 0 0 0 0 Sl.nil 0 0) = V at *
          exact bodyPost_ret (v := .tuple #[genV 0 0 0 0 Sl.nil 0 0, .int .i64 1]) (by simp [results, Tryz.results10, go_sem, hby.n0, hby.n1, hby.n2, hby.n3, hby.c0, hby.c1, hby.c2, hby.c3, hby.c4, hby.c5, hby.c6, hby.c7, hby.cl, hby.cg]) rfl ⟨⟨_, rfl, hrd⟩, HBz.out⟩
      · have hin : i = n := by omega
        have HOn := Lib.hid (show ∀ j, j < n → (nat' es j).1.ok from hin ▸ HOi.out)
        clear HOi
        rw [hin, HFull.out] at hal
        rw [hin, HFull.out]
        clear hin hi
        have hokl : okLB N = true := HOkI.out.2 (HOkA.out HOn.out)
        have HG2 := Lib.hid (show TG = (if md = 1 then (if z + (szL N : Int) ≤ 1048576 then (0, addAll ⟨gn, rv, md, z, ⟨f, L, G⟩⟩ N) else (9, gn0)) else (12, gn0)) by rw [HG.out, if_pos ⟨trivial, hokl⟩])
        clear HG hokl
        by_cases hmd : md = 1
        · have e1 : (md == 1) = true := by rw [hmd]; rfl
          by_cases hfit : z + (szL N : Int) ≤ 1048576
          · have HPR := Lib.hid (show TG = (0, addAll ⟨gn, rv, md, z, ⟨f, L, G⟩⟩ N) by rw [HG2.out, if_pos hmd, if_pos hfit])
            have e2 : decide (1048576 < z + (szL N : Int)) = false := by simp; omega
            clear HG2
            have hmds := hmd
            subst hmd
            obtain ⟨g0, hg0⟩ : ∃ g0 : Gn, (⟨gn, rv, 1, z, ⟨f, L, G⟩⟩ : Gn) = g0 := ⟨_, rfl⟩
            have HLn0 := Lib.hid (show ∀ i, i ≤ n → ∀ j, j < 8 → ((addAll g0 (N.take i)).m.st j).length ≤ 9000 from fun i hi j hj => by
              have h1 := HLn.out i hi j hj
              have h2 : (N.take i).length ≤ n := by rw [List.length_take]; omega
              rw [← hg0]; omega)
            have HSt0 := Lib.hid (show ∀ i, i < n → addAll g0 (N.take (i + 1)) = addOne (addAll g0 (N.take i)) (nat' es i).1 from fun i hi => by rw [HTk.out i hi, addAll_snoc])
            have HZz := Lib.hid (show ∀ i, i ≤ n → (addAll g0 (N.take i)).size = z + (szL (N.take i) : Int) from fun i _ => by rw [addAll_size, ← hg0])
            have HPR0 := Lib.hid (show TG = (0, addAll g0 N) from by rw [← hg0]; exact HPR.out)
            have Hst := Lib.hid (show addAll g0 (N.take 0) = ⟨gn, rv, 1, z, ⟨f, L, G⟩⟩ from by rw [← hg0]; rfl)
            have HNum := Lib.hid (show (addAll g0 N).num = gn ∧ (addAll g0 N).rev = rv ∧ (addAll g0 N).mode = 1 from by rw [← hg0]; exact addAll_num N _)
            have HOkn := Lib.hid (show ∀ i, i < n → (nat' es i).1.ok from HOn.out)
            clear HPR HLn HTk hg0 HOkI HOkA HOkM HMem HOn
            have x0 := HXi.out.n0
            have x1 := HXi.out.n1
            have x2 := HXi.out.n2
            have x3 := HXi.out.n3
            have x4 := HXi.out.c0
            have x5 := HXi.out.c1
            have x6 := HXi.out.c2
            have x7 := HXi.out.c3
            have x8 := HXi.out.c4
            have x9 := HXi.out.c5
            have x10 := HXi.out.c6
            have x11 := HXi.out.c7
            have x12 := HXi.out.cl
            have x13 := HXi.out.cg
            go_wp2_with fail
            go_loopw [8] (fun iv W => ∃ (i : Nat) (si : Sl), iv = .int .i64 (i : Int) ∧ i ≤ n ∧ Hid (BoxG W w.heap.size gn rv 1 (addAll g0 (N.take i)).size si (addAll g0 (N.take i)).m.live (addAll g0 (N.take i)).m.garb) ∧ Hid (OldOwn W (w.heap.size + 2) s f si (addAll g0 (N.take i)).m.st) ∧ Hid (BoxG W (w.heap.size + 1) 0 0 0 0 Sl.nil 0 0) ∧ Hid (Below w.heap.size w W)) (fun iv _ => n - (intOf iv).toNat)
            case atStart => exact ⟨0, s, rfl, Nat.zero_le _, by rw [Hst.out]; exact HXi, by rw [Hst.out]; exact Lib.hid (OldOwn.refl _ _ _ _), HRi, HBi⟩
            case round =>
              obtain ⟨i, si, rfl, hi, HXj, HOj, HRj, HBj⟩ := hrel
              clear HXi HRi HBi
              rename_i wr0
              by_cases hlt : i < n
              · have i1 : (i : Int) < (n : Int) := by omega
                obtain ⟨b, off, rfl, hdat, c0, c1, c2, c3⟩ := (HRn.out.below HBj.out).at hlt
                have hal2 := HAll.out i hi
                have HLi := Lib.hid (HLn0.out i hi)
                have HSi := Lib.hid (HSt0.out i hlt)
                have hZi := HZz.out i hi
                have hok := HOkn.out i hlt
                have HRs := Lib.hid (HOj.out.rd HRm.out HBj.out)
                generalize nat' es i = X at c0 c1 c2 c3 hdat HSi hok
                obtain ⟨x, xv⟩ := X
                dsimp only at c0 c1 c2 c3 hdat HSi hok
                obtain ⟨xa, xc, rfl, hx1, hx2⟩ := hdat.shape0
                have hxm : x.data.length ≤ 4096 := hok.1
                have HSn := Lib.hid (fun W => rsize_any x.data.length W (Nat.le_trans hxm (by decide)))
                clear hdat hok
                have hxz := szN_le x.data.length
                obtain ⟨W1, hW1⟩ : ∃ W1, wr.alloc (.cells (ndC x (.slice xa x.data.length xc)) 36) = W1 := ⟨_, rfl⟩
                have hbn := below_nd wr x (.slice xa x.data.length xc)
                have hdn := BoxD.new wr x (.slice xa x.data.length xc)
                rw [hW1] at hbn hdn
                have HD := Lib.hid hdn
                have HBn := Lib.hid hbn
                clear hbn hdn
                have HXk := Lib.hid (HXj.out.below HBn.out)
                have HRk := Lib.hid (HRj.out.below HBn.out)
                have HRsk := Lib.hid (HRs.out.below HBn.out)
                have HBk := Lib.hid (bstep HBj.out HBn.out)
                have hwr := HRj.out.lt
                have hws := HBn.out.size
                go_upto_region 18 with fail
                clear hW1 c0 c1 c2 c3 HXj HRj HBj HRs
                have d0 := HD.out.c0
                have d1 := HD.out.c1
                have d2 := HD.out.c2
                have d3 := HD.out.c3
                generalize hm : x.data.length = m at *
                have Hm := Lib.hid hm
                clear hm
                go_wp2_with fail
                refine (HSn.out _).mono ?_
                rintro e w3 ⟨rfl, rfl⟩
                generalize hgi : addAll g0 (N.take i) = gi at *
                clear hgi
                obtain ⟨an, ar, am, az, ⟨af, aL, aG⟩⟩ := gi
                dsimp only at *
                clear x0 x1 x2 x3 x4 x5 x6 x7 x8 x9 x10 x11 x12 x13
                have x4 := HXk.out.c0
                have x5 := HXk.out.c1
                have x6 := HXk.out.c2
                have x7 := HXk.out.c3
                have x8 := HXk.out.c4
                have x9 := HXk.out.c5
                have x10 := HXk.out.c6
                have x11 := HXk.out.c7
                have x12 := HXk.out.cl
                have x13 := HXk.out.cg
                have x3 := HXk.out.n3
                have xf := HXk.out.f
                have hz3 : 0 ≤ az ∧ az ≤ 50000000 := by omega
                obtain ⟨hz4, hz5⟩ := hz3
                clear hZi hal2
                cases hdl : x.del
                · rw [hdl] at d2
                  have HP := Lib.hid (rput_ins si ⟨af, aL, aG⟩ ⟨(x.key : Int), (x.ck : Int), az, (m : Int)⟩ W1 HRsk.out HLi.out)
                  have HSi2 := Lib.hid (show addAll g0 (N.take (i + 1)) = ⟨an, ar, am, az + (szN m : Nat), insM ⟨af, aL, aG⟩ ⟨(x.key : Int), (x.ck : Int), az, (m : Int)⟩⟩ by
                    rw [HSi.out]; unfold addOne itA; rw [hdl, Hm.out]; rfl)
                  clear HSi
                  generalize insM ⟨af, aL, aG⟩ ⟨(x.key : Int), (x.ck : Int), az, (m : Int)⟩ = M4 at *
                  obtain ⟨bf, bL, bG⟩ := M4
                  dsimp only at HP
                  go_wp2_with fail
                  refine (HP.out).mono ?_
                  rintro e w5 ⟨⟨s4, rfl, ho⟩, hb4⟩
                  have HO5 := Lib.hid (HOj.out.step ho (bstep HBn.out hb4) (by omega))
                  have HX5 := Lib.hid (HXk.out.below hb4)
                  have HR5 := Lib.hid (HRk.out.below hb4)
                  have HB5 := Lib.hid (bstep HBk.out hb4)
                  clear x3 x4 x5 x6 x7 x8 x9 x10 x11 x12 x13 xf
                  clear d0 d1 d2 d3 HXk HRk HBk HRsk HD HOj
                  have x4 := HX5.out.c0
                  have x5 := HX5.out.c1
                  have x6 := HX5.out.c2
                  have x7 := HX5.out.c3
                  have x8 := HX5.out.c4
                  have x9 := HX5.out.c5
                  have x10 := HX5.out.c6
                  have x11 := HX5.out.c7
                  have x12 := HX5.out.cl
                  have x13 := HX5.out.cg
                  have x3 := HX5.out.n3
                  have xf := HX5.out.f
                  go_upto_region 22 with fail
                  change Code.wp _ _ _ _ (pts w5 w.heap.size (mapL s4 bL bG))
                  have HX6 := Lib.hid (HX5.out.map s4 bL bG)
                  have HR6 := Lib.hid (HR5.out.pts_ne (show w.heap.size + 1 ≠ w.heap.size by omega) (mapL s4 bL bG))
                  have HB6 := Lib.hid (pts_below (B := w.heap.size) (b := w.heap.size) (Nat.le_refl _) (mapL s4 bL bG) HB5.out)
                  have HO6 := Lib.hid (HO5.out.pts (show w.heap.size < w.heap.size + 2 by omega) (mapL s4 bL bG))
                  generalize pts w5 w.heap.size (mapL s4 bL bG) = w6 at *
                  clear HX5 HR5 HB5 HO5 x3 x4 x5 x6 x7 x8 x9 x10 x11 x12 x13 xf
                  have x3 := HX6.out.n3
                  have xf := HX6.out.f
                  go_upto_region 16 with fail
                  change Code.wp _ _ _ _ (pts w6 w.heap.size [(3, .int .i64 (az + (szN m : Nat)))])
                  have HX7 := Lib.hid (HX6.out.num3 (az + (szN m : Nat)))
                  have HR7 := Lib.hid (HR6.out.pts_ne (show w.heap.size + 1 ≠ w.heap.size by omega) [(3, .int .i64 (az + (szN m : Nat)))])
                  have HB7 := Lib.hid (pts_below (B := w.heap.size) (b := w.heap.size) (Nat.le_refl _) [(3, .int .i64 (az + (szN m : Nat)))] HB6.out)
                  have HO7 := Lib.hid (HO6.out.pts (show w.heap.size < w.heap.size + 2 by omega) [(3, .int .i64 (az + (szN m : Nat)))])
                  generalize pts w6 w.heap.size [(3, .int .i64 (az + (szN m : Nat)))] = w7 at *
                  clear HX6 HR6 HB6 HO6 x3 xf
                  go_wp2_with fail
                  go_roundw
                  case rel =>
                    refine ⟨i + 1, s4, by go_num, by omega, ?_, ?_, HR7, HB7⟩
                    · rw [HSi2.out]; exact HX7
                    · rw [HSi2.out]; exact HO7
                  case measure => simp [intOf]; omega
                · rw [hdl] at d2
                  have HP := Lib.hid (rdel_del si ⟨af, aL, aG⟩ (x.key : Int) W1 HRsk.out HLi.out)
                  have HSi2 := Lib.hid (show addAll g0 (N.take (i + 1)) = ⟨an, ar, am, az + (szN m : Nat), wasteM (delM ⟨af, aL, aG⟩ (x.key : Int)) (szN m : Nat)⟩ by
                    rw [HSi.out]; unfold addOne; rw [hdl, Hm.out]; rfl)
                  have HLd := Lib.hid (fun j hj => Nat.le_trans (delM_len8 ⟨af, aL, aG⟩ (x.key : Int) HLi.out j hj) (show 9000 ≤ 10000 by decide))
                  clear HSi
                  generalize delM ⟨af, aL, aG⟩ (x.key : Int) = M3 at *
                  obtain ⟨df, dL, dG⟩ := M3
                  dsimp only at HP
                  go_wp2_with fail
                  refine (HP.out).mono ?_
                  rintro e w4 ⟨⟨s4, rfl, ho⟩, hb4⟩
                  have HWs := Lib.hid (rwasteM_any s4 ⟨df, dL, dG⟩ (szN m : Nat) w4 (ho.rd HRsk.out hb4) HLd.out)
                  have HWt := Lib.hid (wasteM_st ⟨df, dL, dG⟩ (szN m : Nat))
                  have HO4 := Lib.hid (HOj.out.step ho (bstep HBn.out hb4) (by omega))
                  clear ho
                  generalize wasteM ⟨df, dL, dG⟩ (szN m : Nat) = M4 at *
                  obtain ⟨bf, bL, bG⟩ := M4
                  dsimp only at HWs HWt
                  go_wp2_with fail
                  refine (HWs.out).mono ?_
                  rintro e w5 ⟨rfl, hb5⟩
                  replace hb4 := bstep hb4 hb5
                  have HO5 := Lib.hid ((HO4.out.keep hb5).eqM (fun i _ => congrFun HWt.out i))
                  have HX5 := Lib.hid (HXk.out.below hb4)
                  have HR5 := Lib.hid (HRk.out.below hb4)
                  have HB5 := Lib.hid (bstep HBk.out hb4)
                  clear x3 x4 x5 x6 x7 x8 x9 x10 x11 x12 x13 xf
                  clear d0 d1 d2 d3 HXk HRk HBk HRsk HD HOj
                  have x4 := HX5.out.c0
                  have x5 := HX5.out.c1
                  have x6 := HX5.out.c2
                  have x7 := HX5.out.c3
                  have x8 := HX5.out.c4
                  have x9 := HX5.out.c5
                  have x10 := HX5.out.c6
                  have x11 := HX5.out.c7
                  have x12 := HX5.out.cl
                  have x13 := HX5.out.cg
                  have x3 := HX5.out.n3
                  have xf := HX5.out.f
                  go_upto_region 22 with fail
                  change Code.wp _ _ _ _ (pts w5 w.heap.size (mapL s4 bL bG))
                  have HX6 := Lib.hid (HX5.out.map s4 bL bG)
                  have HR6 := Lib.hid (HR5.out.pts_ne (show w.heap.size + 1 ≠ w.heap.size by omega) (mapL s4 bL bG))
                  have HB6 := Lib.hid (pts_below (B := w.heap.size) (b := w.heap.size) (Nat.le_refl _) (mapL s4 bL bG) HB5.out)
                  have HO6 := Lib.hid (HO5.out.pts (show w.heap.size < w.heap.size + 2 by omega) (mapL s4 bL bG))
                  generalize pts w5 w.heap.size (mapL s4 bL bG) = w6 at *
                  clear HX5 HR5 HB5 HO5 x3 x4 x5 x6 x7 x8 x9 x10 x11 x12 x13 xf
                  have x3 := HX6.out.n3
                  have xf := HX6.out.f
                  go_upto_region 16 with fail
                  change Code.wp _ _ _ _ (pts w6 w.heap.size [(3, .int .i64 (az + (szN m : Nat)))])
                  have HX7 := Lib.hid (HX6.out.num3 (az + (szN m : Nat)))
                  have HR7 := Lib.hid (HR6.out.pts_ne (show w.heap.size + 1 ≠ w.heap.size by omega) [(3, .int .i64 (az + (szN m : Nat)))])
                  have HB7 := Lib.hid (pts_below (B := w.heap.size) (b := w.heap.size) (Nat.le_refl _) [(3, .int .i64 (az + (szN m : Nat)))] HB6.out)
                  have HO7 := Lib.hid (HO6.out.pts (show w.heap.size < w.heap.size + 2 by omega) [(3, .int .i64 (az + (szN m : Nat)))])
                  generalize pts w6 w.heap.size [(3, .int .i64 (az + (szN m : Nat)))] = w7 at *
                  clear HX6 HR6 HB6 HO6 x3 xf
                  go_wp2_with fail
                  go_roundw
                  case rel =>
                    refine ⟨i + 1, s4, by go_num, by omega, ?_, ?_, HR7, HB7⟩
                    · rw [HSi2.out]; exact HX7
                    · rw [HSi2.out]; exact HO7
                  case measure => simp [intOf]; omega

              · have hin : i = n := by omega
                rw [hin, HFull.out] at HXj HOj
                rw [hin]
                clear hin hi
                obtain ⟨hn1, hn2, hn3⟩ := HNum.out
                generalize hgA : addAll g0 N = gA at *
                obtain ⟨an, ar, am, az, ⟨af, aL, aG⟩⟩ := gA
                dsimp only at HXj HOj hn1 hn2 hn3 HPR0
                subst hn1 hn2 hn3
                clear hgA
                have x0 := HXj.out.n0
                have x1 := HXj.out.n1
                have x2 := HXj.out.n2
                have x3 := HXj.out.n3
                have x4 := HXj.out.c0
                have x5 := HXj.out.c1
                have x6 := HXj.out.c2
                have x7 := HXj.out.c3
                have x8 := HXj.out.c4
                have x9 := HXj.out.c5
                have x10 := HXj.out.c6
                have x11 := HXj.out.c7
                have x12 := HXj.out.cl
                have x13 := HXj.out.cg
                have r0 := HRj.out.n0
                have r1 := HRj.out.n1
                have r2 := HRj.out.n2
                have r3 := HRj.out.n3
                have r4 := HRj.out.c0
                have r5 := HRj.out.c1
                have r6 := HRj.out.c2
                have r7 := HRj.out.c3
                have r8 := HRj.out.c4
                have r9 := HRj.out.c5
                have r10 := HRj.out.c6
                have r11 := HRj.out.c7
                have r12 := HRj.out.cl
                have r13 := HRj.out.cg
                have rf := HRj.out.f
                go_wp2_with fail
                change bodyPost _ _ _ _ _ (pts wr (w.heap.size + 1) (genL an ar 1 az si aL aG))
                have hby := HRj.out.all an ar 1 az si aL aG
                have HBz := Lib.hid (pts_below (B := w.heap.size) (b := (w.heap.size + 1)) (by omega) (genL an ar 1 az si aL aG) HBj.out)
                have hrd := (HOj.out.pts (show w.heap.size + 1 < w.heap.size + 2 by omega) (genL an ar 1 az si aL aG)).mono (show w.heap.size ≤ w.heap.size + 2 by omega)
                rw [HPR0.out]
                generalize pts wr (w.heap.size + 1) (genL an ar 1 az si aL aG) = V at *
                exact bodyPost_ret (v := .tuple #[genV an ar 1 az si aL aG, .int .i64 0]) (by simp [results, Tryz.results10, go_sem, hby.n0, hby.n1, hby.n2, hby.n3, hby.c0, hby.c1, hby.c2, hby.c3, hby.c4, hby.c5, hby.c6, hby.c7, hby.cl, hby.cg]) rfl ⟨⟨_, rfl, hrd⟩, HBz.out⟩
          · have HPR := Lib.hid (show TG = (9, gn0) by rw [HG2.out, if_pos hmd, if_neg hfit])
            have e2 : decide (1048576 < z + (szL N : Int)) = true := by simp; omega
            clear HG2
            have x0 := HXi.out.n0
            have x1 := HXi.out.n1
            have x2 := HXi.out.n2
            have x3 := HXi.out.n3
            have x4 := HXi.out.c0
            have x5 := HXi.out.c1
            have x6 := HXi.out.c2
            have x7 := HXi.out.c3
            have x8 := HXi.out.c4
            have x9 := HXi.out.c5
            have x10 := HXi.out.c6
            have x11 := HXi.out.c7
            have x12 := HXi.out.cl
            have x13 := HXi.out.cg
            have r0 := HRi.out.n0
            have r1 := HRi.out.n1
            have r2 := HRi.out.n2
            have r3 := HRi.out.n3
            have r4 := HRi.out.c0
            have r5 := HRi.out.c1
            have r6 := HRi.out.c2
            have r7 := HRi.out.c3
            have r8 := HRi.out.c4
            have r9 := HRi.out.c5
            have r10 := HRi.out.c6
            have r11 := HRi.out.c7
            have r12 := HRi.out.cl
            have r13 := HRi.out.cg
            have rf := HRi.out.f
            go_wp2_with fail
            change bodyPost _ _ _ _ _ (pts wr (w.heap.size + 1) (genL 0 0 0 0 Sl.nil 0 0))
            have hby := HRi.out.all 0 0 0 0 Sl.nil 0 0
            have HBz := Lib.hid (pts_below (B := w.heap.size) (b := (w.heap.size + 1)) (by omega) (genL 0 0 0 0 Sl.nil 0 0) HBi.out)
            have hrd := HR0.out (pts wr (w.heap.size + 1) (genL 0 0 0 0 Sl.nil 0 0))
            rw [HPR.out]
            generalize pts wr (w.heap.size + 1) (genL 0 0 0 0 Sl.nil 0 0) = V at *
            exact bodyPost_ret (v := .tuple #[genV 0 0 0 0 Sl.nil 0 0, .int .i64 9]) (by simp [results, Tryz.results10, go_sem, hby.n0, hby.n1, hby.n2, hby.n3, hby.c0, hby.c1, hby.c2, hby.c3, hby.c4, hby.c5, hby.c6, hby.c7, hby.cl, hby.cg]) rfl ⟨⟨_, rfl, hrd⟩, HBz.out⟩
        · have HPR := Lib.hid (show TG = (12, gn0) by rw [HG2.out, if_neg hmd])
          have e1 : (md == 1) = false := beq_eq_false_iff_ne.2 hmd
          clear HG2
          have x0 := HXi.out.n0
          have x1 := HXi.out.n1
          have x2 := HXi.out.n2
          have x3 := HXi.out.n3
          have x4 := HXi.out.c0
          have x5 := HXi.out.c1
          have x6 := HXi.out.c2
          have x7 := HXi.out.c3
          have x8 := HXi.out.c4
          have x9 := HXi.out.c5
          have x10 := HXi.out.c6
          have x11 := HXi.out.c7
          have x12 := HXi.out.cl
          have x13 := HXi.out.cg
          have r0 := HRi.out.n0
          have r1 := HRi.out.n1
          have r2 := HRi.out.n2
          have r3 := HRi.out.n3
          have r4 := HRi.out.c0
          have r5 := HRi.out.c1
          have r6 := HRi.out.c2
          have r7 := HRi.out.c3
          have r8 := HRi.out.c4
          have r9 := HRi.out.c5
          have r10 := HRi.out.c6
          have r11 := HRi.out.c7
          have r12 := HRi.out.cl
          have r13 := HRi.out.cg
          have rf := HRi.out.f
          go_wp2_with fail
          change bodyPost _ _ _ _ _ (pts wr (w.heap.size + 1) (genL 0 0 0 0 Sl.nil 0 0))
          have hby := HRi.out.all 0 0 0 0 Sl.nil 0 0
          have HBz := Lib.hid (pts_below (B := w.heap.size) (b := (w.heap.size + 1)) (by omega) (genL 0 0 0 0 Sl.nil 0 0) HBi.out)
          have hrd := HR0.out (pts wr (w.heap.size + 1) (genL 0 0 0 0 Sl.nil 0 0))
          rw [HPR.out]
          generalize pts wr (w.heap.size + 1) (genL 0 0 0 0 Sl.nil 0 0) = V at *
          exact bodyPost_ret (v := .tuple #[genV 0 0 0 0 Sl.nil 0 0, .int .i64 12]) (by simp [results, Tryz.results10, go_sem, hby.n0, hby.n1, hby.n2, hby.n3, hby.c0, hby.c1, hby.c2, hby.c3, hby.c4, hby.c5, hby.c6, hby.c7, hby.cl, hby.cg]) rfl ⟨⟨_, rfl, hrd⟩, HBz.out⟩
end Go.Proofs.YtenkeodfijladaaGreatDoor
