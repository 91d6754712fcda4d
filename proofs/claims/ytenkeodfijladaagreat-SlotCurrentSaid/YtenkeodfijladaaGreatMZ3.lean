/- Several texts in one, each over the last: The program's Add: the walk. Printed by genHg.py. The slot's functions over a slot as a plain record; rows of ints of the call's own. The statement SlotCurrent: the walk. Printed by mkSmd.py. SlotCurrent, from what the form gives of its arguments. -/
import Derived.Test.YtenkeodfijladaaGreatGN
import Derived.Test.YtenkeodfijladaaGreatGB
import Derived.Test.YtenkeodfijladaaGreatMp
import Derived.Test.YtenkeodfijladaaGreatSD
import Derived.Test.YtenkeodfijladaaGreatSF
import Derived.Test.YtenkeodfijladaaGreatGR
import Derived.Test.YtenkeodfijladaaGreatOP
namespace Go.Proofs.YtenkeodfijladaaGreat
open Go.RowKit

theorem szL_append (l r : List Nd) : szL (l ++ r) = szL l + szL r := by
  induction l with
  | nil => simp [szL]
  | cons x l ih => rw [List.cons_append, szL_cons, szL_cons, ih, Nat.add_assoc]
theorem szL_take (l : List Nd) (k : Nat) : szL (l.take k) ≤ szL l := by
  have h := szL_append (l.take k) (l.drop k)
  rw [List.take_append_drop] at h
  omega
set_option maxRecDepth 100000 in
theorem needvalid_any (x : Nd) (a : Option Addr) (cap : Nat) (w : World) : Calls Tryz.prog 76 #[ndV x (.slice a x.data.length cap)] w fun e w' => e = .returned (.bool (decide x.ok)) ∧ Below w.heap.size w w' := by
  obtain ⟨k, c, d, l⟩ := x
  dsimp only
  have HB := Lib.hid (show Below w.heap.size w (w.alloc (.cells #[.int .u64 (k : Int), .int .u32 (c : Int), .bool d, .slice a l.length cap] 72)) from (Below.refl _ _).alloc (Nat.le_refl _) _)
  have HO := Lib.hid (show decide (Nd.ok ⟨k, c, d, l⟩) = (decide ((l.length : Int) ≤ 4096) && !(d && decide (0 < (l.length : Int)))) by
    unfold Nd.ok
    dsimp only
    have e : (l = []) ↔ ¬ 0 < l.length := by rw [← List.length_eq_zero_iff]; omega
    cases d
    · simp only [Bool.false_and, Bool.not_false, Bool.and_true, reduceCtorEq, false_imp_iff, and_true]
      exact decide_eq_decide.2 (by omega)
    · simp only [Bool.true_and, forall_const, e]
      rw [Bool.eq_iff_iff, decide_eq_true_eq, Bool.and_eq_true, decide_eq_true_eq, Bool.not_eq_true', decide_eq_false_iff_not]
      omega)
  generalize decide (Nd.ok ⟨k, c, d, l⟩) = ob at *
  generalize l.length = n at *
  go_enter Tryz.func76, Tryz.ntmps76
  by_cases h1 : (n : Int) ≤ 4096
  · have d1 : decide ((n : Int) ≤ 4096) = true := decide_eq_true h1
    cases d
    · go_wp2_with fail
      go_ret
      exact ⟨ret_bool (by rw [HO.out, d1]; rfl), HB.out⟩
    · by_cases h2 : 0 < (n : Int)
      · have d2 : decide (0 < (n : Int)) = true := decide_eq_true h2
        go_wp2_with fail
        go_ret
        have h3 : 0 < n := by omega
        exact ⟨ret_bool (by rw [HO.out, d1, d2]; simp [h3]), HB.out⟩
      · have d2 : decide (0 < (n : Int)) = false := decide_eq_false h2
        go_wp2_with fail
        go_ret
        have h3 : ¬ 0 < n := by omega
        exact ⟨ret_bool (by rw [HO.out, d1, d2]; simp [h3]), HB.out⟩
  · have d1 : decide ((n : Int) ≤ 4096) = false := decide_eq_false h1
    go_wp2_with fail
    go_ret
    exact ⟨ret_bool (by rw [HO.out, d1]; rfl), HB.out⟩
set_option maxRecDepth 100000 in
theorem addf_any (x : Nd) (a : Option Addr) (cap : Nat) (w : World) : Calls Tryz.prog 75 #[ndV x (.slice a x.data.length cap)] w fun e w' => e = .returned (.bool (!decide x.ok)) ∧ Below w.heap.size w w' := by
  have HV := Lib.hid (fun W => needvalid_any x a cap W)
  obtain ⟨W0, hW0⟩ : ∃ W0, w.alloc (.cells (ndC x (.slice a x.data.length cap)) 72) = W0 := ⟨_, rfl⟩
  have hbn := below_nd w x (.slice a x.data.length cap)
  have hdn := BoxD.new w x (.slice a x.data.length cap)
  rw [hW0] at hbn hdn
  have HD := Lib.hid hdn
  have HB := Lib.hid hbn
  clear hbn hdn
  generalize decide x.ok = ob at *
  generalize x.data.length = m at *
  go_enter Tryz.func75, Tryz.ntmps75
  go_upto_region 1 with fail
  clear hW0
  have d0 := HD.out.c0
  have d1 := HD.out.c1
  have d2 := HD.out.c2
  have d3 := HD.out.c3
  go_wp2_with fail
  refine (HV.out _).mono ?_
  rintro e w1 ⟨rfl, hb⟩
  have HB1 := Lib.hid (bstep HB.out hb)
  clear hb
  go_wp2_with fail
  go_ret
  exact ⟨rfl, HB1.out⟩
set_option maxRecDepth 100000 in
theorem idxn_any (v : Value) (es : List (Nd × Value)) (w : World) (h : RdN w v es) :
    Calls Tryz.prog 123 #[v, .func (.func 75) #[] #[]] w fun e w' => (∃ k : Int, e = .returned (.int .i64 k) ∧ decide (0 ≤ k) = !okLB (es.map (·.1))) ∧ Below w.heap.size w w' := by
  obtain ⟨a, cap, rfl, h1, h2⟩ := h.shape
  have HT := Lib.hid (show (∀ j, j < es.length → decide (nat' es j).1.ok = true) → okLB (es.map (·.1)) = true from fun hh => (okLB_iff _).2 (fun x hx => by
    obtain ⟨p, hp, rfl⟩ := List.mem_map.1 hx
    obtain ⟨j, hj, rfl⟩ := List.getElem_of_mem hp
    have := of_decide_eq_true (hh j hj)
    unfold nat' at this
    rw [List.getD_eq_getElem?_getD, List.getElem?_eq_getElem hj] at this
    exact this))
  have HF := Lib.hid (show ∀ j, j < es.length → decide (nat' es j).1.ok = false → okLB (es.map (·.1)) = false from fun j hj hf => by
    rw [Bool.eq_false_iff]
    intro ht
    exact of_decide_eq_false hf ((okLB_iff _).1 ht _ (List.mem_map_of_mem (nat'_mem hj))))
  have hm := lt63 h1 h2
  generalize hn : es.length = n at *
  have Hr := Lib.hid h
  clear h h1 h2 hn
  go_enter Tryz.func123, Tryz.ntmps123
  go_wp2_with fail
  go_loopw [8] (fun i wr => ∃ k : Nat, k ≤ n ∧ i = .int .i64 (k : Int) ∧ (∀ j, j < k → decide (nat' es j).1.ok = true) ∧ Below w.heap.size w wr) (fun i _ => n - (intOf i).toNat)
  case atStart => exact ⟨0, Nat.zero_le _, rfl, fun j hj => absurd hj (by omega), Below.refl _ _⟩
  case round =>
    obtain ⟨k, hk, rfl, hok, hb⟩ := hrel
    have Hok := Lib.hid hok
    have Hb := Lib.hid hb
    have hB := hb.size
    clear hok hb
    by_cases hlt : k < n
    · have hr := Hr.out.below Hb.out
      obtain ⟨b, off, rfl, hdat, c0, c1, c2, c3⟩ := hr.at hlt
      have HFk := Lib.hid (HF.out k hlt)
      have HOs := Lib.hid (show decide (nat' es k).1.ok = true → ∀ j, j < k + 1 → decide (nat' es j).1.ok = true from fun ho j hj => by
        by_cases e : j = k
        · subst e; exact ho
        · exact Hok.out j (by omega))
      generalize nat' es k = X at c0 c1 c2 c3 hdat HFk HOs
      obtain ⟨x, xv⟩ := X
      dsimp only at c0 c1 c2 c3 hdat HFk HOs
      obtain ⟨xa, xc, rfl, hx1, hx2⟩ := hdat.shape0
      have HV := Lib.hid fun w => addf_any x xa xc w
      clear hdat
      generalize x.data.length = xm at *
      generalize decide x.ok = ob at *
      clear hr
      go_wp2_with fail
      refine (HV.out _).mono ?_; rintro e w1 ⟨rfl, hb1⟩
      have Hb1 := Lib.hid (bstep Hb.out hb1)
      cases ob
      · clear hb1
        go_wp2_with fail
        go_ret
        refine ⟨⟨k, rfl, ?_⟩, Hb1.out⟩
        rw [HFk.out (by trivial)]; simp
      · clear hb1
        go_wp2_with fail
        exact ⟨⟨k + 1, by omega, by go_num, HOs.out (by trivial), Hb1.out⟩, by simp [intOf]; omega⟩
    · obtain rfl : k = n := by omega
      go_wp2_with fail
      go_ret
      refine ⟨⟨-1, rfl, ?_⟩, Hb.out⟩
      rw [HT.out Hok.out]; rfl
theorem contn_any (v : Value) (es : List (Nd × Value)) (w : World) (h : RdN w v es) :
    Calls Tryz.prog 74 #[v, .func (.func 75) #[] #[]] w fun e w' => e = .returned (.bool (!okLB (es.map (·.1)))) ∧ Below w.heap.size w w' := by
  have HA := Lib.hid (idxn_any v es w h)
  obtain ⟨a, cap, rfl, h1, h2⟩ := h.shape
  clear h h1 h2
  go_enter Tryz.func74, Tryz.ntmps74
  go_wp2_with fail
  refine HA.out.mono ?_; rintro e w1 ⟨⟨k, rfl, hk⟩, hb1⟩
  have Hk := Lib.hid hk
  have Hb1 := Lib.hid hb1
  clear hk hb1
  go_wp2_with fail
  go_ret
  exact ⟨ret_bool Hk.out, Hb1.out⟩
set_option maxRecDepth 100000 in
set_option maxHeartbeats 16000000 in
theorem add_any (g : Gn) (s : Sl) (v : Value) (es : List (Nd × Value)) (K : Nat) (w : World) (h : RdM w s g.m.st) (hs : ∀ i, i < 8 → (g.m.st i).length ≤ K) (hr : RdN w v es) (hK : K + es.length ≤ 9000) :
    Calls Tryz.prog 25 #[genV g.num g.rev g.mode g.size s g.m.live g.m.garb, v] w (GOwn w (addG g (es.map (·.1)))) := by
  obtain ⟨va, vc, rfl, hv1, hv2⟩ := hr.shape
  have hs9 : ∀ i, i < 8 → (g.m.st i).length ≤ 10000 := fun i hi => Nat.le_trans (hs i hi) (by omega)
  have HV := Lib.hid (fun W (hb : Below w.heap.size w W) => gvalid_any g s W (h.below hb) hs9)
  have HCf := Lib.hid (fun W (hb : Below w.heap.size w W) => contn_any _ es W (hr.below hb))
  have HRn := Lib.hid hr
  have HRm := Lib.hid h
  have HR0 := Lib.hid (show ∀ W, OwnM W w.heap.size Sl.nil gn0.m.st from fun W => OwnM.nil W _)
  have HG := Lib.hid (show addG g (es.map (·.1)) = if vldG g = true ∧ okLB (es.map (·.1)) = true then (if g.mode = 1 then (if g.size + (szL (es.map (·.1)) : Int) ≤ 1048576 then (0, addAll g (es.map (·.1))) else (9, gn0)) else (12, gn0)) else (1, gn0) from rfl)
  have HSz := Lib.hid (show vldG g = true → 16 ≤ g.size ∧ g.size ≤ 1048576 from fun hv => ⟨((vldG_iff g).1 hv).size.1, ((vldG_iff g).1 hv).size.2.1⟩)
  have HLn := Lib.hid (fun i (hi : i ≤ es.length) => addAll_len ((es.map (·.1)).take i) g hs)
  have HTk := Lib.hid (fun i (hi : i < es.length) => @take_snoc' es i hi)
  have HAll := Lib.hid (show ∀ i, szL ((es.map (·.1)).take i) ≤ szL (es.map (·.1)) from fun i => szL_take _ i)
  have HFull := Lib.hid (show (es.map (·.1)).take es.length = es.map (·.1) from List.take_of_length_le (by rw [List.length_map]; omega))
  have HOk := Lib.hid (show okLB (es.map (·.1)) = true → ∀ i, i < es.length → (nat' es i).1.ok from fun hh i hi => (okLB_iff _).1 hh _ (List.mem_map_of_mem (nat'_mem hi)))
  clear hr h hs hs9
  generalize hN : es.map (·.1) = N at *
  generalize hnn : es.length = n at *
  have Hnn := Lib.hid hnn
  clear hnn hN
  obtain ⟨gn, rv, md, z, ⟨f, L, G⟩⟩ := g
  generalize hgg : (⟨gn, rv, md, z, ⟨f, L, G⟩⟩ : Gn) = g at *
  have Hgg := Lib.hid hgg
  obtain ⟨W, hW, hbx, hbr, hbw⟩ := two_box w gn rv md z s L G 58
  have HX := Lib.hid hbx
  have HR := Lib.hid hbr
  have HB := Lib.hid hbw
  clear hbx hbr hbw
  generalize addG g N = TG at *
  generalize vldG g = vb at *
  generalize okLB N = ob at *
  subst hgg
  dsimp only at *
  go_enter Tryz.func25, Tryz.ntmps25
  go_upto_region 1 with fail
  change Code.wp _ _ _ _ ((w.alloc (.cells (genC gn rv md z s L G) 58)).alloc (.cells (genC 0 0 0 0 Sl.nil 0 0) 58))
  rw [hW]
  clear hW
  have x0 := HX.out.n0
  have x1 := HX.out.n1
  have x2 := HX.out.n2
  have x3 := HX.out.n3
  have x4 := HX.out.c0
  have x5 := HX.out.c1
  have x6 := HX.out.c2
  have x7 := HX.out.c3
  have x8 := HX.out.c4
  have x9 := HX.out.c5
  have x10 := HX.out.c6
  have x11 := HX.out.c7
  have x12 := HX.out.cl
  have x13 := HX.out.cg
  go_wp2_with fail
  refine (HV.out _ HB.out).mono ?_
  rintro e w1 ⟨rfl, hb1⟩
  have HX1 := Lib.hid (HX.out.below hb1)
  have HR1 := Lib.hid (HR.out.below hb1)
  have HB1 := Lib.hid (bstep HB.out hb1)
  have hlr : w.heap.size + 1 < W.heap.size := HR.out.lt
  clear x0 x1 x2 x3 x4 x5 x6 x7 x8 x9 x10 x11 x12 x13
  clear hb1 HX HR HB HV
  cases vb
  · have HPR := Lib.hid (show TG = (1, gn0) by rw [HG.out, if_neg (fun h => by cases h.1)])
    have r0 := HR1.out.n0
    have r1 := HR1.out.n1
    have r2 := HR1.out.n2
    have r3 := HR1.out.n3
    have r4 := HR1.out.c0
    have r5 := HR1.out.c1
    have r6 := HR1.out.c2
    have r7 := HR1.out.c3
    have r8 := HR1.out.c4
    have r9 := HR1.out.c5
    have r10 := HR1.out.c6
    have r11 := HR1.out.c7
    have r12 := HR1.out.cl
    have r13 := HR1.out.cg
    have rf := HR1.out.f
    go_wp2_with fail
    change bodyPost _ _ _ _ _ (pts w1 (w.heap.size + 1) (genL 0 0 0 0 Sl.nil 0 0))
    have hby := HR1.out.all 0 0 0 0 Sl.nil 0 0
    have HBz := Lib.hid (pts_below (B := w.heap.size) (b := (w.heap.size + 1)) (by omega) (genL 0 0 0 0 Sl.nil 0 0) HB1.out)
    have hrd := HR0.out (pts w1 (w.heap.size + 1) (genL 0 0 0 0 Sl.nil 0 0))
    rw [HPR.out]
    generalize pts w1 (w.heap.size + 1) (genL 0 0 0 0 Sl.nil 0 0) = V at *
    exact bodyPost_ret (v := .tuple #[genV 0 0 0 0 Sl.nil 0 0, .int .i64 1]) (by simp [results, Tryz.results25, go_sem, hby.n0, hby.n1, hby.n2, hby.n3, hby.c0, hby.c1, hby.c2, hby.c3, hby.c4, hby.c5, hby.c6, hby.c7, hby.cl, hby.cg]) rfl ⟨⟨_, rfl, hrd⟩, HBz.out⟩
  · obtain ⟨hz1, hz2⟩ := HSz.out rfl
    go_wp2_with fail
    refine (HCf.out _ HB1.out).mono ?_
    rintro e w2 ⟨rfl, hb2⟩
    have HX2 := Lib.hid (HX1.out.below hb2)
    have HR2 := Lib.hid (HR1.out.below hb2)
    have HB2 := Lib.hid (bstep HB1.out hb2)
    clear hb2 HX1 HR1 HB1 HCf
    cases ob
    · have HPR := Lib.hid (show TG = (1, gn0) by rw [HG.out, if_neg (fun h => by cases h.2)])
      have r0 := HR2.out.n0
      have r1 := HR2.out.n1
      have r2 := HR2.out.n2
      have r3 := HR2.out.n3
      have r4 := HR2.out.c0
      have r5 := HR2.out.c1
      have r6 := HR2.out.c2
      have r7 := HR2.out.c3
      have r8 := HR2.out.c4
      have r9 := HR2.out.c5
      have r10 := HR2.out.c6
      have r11 := HR2.out.c7
      have r12 := HR2.out.cl
      have r13 := HR2.out.cg
      have rf := HR2.out.f
      go_wp2_with fail
      change bodyPost _ _ _ _ _ (pts w2 (w.heap.size + 1) (genL 0 0 0 0 Sl.nil 0 0))
      have hby := HR2.out.all 0 0 0 0 Sl.nil 0 0
      have HBz := Lib.hid (pts_below (B := w.heap.size) (b := (w.heap.size + 1)) (by omega) (genL 0 0 0 0 Sl.nil 0 0) HB2.out)
      have hrd := HR0.out (pts w2 (w.heap.size + 1) (genL 0 0 0 0 Sl.nil 0 0))
      rw [HPR.out]
      generalize pts w2 (w.heap.size + 1) (genL 0 0 0 0 Sl.nil 0 0) = V at *
      exact bodyPost_ret (v := .tuple #[genV 0 0 0 0 Sl.nil 0 0, .int .i64 1]) (by simp [results, Tryz.results25, go_sem, hby.n0, hby.n1, hby.n2, hby.n3, hby.c0, hby.c1, hby.c2, hby.c3, hby.c4, hby.c5, hby.c6, hby.c7, hby.cl, hby.cg]) rfl ⟨⟨_, rfl, hrd⟩, HBz.out⟩
    · have HG2 := Lib.hid (show TG = (if md = 1 then (if z + (szL N : Int) ≤ 1048576 then (0, addAll ⟨gn, rv, md, z, ⟨f, L, G⟩⟩ N) else (9, gn0)) else (12, gn0)) by rw [HG.out, if_pos ⟨by trivial, by trivial⟩])
      have HOn := Lib.hid (HOk.out rfl)
      clear HG HOk
      by_cases hmd : md = 1
      · have e1 : (md == 1) = true := by rw [hmd]; rfl
        have HPF := Lib.hid (show z + (szL N : Int) ≤ 1048576 → TG = (0, addAll ⟨gn, rv, md, z, ⟨f, L, G⟩⟩ N) from fun hf => by rw [HG2.out, if_pos hmd, if_pos hf])
        have HP9 := Lib.hid (show ¬ z + (szL N : Int) ≤ 1048576 → TG = (9, gn0) from fun hf => by rw [HG2.out, if_pos hmd, if_neg hf])
        clear HG2
        subst hmd
        clear e1
        obtain ⟨g0, hg0⟩ : ∃ g0 : Gn, (⟨gn, rv, 1, z, ⟨f, L, G⟩⟩ : Gn) = g0 := ⟨_, rfl⟩
        have HLn0 := Lib.hid (show ∀ i, i ≤ n → ∀ j, j < 8 → ((addAll g0 (N.take i)).m.st j).length ≤ 9000 from fun i hi j hj => by
          have h1 := HLn.out i hi j hj
          have h2 : (N.take i).length ≤ n := by rw [List.length_take]; omega
          rw [← hg0]; omega)
        have HSt0 := Lib.hid (show ∀ i, i < n → addAll g0 (N.take (i + 1)) = addOne (addAll g0 (N.take i)) (nat' es i).1 from fun i hi => by rw [HTk.out i hi, addAll_snoc])
        have HZz := Lib.hid (show ∀ i, i ≤ n → (addAll g0 (N.take i)).size = z + (szL (N.take i) : Int) from fun i _ => by rw [addAll_size, ← hg0])
        have HTz := Lib.hid (show ∀ i, i < n → szL (N.take (i + 1)) = szL (N.take i) + szN (nat' es i).1.data.length from fun i hi => by rw [HTk.out i hi, szL_snoc])
        rw [hg0] at HPF
        have Hst := Lib.hid (show addAll g0 (N.take 0) = ⟨gn, rv, 1, z, ⟨f, L, G⟩⟩ from by rw [← hg0]; rfl)
        have HNum := Lib.hid (show (addAll g0 N).num = gn ∧ (addAll g0 N).rev = rv ∧ (addAll g0 N).mode = 1 from by rw [← hg0]; exact addAll_num N _)
        have hf0 : z + (szL (N.take 0) : Int) ≤ 1048576 := by rw [List.take_zero, szL_nil]; omega
        clear HLn HTk hg0
        have x0 := HX2.out.n0
        have x1 := HX2.out.n1
        have x2 := HX2.out.n2
        have x3 := HX2.out.n3
        have x4 := HX2.out.c0
        have x5 := HX2.out.c1
        have x6 := HX2.out.c2
        have x7 := HX2.out.c3
        have x8 := HX2.out.c4
        have x9 := HX2.out.c5
        have x10 := HX2.out.c6
        have x11 := HX2.out.c7
        have x12 := HX2.out.cl
        have x13 := HX2.out.cg
        go_wp2_with fail
        go_loopw [23] (fun iv W => ∃ (i : Nat) (si : Sl), iv = .int .i64 (i : Int) ∧ i ≤ n ∧ Hid (z + (szL (N.take i) : Int) ≤ 1048576) ∧ Hid (BoxG W w.heap.size gn rv 1 (addAll g0 (N.take i)).size si (addAll g0 (N.take i)).m.live (addAll g0 (N.take i)).m.garb) ∧ Hid (OldOwn W (w.heap.size + 2) s f si (addAll g0 (N.take i)).m.st) ∧ Hid (BoxG W (w.heap.size + 1) 0 0 0 0 Sl.nil 0 0) ∧ Hid (Below w.heap.size w W)) (fun iv _ => n - (intOf iv).toNat)
        case atStart => exact ⟨0, s, rfl, Nat.zero_le _, Lib.hid hf0, by rw [Hst.out]; exact HX2, by rw [Hst.out]; exact Lib.hid (OldOwn.refl _ _ _ _), HR2, HB2⟩
        case round =>
          obtain ⟨i, si, rfl, hi, HFi, HXj, HOj, HRj, HBj⟩ := hrel
          clear HX2 HR2 HB2 hf0
          by_cases hlt : i < n
          · have i1 : (i : Int) < (n : Int) := by omega
            obtain ⟨b, off, rfl, hdat, c0, c1, c2, c3⟩ := (HRn.out.below HBj.out).at hlt
            have HLi := Lib.hid (HLn0.out i hi)
            have HSi := Lib.hid (HSt0.out i hlt)
            have hZi := HZz.out i hi
            have hTi := HTz.out i hlt
            have hAi := HAll.out (i + 1)
            have hok := HOn.out i hlt
            have HRs := Lib.hid (HOj.out.rd HRm.out HBj.out)
            generalize nat' es i = X at c0 c1 c2 c3 hdat HSi hok hTi
            obtain ⟨x, xv⟩ := X
            dsimp only at c0 c1 c2 c3 hdat HSi hok hTi
            obtain ⟨xa, xc, rfl, hx1, hx2⟩ := hdat.shape0
            have hxm : x.data.length ≤ 4096 := hok.1
            have HSn := Lib.hid (fun W => nsize_any x.data.length W (Nat.le_trans hxm (by decide)))
            clear hdat hok
            have hxz := szN_le x.data.length
            obtain ⟨W1, hW1⟩ : ∃ W1, wr.alloc (.cells (ndC x (.slice xa x.data.length xc)) 72) = W1 := ⟨_, rfl⟩
            have hbn := below_nd wr x (.slice xa x.data.length xc)
            have hdn := BoxD.new wr x (.slice xa x.data.length xc)
            rw [hW1] at hbn hdn
            have HD := Lib.hid hdn
            have HBn := Lib.hid hbn
            clear hbn hdn
            have HXk := Lib.hid (HXj.out.below HBn.out)
            have HRk := Lib.hid (HRj.out.below HBn.out)
            have HRsk := Lib.hid (HRs.out.below HBn.out)
            have HBk := Lib.hid (bstep HBj.out HBn.out)
            have hwr := HRj.out.lt
            have hws := HBn.out.size
            go_upto_region 8 with fail
            clear hW1 c0 c1 c2 c3 HXj HRj HBj HRs
            have d0 := HD.out.c0
            have d1 := HD.out.c1
            have d2 := HD.out.c2
            have d3 := HD.out.c3
            generalize hm : x.data.length = m at *
            have Hm := Lib.hid hm
            clear hm
            go_wp2_with fail
            refine (HSn.out _).mono ?_
            rintro e w3 ⟨rfl, rfl⟩
            generalize hgi : addAll g0 (N.take i) = gi at *
            clear hgi
            obtain ⟨an, ar, am, az, ⟨af, aL, aG⟩⟩ := gi
            dsimp only at *
            have HZ := Lib.hid hZi
            have HT := Lib.hid hTi
            have HA := Lib.hid hAi
            have hfi0 := HFi.out
            clear x0 x1 x2 x3 x4 x5 x6 x7 x8 x9 x10 x11 x12 x13
            have x4 := HXk.out.c0
            have x5 := HXk.out.c1
            have x6 := HXk.out.c2
            have x7 := HXk.out.c3
            have x8 := HXk.out.c4
            have x9 := HXk.out.c5
            have x10 := HXk.out.c6
            have x11 := HXk.out.c7
            have x12 := HXk.out.cl
            have x13 := HXk.out.cg
            have x3 := HXk.out.n3
            have xf := HXk.out.f
            have hz3 : 0 ≤ az ∧ az ≤ 1048576 := by omega
            obtain ⟨hz4, hz5⟩ := hz3
            clear hZi hTi hAi hfi0
            by_cases hov : 1048576 - az < (szN m : Int)
            · have e5 : decide (1048576 - az < (szN m : Int)) = true := decide_eq_true hov
              have HPR := Lib.hid (HP9.out (by have := HZ.out; have := HT.out; have := HA.out; omega))
              have r0 := HRk.out.n0
              have r1 := HRk.out.n1
              have r2 := HRk.out.n2
              have r3 := HRk.out.n3
              have r4 := HRk.out.c0
              have r5 := HRk.out.c1
              have r6 := HRk.out.c2
              have r7 := HRk.out.c3
              have r8 := HRk.out.c4
              have r9 := HRk.out.c5
              have r10 := HRk.out.c6
              have r11 := HRk.out.c7
              have r12 := HRk.out.cl
              have r13 := HRk.out.cg
              have rf := HRk.out.f
              go_wp2_with fail
              change bodyPost _ _ _ _ _ (pts W1 (w.heap.size + 1) (genL 0 0 0 0 Sl.nil 0 0))
              have hby := HRk.out.all 0 0 0 0 Sl.nil 0 0
              have HBz := Lib.hid (pts_below (B := w.heap.size) (b := (w.heap.size + 1)) (by omega) (genL 0 0 0 0 Sl.nil 0 0) HBk.out)
              have hrd := HR0.out (pts W1 (w.heap.size + 1) (genL 0 0 0 0 Sl.nil 0 0))
              rw [HPR.out]
              generalize pts W1 (w.heap.size + 1) (genL 0 0 0 0 Sl.nil 0 0) = V at *
              exact bodyPost_ret (v := .tuple #[genV 0 0 0 0 Sl.nil 0 0, .int .i64 9]) (by simp [results, Tryz.results25, go_sem, hby.n0, hby.n1, hby.n2, hby.n3, hby.c0, hby.c1, hby.c2, hby.c3, hby.c4, hby.c5, hby.c6, hby.c7, hby.cl, hby.cg]) rfl ⟨⟨_, rfl, hrd⟩, HBz.out⟩
            have e5 : decide (1048576 - az < (szN m : Int)) = false := decide_eq_false hov
            have hfi := Lib.hid (show z + (szL (N.take (i + 1)) : Int) ≤ 1048576 by have := HZ.out; have := HT.out; omega)
            clear HZ HT HA hov
            cases hdl : x.del
            · rw [hdl] at d2
              have HP := Lib.hid (putM_any si ⟨af, aL, aG⟩ ⟨(x.key : Int), (x.ck : Int), az, (m : Int)⟩ W1 HRsk.out (fun j hj => Nat.le_trans (HLi.out j hj) (by omega)))
              have HSi2 := Lib.hid (show addAll g0 (N.take (i + 1)) = ⟨an, ar, am, az + (szN m : Nat), insM ⟨af, aL, aG⟩ ⟨(x.key : Int), (x.ck : Int), az, (m : Int)⟩⟩ by
                rw [HSi.out]; unfold addOne itA; rw [hdl, Hm.out]; rfl)
              clear HSi
              generalize insM ⟨af, aL, aG⟩ ⟨(x.key : Int), (x.ck : Int), az, (m : Int)⟩ = M4 at *
              obtain ⟨bf, bL, bG⟩ := M4
              dsimp only at HP
              go_wp2_with fail
              refine (HP.out).mono ?_
              rintro e w5 ⟨⟨s4, rfl, ho⟩, hb4⟩
              have HO5 := Lib.hid (show OldOwn w5 (w.heap.size + 2) s f s4 bf from .inr (ho.mono (by omega)))
              have HX5 := Lib.hid (HXk.out.below hb4)
              have HR5 := Lib.hid (HRk.out.below hb4)
              have HB5 := Lib.hid (bstep HBk.out hb4)
              clear x3 x4 x5 x6 x7 x8 x9 x10 x11 x12 x13 xf
              clear d0 d1 d2 d3 HXk HRk HBk HRsk HD HOj
              have x4 := HX5.out.c0
              have x5 := HX5.out.c1
              have x6 := HX5.out.c2
              have x7 := HX5.out.c3
              have x8 := HX5.out.c4
              have x9 := HX5.out.c5
              have x10 := HX5.out.c6
              have x11 := HX5.out.c7
              have x12 := HX5.out.cl
              have x13 := HX5.out.cg
              have x3 := HX5.out.n3
              have xf := HX5.out.f
              go_upto_region 14 with fail
              change Code.wp _ _ _ _ (pts w5 w.heap.size (mapL s4 bL bG))
              have HX6 := Lib.hid (HX5.out.map s4 bL bG)
              have HR6 := Lib.hid (HR5.out.pts_ne (show w.heap.size + 1 ≠ w.heap.size by omega) (mapL s4 bL bG))
              have HB6 := Lib.hid (pts_below (B := w.heap.size) (b := w.heap.size) (Nat.le_refl _) (mapL s4 bL bG) HB5.out)
              have HO6 := Lib.hid (HO5.out.pts (show w.heap.size < w.heap.size + 2 by omega) (mapL s4 bL bG))
              generalize pts w5 w.heap.size (mapL s4 bL bG) = w6 at *
              clear HX5 HR5 HB5 HO5 x3 x4 x5 x6 x7 x8 x9 x10 x11 x12 x13 xf
              have x3 := HX6.out.n3
              have xf := HX6.out.f
              go_upto_region 15 with fail
              change Code.wp _ _ _ _ (pts w6 w.heap.size [(3, .int .i64 (az + (szN m : Nat)))])
              have HX7 := Lib.hid (HX6.out.num3 (az + (szN m : Nat)))
              have HR7 := Lib.hid (HR6.out.pts_ne (show w.heap.size + 1 ≠ w.heap.size by omega) [(3, .int .i64 (az + (szN m : Nat)))])
              have HB7 := Lib.hid (pts_below (B := w.heap.size) (b := w.heap.size) (Nat.le_refl _) [(3, .int .i64 (az + (szN m : Nat)))] HB6.out)
              have HO7 := Lib.hid (HO6.out.pts (show w.heap.size < w.heap.size + 2 by omega) [(3, .int .i64 (az + (szN m : Nat)))])
              generalize pts w6 w.heap.size [(3, .int .i64 (az + (szN m : Nat)))] = w7 at *
              clear HX6 HR6 HB6 HO6 x3 xf
              go_wp2_with fail
              go_roundw
              case rel =>
                refine ⟨i + 1, s4, by go_num, by omega, hfi, ?_, ?_, HR7, HB7⟩
                · rw [HSi2.out]; exact HX7
                · rw [HSi2.out]; exact HO7
              case measure => simp [intOf]; omega
            · rw [hdl] at d2
              have HP := Lib.hid (deleteM_any si ⟨af, aL, aG⟩ (x.key : Int) W1 HRsk.out (fun j hj => Nat.le_trans (HLi.out j hj) (by omega)))
              have HSi2 := Lib.hid (show addAll g0 (N.take (i + 1)) = ⟨an, ar, am, az + (szN m : Nat), wasteM (delM ⟨af, aL, aG⟩ (x.key : Int)) (szN m : Nat)⟩ by
                rw [HSi.out]; unfold addOne; rw [hdl, Hm.out]; rfl)
              have HLd := Lib.hid (fun j hj => Nat.le_trans (delM_len8 ⟨af, aL, aG⟩ (x.key : Int) HLi.out j hj) (show 9000 ≤ 10000 by decide))
              clear HSi
              generalize delM ⟨af, aL, aG⟩ (x.key : Int) = M3 at *
              obtain ⟨df, dL, dG⟩ := M3
              dsimp only at HP
              go_wp2_with fail
              refine (HP.out).mono ?_
              rintro e w4 ⟨⟨s5, rfl, ho⟩, hb4⟩
              have HWs := Lib.hid (wasteM_any s5 ⟨df, dL, dG⟩ (szN m : Nat) w4 ho.rd HLd.out)
              have hw4 := hb4.size
              clear ho
              generalize wasteM ⟨df, dL, dG⟩ (szN m : Nat) = M4 at *
              obtain ⟨bf, bL, bG⟩ := M4
              dsimp only at HWs
              go_wp2_with fail
              refine (HWs.out).mono ?_
              rintro e w5 ⟨⟨s4, rfl, ho⟩, hb5⟩
              replace hb4 := bstep hb4 hb5
              have HO5 := Lib.hid (show OldOwn w5 (w.heap.size + 2) s f s4 bf from .inr (ho.mono (by omega)))
              have HX5 := Lib.hid (HXk.out.below hb4)
              have HR5 := Lib.hid (HRk.out.below hb4)
              have HB5 := Lib.hid (bstep HBk.out hb4)
              clear x3 x4 x5 x6 x7 x8 x9 x10 x11 x12 x13 xf
              clear d0 d1 d2 d3 HXk HRk HBk HRsk HD HOj
              have x4 := HX5.out.c0
              have x5 := HX5.out.c1
              have x6 := HX5.out.c2
              have x7 := HX5.out.c3
              have x8 := HX5.out.c4
              have x9 := HX5.out.c5
              have x10 := HX5.out.c6
              have x11 := HX5.out.c7
              have x12 := HX5.out.cl
              have x13 := HX5.out.cg
              have x3 := HX5.out.n3
              have xf := HX5.out.f
              go_upto_region 14 with fail
              change Code.wp _ _ _ _ (pts w5 w.heap.size (mapL s4 bL bG))
              have HX6 := Lib.hid (HX5.out.map s4 bL bG)
              have HR6 := Lib.hid (HR5.out.pts_ne (show w.heap.size + 1 ≠ w.heap.size by omega) (mapL s4 bL bG))
              have HB6 := Lib.hid (pts_below (B := w.heap.size) (b := w.heap.size) (Nat.le_refl _) (mapL s4 bL bG) HB5.out)
              have HO6 := Lib.hid (HO5.out.pts (show w.heap.size < w.heap.size + 2 by omega) (mapL s4 bL bG))
              generalize pts w5 w.heap.size (mapL s4 bL bG) = w6 at *
              clear HX5 HR5 HB5 HO5 x3 x4 x5 x6 x7 x8 x9 x10 x11 x12 x13 xf
              have x3 := HX6.out.n3
              have xf := HX6.out.f
              go_upto_region 15 with fail
              change Code.wp _ _ _ _ (pts w6 w.heap.size [(3, .int .i64 (az + (szN m : Nat)))])
              have HX7 := Lib.hid (HX6.out.num3 (az + (szN m : Nat)))
              have HR7 := Lib.hid (HR6.out.pts_ne (show w.heap.size + 1 ≠ w.heap.size by omega) [(3, .int .i64 (az + (szN m : Nat)))])
              have HB7 := Lib.hid (pts_below (B := w.heap.size) (b := w.heap.size) (Nat.le_refl _) [(3, .int .i64 (az + (szN m : Nat)))] HB6.out)
              have HO7 := Lib.hid (HO6.out.pts (show w.heap.size < w.heap.size + 2 by omega) [(3, .int .i64 (az + (szN m : Nat)))])
              generalize pts w6 w.heap.size [(3, .int .i64 (az + (szN m : Nat)))] = w7 at *
              clear HX6 HR6 HB6 HO6 x3 xf
              go_wp2_with fail
              go_roundw
              case rel =>
                refine ⟨i + 1, s4, by go_num, by omega, hfi, ?_, ?_, HR7, HB7⟩
                · rw [HSi2.out]; exact HX7
                · rw [HSi2.out]; exact HO7
              case measure => simp [intOf]; omega
          · have hin : i = n := by omega
            rw [hin, HFull.out] at HXj HOj HFi
            rw [hin]
            have HPR := Lib.hid (HPF.out HFi.out)
            have HRs := Lib.hid (HOj.out.rd HRm.out HBj.out)
            have HLf := Lib.hid (show ∀ j, j < 8 → ((addAll g0 N).m.st j).length ≤ 10000 from fun j hj => by
              have := HLn0.out n (Nat.le_refl _) j hj
              rw [HFull.out] at this
              omega)
            clear hin hi
            obtain ⟨hn1, hn2, hn3⟩ := HNum.out
            generalize hgA : addAll g0 N = gA at *
            obtain ⟨an, ar, am, az, ⟨af, aL, aG⟩⟩ := gA
            dsimp only at HXj HOj hn1 hn2 hn3 HPR HRs HLf
            subst hn1 hn2 hn3
            clear hgA
            have HWs := Lib.hid (wasteM_any si ⟨af, aL, aG⟩ 0 wr HRs.out HLf.out)
            rw [wasteM_zero] at HWs
            dsimp only at HWs
            have hlr2 := HRj.out.lt
            have x4 := HXj.out.c0
            have x5 := HXj.out.c1
            have x6 := HXj.out.c2
            have x7 := HXj.out.c3
            have x8 := HXj.out.c4
            have x9 := HXj.out.c5
            have x10 := HXj.out.c6
            have x11 := HXj.out.c7
            have x12 := HXj.out.cl
            have x13 := HXj.out.cg
            have xf := HXj.out.f
            go_wp2_with fail
            refine (HWs.out).mono ?_
            rintro e w3 ⟨⟨s3, rfl, ho3⟩, hb3⟩
            have HX3 := Lib.hid (HXj.out.below hb3)
            have HR3 := Lib.hid (HRj.out.below hb3)
            have HB3 := Lib.hid (bstep HBj.out hb3)
            have HO3 := Lib.hid (ho3.mono (show w.heap.size + 2 ≤ wr.heap.size by omega))
            clear hb3 ho3 HXj HRj HBj HOj HWs HRs xf x4 x5 x6 x7 x8 x9 x10 x11 x12 x13
            have x4 := HX3.out.c0
            have x5 := HX3.out.c1
            have x6 := HX3.out.c2
            have x7 := HX3.out.c3
            have x8 := HX3.out.c4
            have x9 := HX3.out.c5
            have x10 := HX3.out.c6
            have x11 := HX3.out.c7
            have x12 := HX3.out.cl
            have x13 := HX3.out.cg
            have xf := HX3.out.f
            go_upto_region 17 with fail
            change Code.wp _ _ _ _ (pts w3 w.heap.size (mapL s3 aL aG))
            have HX4 := Lib.hid (HX3.out.map s3 aL aG)
            have HR4 := Lib.hid (HR3.out.pts_ne (show w.heap.size + 1 ≠ w.heap.size by omega) (mapL s3 aL aG))
            have HB4 := Lib.hid (pts_below (B := w.heap.size) (b := w.heap.size) (Nat.le_refl _) (mapL s3 aL aG) HB3.out)
            have HO4 := Lib.hid (HO3.out.pts (show w.heap.size < w.heap.size + 2 by omega) (mapL s3 aL aG))
            generalize pts w3 w.heap.size (mapL s3 aL aG) = w4 at *
            clear HX3 HR3 HB3 HO3 xf x4 x5 x6 x7 x8 x9 x10 x11 x12 x13
            have x0 := HX4.out.n0
            have x1 := HX4.out.n1
            have x2 := HX4.out.n2
            have x3 := HX4.out.n3
            have x4 := HX4.out.c0
            have x5 := HX4.out.c1
            have x6 := HX4.out.c2
            have x7 := HX4.out.c3
            have x8 := HX4.out.c4
            have x9 := HX4.out.c5
            have x10 := HX4.out.c6
            have x11 := HX4.out.c7
            have x12 := HX4.out.cl
            have x13 := HX4.out.cg
            have r0 := HR4.out.n0
            have r1 := HR4.out.n1
            have r2 := HR4.out.n2
            have r3 := HR4.out.n3
            have r4 := HR4.out.c0
            have r5 := HR4.out.c1
            have r6 := HR4.out.c2
            have r7 := HR4.out.c3
            have r8 := HR4.out.c4
            have r9 := HR4.out.c5
            have r10 := HR4.out.c6
            have r11 := HR4.out.c7
            have r12 := HR4.out.cl
            have r13 := HR4.out.cg
            have rf := HR4.out.f
            go_wp2_with fail
            change bodyPost _ _ _ _ _ (pts w4 (w.heap.size + 1) (genL an ar 1 az s3 aL aG))
            have hby := HR4.out.all an ar 1 az s3 aL aG
            have HBz := Lib.hid (pts_below (B := w.heap.size) (b := (w.heap.size + 1)) (by omega) (genL an ar 1 az s3 aL aG) HB4.out)
            have hrd := (HO4.out.pts (show w.heap.size + 1 < w.heap.size + 2 by omega) (genL an ar 1 az s3 aL aG)).mono (show w.heap.size ≤ w.heap.size + 2 by omega)
            rw [HPR.out]
            generalize pts w4 (w.heap.size + 1) (genL an ar 1 az s3 aL aG) = V at *
            exact bodyPost_ret (v := .tuple #[genV an ar 1 az s3 aL aG, .int .i64 0]) (by simp [results, Tryz.results25, go_sem, hby.n0, hby.n1, hby.n2, hby.n3, hby.c0, hby.c1, hby.c2, hby.c3, hby.c4, hby.c5, hby.c6, hby.c7, hby.cl, hby.cg]) rfl ⟨⟨_, rfl, hrd⟩, HBz.out⟩
      · have HPR := Lib.hid (show TG = (12, gn0) by rw [HG2.out, if_neg hmd])
        have e1 : (md == 1) = false := beq_eq_false_iff_ne.2 hmd
        clear HG2
        have x0 := HX2.out.n0
        have x1 := HX2.out.n1
        have x2 := HX2.out.n2
        have x3 := HX2.out.n3
        have x4 := HX2.out.c0
        have x5 := HX2.out.c1
        have x6 := HX2.out.c2
        have x7 := HX2.out.c3
        have x8 := HX2.out.c4
        have x9 := HX2.out.c5
        have x10 := HX2.out.c6
        have x11 := HX2.out.c7
        have x12 := HX2.out.cl
        have x13 := HX2.out.cg
        have r0 := HR2.out.n0
        have r1 := HR2.out.n1
        have r2 := HR2.out.n2
        have r3 := HR2.out.n3
        have r4 := HR2.out.c0
        have r5 := HR2.out.c1
        have r6 := HR2.out.c2
        have r7 := HR2.out.c3
        have r8 := HR2.out.c4
        have r9 := HR2.out.c5
        have r10 := HR2.out.c6
        have r11 := HR2.out.c7
        have r12 := HR2.out.cl
        have r13 := HR2.out.cg
        have rf := HR2.out.f
        go_wp2_with fail
        change bodyPost _ _ _ _ _ (pts w2 (w.heap.size + 1) (genL 0 0 0 0 Sl.nil 0 0))
        have hby := HR2.out.all 0 0 0 0 Sl.nil 0 0
        have HBz := Lib.hid (pts_below (B := w.heap.size) (b := (w.heap.size + 1)) (by omega) (genL 0 0 0 0 Sl.nil 0 0) HB2.out)
        have hrd := HR0.out (pts w2 (w.heap.size + 1) (genL 0 0 0 0 Sl.nil 0 0))
        rw [HPR.out]
        generalize pts w2 (w.heap.size + 1) (genL 0 0 0 0 Sl.nil 0 0) = V at *
        exact bodyPost_ret (v := .tuple #[genV 0 0 0 0 Sl.nil 0 0, .int .i64 12]) (by simp [results, Tryz.results25, go_sem, hby.n0, hby.n1, hby.n2, hby.n3, hby.c0, hby.c1, hby.c2, hby.c3, hby.c4, hby.c5, hby.c6, hby.c7, hby.cl, hby.cg]) rfl ⟨⟨_, rfl, hrd⟩, HBz.out⟩
end Go.Proofs.YtenkeodfijladaaGreat

namespace Go.Proofs.YtenkeodfijladaaGreat
open Go.RowKit

theorem find_law (s : Slt) (a : Option Addr) (n c : Nat) (L : List GP) (W : World) (hr : RdG W (.slice a n c) L) (hg : gns L = s.gens) (hl : LenS 54 s.gens) (key : Int) :
    Calls Tryz.prog 14 #[sloV s.id s.lim s.ro a n c, .int .u64 key] W fun e w' => e = .returned (.tuple #[plV ((allSl s key).headD fnd0), .bool (!(allSl s key).isEmpty)]) ∧ Below W.heap.size W w' := by
  have h := sfind_any s.id s.lim s.ro a n c L W hr (len_gns (hg ▸ hl) (by decide)) key
  obtain ⟨i, l, r, g⟩ := s
  dsimp only at hg h ⊢
  subst hg
  exact h
theorem change_law (s : Slt) (a : Option Addr) (n c : Nat) (L : List GP) (W : World) (hr : RdG W (.slice a n c) L) (hg : gns L = s.gens) (hs : LenS 54 s.gens) (g : Gn) (sl : Sl) (hm : RdM W sl g.m.st) (hl : ∀ j, j < 8 → (g.m.st j).length ≤ 10000) :
    Calls Tryz.prog 23 #[sloV s.id s.lim s.ro a n c, genV g.num g.rev g.mode g.size sl g.m.live g.m.garb] W (SRes W (chgS s g)) := by
  have h := schg_any s.id s.lim s.ro a n c L W hr (len_gns (hg ▸ hs) (by decide)) (g, sl) hm hl
  obtain ⟨i, l, r, gs⟩ := s
  dsimp only at hg h ⊢
  subst hg
  exact h
theorem rotate_law (s : Slt) (a : Option Addr) (n c : Nat) (L : List GP) (W : World) (hr : RdG W (.slice a n c) L) (hg : gns L = s.gens) (hl : LenS 54 s.gens) :
    Calls Tryz.prog 27 #[sloV s.id s.lim s.ro a n c] W (SRes W (rotS s)) := by
  have h := srot_any s.id s.lim s.ro a n c L W hr (len_gns (hg ▸ hl) (by decide))
  obtain ⟨i, l, r, g⟩ := s
  dsimp only at hg h ⊢
  subst hg
  exact h
theorem top_law (s : Slt) (a : Option Addr) (n c : Nat) (L : List GP) (W : World) (hr : RdG W (.slice a n c) L) (hg : gns L = s.gens) (hl : LenS 54 s.gens) :
    Calls Tryz.prog 24 #[sloV s.id s.lim s.ro a n c] W (GOwn W (topS s)) := by
  have h := top_any s.id s.lim s.ro a n c L W hr (len_gns (hg ▸ hl) (by decide))
  obtain ⟨i, l, r, g⟩ := s
  dsimp only at hg h ⊢
  subst hg
  exact h
end Go.Proofs.YtenkeodfijladaaGreat

namespace Go.Proofs.YtenkeodfijladaaGreat
open Go.RowKit

theorem nat_ndk {es : List (Nd × Value)} {l : List Nd} (h : es.map (·.1) = l) {j : Nat} (hj : j < es.length) : (nat' es j).1 = ndk l j := by
  subst h
  unfold ndk nat'
  rw [List.getD_eq_getElem?_getD, List.getD_eq_getElem?_getD, List.getElem?_map, List.getElem?_eq_getElem hj]
  rfl
/-- What the law asks, by the index of the last needle. -/
def NowOk' (l : List Nd) (_key la gn : Int) (now : Fnd) (has : Bool) (was : Fnd) (had : Bool) : Prop :=
  (la = -1 → has = had ∧ now = was) ∧ (¬ la = -1 → ((ndk l la.toNat).del = true → ¬ (has = true ∧ now.gen = gn)) ∧ ((ndk l la.toNat).del = false → has = true ∧ now.gen = gn ∧ now.it.ck = ((ndk l la.toNat).ck : Int) ∧ now.it.size = ((ndk l la.toNat).data.length : Int)))
theorem NowOk.cases {S : Slt} {l : List Nd} {key gn : Int} {now : Fnd} {has : Bool} {was : Fnd} {had : Bool} (h : NowOk S l key now has was had) (hg : (topG S).num = gn) : NowOk' l key (lastK l key l.length) gn now has was had := by
  unfold NowOk at h
  rw [hg] at h
  refine ⟨fun h1 => by rw [if_pos h1] at h; exact h, fun h1 => ?_⟩
  rw [if_neg h1] at h
  refine ⟨fun h2 => by rw [if_pos h2] at h; exact h, fun h2 => ?_⟩
  rw [if_neg (by rw [h2]; decide)] at h
  exact h
set_option maxRecDepth 100000 in
set_option maxHeartbeats 32000000 in
theorem scurrent_law (v : Value) (ac : List AcP) (vl : Value) (ns : List (Nd × Value)) (key : Int) (w : World) (hA : RdA w v ac) (hN : RdN w vl ns) (hwf : ∀ p ∈ ns, p.1.Wf) :
    Calls Tryz.prog 5 #[v, vl, .int .u64 key] w fun e w' => e = .returned (.bool true) ∧ Below w.heap.size w w' := by
  obtain ⟨va, vc, rfl, hv1, hv2⟩ := hA.shape
  obtain ⟨na, nc, rfl, hn1, hn2⟩ := hN.shape
  have HMa := Lib.hid (smade_any _ ac w hA)
  have HSm := Lib.hid (fun W (hb : Below w.heap.size w W) => (ssmall_any _ ns W (hN.below hb) hwf).mono fun e w' hq => Sm6R.nd hq (hN.below hb))
  have HAw := Lib.hid (fun W => sawake_any W)
  have hI := madeS_inv ac
  have hok := sm6L_ok (ns.map (·.1))
  have h6 := sm6L_len (ns.map (·.1))
  have h4 := szL_sm6 (ns.map (·.1))
  have hf := addT_fit hI.v hI.len hI.siz hI.lim hok h6 h4
  have HNow := Lib.hid (fun k => now_ok hI.v hf hok k)
  have HRot := Lib.hid (fun (h : (rotS (madeS ac)).2 = 0) k => rot_ok hI.v h k)
  have HRe := Lib.hid (rotS_err hI.v)
  have HTp := Lib.hid (topS_ok hI.v)
  have HSV := Lib.hid hI.v
  have HL0 := Lib.hid (show LenS 54 (madeS ac).gens from hI.len.mono (by decide))
  have HTl := Lib.hid (show ∀ i, i < 8 → ((topG (madeS ac)).m.st i).length ≤ 48 from hI.len _ (topG_mem hI.v))
  have HGl := Lib.hid (show ∀ i, i < 8 → ((addAll (topG (madeS ac)) (sm6L (ns.map (·.1)))).m.st i).length ≤ 54 from fun i hi => Nat.le_trans (addAll_len _ _ (hI.len _ (topG_mem hI.v)) i hi) (by omega))
  have HL1 := Lib.hid (show LenS 54 (addT (madeS ac) (sm6L (ns.map (·.1)))).gens from fun g hg i hi => by
    rcases List.mem_or_eq_of_mem_set hg with hg | rfl
    · exact HL0.out g hg i hi
    · exact HGl.out i hi)
  have HCt := Lib.hid (chg_at hI.v hf.2)
  have HL2 := Lib.hid (show LenS 54 (rotS (madeS ac)).1.gens from fun g hg i hi => by
    have hr := rotS_err hI.v
    rcases hr with hr | hr
    · rw [rotS_ok hr] at hg
      rcases List.mem_append.1 hg with hg | hg
      · exact HL0.out g (List.mem_of_mem_take hg) i hi
      · simp only [List.mem_cons, List.not_mem_nil, or_false] at hg
        rcases hg with rfl | rfl
        · exact HL0.out _ (topG_mem hI.v) i hi
        · exact Nat.zero_le _
    · have e : (rotS (madeS ac)).1 = slt0 := by
        unfold rotS at hr ⊢
        rw [if_pos ((vldSl_iff _).2 hI.v)] at hr ⊢
        split
        · rename_i h8; rw [if_pos h8] at hr; cases hr
        · rfl
      rw [e] at hg; cases hg)
  have HAg := Lib.hid hf.1
  have HTm := Lib.hid (show (topG (madeS ac)).mode = 1 from hI.v.topv.2.1)
  have HGn := Lib.hid (addAll_num (sm6L (ns.map (·.1))) (topG (madeS ac)))
  have hn8 := hI.v.len
  have HAd := Lib.hid (show ∀ s lv es W, RdM W s (topG (madeS ac)).m.st → RdN W lv es → es.map (·.1) = sm6L (ns.map (·.1)) → Calls Tryz.prog 25 #[genV (topG (madeS ac)).num (topG (madeS ac)).rev (topG (madeS ac)).mode (topG (madeS ac)).size s (topG (madeS ac)).m.live (topG (madeS ac)).m.garb, lv] W (GOwn W (0, addAll (topG (madeS ac)) (sm6L (ns.map (·.1))))) from fun s lv es W h1 h2 h3 => by
    have h5 := add_any (topG (madeS ac)) s lv es 48 W h1 HTl.out h2 (by
      have := congrArg List.length h3
      rw [List.length_map] at this
      omega)
    rw [h3, HAg.out] at h5
    exact h5)
  have HSL := Lib.hid h6
  clear hI hok h6 h4 hf HTl HAg hA hN hwf hv1 hv2 hn1 hn2
  generalize madeS ac = S at *
  generalize sm6L (ns.map (·.1)) = SN at *
  generalize ac.length = an at *
  generalize ns.length = nn at *
  have HCh := Lib.hid (show ∀ a n c L W, RdG W (.slice a n c) L → gns L = S.gens → ∀ s9, RdM W s9 (addAll (topG S) SN).m.st → Calls Tryz.prog 23 #[sloV S.id S.lim S.ro a n c, genV (addAll (topG S) SN).num (addAll (topG S) SN).rev (addAll (topG S) SN).mode (addAll (topG S) SN).size s9 (addAll (topG S) SN).m.live (addAll (topG S) SN).m.garb] W (SRes W (addT S SN, 0)) from fun a n c L W h1 h2 s9 h3 => by
    have h := change_law S a n c L W h1 h2 HL0.out (addAll (topG S) SN) s9 h3 (fun i hi => Nat.le_trans (HGl.out i hi) (by decide))
    rw [HCt.out] at h
    exact h)
  have HRt := Lib.hid (fun a n c L W (h1 : RdG W (.slice a n c) L) (h2 : gns L = S.gens) => rotate_law S a n c L W h1 h2 HL0.out)
  have HTc := Lib.hid (show ∀ a n c L W, RdG W (.slice a n c) L → gns L = S.gens → Calls Tryz.prog 24 #[sloV S.id S.lim S.ro a n c] W (GOwn W (0, topG S)) from fun a n c L W h1 h2 => by
    have h := top_law S a n c L W h1 h2 HL0.out
    rw [HTp.out] at h
    exact h)
  have HF0 := Lib.hid (fun a n c L W (h1 : RdG W (.slice a n c) L) (h2 : gns L = S.gens) k => find_law S a n c L W h1 h2 HL0.out k)
  have HF1 := Lib.hid (fun a n c L W (h1 : RdG W (.slice a n c) L) (h2 : gns L = (addT S SN).gens) k => find_law (addT S SN) a n c L W h1 h2 HL1.out k)
  have HF2 := Lib.hid (fun a n c L W (h1 : RdG W (.slice a n c) L) (h2 : gns L = (rotS S).1.gens) k => find_law (rotS S).1 a n c L W h1 h2 HL2.out k)
  clear HCt HTp HGl HL0 HL1 HL2
  obtain ⟨T, hT⟩ : ∃ T, T = topG S := ⟨_, rfl⟩
  rw [← hT] at HAd HCh HTc HTm HGn
  have HTn := Lib.hid (show (topG S).num = T.num by rw [hT])
  clear hT
  obtain ⟨G, hG⟩ : ∃ G, G = addAll T SN := ⟨_, rfl⟩
  rw [← hG] at HAd HCh HGn
  clear hG
  obtain ⟨rs, hrs⟩ : ∃ rs, rs = rotS S := ⟨_, rfl⟩
  rw [← hrs] at HRt HF2 HRot HRe
  clear hrs
  obtain ⟨S2, re⟩ := rs
  obtain ⟨S1, hS1⟩ : ∃ S1, S1 = addT S SN := ⟨_, rfl⟩
  rw [← hS1] at HCh HF1 HNow
  clear hS1
  dsimp only at HF2 HRot HRe
  obtain ⟨tn, tr, tm, tz, ⟨tf, tL, tG⟩⟩ := T
  obtain ⟨gn, gr, gm, gz, ⟨gf, gL, gG⟩⟩ := G
  obtain ⟨e1, e2, e3⟩ := HGn.out
  have e4 := HTm.out
  dsimp only at e1 e2 e3 e4
  subst e1 e2 e3 e4
  clear HGn HTm
  dsimp only at HAd HCh HTc HTn
  go_enter Tryz.func5, Tryz.ntmps5
  go_wp2_with fail
  refine HMa.out.mono ?_
  rintro e w1 ⟨⟨ma, mn, mc, mL, rfl, hmr, hmg⟩, hb⟩
  have HB := Lib.hid hb
  clear hb HMa
  have hm8 : mn ≤ 1000000 := by
    have h1 := hmr.len
    rw [← hmg, gns_len] at hn8
    omega
  go_wp2_with fail
  refine (sgiven_any S.id S.lim S.ro ma mn mc mL w1 hmr hm8).mono ?_
  rintro e w2 ⟨⟨ga, gc, rfl, hgr⟩, hb⟩
  replace HB := Lib.hid (bstep HB.out hb)
  have HG := Lib.hid hgr
  have HGg := Lib.hid hmg
  clear hb hmr hm8 hgr hmg hn8
  go_upto_region 2 with fail
  change Code.wp _ _ _ _ (w2.alloc (.cells (sloC S.id S.lim S.ro ga mn gc) 41))
  have hb := (Below.refl w2.heap.size w2).alloc (Nat.le_refl _) (.cells (sloC S.id S.lim S.ro ga mn gc) 41)
  have HS := Lib.hid (BlkE.new w2 (sloC S.id S.lim S.ro ga mn gc) 41)
  replace HB := Lib.hid (bstep HB.out hb)
  replace HG := Lib.hid (HG.out.below hb)
  clear hb
  generalize w2.alloc (.cells (sloC S.id S.lim S.ro ga mn gc) 41) = w3 at *
  generalize w2.heap.size = b7 at *
  have k0 := HS.out.slo.c0
  have k1 := HS.out.slo.c1
  have k2 := HS.out.slo.c2
  have k3 := HS.out.slo.c3
  go_wp2_with fail
  refine (HTc.out ga mn gc mL w3 HG.out HGg.out).mono ?_
  rintro e w4 ⟨⟨sT, rfl, ho⟩, hb⟩
  dsimp only
  clear k0 k1 k2 k3
  replace HB := Lib.hid (bstep HB.out hb)
  replace HS := Lib.hid (HS.out.below hb)
  replace HG := Lib.hid (HG.out.below hb)
  clear hb
  have RT := Lib.hid (show RdM w4 sT tf from ho.rd)
  clear ho HTc
  go_upto_region 3 with fail
  change Code.wp _ _ _ _ (w4.alloc (.cells (genC gn gr 1 tz sT tL tG) 58))
  have hb := (Below.refl w4.heap.size w4).alloc (Nat.le_refl _) (.cells (genC gn gr 1 tz sT tL tG) 58)
  have H8 := Lib.hid (BlkE.new w4 (genC gn gr 1 tz sT tL tG) 58)
  replace HB := Lib.hid (bstep HB.out hb)
  replace HS := Lib.hid (HS.out.below hb)
  replace HG := Lib.hid (HG.out.below hb)
  replace RT := Lib.hid (RT.out.below hb)
  clear hb
  generalize w4.alloc (.cells (genC gn gr 1 tz sT tL tG) 58) = v5 at *
  generalize w4.heap.size = b8 at *
  have X8 := Lib.hid H8.out.gen
  clear H8
  have HAA := Lib.hid (show ∀ lv es W, Below v5.heap.size v5 W → RdN W lv es → es.map (·.1) = SN → Calls Tryz.prog 25 #[genV gn gr 1 tz sT tL tG, lv] W (GR W 0 gn gr 1 gz gf gL gG) from fun lv es W hb h2 h3 => HAd.out sT lv es W (RT.out.below hb) h2 h3)
  go_cut [10, 11] (fun vb ve wx => ∃ b s, vb = .pointer (some ⟨b, 0, none⟩) ∧ ve = .int .i64 0 ∧ v5.heap.size ≤ b ∧ Hid (BoxG wx b gn gr 1 gz s gL gG) ∧ Hid (OwnM wx 0 s gf) ∧ Hid (BlkT 58 wx b) ∧ Hid (Below v5.heap.size v5 wx))
  case first =>
    refine wp_region_late [eqS (genV gn gr 1 tz sT tL tG), eqS (.slice na nn nc), needL (SN), tupS 0 gn gr 1 gz gf gL gG, tupS 0 gn gr 1 gz gf gL gG, genS gn gr 1 gz gf gL gG, eqS (.int .i64 0), boxGS 58 v5.heap.size] [7] 185 6 (by kernel_rfl) (by kernel_rfl) rfl rfl (by decide) (by rfl) (by kernel_rfl) (fun f => by simp [frm, dstOf, Act.put]; exact rfl) ?_ ?_ ?_
    · refine ⟨?_, ?_, ?_, ?_, ?_, ?_, ?_, ?_, trivial⟩
      · intro f w1 hb hd
        clear hd
        dsimp only
        have hx := X8.out.below hb
        have q0 := hx.n0
        have q1 := hx.n1
        have q2 := hx.n2
        have q3 := hx.n3
        have q4 := hx.c0
        have q5 := hx.c1
        have q6 := hx.c2
        have q7 := hx.c3
        have q8 := hx.c4
        have q9 := hx.c5
        have q10 := hx.c6
        have q11 := hx.c7
        have q12 := hx.cl
        have q13 := hx.cg
        clear hx
        go_wp2_with fail
        exact ⟨rfl, Below.refl _ _, fun t ht => by injection ht with ht; subst ht; exact ⟨rfl, fun h => by simp at h⟩⟩
      · intro f w1 hb hd
        clear hd
        dsimp only
        go_wp2_with fail
        exact ⟨rfl, Below.refl _ _, fun t ht => by injection ht with ht; subst ht; exact ⟨rfl, fun h => by simp at h⟩⟩
      · intro f w1 hb hd
        have d1 : f 1 = (.slice na nn nc) := hd 1 (by kernel_rfl)
        clear hd
        dsimp only
        rw [d1]
        go_wp2_with fail
        refine (HSm.out w1 (bstep HB.out hb)).mono ?_
        rintro e w9 ⟨qa, qn, qc, es, rfl, hrd, hes, hb9⟩
        go_wp2_with fail
        exact ⟨rfl, hb9, fun t ht => by injection ht with ht; subst ht; exact ⟨⟨qa, qn, qc, es, rfl, hrd, hes⟩, fun h => by simp at h⟩⟩
      · intro f w1 hb hd
        have d0 : f 0 = (genV gn gr 1 tz sT tL tG) := hd 0 (by kernel_rfl)
        obtain ⟨a2, n2, c2, e2, d2, r2, m2⟩ := show ∃ a n c es, f 2 = .slice a n c ∧ RdN w1 (.slice a n c) es ∧ es.map (·.1) = SN from hd 2 (by kernel_rfl)
        clear hd
        dsimp only
        rw [d0]
        rw [d2]
        go_wp2_with fail
        refine (HAA.out _ e2 w1 hb r2 m2).mono ?_
        rintro e w9 ⟨⟨s9, rfl, ho9⟩, hb9⟩
        go_wp2_with fail
        exact ⟨rfl, hb9, fun t ht => by injection ht with ht; subst ht; exact ⟨⟨s9, rfl, ho9.mono (Nat.zero_le _)⟩, fun h => by simp at h⟩⟩
      · intro f w1 hb hd
        obtain ⟨s3, d3, r3⟩ := show ∃ s, f 3 = .tuple #[genV gn gr 1 gz s gL gG, .int .i64 0] ∧ OwnM w1 0 s gf from hd 3 (by kernel_rfl)
        clear hd
        dsimp only
        rw [d3]
        go_wp2_with fail
        exact ⟨rfl, Below.refl _ _, fun t ht => by injection ht with ht; subst ht; exact ⟨⟨s3, rfl, r3⟩, fun h => by simp at h⟩⟩
      · intro f w1 hb hd
        obtain ⟨s4, d4, r4⟩ := show ∃ s, f 4 = .tuple #[genV gn gr 1 gz s gL gG, .int .i64 0] ∧ OwnM w1 0 s gf from hd 4 (by kernel_rfl)
        clear hd
        dsimp only
        rw [d4]
        go_wp2_with fail
        exact ⟨rfl, Below.refl _ _, fun t ht => by injection ht with ht; subst ht; exact ⟨⟨s4, rfl, r4⟩, fun h => by simp at h⟩⟩
      · intro f w1 hb hd
        obtain ⟨s4, d4, r4⟩ := show ∃ s, f 4 = .tuple #[genV gn gr 1 gz s gL gG, .int .i64 0] ∧ OwnM w1 0 s gf from hd 4 (by kernel_rfl)
        clear hd
        dsimp only
        rw [d4]
        go_wp2_with fail
        exact ⟨rfl, Below.refl _ _, fun t ht => by injection ht with ht; subst ht; exact ⟨rfl, fun h => by simp at h⟩⟩
      · intro f w1 hb hd
        clear hd
        dsimp only
        have hbs := hb.size
        have hnw := BoxG.new w1 0 0 0 0 Sl.nil 0 0 58
        have hty := BlkT.new 58 w1 (genC 0 0 0 0 Sl.nil 0 0)
        go_wp2_with fail
        exact ⟨rfl, below_gen w1 0 0 0 0 Sl.nil 0 0 58, fun t ht => by injection ht with ht; subst ht; exact ⟨⟨_, rfl, hbs, hnw, hty⟩, fun _ => ⟨Nat.le_refl _, by simp [blk]⟩⟩⟩
    · intro f w5 hb hd hff
      clear hff
      obtain ⟨s5, d5, r5⟩ := show ∃ s, f 5 = genV gn gr 1 gz s gL gG ∧ OwnM w5 0 s gf from hd 5 (show 5 < 8 by decide)
      have d6 : f 6 = .int .i64 0 := hd 6 (show 6 < 8 by decide)
      obtain ⟨b7, d7, lo7, bx7, ty7⟩ := show ∃ b, f 7 = .pointer (some ⟨b, 0, none⟩) ∧ v5.heap.size ≤ b ∧ BoxG w5 b 0 0 0 0 Sl.nil 0 0 ∧ BlkT 58 w5 b from hd 7 (show 7 < 8 by decide)
      try dsimp only
      rw [d5, d6, d7]
      clear hd d5 d6 d7
      have hbn := Lib.hid (pts_below (B := v5.heap.size) (b := b7) lo7 (genL gn gr 1 gz s5 gL gG) hb)
      have HX5 := Lib.hid bx7
      have HL5 := Lib.hid lo7
      have HN5 := Lib.hid (bx7.all gn gr 1 gz s5 gL gG)
      have HR5 := Lib.hid (r5.pts_neG (ty7.ne (by decide) r5) (genL gn gr 1 gz s5 gL gG))
      have HT5 := Lib.hid (ty7.pts (c := b7) (genL gn gr 1 gz s5 gL gG))
      clear bx7 r5 ty7 hb lo7
      generalize f 0 = zq0, f 1 = zq1, f 2 = zq2, f 3 = zq3, f 4 = zq4
      clear f
      have x0 := HX5.out.n0
      have x1 := HX5.out.n1
      have x2 := HX5.out.n2
      have x3 := HX5.out.n3
      have x4 := HX5.out.c0
      have x5 := HX5.out.c1
      have x6 := HX5.out.c2
      have x7 := HX5.out.c3
      have x8 := HX5.out.c4
      have x9 := HX5.out.c5
      have x10 := HX5.out.c6
      have x11 := HX5.out.c7
      have x12 := HX5.out.cl
      have x13 := HX5.out.cg
      have xf := HX5.out.f
      change wpList _ _ _ (_ :: _ :: []) _ _
      go_wp2_with fail
      go_meet
      case rel => exact ⟨b7, s5, rfl, rfl, HL5.out, HN5, HR5, HT5, hbn⟩
    · intro f w5 hb hd hff
      clear hff
      obtain ⟨s5, d5, r5⟩ := show ∃ s, f 5 = genV gn gr 1 gz s gL gG ∧ OwnM w5 0 s gf from hd 5 (show 5 < 8 by decide) (show 5 ≠ 6 by decide)
      obtain ⟨s4, d4, r4⟩ := show ∃ s, f 4 = .tuple #[genV gn gr 1 gz s gL gG, .int .i64 0] ∧ OwnM w5 0 s gf from hd 4 (show 4 < 8 by decide) (show 4 ≠ 6 by decide)
      clear r4
      obtain ⟨b7, d7, lo7, bx7, ty7⟩ := show ∃ b, f 7 = .pointer (some ⟨b, 0, none⟩) ∧ v5.heap.size ≤ b ∧ BoxG w5 b 0 0 0 0 Sl.nil 0 0 ∧ BlkT 58 w5 b from hd 7 (show 7 < 8 by decide) (show 7 ≠ 6 by decide)
      try dsimp only
      rw [d4, d5, d7]
      clear hd d4 d5 d7
      have hbn := Lib.hid (pts_below (B := v5.heap.size) (b := b7) lo7 (genL gn gr 1 gz s5 gL gG) hb)
      have HX5 := Lib.hid bx7
      have HL5 := Lib.hid lo7
      have HN5 := Lib.hid (bx7.all gn gr 1 gz s5 gL gG)
      have HR5 := Lib.hid (r5.pts_neG (ty7.ne (by decide) r5) (genL gn gr 1 gz s5 gL gG))
      have HT5 := Lib.hid (ty7.pts (c := b7) (genL gn gr 1 gz s5 gL gG))
      clear bx7 r5 ty7 hb lo7
      generalize f 0 = zq0, f 1 = zq1, f 2 = zq2, f 3 = zq3, f 6 = zq6
      clear f
      have x0 := HX5.out.n0
      have x1 := HX5.out.n1
      have x2 := HX5.out.n2
      have x3 := HX5.out.n3
      have x4 := HX5.out.c0
      have x5 := HX5.out.c1
      have x6 := HX5.out.c2
      have x7 := HX5.out.c3
      have x8 := HX5.out.c4
      have x9 := HX5.out.c5
      have x10 := HX5.out.c6
      have x11 := HX5.out.c7
      have x12 := HX5.out.cl
      have x13 := HX5.out.cg
      have xf := HX5.out.f
      change wpList _ _ _ (_ :: _ :: _ :: []) _ _
      go_wp2_with fail
      go_meet
      case rel => exact ⟨b7, s5, rfl, rfl, HL5.out, HN5, HR5, HT5, hbn⟩
  case rest =>
  obtain ⟨bXT, sXT, rfl, rfl, loXT, XT, RXT, TXT, hbn⟩ := hcut
  generalize hwc : wc = w6 at *
  clear hwc
  replace HB := Lib.hid (bstep HB.out hbn.out)
  replace HS := Lib.hid (HS.out.below hbn.out)
  replace HG := Lib.hid (HG.out.below hbn.out)
  replace X8 := Lib.hid (X8.out.below hbn.out)
  clear hbn
  have RXr := Lib.hid RXT.out.rd
  clear RT HAA HAd RXT TXT loXT
  have k0 := HS.out.slo.c0
  have k1 := HS.out.slo.c1
  have k2 := HS.out.slo.c2
  have k3 := HS.out.slo.c3
  have c0 := XT.out.n0
  have c1 := XT.out.n1
  have c2 := XT.out.n2
  have c3 := XT.out.n3
  have c4 := XT.out.c0
  have c5 := XT.out.c1
  have c6 := XT.out.c2
  have c7 := XT.out.c3
  have c8 := XT.out.c4
  have c9 := XT.out.c5
  have c10 := XT.out.c6
  have c11 := XT.out.c7
  have c12 := XT.out.cl
  have c13 := XT.out.cg
  go_wp2_with fail
  refine (HCh.out ga mn gc mL w6 HG.out HGg.out sXT RXr.out).mono ?_
  rintro e w7 ⟨⟨a1, n1, c1', L1, rfl, hr1, hg1⟩, hb⟩
  dsimp only
  clear c0 c1 c2 c3 c4 c5 c6 c7 c8 c9 c10 c11 c12 c13
  clear k0 k1 k2 k3
  replace HB := Lib.hid (bstep HB.out hb)
  replace HS := Lib.hid (HS.out.below hb)
  replace HG := Lib.hid (HG.out.below hb)
  replace X8 := Lib.hid (X8.out.below hb)
  clear hb
  have H1r := Lib.hid hr1
  have H1g := Lib.hid hg1
  clear hr1 hg1 XT RXr HCh
  go_upto_region 5 with fail
  change Code.wp _ _ _ _ (w7.alloc (.cells (sloC S1.id S1.lim S1.ro a1 n1 c1') 41))
  have hb := (Below.refl w7.heap.size w7).alloc (Nat.le_refl _) (.cells (sloC S1.id S1.lim S1.ro a1 n1 c1') 41)
  have HS1 := Lib.hid (BlkE.new w7 (sloC S1.id S1.lim S1.ro a1 n1 c1') 41)
  replace HB := Lib.hid (bstep HB.out hb)
  replace HS := Lib.hid (HS.out.below hb)
  replace HG := Lib.hid (HG.out.below hb)
  replace X8 := Lib.hid (X8.out.below hb)
  replace H1r := Lib.hid (H1r.out.below hb)
  clear hb
  generalize w7.alloc (.cells (sloC S1.id S1.lim S1.ro a1 n1 c1') 41) = w8 at *
  generalize w7.heap.size = b12 at *
  have k0 := HS.out.slo.c0
  have k1 := HS.out.slo.c1
  have k2 := HS.out.slo.c2
  have k3 := HS.out.slo.c3
  go_wp2_with fail
  refine (HRt.out ga mn gc mL w8 HG.out HGg.out).mono ?_
  rintro e w9 ⟨⟨a2, n2, c2', L2, rfl, hr2, hg2⟩, hb⟩
  dsimp only
  clear k0 k1 k2 k3
  replace HB := Lib.hid (bstep HB.out hb)
  replace HS := Lib.hid (HS.out.below hb)
  replace HG := Lib.hid (HG.out.below hb)
  replace X8 := Lib.hid (X8.out.below hb)
  replace H1r := Lib.hid (H1r.out.below hb)
  replace HS1 := Lib.hid (HS1.out.below hb)
  clear hb
  have H2r := Lib.hid hr2
  have H2g := Lib.hid hg2
  clear hr2 hg2 HRt
  go_upto_region 6 with fail
  change Code.wp _ _ _ _ (w9.alloc (.cells (sloC S2.id S2.lim S2.ro a2 n2 c2') 41))
  have hb := (Below.refl w9.heap.size w9).alloc (Nat.le_refl _) (.cells (sloC S2.id S2.lim S2.ro a2 n2 c2') 41)
  have HS2 := Lib.hid (BlkE.new w9 (sloC S2.id S2.lim S2.ro a2 n2 c2') 41)
  replace HB := Lib.hid (bstep HB.out hb)
  replace HS := Lib.hid (HS.out.below hb)
  replace HG := Lib.hid (HG.out.below hb)
  replace X8 := Lib.hid (X8.out.below hb)
  replace H1r := Lib.hid (H1r.out.below hb)
  replace HS1 := Lib.hid (HS1.out.below hb)
  replace H2r := Lib.hid (H2r.out.below hb)
  clear hb
  generalize w9.alloc (.cells (sloC S2.id S2.lim S2.ro a2 n2 c2') 41) = va0 at *
  generalize w9.heap.size = b14 at *
  have hre := HRe.out
  go_cut [70] (fun v wx => v = .bool false ∧ wx = va0)
  case first =>
    rcases hre with hre | hre
    · subst hre
      go_wp2_with fail
      go_meet
      case rel => exact ⟨rfl, rfl⟩
    · subst hre
      go_wp2_with fail
      go_meet
      case rel => exact ⟨rfl, rfl⟩
  case rest =>
    obtain ⟨rfl, hwc⟩ := hcut
    generalize wc = va1 at *
    subst hwc
    clear hre
    go_wp2_with fail
    go_loopw [16] (fun kv W => ∃ k : Nat, kv = .int .u64 (k : Int) ∧ k ≤ 8 ∧ Hid (Below va1.heap.size va1 W)) (fun kv _ => 8 - (intOf kv).toNat)
    case atStart => exact ⟨0, rfl, Nat.zero_le _, Lib.hid (Below.refl _ _)⟩
    case round =>
      obtain ⟨k, rfl, hk, HBk⟩ := hrel
      by_cases hlt : k < 8
      · have q1 : (k : Int) < 8 := by omega
        have hk0 : (0 : Int) ≤ (k : Int) := by omega
        obtain ⟨kk, hkk⟩ : ∃ kk : Int, (k : Int) = kk := ⟨_, rfl⟩
        rw [hkk] at q1 hk0 ⊢
        have Hkk := Lib.hid hkk
        clear hkk
        have HNk := Lib.hid (HNow.out kk)
        have HRk := Lib.hid (fun h => HRot.out h kk)
        have HFa := Lib.hid (fun W (hb : Below va1.heap.size va1 W) => HF0.out ga mn gc mL W (HG.out.below hb) HGg.out kk)
        have HFb := Lib.hid (fun W (hb : Below va1.heap.size va1 W) => HF1.out a1 n1 c1' L1 W (H1r.out.below hb) H1g.out kk)
        have HFc := Lib.hid (fun W (hb : Below va1.heap.size va1 W) => HF2.out a2 n2 c2' L2 W (H2r.out.below hb) H2g.out kk)
        have HSa := Lib.hid (HS.out.below HBk.out)
        have HSb := Lib.hid (HS1.out.below HBk.out)
        have HSc := Lib.hid (HS2.out.below HBk.out)
        have X8k := Lib.hid (X8.out.below HBk.out)
        clear HNow HRot HF0 HF1 HF2
        generalize (!(allSl S kk).isEmpty) = had at *
        generalize (!(allSl S1 kk).isEmpty) = has at *
        generalize (!(allSl S2 kk).isEmpty) = hao at *
        generalize (allSl S kk).headD fnd0 = Y at *
        generalize (allSl S1 kk).headD fnd0 = N at *
        generalize (allSl S2 kk).headD fnd0 = O at *
        dsimp only [plV, plC] at HFa HFb HFc
        have k0 := HSa.out.slo.c0
        have k1 := HSa.out.slo.c1
        have k2 := HSa.out.slo.c2
        have k3 := HSa.out.slo.c3
        go_wp2_with fail
        refine (HFa.out wr HBk.out).mono ?_
        rintro e v1 ⟨rfl, hb⟩
        clear k0 k1 k2 k3 HFa
        replace HSa := Lib.hid (HSa.out.below hb)
        replace HSb := Lib.hid (HSb.out.below hb)
        replace HSc := Lib.hid (HSc.out.below hb)
        replace X8k := Lib.hid (X8k.out.below hb)
        replace HBk := Lib.hid (bstep HBk.out hb)
        clear hb
        go_upto_region 12 with fail
        change Code.wp _ _ _ _ (v1.alloc (.cells #[.int .i64 Y.gen, .int .i64 Y.mode, .int .i64 Y.rev, .int .u64 Y.it.key, .int .u32 Y.it.ck, .int .i64 Y.it.off, .int .i64 Y.it.size] 36))
        have hb := (Below.refl v1.heap.size v1).alloc (Nat.le_refl _) (.cells #[.int .i64 Y.gen, .int .i64 Y.mode, .int .i64 Y.rev, .int .u64 Y.it.key, .int .u32 Y.it.ck, .int .i64 Y.it.off, .int .i64 Y.it.size] 36)
        have HPY := Lib.hid (BlkE.new v1 #[.int .i64 Y.gen, .int .i64 Y.mode, .int .i64 Y.rev, .int .u64 Y.it.key, .int .u32 Y.it.ck, .int .i64 Y.it.off, .int .i64 Y.it.size] 36)
        replace HSa := Lib.hid (HSa.out.below hb)
        replace HSb := Lib.hid (HSb.out.below hb)
        replace HSc := Lib.hid (HSc.out.below hb)
        replace X8k := Lib.hid (X8k.out.below hb)
        replace HBk := Lib.hid (bstep HBk.out hb)
        clear hb
        generalize v1.alloc (.cells #[.int .i64 Y.gen, .int .i64 Y.mode, .int .i64 Y.rev, .int .u64 Y.it.key, .int .u32 Y.it.ck, .int .i64 Y.it.off, .int .i64 Y.it.size] 36) = v2 at *
        generalize v1.heap.size = bY at *
        have k0 := HSb.out.slo.c0
        have k1 := HSb.out.slo.c1
        have k2 := HSb.out.slo.c2
        have k3 := HSb.out.slo.c3
        go_wp2_with fail
        refine (HFb.out v2 HBk.out).mono ?_
        rintro e v3 ⟨rfl, hb⟩
        clear k0 k1 k2 k3 HFb
        replace HSa := Lib.hid (HSa.out.below hb)
        replace HSb := Lib.hid (HSb.out.below hb)
        replace HSc := Lib.hid (HSc.out.below hb)
        replace X8k := Lib.hid (X8k.out.below hb)
        replace HBk := Lib.hid (bstep HBk.out hb)
        replace HPY := Lib.hid (HPY.out.below hb)
        clear hb
        go_upto_if 88 with fail
        change Code.wp _ _ _ _ (v3.alloc (.cells #[.int .i64 N.gen, .int .i64 N.mode, .int .i64 N.rev, .int .u64 N.it.key, .int .u32 N.it.ck, .int .i64 N.it.off, .int .i64 N.it.size] 36))
        have hb := (Below.refl v3.heap.size v3).alloc (Nat.le_refl _) (.cells #[.int .i64 N.gen, .int .i64 N.mode, .int .i64 N.rev, .int .u64 N.it.key, .int .u32 N.it.ck, .int .i64 N.it.off, .int .i64 N.it.size] 36)
        have HPN := Lib.hid (BlkE.new v3 #[.int .i64 N.gen, .int .i64 N.mode, .int .i64 N.rev, .int .u64 N.it.key, .int .u32 N.it.ck, .int .i64 N.it.off, .int .i64 N.it.size] 36)
        replace HSa := Lib.hid (HSa.out.below hb)
        replace HSb := Lib.hid (HSb.out.below hb)
        replace HSc := Lib.hid (HSc.out.below hb)
        replace X8k := Lib.hid (X8k.out.below hb)
        replace HBk := Lib.hid (bstep HBk.out hb)
        replace HPY := Lib.hid (HPY.out.below hb)
        clear hb
        generalize v3.alloc (.cells #[.int .i64 N.gen, .int .i64 N.mode, .int .i64 N.rev, .int .u64 N.it.key, .int .u32 N.it.ck, .int .i64 N.it.off, .int .i64 N.it.size] 36) = v4 at *
        generalize v3.heap.size = bN at *
        go_cut [20] (fun hv wx => hv = .bool has ∧ Hid (Below v4.heap.size v4 wx))
        case first =>
          rcases HRe.out with hre | hre
          · subst hre
            obtain ⟨og, om, or_, oit, oa⟩ := O
            obtain ⟨h1, h2, h3⟩ := HRk.out rfl
            dsimp only at h1 h2 h3 HFc
            subst h1 h2 h3
            clear HRk
            have k0 := HSc.out.slo.c0
            have k1 := HSc.out.slo.c1
            have k2 := HSc.out.slo.c2
            have k3 := HSc.out.slo.c3
            go_wp2_with fail
            refine (HFc.out v4 HBk.out).mono ?_
            rintro e v5 ⟨rfl, hb⟩
            clear k0 k1 k2 k3 HFc
            have HBq := Lib.hid hb
            replace HPY := Lib.hid (HPY.out.below hb)
            clear hb
            go_upto_region 15 with fail
            change Code.wp _ _ _ _ (v5.alloc (.cells #[.int .i64 Y.gen, .int .i64 om, .int .i64 or_, .int .u64 Y.it.key, .int .u32 Y.it.ck, .int .i64 Y.it.off, .int .i64 Y.it.size] 36))
            have hb := (Below.refl v5.heap.size v5).alloc (Nat.le_refl _) (.cells #[.int .i64 Y.gen, .int .i64 om, .int .i64 or_, .int .u64 Y.it.key, .int .u32 Y.it.ck, .int .i64 Y.it.off, .int .i64 Y.it.size] 36)
            have HPO := Lib.hid (BlkE.new v5 #[.int .i64 Y.gen, .int .i64 om, .int .i64 or_, .int .u64 Y.it.key, .int .u32 Y.it.ck, .int .i64 Y.it.off, .int .i64 Y.it.size] 36)
            replace HBq := Lib.hid (bstep HBq.out hb)
            replace HPY := Lib.hid (HPY.out.below hb)
            clear hb
            generalize v5.alloc (.cells #[.int .i64 Y.gen, .int .i64 om, .int .i64 or_, .int .u64 Y.it.key, .int .u32 Y.it.ck, .int .i64 Y.it.off, .int .i64 Y.it.size] 36) = v6 at *
            generalize v5.heap.size = bO at *
            have p0 := HPY.out.cell (i := 0) rfl
            have r0 := HPO.out.cell (i := 0) rfl
            have p1 := HPY.out.cell (i := 1) rfl
            have r1 := HPO.out.cell (i := 1) rfl
            have p2 := HPY.out.cell (i := 2) rfl
            have r2 := HPO.out.cell (i := 2) rfl
            have p3 := HPY.out.cell (i := 3) rfl
            have r3 := HPO.out.cell (i := 3) rfl
            have p4 := HPY.out.cell (i := 4) rfl
            have r4 := HPO.out.cell (i := 4) rfl
            have p5 := HPY.out.cell (i := 5) rfl
            have r5 := HPO.out.cell (i := 5) rfl
            have p6 := HPY.out.cell (i := 6) rfl
            have r6 := HPO.out.cell (i := 6) rfl
            go_wp2_with fail
            go_meet
            case rel => exact ⟨rfl, HBq⟩
          · subst hre
            go_wp2_with fail
            go_meet
            case rel => exact ⟨rfl, Lib.hid (Below.refl _ _)⟩
        case rest =>
          obtain ⟨rfl, HBq⟩ := hcut
          generalize wc = v7 at *
          clear HFc HRk HSa HSb HSc
          replace X8k := Lib.hid (X8k.out.below HBq.out)
          replace HBk := Lib.hid (bstep HBk.out HBq.out)
          replace HPY := Lib.hid (HPY.out.below HBq.out)
          replace HPN := Lib.hid (HPN.out.below HBq.out)
          clear HBq
          go_wp2_with fail
          refine (HSm.out v7 (bstep HB.out HBk.out)).mono ?_
          rintro e v8 ⟨sa, sn, sc, es, rfl, hrd, hes, hb⟩
          have hsn : es.length = sn := by
            obtain ⟨_, _, e1, _⟩ := hrd.shape
            injection e1 with _ e1 _; exact e1.symm
          have hs6 : sn ≤ 6 := by
            have h1 := HSL.out
            rw [← hes, List.length_map] at h1
            omega
          have HSn := Lib.hid (show SN.length = sn by rw [← hes, List.length_map]; exact hsn)
          have HNd := Lib.hid (fun j (hj : j < sn) => nat_ndk hes (hsn ▸ hj))
          have HRd := Lib.hid hrd
          replace X8k := Lib.hid (X8k.out.below hb)
          replace HBk := Lib.hid (bstep HBk.out hb)
          replace HPY := Lib.hid (HPY.out.below hb)
          replace HPN := Lib.hid (HPN.out.below hb)
          clear hb hes hsn hrd
          go_wp2_with fail
          go_loopw [23, 115] (fun lv jv W => ∃ j : Nat, jv = .int .i64 (j : Int) ∧ j ≤ sn ∧ lv = .int .i64 (lastK SN kk j) ∧ Hid (Below v8.heap.size v8 W)) (fun _ jv _ => sn - (intOf jv).toNat)
          case atStart => exact ⟨0, rfl, Nat.zero_le _, rfl, Lib.hid (Below.refl _ _)⟩
          case round =>
            obtain ⟨j, rfl, hj, rfl, HBj⟩ := hrel
            by_cases hjn : j < sn
            · have j1 : (j : Int) < (sn : Int) := by omega
              obtain ⟨b, off, e0, hd, c0, c1, c2, c3⟩ := (HRd.out.below HBj.out).at hjn
              subst e0
              obtain ⟨xa, xc', hxv, hx1, hx2⟩ := hd.shape0
              rw [hxv] at c3
              rw [HNd.out j hjn] at c0 c1 c2 c3
              clear hd hxv hx1 hx2
              have HLk := Lib.hid (show lastK SN kk (j + 1) = if ((ndk SN j).key : Int) = kk then (j : Int) else lastK SN kk j from rfl)
              generalize lastK SN kk j = l0 at *
              generalize ((ndk SN j).key : Int) = xk at *
              generalize ((ndk SN j).ck : Int) = xq at *
              generalize (ndk SN j).del = xd at *
              generalize (ndk SN j).data.length = xn at *
              go_upto_region 21 with fail
              change Code.wp _ _ _ _ (wr.alloc (.cells #[.int .u64 xk, .int .u32 xq, .bool xd, .slice xa xn xc'] 72))
              have hb := (Below.refl wr.heap.size wr).alloc (Nat.le_refl _) (.cells #[.int .u64 xk, .int .u32 xq, .bool xd, .slice xa xn xc'] 72)
              have HX := Lib.hid (BlkE.new wr #[.int .u64 xk, .int .u32 xq, .bool xd, .slice xa xn xc'] 72)
              replace HBj := Lib.hid (bstep HBj.out hb)
              clear hb c0 c1 c2 c3
              generalize wr.alloc (.cells #[.int .u64 xk, .int .u32 xq, .bool xd, .slice xa xn xc'] 72) = u1 at *
              generalize wr.heap.size = bx at *
              have c0 := HX.out.cell (i := 0) rfl
              by_cases hx : xk = kk
              · have hb0 : (xk == kk) = true := by simpa using hx
                have HL := Lib.hid (show lastK SN kk (j + 1) = (j : Int) by rw [HLk.out, if_pos hx])
                clear hx HLk
                go_wp2_with fail
                exact ⟨⟨j + 1, by go_num, by omega, by rw [HL.out], HBj⟩, by simp [intOf]; omega⟩
              · have hb0 : (xk == kk) = false := by simpa using hx
                have HL := Lib.hid (show lastK SN kk (j + 1) = l0 by rw [HLk.out, if_neg hx])
                clear hx HLk
                go_wp2_with fail
                exact ⟨⟨j + 1, by go_num, by omega, by rw [HL.out], HBj⟩, by simp [intOf]; omega⟩
            · have j1 : ¬ (j : Int) < (sn : Int) := by omega
              have hjs : j = sn := by omega
              have HNo := Lib.hid (show NowOk' SN kk (lastK SN kk j) gn N has Y had by
                have h1 := HNk.out.cases HTn.out
                rw [HSn.out, ← hjs] at h1
                exact h1)
              have HLr := Lib.hid (show lastK SN kk j = -1 ∨ (0 ≤ lastK SN kk j ∧ lastK SN kk j < (sn : Int)) from hjs ▸ lastK_range SN kk j)
              subst hjs
              generalize lastK SN kk j = la at *
              replace X8k := Lib.hid (X8k.out.below HBj.out)
              replace HBk := Lib.hid (bstep HBk.out HBj.out)
              replace HPY := Lib.hid (HPY.out.below HBj.out)
              replace HPN := Lib.hid (HPN.out.below HBj.out)
              clear HBj HNk HRd HNd
              by_cases hla : la = -1
              · subst hla
                obtain ⟨h1, h2⟩ := HNo.out.1 rfl
                subst h1 h2
                clear HNo HLr
                have p0 := HPY.out.cell (i := 0) rfl
                have r0 := HPN.out.cell (i := 0) rfl
                have p1 := HPY.out.cell (i := 1) rfl
                have r1 := HPN.out.cell (i := 1) rfl
                have p2 := HPY.out.cell (i := 2) rfl
                have r2 := HPN.out.cell (i := 2) rfl
                have p3 := HPY.out.cell (i := 3) rfl
                have r3 := HPN.out.cell (i := 3) rfl
                have p4 := HPY.out.cell (i := 4) rfl
                have r4 := HPN.out.cell (i := 4) rfl
                have p5 := HPY.out.cell (i := 5) rfl
                have r5 := HPN.out.cell (i := 5) rfl
                have p6 := HPY.out.cell (i := 6) rfl
                have r6 := HPN.out.cell (i := 6) rfl
                go_wp2_with fail
                exact ⟨⟨k + 1, by rw [← Hkk.out]; go_num, by omega, HBk⟩, by simp [intOf]; omega⟩
              · obtain ⟨m, rfl⟩ : ∃ m : Nat, la = (m : Int) := ⟨la.toNat, by have := HLr.out; omega⟩
                have hm : m < j := by have := HLr.out; omega
                have i1 : ¬ (m : Int) < 0 := by omega
                have HN2 := Lib.hid (HNo.out.2 hla)
                rw [Int.toNat_natCast] at HN2
                clear hla HNo HLr
                go_wp2_with fail
                refine (HSm.out wr (bstep HB.out HBk.out)).mono ?_
                rintro e u1 ⟨ta, tn', tc, fs, rfl, hrd, hes, hb⟩
                have hsn : fs.length = tn' := by
                  obtain ⟨_, _, e1, _⟩ := hrd.shape
                  injection e1 with _ e1 _; exact e1.symm
                have hst : tn' = j := by rw [← HSn.out, ← hes, List.length_map]; exact hsn.symm
                subst hst
                have hnd := nat_ndk hes (show m < fs.length by omega)
                replace X8k := Lib.hid (X8k.out.below hb)
                replace HBk := Lib.hid (bstep HBk.out hb)
                replace HPN := Lib.hid (HPN.out.below hb)
                obtain ⟨b, off, e0, hd, c0, c1, c2, c3⟩ := hrd.at hm
                subst e0
                obtain ⟨xa, xc', hxv, hx1, hx2⟩ := hd.shape0
                rw [hxv] at c3
                rw [hnd] at c0 c1 c2 c3
                clear hd hxv hx1 hx2 hnd hrd hes hb hsn HPY
                generalize ((ndk SN m).key : Int) = xk at *
                generalize ((ndk SN m).ck : Int) = xq at *
                generalize (ndk SN m).del = xd at *
                generalize (ndk SN m).data.length = xn at *
                have i2 : (m : Int) < (tn' : Int) := by omega
                go_upto_region 28 with fail
                change Code.wp _ _ _ _ (u1.alloc (.cells #[.int .u64 xk, .int .u32 xq, .bool xd, .slice xa xn xc'] 72))
                have hb := (Below.refl u1.heap.size u1).alloc (Nat.le_refl _) (.cells #[.int .u64 xk, .int .u32 xq, .bool xd, .slice xa xn xc'] 72)
                have HX := Lib.hid (BlkE.new u1 #[.int .u64 xk, .int .u32 xq, .bool xd, .slice xa xn xc'] 72)
                replace X8k := Lib.hid (X8k.out.below hb)
                replace HBk := Lib.hid (bstep HBk.out hb)
                replace HPN := Lib.hid (HPN.out.below hb)
                clear hb c0 c1 c2 c3
                generalize u1.alloc (.cells #[.int .u64 xk, .int .u32 xq, .bool xd, .slice xa xn xc'] 72) = u2 at *
                generalize u1.heap.size = bx at *
                have c0 := HX.out.cell (i := 0) rfl
                have c1 := HX.out.cell (i := 1) rfl
                have c2 := HX.out.cell (i := 2) rfl
                have c3 := HX.out.cell (i := 3) rfl
                have g0 := X8k.out.n0
                obtain ⟨ng, nm, nr, ⟨nk, nq, no, nz⟩, nat_⟩ := N
                dsimp only at HPN HN2
                have p0 := HPN.out.cell (i := 0) rfl
                have p1 := HPN.out.cell (i := 1) rfl
                have p2 := HPN.out.cell (i := 2) rfl
                have p3 := HPN.out.cell (i := 3) rfl
                have p4 := HPN.out.cell (i := 4) rfl
                have p5 := HPN.out.cell (i := 5) rfl
                have p6 := HPN.out.cell (i := 6) rfl
                cases xd with
                | false =>
                  obtain ⟨h1, h2, h3, h4⟩ := HN2.out.2 rfl
                  subst h1 h2 h3 h4
                  clear HN2
                  go_wp2_with fail
                  exact ⟨⟨k + 1, by rw [← Hkk.out]; go_num, by omega, HBk⟩, by simp [intOf]; omega⟩
                | true =>
                  have h1 := HN2.out.1 rfl
                  clear HN2
                  cases has with
                  | false =>
                    clear h1
                    go_wp2_with fail
                    exact ⟨⟨k + 1, by rw [← Hkk.out]; go_num, by omega, HBk⟩, by simp [intOf]; omega⟩
                  | true =>
                    have hb1 : (ng == gn) = false := by
                      have : ng ≠ gn := fun e => h1 ⟨rfl, e⟩
                      simpa using this
                    clear h1
                    go_wp2_with fail
                    exact ⟨⟨k + 1, by rw [← Hkk.out]; go_num, by omega, HBk⟩, by simp [intOf]; omega⟩
      · have q1 : ¬ (k : Int) < 8 := by omega
        replace HB := Lib.hid (bstep HB.out HBk.out)
        go_wp2_with fail
        refine (HAw.out _).mono ?_
        rintro e w2 ⟨rfl, hb⟩
        have HBz := Lib.hid (bstep HB.out hb)
        go_wp2_with fail
        go_ret
        exact ⟨rfl, HBz.out⟩
end Go.Proofs.YtenkeodfijladaaGreat

namespace Go.Proofs.YtenkeodfijladaaGreat
open Go.RowKit

theorem scurrent_open (a : Option Addr) (n cap : Nat) (b : Option Addr) (m cap2 : Nat) (key : Int) (w : World) (h1 : ∃ l : List AcP, RdA w (.slice a n cap) l) (h3 : ∃ l : List (Nd × Value), RdN w (.slice b m cap2) l ∧ ∀ x ∈ l, x.1.Wf) (_hw : (Lit.int .u64 key).wf = true) :
    Calls Tryz.prog 5 #[.slice a n cap, .slice b m cap2, .int .u64 key] w fun e w' => e = .returned (.bool true) ∧ Below w.heap.size w w' := by
  obtain ⟨l, hl⟩ := h1
  obtain ⟨nl, h3, hf⟩ := h3
  exact scurrent_law _ l _ nl key w hl h3 hf
end Go.Proofs.YtenkeodfijladaaGreat
