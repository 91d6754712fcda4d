/- A part of the walk. -/
import Derived.Test.YtcgfilmmokmdjaaGreatHd
import Derived.Test.YtcgfilmmokmdjaaGreatQAH
import Derived.Test.YtcgfilmmokmdjaaGreatMp
set_option linter.all false
set_option maxRecDepth 100000
set_option maxHeartbeats 32000000
namespace Go.Proofs.YtcgfilmmokmdjaaGreat
open Go.RowKit
theorem zFN (l r : List Nd) : szL (l ++ r) = szL l + szL r := by
 induction l with
 | nil => simp [szL]
 | cons x l ih => rw [List.cons_append, wG, wG, ih, Nat.add_assoc]
theorem zIW (l : List Nd) (k : Nat) : szL (l.take k) ≤ szL l := by
 have h := zFN (l.take k) (l.drop k);rw [List.take_append_drop] at h;omega
theorem vu (x : Nd) (a : Option Addr) (cap : Nat) (w : World) : Calls Tryz.prog 52 #[ndV x (.slice a x.data.length cap)] w fun e w' => e = .returned (.bool (decide x.ok)) ∧ Below w.heap.size w w' := by
 obtain ⟨k, c, d, l⟩ := x;dsimp only;have HB := zh (show Below w.heap.size w (w.alloc (.cells #[.int .u64 (k : Int), .int .u32 (c : Int), .bool d, .slice a l.length cap] 56)) from (Below.refl _ _).alloc (Nat.le_refl _) _)
 have HO := zh (show decide (Nd.ok ⟨k, c, d, l⟩) = (decide ((l.length : Int) ≤ 4096) && !(d && decide (0 < (l.length : Int)))) by
  unfold Nd.ok
  dsimp only
  have e : (l = []) ↔ ¬ 0 < l.length := by rw [← List.length_eq_zero_iff]; omega
  cases d
  ·
   simp only [Bool.false_and, Bool.not_false, Bool.and_true, reduceCtorEq, false_imp_iff, and_true]
   exact decide_eq_decide.2 (by omega)
  simp only [Bool.true_and, forall_const, e]
  rw [Bool.eq_iff_iff, decide_eq_true_eq, Bool.and_eq_true, decide_eq_true_eq, Bool.not_eq_true', decide_eq_false_iff_not]
  omega)
 generalize decide (Nd.ok ⟨k, c, d, l⟩) = ob at *;generalize l.length = n at *
 go_enter Tryz.func52, Tryz.ntmps52
 by_cases h1 : (n : Int) ≤ 4096
 ·
  have d1 : decide ((n : Int) ≤ 4096) = true := decide_eq_true h1
  cases d
  ·
   go_wp2_with fail;go_ret;exact ⟨zE (by rw [HO.out, d1]; rfl), HB.out⟩
  by_cases h2 : 0 < (n : Int)
  ·
   have d2 : decide (0 < (n : Int)) = true := decide_eq_true h2;go_wp2_with fail;go_ret;have h3 : 0 < n := by omega
   exact ⟨zE (by rw [HO.out, d1, d2]; simp [h3]), HB.out⟩
  have d2 : decide (0 < (n : Int)) = false := decide_eq_false h2;go_wp2_with fail;go_ret;have h3 : ¬ 0 < n := by omega
  exact ⟨zE (by rw [HO.out, d1, d2]; simp [h3]), HB.out⟩
 have d1 : decide ((n : Int) ≤ 4096) = false := decide_eq_false h1;go_wp2_with fail;go_ret;exact ⟨zE (by rw [HO.out, d1]; rfl), HB.out⟩
theorem zIx (x : Nd) (a : Option Addr) (cap : Nat) (w : World) : Calls Tryz.prog 51 #[ndV x (.slice a x.data.length cap)] w fun e w' => e = .returned (.bool (!decide x.ok)) ∧ Below w.heap.size w w' := by
 have HV := zh (fun W => vu x a cap W);obtain ⟨W0, hW0⟩ : ∃ W0, w.alloc (.cells (ndC x (.slice a x.data.length cap)) 56) = W0 := ⟨_, rfl⟩
 have hbn := ut w x (.slice a x.data.length cap);have hdn := BoxD.new w x (.slice a x.data.length cap);rw [hW0] at hbn hdn;have HD := zh hdn;have HB := zh hbn;clear hbn hdn;generalize decide x.ok = ob at *;generalize x.data.length = m at *
 go_enter Tryz.func51, Tryz.ntmps51
 go_upto_region 1 with fail;clear hW0;obtain ⟨d0, d1, d2, d3⟩ := HD.out.q;go_wp2_with fail;refine (HV.out _).mono ?_;rintro e w1 ⟨rfl, hb⟩;have HB1 := zh (zA HB.out hb);clear hb;go_wp2_with fail;go_ret;exact ⟨rfl, HB1.out⟩
theorem zIX (v : Value) (es : List (Nd × Value)) (w : World) (h : RdN w v es) :
  Calls Tryz.prog 90 #[v, .func (.func 51) #[] #[]] w fun e w' => (∃ k : Int, e = .returned (.int .i64 k) ∧ decide (0 ≤ k) = !zAB (es.map (·.1))) ∧ Below w.heap.size w w' := by
 obtain ⟨a, cap, rfl, h1, h2⟩ := h.shape
 have HT := zh (show (∀ j, j < es.length → decide (yZ es j).1.ok = true) → zAB (es.map (·.1)) = true from fun hh => (un _).2 (fun x hx => by
  obtain ⟨p, hp, rfl⟩ := List.mem_map.1 hx
  obtain ⟨j, hj, rfl⟩ := List.getElem_of_mem hp
  have := of_decide_eq_true (hh j hj)
  unfold yZ at this
  rw [List.getD_eq_getElem?_getD, List.getElem?_eq_getElem hj] at this
  exact this))
 have HF := zh (show ∀ j, j < es.length → decide (yZ es j).1.ok = false → zAB (es.map (·.1)) = false from fun j hj hf => by
  rw [Bool.eq_false_iff]
  intro ht
  exact of_decide_eq_false hf ((un _).1 ht _ (List.mem_map_of_mem (vH hj))))
 have hm := kC h1 h2;generalize hn : es.length = n at *;have Hr := zh h;clear h h1 h2 hn
 go_enter Tryz.func90, Tryz.ntmps90
 go_wp2_with fail
 go_loopw [8] (fun i wr => ∃ k : Nat, k ≤ n ∧ i = .int .i64 (k : Int) ∧ (∀ j, j < k → decide (yZ es j).1.ok = true) ∧ Below w.heap.size w wr) (fun i _ => n - (intOf i).toNat)
 case atStart => exact ⟨0, Nat.zero_le _, rfl, fun j hj => absurd hj (by omega), Below.refl _ _⟩
 obtain ⟨k, hk, rfl, hok, hb⟩ := hrel;have Hok := zh hok;have Hb := zh hb;have hB := hb.size;clear hok hb
 by_cases hlt : k < n
 ·
  have hr := Hr.out.below Hb.out;obtain ⟨b, off, rfl, hdat, c0, c1, c2, c3⟩ := hr.at hlt;have HFk := zh (HF.out k hlt)
  have HOs := zh (show decide (yZ es k).1.ok = true → ∀ j, j < k + 1 → decide (yZ es j).1.ok = true from fun ho j hj => by
   by_cases e : j = k
   ·
    subst e; exact ho
   exact Hok.out j (by omega))
  generalize yZ es k = X at c0 c1 c2 c3 hdat HFk HOs;obtain ⟨x, xv⟩ := X;dsimp only at c0 c1 c2 c3 hdat HFk HOs;obtain ⟨xa, xc, rfl, hx1, hx2⟩ := hdat.shape0;have HV := zh fun w => zIx x xa xc w
  clear hdat;generalize x.data.length = xm at *;generalize decide x.ok = ob at *;clear hr;go_wp2_with fail;refine (HV.out _).mono ?_; rintro e w1 ⟨rfl, hb1⟩;have Hb1 := zh (zA Hb.out hb1)
  cases ob
  ·
   clear hb1;go_wp2_with fail;go_ret;refine ⟨⟨k, rfl, ?_⟩, Hb1.out⟩;rw [HFk.out (by trivial)]; simp
  clear hb1;go_wp2_with fail;exact ⟨⟨k + 1, by omega, by go_num, HOs.out (by trivial), Hb1.out⟩, by simp [intOf]; omega⟩
 obtain rfl : k = n := by omega
 go_wp2_with fail;go_ret;refine ⟨⟨-1, rfl, ?_⟩, Hb.out⟩;rw [HT.out Hok.out]; rfl
theorem zGV (v : Value) (es : List (Nd × Value)) (w : World) (h : RdN w v es) :
  Calls Tryz.prog 50 #[v, .func (.func 51) #[] #[]] w fun e w' => e = .returned (.bool (!zAB (es.map (·.1)))) ∧ Below w.heap.size w w' := by
 have HA := zh (zIX v es w h);obtain ⟨a, cap, rfl, h1, h2⟩ := h.shape;clear h h1 h2
 go_enter Tryz.func50, Tryz.ntmps50
 go_wp2_with fail;refine HA.out.mono ?_; rintro e w1 ⟨⟨k, rfl, hk⟩, hb1⟩;have Hk := zh hk;have Hb1 := zh hb1;clear hk hb1;go_wp2_with fail;go_ret;exact ⟨zE Hk.out, Hb1.out⟩
theorem zKX (g : Gn) (s : Sl) (v : Value) (es : List (Nd × Value)) (K : Nat) (w : World) (h : RdM w s g.m.st) (hs : ∀ i, i < 8 → (g.m.st i).length ≤ K) (hr : RdN w v es) (hK : K + es.length ≤ 9000) :
  Calls Tryz.prog 12 #[ze g.num g.rev g.mode g.size s g.m.live g.m.garb, v] w (zJ3 w (xM g (es.map (·.1)))) := by
 obtain ⟨va, vc, rfl, hv1, hv2⟩ := hr.shape;have hs9 : ∀ i, i < 8 → (g.m.st i).length ≤ 10000 := fun i hi => Nat.le_trans (hs i hi) (by omega)
 have HV := zh (fun W (hb : Below w.heap.size w W) => ub g s W (h.below hb) hs9);have HCf := zh (fun W (hb : Below w.heap.size w W) => zGV _ es W (hr.below hb));have HRn := zh hr;have HRm := zh h;have HR0 := zh (show ∀ W, OwnM W w.heap.size Sl.nil gn0.m.st from fun W => OwnM.nil W _);have HG := zh (show xM g (es.map (·.1)) = if wJ g = true ∧ zAB (es.map (·.1)) = true then (if g.mode = 1 then (if g.size + (szL (es.map (·.1)) : Int) ≤ 1048576 then (0, zV g (es.map (·.1))) else (9, gn0)) else (12, gn0)) else (1, gn0) from rfl);have HSz := zh (show wJ g = true → 16 ≤ g.size ∧ g.size ≤ 1048576 from fun hv => ⟨((yD g).1 hv).size.1, ((yD g).1 hv).size.2.1⟩);have HLn := zh (fun i (hi : i ≤ es.length) => xx ((es.map (·.1)).take i) g hs);have HTk := zh (fun i (hi : i < es.length) => @zA3 es i hi);have HAll := zh (show ∀ i, szL ((es.map (·.1)).take i) ≤ szL (es.map (·.1)) from fun i => zIW _ i)
 have HFull := zh (show (es.map (·.1)).take es.length = es.map (·.1) from List.take_of_length_le (by rw [List.length_map]; omega));have HOk := zh (show zAB (es.map (·.1)) = true → ∀ i, i < es.length → (yZ es i).1.ok from fun hh i hi => (un _).1 hh _ (List.mem_map_of_mem (vH hi)));clear hr h hs hs9;generalize hN : es.map (·.1) = N at *;generalize hnn : es.length = n at *;have Hnn := zh hnn;clear hnn hN;obtain ⟨gn, rv, md, z, ⟨f, L, G⟩⟩ := g;generalize hgg : (⟨gn, rv, md, z, ⟨f, L, G⟩⟩ : Gn) = g at *;have Hgg := zh hgg;obtain ⟨W, hW, hbx, hbr, hbw⟩ := vW w gn rv md z s L G 38;have HX := zh hbx;have HR := zh hbr;have HB := zh hbw;clear hbx hbr hbw;generalize xM g N = TG at *;generalize wJ g = vb at *;generalize zAB N = ob at *;subst hgg;dsimp only at *
 go_enter Tryz.func12, Tryz.ntmps12
 go_upto_region 1 with fail;change Code.wp _ _ _ _ ((w.alloc (.cells (zX gn rv md z s L G) 38)).alloc (.cells (zX 0 0 0 0 Sl.nil 0 0) 38));rw [hW];clear hW;obtain ⟨x0, x1, x2, x3, x4, x5, x6, x7, x8, x9, x10, x11, x12, x13⟩ := HX.out.q;go_wp2_with fail;refine (HV.out _ HB.out).mono ?_;rintro e w1 ⟨rfl, hb1⟩;have HX1 := zh (HX.out.below hb1);have HR1 := zh (HR.out.below hb1);have HB1 := zh (zA HB.out hb1);have hlr : w.heap.size + 1 < W.heap.size := HR.out.lt;clear x0 x1 x2 x3 x4 x5 x6 x7 x8 x9 x10 x11 x12 x13;clear hb1 HX HR HB HV
 cases vb
 ·
  have HPR := zh (show TG = (1, gn0) by rw [HG.out, if_neg (fun h => by cases h.1)]);obtain ⟨r0, r1, r2, r3, r4, r5, r6, r7, r8, r9, r10, r11, r12, r13⟩ := HR1.out.q;have rf := HR1.out.f;go_wp2_with fail;change bodyPost _ _ _ _ _ (pts w1 (w.heap.size + 1) (zO 0 0 0 0 Sl.nil 0 0));have hby := HR1.out.all 0 0 0 0 Sl.nil 0 0;have HBz := zh (zD (B := w.heap.size) (b := (w.heap.size + 1)) (by omega) (zO 0 0 0 0 Sl.nil 0 0) HB1.out);have hrd := HR0.out (pts w1 (w.heap.size + 1) (zO 0 0 0 0 Sl.nil 0 0));rw [HPR.out];generalize pts w1 (w.heap.size + 1) (zO 0 0 0 0 Sl.nil 0 0) = V at *;exact bodyPost_ret (v := .tuple #[ze 0 0 0 0 Sl.nil 0 0, .int .i64 1]) (by simp [results, Tryz.results12, go_sem, hby.n0, hby.n1, hby.n2, hby.n3, hby.c0, hby.c1, hby.c2, hby.c3, hby.c4, hby.c5, hby.c6, hby.c7, hby.cl, hby.cg]) rfl ⟨⟨_, rfl, hrd⟩, HBz.out⟩
 obtain ⟨hz1, hz2⟩ := HSz.out rfl;go_wp2_with fail;refine (HCf.out _ HB1.out).mono ?_;rintro e w2 ⟨rfl, hb2⟩;have HX2 := zh (HX1.out.below hb2);have HR2 := zh (HR1.out.below hb2);have HB2 := zh (zA HB1.out hb2);clear hb2 HX1 HR1 HB1 HCf
 cases ob
 ·
  have HPR := zh (show TG = (1, gn0) by rw [HG.out, if_neg (fun h => by cases h.2)]);obtain ⟨r0, r1, r2, r3, r4, r5, r6, r7, r8, r9, r10, r11, r12, r13⟩ := HR2.out.q;have rf := HR2.out.f;go_wp2_with fail;change bodyPost _ _ _ _ _ (pts w2 (w.heap.size + 1) (zO 0 0 0 0 Sl.nil 0 0));have hby := HR2.out.all 0 0 0 0 Sl.nil 0 0;have HBz := zh (zD (B := w.heap.size) (b := (w.heap.size + 1)) (by omega) (zO 0 0 0 0 Sl.nil 0 0) HB2.out);have hrd := HR0.out (pts w2 (w.heap.size + 1) (zO 0 0 0 0 Sl.nil 0 0));rw [HPR.out];generalize pts w2 (w.heap.size + 1) (zO 0 0 0 0 Sl.nil 0 0) = V at *;exact bodyPost_ret (v := .tuple #[ze 0 0 0 0 Sl.nil 0 0, .int .i64 1]) (by simp [results, Tryz.results12, go_sem, hby.n0, hby.n1, hby.n2, hby.n3, hby.c0, hby.c1, hby.c2, hby.c3, hby.c4, hby.c5, hby.c6, hby.c7, hby.cl, hby.cg]) rfl ⟨⟨_, rfl, hrd⟩, HBz.out⟩
 have HG2 := zh (show TG = (if md = 1 then (if z + (szL N : Int) ≤ 1048576 then (0, zV ⟨gn, rv, md, z, ⟨f, L, G⟩⟩ N) else (9, gn0)) else (12, gn0)) by rw [HG.out, if_pos ⟨by trivial, by trivial⟩]);have HOn := zh (HOk.out rfl);clear HG HOk
 by_cases hmd : md = 1
 ·
  have e1 : (md == 1) = true := by rw [hmd]; rfl
  have HPF := zh (show z + (szL N : Int) ≤ 1048576 → TG = (0, zV ⟨gn, rv, md, z, ⟨f, L, G⟩⟩ N) from fun hf => by rw [HG2.out, if_pos hmd, if_pos hf]);have HP9 := zh (show ¬ z + (szL N : Int) ≤ 1048576 → TG = (9, gn0) from fun hf => by rw [HG2.out, if_pos hmd, if_neg hf]);clear HG2;subst hmd;clear e1;obtain ⟨g0, hg0⟩ : ∃ g0 : Gn, (⟨gn, rv, 1, z, ⟨f, L, G⟩⟩ : Gn) = g0 := ⟨_, rfl⟩
  have HLn0 := zh (show ∀ i, i ≤ n → ∀ j, j < 8 → ((zV g0 (N.take i)).m.st j).length ≤ 9000 from fun i hi j hj => by
   have h1 := HLn.out i hi j hj
   have h2 : (N.take i).length ≤ n := by rw [List.length_take]; omega
   rw [← hg0]; omega)
  have HSt0 := zh (show ∀ i, i < n → zV g0 (N.take (i + 1)) = yM (zV g0 (N.take i)) (yZ es i).1 from fun i hi => by rw [HTk.out i hi, k8]);have HZz := zh (show ∀ i, i ≤ n → (zV g0 (N.take i)).size = z + (szL (N.take i) : Int) from fun i _ => by rw [wk, ← hg0]);have HTz := zh (show ∀ i, i < n → szL (N.take (i + 1)) = szL (N.take i) + szN (yZ es i).1.data.length from fun i hi => by rw [HTk.out i hi, zL2]);rw [hg0] at HPF;have Hst := zh (show zV g0 (N.take 0) = ⟨gn, rv, 1, z, ⟨f, L, G⟩⟩ from by rw [← hg0]; rfl);have HNum := zh (show (zV g0 N).num = gn ∧ (zV g0 N).rev = rv ∧ (zV g0 N).mode = 1 from by rw [← hg0]; exact qD N _);have hf0 : z + (szL (N.take 0) : Int) ≤ 1048576 := by rw [List.take_zero, zFn]; omega
  clear HLn HTk hg0;obtain ⟨x0, x1, x2, x3, x4, x5, x6, x7, x8, x9, x10, x11, x12, x13⟩ := HX2.out.q;go_wp2_with fail
  go_loopw [23] (fun iv W => ∃ (i : Nat) (si : Sl), iv = .int .i64 (i : Int) ∧ i ≤ n ∧ Hid (z + (szL (N.take i) : Int) ≤ 1048576) ∧ Hid (BoxG W w.heap.size gn rv 1 (zV g0 (N.take i)).size si (zV g0 (N.take i)).m.live (zV g0 (N.take i)).m.garb) ∧ Hid (OldOwn W (w.heap.size + 2) s f si (zV g0 (N.take i)).m.st) ∧ Hid (BoxG W (w.heap.size + 1) 0 0 0 0 Sl.nil 0 0) ∧ Hid (Below w.heap.size w W)) (fun iv _ => n - (intOf iv).toNat)
  case atStart => exact ⟨0, s, rfl, Nat.zero_le _, zh hf0, by rw [Hst.out]; exact HX2, by rw [Hst.out]; exact zh (OldOwn.refl _ _ _ _), HR2, HB2⟩
  obtain ⟨i, si, rfl, hi, HFi, HXj, HOj, HRj, HBj⟩ := hrel;clear HX2 HR2 HB2 hf0
  by_cases hlt : i < n
  ·
   have i1 : (i : Int) < (n : Int) := by omega
   obtain ⟨b, off, rfl, hdat, c0, c1, c2, c3⟩ := (HRn.out.below HBj.out).at hlt;have HLi := zh (HLn0.out i hi);have HSi := zh (HSt0.out i hlt);have hZi := HZz.out i hi;have hTi := HTz.out i hlt;have hAi := HAll.out (i + 1);have hok := HOn.out i hlt;have HRs := zh (HOj.out.rd HRm.out HBj.out);generalize yZ es i = X at c0 c1 c2 c3 hdat HSi hok hTi;obtain ⟨x, xv⟩ := X;dsimp only at c0 c1 c2 c3 hdat HSi hok hTi;obtain ⟨xa, xc, rfl, hx1, hx2⟩ := hdat.shape0;have hxm : x.data.length ≤ 4096 := hok.1;have HSn := zh (fun W => tR x.data.length W (Nat.le_trans hxm (by decide)));clear hdat hok;have hxz := xg x.data.length;obtain ⟨W1, hW1⟩ : ∃ W1, wr.alloc (.cells (ndC x (.slice xa x.data.length xc)) 56) = W1 := ⟨_, rfl⟩
   have hbn := ut wr x (.slice xa x.data.length xc);have hdn := BoxD.new wr x (.slice xa x.data.length xc);rw [hW1] at hbn hdn;have HD := zh hdn;have HBn := zh hbn;clear hbn hdn;have HXk := zh (HXj.out.below HBn.out);have HRk := zh (HRj.out.below HBn.out);have HRsk := zh (HRs.out.below HBn.out);have HBk := zh (zA HBj.out HBn.out);have hwr := HRj.out.lt;have hws := HBn.out.size;go_upto_region 8 with fail;clear hW1 c0 c1 c2 c3 HXj HRj HBj HRs;obtain ⟨d0, d1, d2, d3⟩ := HD.out.q;generalize hm : x.data.length = m at *;have Hm := zh hm;clear hm;go_wp2_with fail;refine (HSn.out _).mono ?_;rintro e w3 ⟨rfl, rfl⟩;generalize hgi : zV g0 (N.take i) = gi at *;clear hgi;obtain ⟨an, ar, am, az, ⟨af, aL, aG⟩⟩ := gi;dsimp only at *;have HZ := zh hZi;have HT := zh hTi;have HA := zh hAi;have hfi0 := HFi.out;clear x0 x1 x2 x3 x4 x5 x6 x7 x8 x9 x10 x11 x12 x13;have x4 := HXk.out.c0;have x5 := HXk.out.c1
   have x6 := HXk.out.c2;have x7 := HXk.out.c3;have x8 := HXk.out.c4;have x9 := HXk.out.c5;have x10 := HXk.out.c6;have x11 := HXk.out.c7;have x12 := HXk.out.cl;have x13 := HXk.out.cg;have x3 := HXk.out.n3;have xf := HXk.out.f;have hz3 : 0 ≤ az ∧ az ≤ 1048576 := by omega
   obtain ⟨hz4, hz5⟩ := hz3;clear hZi hTi hAi hfi0
   by_cases hov : 1048576 - az < (szN m : Int)
   ·
    have e5 : decide (1048576 - az < (szN m : Int)) = true := decide_eq_true hov;have HPR := zh (HP9.out (by have := HZ.out; have := HT.out; have := HA.out; omega));obtain ⟨r0, r1, r2, r3, r4, r5, r6, r7, r8, r9, r10, r11, r12, r13⟩ := HRk.out.q;have rf := HRk.out.f;go_wp2_with fail;change bodyPost _ _ _ _ _ (pts W1 (w.heap.size + 1) (zO 0 0 0 0 Sl.nil 0 0));have hby := HRk.out.all 0 0 0 0 Sl.nil 0 0;have HBz := zh (zD (B := w.heap.size) (b := (w.heap.size + 1)) (by omega) (zO 0 0 0 0 Sl.nil 0 0) HBk.out);have hrd := HR0.out (pts W1 (w.heap.size + 1) (zO 0 0 0 0 Sl.nil 0 0));rw [HPR.out];generalize pts W1 (w.heap.size + 1) (zO 0 0 0 0 Sl.nil 0 0) = V at *
    exact bodyPost_ret (v := .tuple #[ze 0 0 0 0 Sl.nil 0 0, .int .i64 9]) (by simp [results, Tryz.results12, go_sem, hby.n0, hby.n1, hby.n2, hby.n3, hby.c0, hby.c1, hby.c2, hby.c3, hby.c4, hby.c5, hby.c6, hby.c7, hby.cl, hby.cg]) rfl ⟨⟨_, rfl, hrd⟩, HBz.out⟩
   have e5 : decide (1048576 - az < (szN m : Int)) = false := decide_eq_false hov;have hfi := zh (show z + (szL (N.take (i + 1)) : Int) ≤ 1048576 by have := HZ.out; have := HT.out; omega);clear HZ HT HA hov
   cases hdl : x.del
   ·
    rw [hdl] at d2;have HP := zh (zJP si ⟨af, aL, aG⟩ ⟨(x.key : Int), (x.ck : Int), az, (m : Int)⟩ W1 HRsk.out (fun j hj => Nat.le_trans (HLi.out j hj) (by omega)))
    have HSi2 := zh (show zV g0 (N.take (i + 1)) = ⟨an, ar, am, az + (szN m : Nat), wB ⟨af, aL, aG⟩ ⟨(x.key : Int), (x.ck : Int), az, (m : Int)⟩⟩ by
     rw [HSi.out]; unfold yM itA; rw [hdl, Hm.out]; rfl)
    clear HSi;generalize wB ⟨af, aL, aG⟩ ⟨(x.key : Int), (x.ck : Int), az, (m : Int)⟩ = M4 at *;obtain ⟨bf, bL, bG⟩ := M4;dsimp only at HP;go_wp2_with fail;refine (HP.out).mono ?_;rintro e w5 ⟨⟨s4, rfl, ho⟩, hb4⟩;have HO5 := zh (show OldOwn w5 (w.heap.size + 2) s f s4 bf from .inr (ho.mono (by omega)));have HX5 := zh (HXk.out.below hb4);have HR5 := zh (HRk.out.below hb4);have HB5 := zh (zA HBk.out hb4);clear x3 x4 x5 x6 x7 x8 x9 x10 x11 x12 x13 xf;clear d0 d1 d2 d3 HXk HRk HBk HRsk HD HOj;have x4 := HX5.out.c0;have x5 := HX5.out.c1;have x6 := HX5.out.c2;have x7 := HX5.out.c3;have x8 := HX5.out.c4;have x9 := HX5.out.c5;have x10 := HX5.out.c6;have x11 := HX5.out.c7;have x12 := HX5.out.cl;have x13 := HX5.out.cg;have x3 := HX5.out.n3;have xf := HX5.out.f;go_upto_region 14 with fail;change Code.wp _ _ _ _ (pts w5 w.heap.size (yd s4 bL bG));have HX6 := zh (HX5.out.map s4 bL bG)
    have HR6 := zh (HR5.out.pts_ne (show w.heap.size + 1 ≠ w.heap.size by omega) (yd s4 bL bG));have HB6 := zh (zD (B := w.heap.size) (b := w.heap.size) (Nat.le_refl _) (yd s4 bL bG) HB5.out);have HO6 := zh (HO5.out.pts (show w.heap.size < w.heap.size + 2 by omega) (yd s4 bL bG));generalize pts w5 w.heap.size (yd s4 bL bG) = w6 at *;clear HX5 HR5 HB5 HO5 x3 x4 x5 x6 x7 x8 x9 x10 x11 x12 x13 xf;have x3 := HX6.out.n3;have xf := HX6.out.f;go_upto_region 15 with fail;change Code.wp _ _ _ _ (pts w6 w.heap.size [(3, .int .i64 (az + (szN m : Nat)))]);have HX7 := zh (HX6.out.num3 (az + (szN m : Nat)));have HR7 := zh (HR6.out.pts_ne (show w.heap.size + 1 ≠ w.heap.size by omega) [(3, .int .i64 (az + (szN m : Nat)))]);have HB7 := zh (zD (B := w.heap.size) (b := w.heap.size) (Nat.le_refl _) [(3, .int .i64 (az + (szN m : Nat)))] HB6.out)
    have HO7 := zh (HO6.out.pts (show w.heap.size < w.heap.size + 2 by omega) [(3, .int .i64 (az + (szN m : Nat)))]);generalize pts w6 w.heap.size [(3, .int .i64 (az + (szN m : Nat)))] = w7 at *;clear HX6 HR6 HB6 HO6 x3 xf;go_wp2_with fail
    go_roundw
    case rel =>
     refine ⟨i + 1, s4, by go_num, by omega, hfi, ?_, ?_, HR7, HB7⟩
     ·
      rw [HSi2.out]; exact HX7
     rw [HSi2.out]; exact HO7
    case measure => simp [intOf]; omega
   rw [hdl] at d2;have HP := zh (kj si ⟨af, aL, aG⟩ (x.key : Int) W1 HRsk.out (fun j hj => Nat.le_trans (HLi.out j hj) (by omega)))
   have HSi2 := zh (show zV g0 (N.take (i + 1)) = ⟨an, ar, am, az + (szN m : Nat), yh (yF ⟨af, aL, aG⟩ (x.key : Int)) (szN m : Nat)⟩ by
    rw [HSi.out]; unfold yM; rw [hdl, Hm.out]; rfl)
   have HLd := zh (fun j hj => Nat.le_trans (tV ⟨af, aL, aG⟩ (x.key : Int) HLi.out j hj) (show 9000 ≤ 10000 by decide));clear HSi;generalize yF ⟨af, aL, aG⟩ (x.key : Int) = M3 at *;obtain ⟨df, dL, dG⟩ := M3;dsimp only at HP;go_wp2_with fail;refine (HP.out).mono ?_;rintro e w4 ⟨⟨s5, rfl, ho⟩, hb4⟩;have HWs := zh (uX s5 ⟨df, dL, dG⟩ (szN m : Nat) w4 ho.rd HLd.out);have hw4 := hb4.size;clear ho;generalize yh ⟨df, dL, dG⟩ (szN m : Nat) = M4 at *;obtain ⟨bf, bL, bG⟩ := M4;dsimp only at HWs;go_wp2_with fail;refine (HWs.out).mono ?_;rintro e w5 ⟨⟨s4, rfl, ho⟩, hb5⟩;replace hb4 := zA hb4 hb5;have HO5 := zh (show OldOwn w5 (w.heap.size + 2) s f s4 bf from .inr (ho.mono (by omega)));have HX5 := zh (HXk.out.below hb4);have HR5 := zh (HRk.out.below hb4);have HB5 := zh (zA HBk.out hb4);clear x3 x4 x5 x6 x7 x8 x9 x10 x11 x12 x13 xf;clear d0 d1 d2 d3 HXk HRk HBk HRsk HD HOj;have x4 := HX5.out.c0
   have x5 := HX5.out.c1;have x6 := HX5.out.c2;have x7 := HX5.out.c3;have x8 := HX5.out.c4;have x9 := HX5.out.c5;have x10 := HX5.out.c6;have x11 := HX5.out.c7;have x12 := HX5.out.cl;have x13 := HX5.out.cg;have x3 := HX5.out.n3;have xf := HX5.out.f;go_upto_region 14 with fail;change Code.wp _ _ _ _ (pts w5 w.heap.size (yd s4 bL bG));have HX6 := zh (HX5.out.map s4 bL bG);have HR6 := zh (HR5.out.pts_ne (show w.heap.size + 1 ≠ w.heap.size by omega) (yd s4 bL bG));have HB6 := zh (zD (B := w.heap.size) (b := w.heap.size) (Nat.le_refl _) (yd s4 bL bG) HB5.out);have HO6 := zh (HO5.out.pts (show w.heap.size < w.heap.size + 2 by omega) (yd s4 bL bG));generalize pts w5 w.heap.size (yd s4 bL bG) = w6 at *;clear HX5 HR5 HB5 HO5 x3 x4 x5 x6 x7 x8 x9 x10 x11 x12 x13 xf;have x3 := HX6.out.n3;have xf := HX6.out.f;go_upto_region 15 with fail
   change Code.wp _ _ _ _ (pts w6 w.heap.size [(3, .int .i64 (az + (szN m : Nat)))]);have HX7 := zh (HX6.out.num3 (az + (szN m : Nat)));have HR7 := zh (HR6.out.pts_ne (show w.heap.size + 1 ≠ w.heap.size by omega) [(3, .int .i64 (az + (szN m : Nat)))]);have HB7 := zh (zD (B := w.heap.size) (b := w.heap.size) (Nat.le_refl _) [(3, .int .i64 (az + (szN m : Nat)))] HB6.out);have HO7 := zh (HO6.out.pts (show w.heap.size < w.heap.size + 2 by omega) [(3, .int .i64 (az + (szN m : Nat)))]);generalize pts w6 w.heap.size [(3, .int .i64 (az + (szN m : Nat)))] = w7 at *;clear HX6 HR6 HB6 HO6 x3 xf;go_wp2_with fail
   go_roundw
   case rel =>
    refine ⟨i + 1, s4, by go_num, by omega, hfi, ?_, ?_, HR7, HB7⟩
    ·
     rw [HSi2.out]; exact HX7
    rw [HSi2.out]; exact HO7
   case measure => simp [intOf]; omega
  have hin : i = n := by omega
  rw [hin, HFull.out] at HXj HOj HFi;rw [hin];have HPR := zh (HPF.out HFi.out);have HRs := zh (HOj.out.rd HRm.out HBj.out)
  have HLf := zh (show ∀ j, j < 8 → ((zV g0 N).m.st j).length ≤ 10000 from fun j hj => by
   have := HLn0.out n (Nat.le_refl _) j hj
   rw [HFull.out] at this
   omega)
  clear hin hi;obtain ⟨hn1, hn2, hn3⟩ := HNum.out;generalize hgA : zV g0 N = gA at *;obtain ⟨an, ar, am, az, ⟨af, aL, aG⟩⟩ := gA;dsimp only at HXj HOj hn1 hn2 hn3 HPR HRs HLf;subst hn1 hn2 hn3;clear hgA;have HWs := zh (uX si ⟨af, aL, aG⟩ 0 wr HRs.out HLf.out);rw [uk] at HWs;dsimp only at HWs;have hlr2 := HRj.out.lt;obtain ⟨x4, x5, x6, x7, x8, x9, x10, x11, x12, x13⟩ := HXj.out.q;have xf := HXj.out.f;go_wp2_with fail;refine (HWs.out).mono ?_;rintro e w3 ⟨⟨s3, rfl, ho3⟩, hb3⟩;have HX3 := zh (HXj.out.below hb3);have HR3 := zh (HRj.out.below hb3);have HB3 := zh (zA HBj.out hb3);have HO3 := zh (ho3.mono (show w.heap.size + 2 ≤ wr.heap.size by omega));clear hb3 ho3 HXj HRj HBj HOj HWs HRs xf x4 x5 x6 x7 x8 x9 x10 x11 x12 x13;obtain ⟨x4, x5, x6, x7, x8, x9, x10, x11, x12, x13⟩ := HX3.out.q;have xf := HX3.out.f;go_upto_region 17 with fail;change Code.wp _ _ _ _ (pts w3 w.heap.size (yd s3 aL aG))
  have HX4 := zh (HX3.out.map s3 aL aG);have HR4 := zh (HR3.out.pts_ne (show w.heap.size + 1 ≠ w.heap.size by omega) (yd s3 aL aG));have HB4 := zh (zD (B := w.heap.size) (b := w.heap.size) (Nat.le_refl _) (yd s3 aL aG) HB3.out);have HO4 := zh (HO3.out.pts (show w.heap.size < w.heap.size + 2 by omega) (yd s3 aL aG));generalize pts w3 w.heap.size (yd s3 aL aG) = w4 at *;clear HX3 HR3 HB3 HO3 xf x4 x5 x6 x7 x8 x9 x10 x11 x12 x13;obtain ⟨x0, x1, x2, x3, x4, x5, x6, x7, x8, x9, x10, x11, x12, x13⟩ := HX4.out.q;obtain ⟨r0, r1, r2, r3, r4, r5, r6, r7, r8, r9, r10, r11, r12, r13⟩ := HR4.out.q;have rf := HR4.out.f;go_wp2_with fail;change bodyPost _ _ _ _ _ (pts w4 (w.heap.size + 1) (zO an ar 1 az s3 aL aG));have hby := HR4.out.all an ar 1 az s3 aL aG;have HBz := zh (zD (B := w.heap.size) (b := (w.heap.size + 1)) (by omega) (zO an ar 1 az s3 aL aG) HB4.out)
  have hrd := (HO4.out.pts (show w.heap.size + 1 < w.heap.size + 2 by omega) (zO an ar 1 az s3 aL aG)).mono (show w.heap.size ≤ w.heap.size + 2 by omega);rw [HPR.out];generalize pts w4 (w.heap.size + 1) (zO an ar 1 az s3 aL aG) = V at *;exact bodyPost_ret (v := .tuple #[ze an ar 1 az s3 aL aG, .int .i64 0]) (by simp [results, Tryz.results12, go_sem, hby.n0, hby.n1, hby.n2, hby.n3, hby.c0, hby.c1, hby.c2, hby.c3, hby.c4, hby.c5, hby.c6, hby.c7, hby.cl, hby.cg]) rfl ⟨⟨_, rfl, hrd⟩, HBz.out⟩
 have HPR := zh (show TG = (12, gn0) by rw [HG2.out, if_neg hmd]);have e1 : (md == 1) = false := beq_eq_false_iff_ne.2 hmd;clear HG2;obtain ⟨x0, x1, x2, x3, x4, x5, x6, x7, x8, x9, x10, x11, x12, x13⟩ := HX2.out.q;obtain ⟨r0, r1, r2, r3, r4, r5, r6, r7, r8, r9, r10, r11, r12, r13⟩ := HR2.out.q;have rf := HR2.out.f;go_wp2_with fail;change bodyPost _ _ _ _ _ (pts w2 (w.heap.size + 1) (zO 0 0 0 0 Sl.nil 0 0));have hby := HR2.out.all 0 0 0 0 Sl.nil 0 0;have HBz := zh (zD (B := w.heap.size) (b := (w.heap.size + 1)) (by omega) (zO 0 0 0 0 Sl.nil 0 0) HB2.out);have hrd := HR0.out (pts w2 (w.heap.size + 1) (zO 0 0 0 0 Sl.nil 0 0));rw [HPR.out];generalize pts w2 (w.heap.size + 1) (zO 0 0 0 0 Sl.nil 0 0) = V at *
 exact bodyPost_ret (v := .tuple #[ze 0 0 0 0 Sl.nil 0 0, .int .i64 12]) (by simp [results, Tryz.results12, go_sem, hby.n0, hby.n1, hby.n2, hby.n3, hby.c0, hby.c1, hby.c2, hby.c3, hby.c4, hby.c5, hby.c6, hby.c7, hby.cl, hby.cg]) rfl ⟨⟨_, rfl, hrd⟩, HBz.out⟩
end Go.Proofs.YtcgfilmmokmdjaaGreat
