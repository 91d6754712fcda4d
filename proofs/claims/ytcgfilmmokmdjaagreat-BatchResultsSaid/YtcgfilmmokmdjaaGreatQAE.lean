/- A part of the walk. -/
import Derived.Test.YtcgfilmmokmdjaaGreatQAD
import Derived.Test.YtcgfilmmokmdjaaGreatQAA
import Derived.Test.YtcgfilmmokmdjaaGreatQAB
import Derived.Lib.AppendZerosOnto
import Derived.Lib.Overlaps
import Derived.Lib.AppendZeros
set_option linter.all false
set_option maxRecDepth 100000
set_option maxHeartbeats 32000000
namespace Go.Proofs.YtcgfilmmokmdjaaGreat
open Go.RowKit
theorem Vj (key : Int) (w : World) : Calls Tryz.prog 162 #[.int .u64 key] w fun e w' => e = .returned (.int .i64 (fl key : Int)) ∧ w = w' := by
 have h1 : IntKind.u64.wrap (key * 11400714819323198485) = key * 11400714819323198485 % 18446744073709551616 := by simp [IntKind.wrap, IntKind.signed, IntKind.bits]
 have h2 : (fl key : Int) = key * 11400714819323198485 % 18446744073709551616 / 2305843009213693952 := by unfold fl; omega
 go_enter Tryz.func162, Tryz.ntmps162
 go_wp2_with fail;go_ret;exact ⟨wT h2.symm, rfl⟩
theorem PQ (z : Int) (hz : 0 ≤ z) (w : World) : Calls Tryz.prog 28 #[.int .i64 z] w fun e w' => e = .returned (.int .i64 (eM z.toNat : Int)) ∧ w = w' := by
 obtain ⟨n, rfl⟩ := dQ hz;rw [Int.toNat_natCast];exact Nn n w
theorem Vk {T : List It} {n : Nat} (h : n < T.length) : zv (T.take (n + 1)) = zv (T.take n) + eM (dX T n).size.toNat := by
 rw [xB h, xE]; rfl
theorem Vl (v : Value) (l : List It) (w : World) (h : iQ w v l) (hp : ∀ x ∈ l, 0 ≤ x.size) (hs : l.length ≤ 1000000) :
  Calls Tryz.prog 163 #[v] w fun e w' => e = .returned (.int .i64 (zv l : Int)) ∧ Below w.heap.size w w' := by
 obtain ⟨a, cap, rfl, _, _⟩ := h.shape;have Hr := zh h;have HP := zh (fun j (h : j < l.length) => hp _ (t7 h));have HS := zh (fun j (h : j < l.length) => Vk h);have HE := zh (show zv (l.take l.length) = zv l by rw [ct])
 have HB := zh (fun j => show zv (l.take j) ≤ 4127000000 from by
  have := tp (l.take j)
  rw [ay] at this
  have : min j l.length * 4127 ≤ 1000000 * 4127 := aW _ (by omega)
  omega)
 generalize hn : l.length = n at *;clear h hp hn
 go_enter Tryz.func163, Tryz.ntmps163
 go_wp2_with fail
 go_loopw [3, 4] (fun sv iv W => ∃ i p : Nat, iv = .int .i64 (i : Int) ∧ sv = .int .i64 (p : Int) ∧ i ≤ n ∧ Hid (p = zv (l.take i)) ∧ Hid (Below w.heap.size w W)) (fun _ iv _ => n - (intOf iv).toNat)
 case atStart => exact ⟨0, 0, by rfl, rfl, au _, zh rfl, zh (aj _ _)⟩
 obtain ⟨i, p, rfl, rfl, hi, Hm, Hb⟩ := hrel
 by_cases hin : i < n
 ·
  obtain ⟨pb, Gx, rfl, c0, c1, c2, c3⟩ := (Hr.out.below Hb.out).at hin;have hS := HS.out i hin;have hB := HB.out (i + 1);have hZ := HP.out i hin;generalize dX l i = x at *;obtain ⟨x0, x1, x2, x3⟩ := x;dsimp only at *;have HZ := zh (fun W => PQ x3 hZ W);generalize eM x3.toNat = z at *;rw [hS, ← Hm.out] at hB;have HN := zh (show p + z = zv (l.take (i + 1)) by rw [hS, Hm.out]);have hpz : IntKind.i64.wrap ((p : Int) + (z : Int)) = ((p + z : Nat) : Int) := (aH _ (by omega)).trans (by omega);have i1 : (i : Int) < (n : Int) := by omega
  clear hS hZ;go_wp2_with fail;refine (HZ.out _).mono ?_; rintro e w2 ⟨rfl, rfl⟩;go_wp2_with fail;exact ⟨⟨i + 1, p + z, by go_num, rfl, by omega, HN, Hb⟩, by simp [intOf]; omega⟩
 obtain rfl : i = n := by omega
 have HF := zh (Hm.out.trans HE.out);go_wp2_with fail;go_ret;exact ⟨wT (by rw [HF.out]), Hb.out⟩
theorem Vm (s : Sl) {i : Nat} (hi : i < 8) (W : World) : (Instr.index 34 (.agg (zML s)) (.int .i64 (i : Int))).run Tryz.prog W = .ok (s.v i) W := by
 rcases Gu hi with h | h | h | h | h | h | h | h <;> subst h <;> rfl
theorem Vn {M : Mp} {i : Nat} (hi : i < 8) (h : rV M i = false) : yw M = false := by
 unfold yw;have : (List.range 8).all (rV M) = false := by
  rw [List.all_eq_false];exact ⟨i, List.mem_range.2 hi, by rw [h]; simp⟩
 rw [this]; rfl
theorem Vo {M : Mp} (h : ∀ i, i < 8 → rV M i = true) : yw M = ((M.live == (zv (vA M) : Int)) && decide (0 ≤ M.dW) && decide (M.dW ≤ 1099511627776)) := by
 unfold yw;have : (List.range 8).all (rV M) = true := List.all_eq_true.2 fun i hi => h i (List.mem_range.1 hi)
 rw [this, cG]
theorem Vp {M : Mp} {i : Nat} (h : xp (M.st i) = false) : rV M i = false := by unfold rV; rw [h]; rfl
theorem Vq {M : Mp} {i j : Nat} (hj : j < (M.st i).length) (h : fl (dX (M.st i) j).key ≠ i) : rV M i = false := by
 unfold rV;rw [tu hj (by simpa using h), Bool.and_false]
theorem Vr {M : Mp} {i : Nat} (h : xp (M.st i) = true) (h2 : ∀ j, j < (M.st i).length → fl (dX (M.st i) j).key = i) : rV M i = true := by
 unfold rV;rw [h, kH fun j hj => by simpa using h2 j hj]; rfl
theorem qZ {M : Mp} {B : Nat} (h : ∀ i, i < 8 → (M.st i).length ≤ B) : ∀ n, n ≤ 8 → (cat M.st n).length ≤ n * B
 | 0, _ => by simp [cat]
 | n + 1, hn => by
  have ih := qZ h n (by omega)
  show (cat M.st n ++ M.st n).length ≤ _
  rw [aA, dm];have := h n (by omega);omega
theorem kO {l : List It} (h : xp l = true) : ∀ x ∈ l, 0 ≤ x.size := fun x hx => ((uP.1 h).2 x hx).2.2.2.1
theorem vS (s : Sl) (M : Mp) (w : World) (h : fw w s M.st) (hs : ∀ i, i < 8 → (M.st i).length ≤ 100000) :
  Calls Tryz.prog 87 #[yA s M.live M.dW] w fun e w' => e = .returned (.bool (yw M)) ∧ Below w.heap.size w w' := by
 have Hr := zh h;have HV := zh (fun i (hi : i < 8) W (hb : Below w.heap.size w W) => Ux (s.v i) (M.st i) W ((h i hi).below hb));have HI := zh (fun i (hi : i < 8) => Vm s hi);have HL := zh (fun i (hi : i < 8) => h.n hi);have iC := zh hs;have iR := zh (fun i (hi : i < 8) (h : rV M i = false) => Vn hi h);have nA := zh (fun h => Vo (M := M) h)
 have Gy := zh (fun n (hn : n ≤ 8) => show zv (cat M.st n) ≤ 3301600000 from by
  have h1 := qZ hs n hn
  have h2 := tp (cat M.st n)
  have : (cat M.st n).length * 4127 ≤ (8 * 100000) * 4127 := aW _ (ak h1 (aW _ hn))
  omega)
 have HA := zh (show vA M = cat M.st 8 from rfl);clear h hs;obtain ⟨f, L, G⟩ := M;dsimp only at *
 go_enter Tryz.func87, Tryz.ntmps87
 go_wp2_with fail;obtain ⟨W0, hW0, eD, HL0, Po⟩ : ∃ W0, w.alloc (.cells (yN s L G) 36) = W0 ∧ Hid (Below w.heap.size w W0) ∧ Hid (W0.cell? ⟨w.heap.size, 8, none⟩ = some (.int .i64 L)) ∧ Hid (W0.cell? ⟨w.heap.size, 9, none⟩ = some (.int .i64 G)) := ⟨_, rfl, zh ((aj _ _).alloc (ai _) _), zh (by simp), zh (by simp)⟩
 try rw [hW0]
 clear hW0
 go_loopw [3, 10] (fun lv iv W => ∃ i p : Nat, iv = .int .i64 (i : Int) ∧ lv = .int .i64 (p : Int) ∧ i ≤ 8 ∧ Hid (∀ j, j < i → rV ⟨f, L, G⟩ j = true) ∧ Hid (p = zv (cat f i)) ∧ Hid (Below W0.heap.size W0 W)) (fun _ iv _ => 8 - (intOf iv).toNat)
 case atStart => exact ⟨0, 0, rfl, rfl, au _, zh (fun j hj => by omega), zh rfl, zh (aj _ _)⟩
 obtain ⟨i, p, rfl, rfl, hi, lI, Hp, HB⟩ := hrel
 by_cases hin : i < 8
 ·
  have i1 : (i : Int) < 8 := by omega
  have hI := HI.out i hin;have hL := HL.out i hin;have iD := zh (zA eD.out HB.out);have mU := zh (HV.out i hin wr iD.out);have iX := zh ((Hr.out i hin).below iD.out);have rW : s.v i = .slice (s.a i) (s.n i) (s.c i) := rfl;rw [rW] at mU iX hI;have nB := iC.out i hin;have hT := Gy.out (i + 1) (by omega);have hcs : cat f (i + 1) = cat f i ++ f i := rfl;rw [hcs, xE, ← Hp.out] at hT;have PR := zh (show zv (cat f (i + 1)) = p + zv (f i) by rw [hcs, xE, Hp.out]);rw [hL] at mU iX hI;generalize s.a i = sa at *;generalize s.c i = sc at *;have Ex := zh (iR.out i hin);have HY := zh (fun h1 h2 => Vr (M := ⟨f, L, G⟩) (i := i) h1 h2);have Fw := zh (fun h => Ex.out (Vp (M := ⟨f, L, G⟩) (i := i) h));have A_ := zh (fun j h1 h2 => Ex.out (Vq (M := ⟨f, L, G⟩) (i := i) (j := j) h1 h2));have jI := zh (fun j (h : j < (f i).length) => Vk h)
  have HSe := zh (show zv ((f i).take (f i).length) = zv (f i) by rw [ct])
  have PS := zh (fun j => show zv ((f i).take j) ≤ zv (f i) from by
   have : zv ((f i).take j ++ (f i).drop j) = zv (f i) := by rw [bJ]
   rw [xE] at this; omega)
  have PT := zh (fun h => kO (l := f i) h);dsimp only at HY Fw A_;generalize f i = l at *;clear hL rW hcs Ex
  by_cases hv : xp l = true
  ·
   rw [hv] at mU;have PU := zh (fun j (h : j < l.length) => PT.out hv _ (t7 h));generalize hn : l.length = n at *;clear hn;go_wp2_with fail;refine mU.out.mono ?_; rintro e w2 ⟨rfl, hb2⟩;have eP := zh (zA HB.out hb2);have fZ := zh (iX.out.below hb2);clear hb2 mU iD HB iX;go_wp2_with fail
   go_loopw [3, 19] (fun lv jv W => ∃ j q : Nat, jv = .int .i64 (j : Int) ∧ lv = .int .i64 ((p + q : Nat) : Int) ∧ j ≤ n ∧ Hid (∀ r, r < j → fl (dX l r).key = i) ∧ Hid (q = zv (l.take j)) ∧ Hid (Below w2.heap.size w2 W)) (fun _ jv _ => n - (intOf jv).toNat)
   case atStart => exact ⟨0, 0, rfl, rfl, au _, zh (fun j hj => by omega), zh rfl, zh (aj _ _)⟩
   obtain ⟨j, q, rfl, rfl, hj, Kt, Hq, nC⟩ := hrel
   by_cases hjn : j < n
   ·
    obtain ⟨pb, Gx, rfl, c0, c1, c2, c3⟩ := (fZ.out.below nC.out).at hjn;have i2 : (j : Int) < (n : Int) := by omega
    have PV := jI.out j hjn;have Vs := PS.out (j + 1);have hpos := PU.out j hjn;have Aq := zh (A_.out j hjn)
    have HK := zh (fun (hk : fl (dX l j).key = i) r (hr : r < j + 1) => show fl (dX l r).key = i from by
     by_cases e : r = j
     ·
      rw [e]; exact hk
     exact Kt.out r (by omega))
    rw [PV, ← Hq.out] at Vs;generalize dX l j = x at *;have iN := zh (fun W => Vg x W);have eE := zh (show Below wr.heap.size wr (wr.alloc (xF x)) from z8 wr x);have HS := zh (fun W => ut x.key W);generalize hk : fl x.key = k at *;have jJ : k < 8 := by rw [← hk]; exact wS _
    obtain ⟨x0, x1, x2, x3⟩ := x;dsimp only at *;clear hk
    by_cases hki : k = i
    ·
     have g1 : ((k : Int) != (i : Int)) = false := by rw [bne_eq_false_iff_eq]; omega
     have CX := zh (HK.out hki);clear hki Aq HK;go_wp2_with fail;refine (HS.out _).mono ?_; rintro e w3 ⟨rfl, rfl⟩;go_wp2_with fail;refine (iN.out _).mono ?_; rintro e w4 ⟨⟨z, rfl, hz, hz2⟩, hb4⟩;have hz3 := hz2 hpos;have fQ := zh (zA nC.out (zA eE.out hb4));have HQ := zh (show q + z = zv (l.take (j + 1)) by rw [PV, Hq.out, hz3]);rw [← hz3] at Vs;have hw : IntKind.i64.wrap (((p + q : Nat) : Int) + (z : Int)) = ((p + (q + z) : Nat) : Int) := (aH _ (by omega)).trans (by omega);rw [cU] at hw;clear hb4 hz2 hz3 PV;go_wp2_with fail;exact ⟨⟨j + 1, q + z, by go_num, by simp, by omega, CX, HQ, fQ⟩, by simp [intOf]; omega⟩
    have g1 : ((k : Int) != (i : Int)) = true := bne_iff_ne.2 (by omega);have HF := zh (Aq.out hki);have ek := zh (zA eD.out (zA eP.out (zA nC.out eE.out)));clear hki Aq HK;go_wp2_with fail;refine (HS.out _).mono ?_; rintro e w3 ⟨rfl, rfl⟩;go_wp2_with fail;go_ret;exact ⟨zE HF.out.symm, ek.out⟩
   obtain rfl : j = n := by omega
   have C4 := zh (show ∀ r, r < i + 1 → rV ⟨f, L, G⟩ r = true from fun r hr => by
    by_cases e : r = i
    ·
     rw [e]; exact HY.out hv Kt.out
    exact lI.out r (by omega))
   have mq := zh (show p + q = zv (cat f (i + 1)) by rw [PR.out, Hq.out, HSe.out]);have ek := zh (zA eP.out nC.out);go_wp2_with fail;exact ⟨⟨i + 1, p + q, by go_num, by simp, by omega, C4, mq, ek⟩, by simp [intOf]; omega⟩
  have hv' : xp l = false := by simpa using hv
  have HF := zh (Fw.out hv');rw [hv'] at mU;generalize l.length = n at *;go_wp2_with fail;refine mU.out.mono ?_; rintro e w2 ⟨rfl, hb2⟩;have eP := zh (zA iD.out hb2);clear hb2;go_wp2_with fail;go_ret;exact ⟨zE HF.out.symm, eP.out⟩
 obtain rfl : i = 8 := by omega
 have hall := nA.out lI.out;rw [HA.out] at hall;rw [← Hp.out] at hall;have HF := zh hall;have e8 := Below.keeps HB.out _ _ HL0.out;have e9 := Below.keeps HB.out _ _ Po.out;have ek := zh (zA eD.out HB.out);clear hall
 by_cases g1 : L = (p : Int)
 ·
  have q1 : (L == (p : Int)) = true := beq_iff_eq.2 g1;rw [q1] at HF
  by_cases g2 : 0 ≤ G
  ·
   have q2 : decide (0 ≤ G) = true := by simpa using g2
   rw [q2] at HF;clear g1;go_wp2_with fail;go_ret;exact ⟨zE (by rw [HF.out]; simp), ek.out⟩
  have q2 : decide (0 ≤ G) = false := by simpa using g2
  rw [q2] at HF;clear g1;go_wp2_with fail;go_ret;exact ⟨zE (by rw [HF.out]; simp), ek.out⟩
 have q1 : (L == (p : Int)) = false := beq_eq_false_iff_ne.2 g1;rw [q1] at HF;go_wp2_with fail;go_ret;exact ⟨zE (by rw [HF.out]; simp), ek.out⟩
theorem zP (w : World) (s : Sl) (l g : Int) (t : TypeId) : Below w.heap.size w (w.alloc (.cells (yN s l g) t)) := (aj _ _).alloc (ai _) _
theorem vk (s : Sl) (M : Mp) (w : World) (h : fw w s M.st) (hs : ∀ i, i < 8 → (M.st i).length ≤ 100000) :
  Calls Tryz.prog 121 #[yA s M.live M.dW] w fun e w' => e = .returned (.bool (yw M)) ∧ Below w.heap.size w w' := by
 have Hr := zh h;have HV := zh (fun i (hi : i < 8) W (hb : Below w.heap.size w W) => zIR (s.v i) (M.st i) W ((h i hi).below hb));have HL := zh (fun i (hi : i < 8) => h.n hi);have iC := zh hs;have iR := zh (fun i (hi : i < 8) (h : rV M i = false) => Vn hi h);have nA := zh (fun h => Vo (M := M) h)
 have Gy := zh (fun n (hn : n ≤ 8) => show zv (cat M.st n) ≤ 3301600000 from by
  have h1 := qZ hs n hn
  have h2 := tp (cat M.st n)
  have : (cat M.st n).length * 4127 ≤ (8 * 100000) * 4127 := aW _ (ak h1 (aW _ hn))
  omega)
 have HA := zh (show vA M = cat M.st 8 from rfl);clear h hs;obtain ⟨f, L, G⟩ := M;dsimp only at *;have eE := zh (eB.new w s L G 111);have eD := zh (zP w s L G 111)
 go_enter Tryz.func121, Tryz.ntmps121
 go_wp2_with fail;obtain ⟨W0, hW0⟩ : ∃ W0, w.alloc (.cells (yN s L G) 111) = W0 := ⟨_, rfl⟩
 rw [hW0] at eE eD
 try rw [hW0]
 clear hW0
 go_loopw [3, 4] (fun lv iv W => ∃ i p : Nat, iv = .int .i64 (i : Int) ∧ lv = .int .i64 (p : Int) ∧ i ≤ 8 ∧ Hid (∀ j, j < i → rV ⟨f, L, G⟩ j = true) ∧ Hid (p = zv (cat f i)) ∧ Hid (Below W0.heap.size W0 W)) (fun _ iv _ => 8 - (intOf iv).toNat)
 case atStart => exact ⟨0, 0, rfl, rfl, au _, zh (fun j hj => by omega), zh rfl, zh (aj _ _)⟩
 obtain ⟨i, p, rfl, rfl, hi, lI, Hp, HB⟩ := hrel;have iD := zh (show Below w.heap.size w wr from zA eD.out HB.out)
 by_cases hin : i < 8
 ·
  have i1 : (i : Int) < 8 := by omega
  have hL := HL.out i hin;have mU := zh (HV.out i hin wr iD.out);have iX := zh ((Hr.out i hin).below iD.out);have rW : s.v i = .slice (s.a i) (s.n i) (s.c i) := rfl;have ci := eE.out.c i hin;rw [rW] at mU iX ci;have hT := Gy.out (i + 1) (by omega);have hcs : cat f (i + 1) = cat f i ++ f i := rfl;rw [hcs, xE, ← Hp.out] at hT;have PR := zh (show zv (cat f (i + 1)) = p + zv (f i) by rw [hcs, xE, Hp.out]);rw [hL] at mU iX ci;generalize s.a i = sa at *;generalize s.c i = sc at *;have Ex := zh (iR.out i hin);have HY := zh (fun h1 h2 => Vr (M := ⟨f, L, G⟩) (i := i) h1 h2);have Fw := zh (fun h => Ex.out (Vp (M := ⟨f, L, G⟩) (i := i) h));have A_ := zh (fun j h1 h2 => Ex.out (Vq (M := ⟨f, L, G⟩) (i := i) (j := j) h1 h2));have PT := zh (fun h => kO (l := f i) h);have nB := iC.out i hin;dsimp only at HY Fw A_;have DZ := zh ci;generalize f i = l at *;clear hL rW hcs Ex ci
  by_cases hv : xp l = true
  ·
   rw [hv] at mU;have oW := zh (fun a n c W (h : iQ W (.slice a n c) l) => Vl (.slice a n c) l W h (PT.out hv) (by omega));generalize hn : l.length = n at *;clear hn;have c1 := Below.keeps HB.out _ _ DZ.out;go_wp2_with fail;refine mU.out.mono ?_; rintro e w2 ⟨rfl, hb2⟩;have eP := zh (zA HB.out hb2);have fZ := zh (iX.out.below hb2);clear hb2 mU HB iX c1;go_wp2_with fail
   go_loopw [5] (fun jv W => ∃ j : Nat, jv = .int .i64 (j : Int) ∧ j ≤ n ∧ Hid (∀ r, r < j → fl (dX l r).key = i) ∧ Hid (Below w2.heap.size w2 W)) (fun jv _ => n - (intOf jv).toNat)
   case atStart => exact ⟨0, rfl, au _, zh (fun j hj => by omega), zh (aj _ _)⟩
   obtain ⟨j, rfl, hj, Kt, nC⟩ := hrel;have c1 := Below.keeps (zA eP.out nC.out) _ _ DZ.out
   by_cases hjn : j < n
   ·
    obtain ⟨pb, Gx, rfl, e0, e1, e2, e3⟩ := (fZ.out.below nC.out).at hjn;have i2 : (j : Int) < (n : Int) := by omega
    have Aq := zh (A_.out j hjn)
    have HK := zh (fun (hk : fl (dX l j).key = i) r (hr : r < j + 1) => show fl (dX l r).key = i from by
     by_cases e : r = j
     ·
      rw [e]; exact hk
     exact Kt.out r (by omega))
    generalize dX l j = x at *;have HS := zh (fun W => Vj x.key W);generalize hk : fl x.key = k at *;have jJ : k < 8 := by rw [← hk]; exact wS _
    obtain ⟨x0, x1, x2, x3⟩ := x;dsimp only at *;clear hk
    by_cases hki : k = i
    ·
     have g1 : ((k : Int) != (i : Int)) = false := by rw [bne_eq_false_iff_eq]; omega
     have CX := zh (HK.out hki);clear hki Aq HK;go_wp2_with fail;refine (HS.out _).mono ?_; rintro e w3 ⟨rfl, rfl⟩;go_wp2_with fail;exact ⟨⟨j + 1, by go_num, by omega, CX, nC⟩, by simp [intOf]; omega⟩
    have g1 : ((k : Int) != (i : Int)) = true := bne_iff_ne.2 (by omega);have HF := zh (Aq.out hki);have ek := zh (show Below w.heap.size w wr from zA eD.out (zA eP.out nC.out));clear hki Aq HK;go_wp2_with fail;refine (HS.out _).mono ?_; rintro e w3 ⟨rfl, rfl⟩;go_wp2_with fail;go_ret;exact ⟨zE HF.out.symm, ek.out⟩
   obtain rfl : j = n := by omega
   have C4 := zh (show ∀ r, r < i + 1 → rV ⟨f, L, G⟩ r = true from fun r hr => by
    by_cases e : r = i
    ·
     rw [e]; exact HY.out hv Kt.out
    exact lI.out r (by omega))
   have nZ := zh (oW.out _ _ _ wr (fZ.out.below nC.out));generalize zv l = q at *;have hw : IntKind.i64.wrap ((p : Int) + (q : Int)) = ((p + q : Nat) : Int) := (aH _ (by omega)).trans (by omega);go_wp2_with fail;refine nZ.out.mono ?_; rintro e w3 ⟨rfl, hb3⟩;have ek := zh (zA (zA eP.out nC.out) hb3);clear hb3;go_wp2_with fail;exact ⟨⟨i + 1, p + q, by go_num, rfl, by omega, C4, zh PR.out.symm, ek⟩, by simp [intOf]; omega⟩
  have hv' : xp l = false := by simpa using hv
  have HF := zh (Fw.out hv');rw [hv'] at mU;generalize l.length = n at *;have c1 := Below.keeps HB.out _ _ DZ.out;go_wp2_with fail;refine mU.out.mono ?_; rintro e w2 ⟨rfl, hb2⟩;have eP := zh (zA iD.out hb2);clear hb2;go_wp2_with fail;go_ret;exact ⟨zE HF.out.symm, eP.out⟩
 obtain rfl : i = 8 := by omega
 have hall := nA.out lI.out;rw [HA.out] at hall;rw [← Hp.out] at hall;have HF := zh hall;have e8 := Below.keeps HB.out _ _ eE.out.cl;have e9 := Below.keeps HB.out _ _ eE.out.cg;have ek := iD;clear hall
 by_cases g1 : L = (p : Int)
 ·
  have q1 : (L == (p : Int)) = true := beq_iff_eq.2 g1;rw [q1] at HF
  by_cases g2 : 0 ≤ G
  ·
   have q2 : decide (0 ≤ G) = true := by simpa using g2
   rw [q2] at HF;clear g1;go_wp2_with fail;go_ret;exact ⟨zE (by rw [HF.out]; simp), ek.out⟩
  have q2 : decide (0 ≤ G) = false := by simpa using g2
  rw [q2] at HF;clear g1;go_wp2_with fail;go_ret;exact ⟨zE (by rw [HF.out]; simp), ek.out⟩
 have q1 : (L == (p : Int)) = false := beq_eq_false_iff_ne.2 g1;rw [q1] at HF;go_wp2_with fail;go_ret;exact ⟨zE (by rw [HF.out]; simp), ek.out⟩
end Go.Proofs.YtcgfilmmokmdjaaGreat
namespace Go.Proofs.YtcgfilmmokmdjaaGreat
open Go.RowKit
def yC (W : World) (b : Nat) (s : Sl) (l g : Int) : World :=
 (((((((((W.setCell ⟨b, 0, none⟩ (.slice (s.a 0) (s.n 0) (s.c 0))).setCell ⟨b, 1, none⟩ (.slice (s.a 1) (s.n 1) (s.c 1))).setCell ⟨b, 2, none⟩ (.slice (s.a 2) (s.n 2) (s.c 2))).setCell ⟨b, 3, none⟩ (.slice (s.a 3) (s.n 3) (s.c 3))).setCell ⟨b, 4, none⟩ (.slice (s.a 4) (s.n 4) (s.c 4))).setCell ⟨b, 5, none⟩ (.slice (s.a 5) (s.n 5) (s.c 5))).setCell ⟨b, 6, none⟩ (.slice (s.a 6) (s.n 6) (s.c 6))).setCell ⟨b, 7, none⟩ (.slice (s.a 7) (s.n 7) (s.c 7))).setCell ⟨b, 8, none⟩ (.int .i64 l)).setCell ⟨b, 9, none⟩ (.int .i64 g)
theorem eB.all {W : World} {b : Nat} {s : Sl} {l g : Int} (h : eB W b s l g) (s' : Sl) (l' g' : Int) : eB (yC W b s' l' g') b s' l' g' := by
 have c0 := h.c 0 (by decide);have c1 := h.c 1 (by decide);have c2 := h.c 2 (by decide);have c3 := h.c 3 (by decide);have c4 := h.c 4 (by decide);have c5 := h.c 5 (by decide);have c6 := h.c 6 (by decide);have c7 := h.c 7 (by decide);have c8 := h.cl;have c9 := h.cg;refine ⟨fun j hj => ?_, ?_, ?_, fun i => by simp [yC, h.f]⟩
 ·
  rcases Gu hj with e | e | e | e | e | e | e | e <;> subst e <;> simp [yC, go_sem, c0, c1, c2, c3, c4, c5, c6, c7, Sl.v]
 ·
  simp [yC, go_sem, c8]
 simp [yC, go_sem, c9]
theorem zY {B b : Nat} {w0 W : World} (h : Below B w0 W) (hb : B ≤ b) (s : Sl) (l g : Int) : Below B w0 (yC W b s l g) :=
 (((((((((h.setCell hb _).setCell hb _).setCell hb _).setCell hb _).setCell hb _).setCell hb _).setCell hb _).setCell hb _).setCell hb _).setCell hb _
theorem eB.ea {W : World} {b : Nat} {s : Sl} {l g : Int} (h : eB W b s l g) {p : Addr} (hp : p.block ≠ b) (u : Value) : eB (W.setCell p u) b s l g := by
 have ne : ∀ i, p ≠ ⟨b, i, none⟩ := fun i e => hp (by rw [e])
 exact ⟨fun j hj => (cA (h := ne j) ..).trans (h.c j hj), (cA (h := ne 8) ..).trans h.cl, (cA (h := ne 9) ..).trans h.cg, fun i => by simp [h.f]⟩
theorem eB.mr {W : World} {b c : Nat} {s : Sl} {l g : Int} (h : eB W b s l g) (hp : c ≠ b) (s' : Sl) (l' g' : Int) : eB (yC W c s' l' g') b s l g :=
 (((((((((h.ea (p := ⟨c, 0, none⟩) hp _).ea (p := ⟨c, 1, none⟩) hp _).ea (p := ⟨c, 2, none⟩) hp _).ea (p := ⟨c, 3, none⟩) hp _).ea (p := ⟨c, 4, none⟩) hp _).ea (p := ⟨c, 5, none⟩) hp _).ea (p := ⟨c, 6, none⟩) hp _).ea (p := ⟨c, 7, none⟩) hp _).ea (p := ⟨c, 8, none⟩) hp _).ea (p := ⟨c, 9, none⟩) hp _
theorem yB {W : World} {B : Nat} {e : TypeId} {sz n : Nat} {v : Value} {xs : List Value} (h : W.ownsRow B e sz v n xs) {p : Addr} (hp : p.block < B) (u : Value) : (W.setCell p u).ownsRow B e sz v n xs :=
 zE0 h (fun e => by have := (World.ownsRow.lt h _ e).1; omega) u
theorem Vt {W : World} {B b : Nat} {e : TypeId} {sz n : Nat} {v : Value} {xs : List Value} (h : W.ownsRow B e sz v n xs) (hp : b < B) (s : Sl) (l g : Int) : (yC W b s l g).ownsRow B e sz v n xs :=
 yB (p := ⟨b, 9, none⟩) (yB (p := ⟨b, 8, none⟩) (yB (p := ⟨b, 7, none⟩) (yB (p := ⟨b, 6, none⟩) (yB (p := ⟨b, 5, none⟩) (yB (p := ⟨b, 4, none⟩) (yB (p := ⟨b, 3, none⟩) (yB (p := ⟨b, 2, none⟩) (yB (p := ⟨b, 1, none⟩) (yB (p := ⟨b, 0, none⟩) h hp _) hp _) hp _) hp _) hp _) hp _) hp _) hp _) hp _) hp _
def eU (w : World) (B : Nat) (s : Sl) (f : Nat → List It) : Prop := ∀ i, i < 8 → fg w B (s.v i) (f i)
theorem eU.rd {w : World} {B : Nat} {s : Sl} {f : Nat → List It} (h : eU w B s f) : fw w s f := fun i hi => (h i hi).rd
theorem eU.keep {w w' : World} {B : Nat} {s : Sl} {f : Nat → List It} (h : eU w B s f) (hb : Below w.heap.size w w') : eU w' B s f := fun i hi => zH (h i hi) hb
theorem eU.mono {w : World} {B B' : Nat} {s : Sl} {f : Nat → List It} (h : eU w B s f) (hb : B' ≤ B) : eU w B' s f := fun i hi => World.ownsRow.mono (h i hi) hb
theorem eU.lg {w : World} {B b : Nat} {s : Sl} {f : Nat → List It} (h : eU w B s f) (hb : b < B) (s' : Sl) (l g : Int) : eU (yC w b s' l g) B s f := fun i hi => Vt (h i hi) hb s' l g
theorem eU.nil (w : World) (B : Nat) : eU w B Sl.nil (fun _ => []) := fun _ _ => aU _ _ _ _
theorem eU.set {w : World} {B : Nat} {s : Sl} {f : Nat → List It} (h : eU w B s f) {k : Nat} {a : Option Addr} {n c : Nat} {l : List It} (hl : fg w B (.slice a n c) l) : eU w B (s.set k a n c) (fun i => if i = k then l else f i) := fun i hi => by
 show fg w B ((s.set k a n c).v i) (if i = k then l else f i)
 rw [Sl.nY]
 by_cases e : i = k
 ·
  rw [ag e, ag e]; exact hl
 rw [ah e, ah e]; exact h i hi
section
variable {W : World} {b : Nat} {s : Sl} {l g : Int} (h : eB W b s l g)
include h
theorem eB.c0 : W.cell? ⟨b, 0, none⟩ = some (.slice (s.a 0) (s.n 0) (s.c 0)) := h.c 0 (by decide)
theorem eB.c1 : W.cell? ⟨b, 1, none⟩ = some (.slice (s.a 1) (s.n 1) (s.c 1)) := h.c 1 (by decide)
theorem eB.c2 : W.cell? ⟨b, 2, none⟩ = some (.slice (s.a 2) (s.n 2) (s.c 2)) := h.c 2 (by decide)
theorem eB.c3 : W.cell? ⟨b, 3, none⟩ = some (.slice (s.a 3) (s.n 3) (s.c 3)) := h.c 3 (by decide)
theorem eB.c4 : W.cell? ⟨b, 4, none⟩ = some (.slice (s.a 4) (s.n 4) (s.c 4)) := h.c 4 (by decide)
theorem eB.c5 : W.cell? ⟨b, 5, none⟩ = some (.slice (s.a 5) (s.n 5) (s.c 5)) := h.c 5 (by decide)
theorem eB.c6 : W.cell? ⟨b, 6, none⟩ = some (.slice (s.a 6) (s.n 6) (s.c 6)) := h.c 6 (by decide)
theorem eB.c7 : W.cell? ⟨b, 7, none⟩ = some (.slice (s.a 7) (s.n 7) (s.c 7)) := h.c 7 (by decide)
end
theorem qr (s : Sl) (L G : Int) (f : Nat → List It) (w : World) (h : fw w s f) (hs : ∀ i, i < 8 → (f i).length ≤ 100000) :
  Calls Tryz.prog 91 #[yA s L G] w fun e w' => (∃ s', e = .returned (yA s' L G) ∧ eU w' w.heap.size s' f) ∧ Below w.heap.size w w' := by
 have Hr := zh h;have HC := zh (fun i (hi : i < 8) W (hb : Below w.heap.size w W) => Pg (s.v i) (f i) W ((h i hi).below hb) (ak (hs i hi) (by decide)));have HI := zh (fun i (hi : i < 8) => Vm s hi);have HL := zh (fun i (hi : i < 8) => h.n hi);clear h hs;have eE := zh ((eB.new w s L G 36).below (zP (w.alloc (.cells (yN s L G) 36)) Sl.nil 0 0 36));have nZ := zh (eB.new (w.alloc (.cells (yN s L G) 36)) Sl.nil 0 0 36);have eD := zh (zA (zP w s L G 36) (zP (w.alloc (.cells (yN s L G) 36)) Sl.nil 0 0 36));rw [show (w.alloc (.cells (yN s L G) 36)).heap.size = w.heap.size + 1 by simp] at nZ
 go_enter Tryz.func91, Tryz.ntmps91
 go_wp2_with fail;obtain ⟨W0, hW0⟩ : ∃ W0, (w.alloc (.cells (yN s L G) 36)).alloc (.cells #[.slice none 0 0, .slice none 0 0, .slice none 0 0, .slice none 0 0, .slice none 0 0, .slice none 0 0, .slice none 0 0, .slice none 0 0, .int .i64 0, .int .i64 0] 36) = W0 := ⟨_, rfl⟩
 have hW1 : (w.alloc (.cells (yN s L G) 36)).alloc (.cells (yN Sl.nil 0 0) 36) = W0 := hW0;rw [hW1] at eE nZ eD
 try rw [hW0]
 clear hW0 hW1;have hs0 : w.heap.size + 2 ≤ W0.heap.size := nZ.out.lt;have Jm := zh hs0;clear hs0
 go_loopw [7] (fun iv W => ∃ (i : Nat) (q : Sl), iv = .int .i64 (i : Int) ∧ i ≤ 8 ∧ Hid (∀ j, j < i → W.ownsRow (w.heap.size + 2) 49 4 (q.v j) (f j).length (zU (f j))) ∧ Hid (∀ j, i ≤ j → q.v j = s.v j) ∧ Hid (eB W w.heap.size q L G) ∧ Hid (eB W (w.heap.size + 1) Sl.nil 0 0) ∧ Hid (Below w.heap.size w W)) (fun iv _ => 8 - (intOf iv).toNat)
 case atStart => exact ⟨0, s, rfl, au _, zh (fun j hj => by omega), zh (fun j _ => rfl), eE, nZ, eD⟩
 obtain ⟨i, q, rfl, hi, Vu, Hq2, HX, HY, HB⟩ := hrel
 by_cases hin : i < 8
 ·
  have i1 : (i : Int) < 8 := by omega
  have hI := HI.out i hin;have hL := HL.out i hin;have DZ := zh (HC.out i hin wr HB.out);have rW : s.v i = .slice (s.a i) (s.n i) (s.c i) := rfl;rw [rW] at DZ hI;rw [hL] at DZ hI;generalize s.a i = sa at *;generalize s.c i = sc at *;clear rW hL;go_wp2_with fail;refine DZ.out.mono ?_; rintro e w2 ⟨v2, rfl, ew, hb2⟩;have eP := zh (zA HB.out hb2);have fU := zh (HX.out.below hb2);have ix := zh (HY.out.below hb2);have gR := zh (fun j hj => zH (Vu.out j hj) hb2);have Ey : w.heap.size + 2 ≤ wr.heap.size := HY.out.lt;have gj := zh (ew.mono Ey);obtain ⟨oa, oc, sH, _⟩ := zO ew;subst sH;clear ew hb2 Ey DZ;have ci := fU.out.c i hin;have fi := fU.out.f i;have hqi : q.v i = .slice (q.a i) (q.n i) (q.c i) := rfl;rw [hqi] at ci;clear hqi;go_wp2_with fail;have gO := zh (fU.out.Ew hin oa (f i).length oc)
  have mA := zh (ix.out.ea (p := ⟨w.heap.size, i, none⟩) (show w.heap.size ≠ w.heap.size + 1 by omega) (.slice oa (f i).length oc));have fV := zh (eP.out.setCell (p := ⟨w.heap.size, i, none⟩) (ai _) (.slice oa (f i).length oc));refine ⟨⟨i + 1, q.set i oa (f i).length oc, by go_num, by omega, zh (fun j hj => ?_), zh (fun j hj => ?_), gO, mA, fV⟩, by simp [intOf]; omega⟩
  ·
   rw [Sl.nY]
   by_cases e : j = i
   ·
    subst e; rw [ag rfl]; exact yB gj.out (show w.heap.size < w.heap.size + 2 by omega) _
   rw [ah e]; exact yB (gR.out j (by omega)) (show w.heap.size < w.heap.size + 2 by omega) _
  rw [Sl.nY, ah (by omega)]; exact Hq2.out j (by omega)
 obtain rfl : i = 8 := by omega
 obtain ⟨c0, c1, c2, c3, c4, c5, c6, c7, c8, c9⟩ := HX.out.q;obtain ⟨d0, d1, d2, d3, d4, d5, d6, d7, d8, d9⟩ := HY.out.q;have F := HY.out.f;go_wp2_with fail;change bodyPost _ _ _ _ _ (yC wr (w.heap.size + 1) q L G);have hby := HY.out.all q L G;have mC := zh (show eU (yC wr (w.heap.size + 1) q L G) w.heap.size q f from fun j hj => World.ownsRow.mono (Vt (Vu.out j hj) (show w.heap.size + 1 < w.heap.size + 2 by omega) q L G) (by omega));have ek := zh (zY HB.out (Nat.le_succ _) q L G);generalize yC wr (w.heap.size + 1) q L G = V at *;exact aw (v := yA q L G) (by simp [results, Tryz.results91, go_sem, hby.q]) rfl ⟨⟨q, rfl, mC.out⟩, ek.out⟩
end Go.Proofs.YtcgfilmmokmdjaaGreat
namespace Go.Proofs.YtcgfilmmokmdjaaGreat
open Go.RowKit
theorem kN {P : Program} {dT sT elem : TypeId} {sz bytes : Nat} (hE : xj P dT elem sz bytes) {w : World} {base : Nat} {e : TypeId} {n cap g : Nat} {xs : List Value} (h : w.ownsRow base e sz (.slice (some ⟨g, 0, none⟩) n cap) n xs)
  {sa : Option Addr} {m sc : Nat} {news : List Value} (hs : Rd w sz (.slice sa m sc) m news) (o dl dc k : Nat) (hk : k = Nat.min m dl) (h0 : 0 < k) (hsz : 0 < sz) (ho : o + k ≤ n) (h1 : ∀ u ∈ news.take (k * sz), u.oneCell' = true) :
  ∃ w', (∀ ty, (Builtin.copy_ #[dT, sT] ty #[.slice (some ⟨g, o * sz, none⟩) dl dc, .slice sa m sc]).run P w = .ok (.int .i64 (k : Int)) w') ∧
   w'.ownsRow base e sz (.slice (some ⟨g, 0, none⟩) n cap) n (xs.take (o * sz) ++ news.take (k * sz) ++ xs.drop (o * sz + k * sz)) ∧ w.grownBy w' (some g) := by
 obtain ⟨hl, a', cap', e1, _, _, _, hc⟩ := hs;injection e1 with e1 e2 e3;subst e1 e3;have Gj : k ≤ m := by rw [hk]; exact Nat.min_le_left _ _
 have hlk : (news.take (k * sz)).length = k * sz := by rw [ay, hl]; exact bH (aW _ Gj)
 have hp : 0 < news.length := by rw [hl]; exact Nat.mul_pos (by omega) hsz
 obtain ⟨b, off, e4, hcell⟩ := hc hp;subst e4;obtain ⟨w', hrun, hown, hgr⟩ := tj (P := P) h (o * sz) (news.take (k * sz)) (by rw [hlk, ← bY]; exact aW _ ho) h1;rw [hlk] at hown;refine ⟨w', fun ty => ?_, hown, hgr⟩
 have hf := run_firstCells_some (P := P) (w := w) sz k ⟨b, off, none⟩ m sc (news.take (k * sz)) hlk (fun j v hj => by
  rw [yP]
  refine hcell j v ?_
  rw [cL] at hj
  split at hj
  ·
   exact hj
  cases hj)
 obtain ⟨ht, hZ⟩ := wD hE;simp [Builtin.copy_, run_underlying ht, Builtin.lenOf, hZ, ← hk, hf, hrun, goInt]
theorem Vv {w : World} {base : Nat} {e : TypeId} {sz n cap g : Nat} {xs : List Value} (h : w.ownsRow base e sz (.slice (some ⟨g, 0, none⟩) n cap) n xs) (k : Nat) (hk : n + k ≤ cap) :
  ∃ ys, ys.length = k * sz ∧ w.ownsRow base e sz (.slice (some ⟨g, 0, none⟩) (n + k) cap) (n + k) (xs ++ ys) := by
 have hx := h.1;rcases h.2 with ⟨h', _⟩ | ⟨g', cap', cur, h', hb, hg, hnc, hcm, hcs, jd⟩
 ·
  cases h'
 injection h' with h' _ h'';injection h' with h';injection h' with h' _;subst h' h'';have hN : (n + k) * sz ≤ cur.toList.length := by rw [dM, hcs]; exact aW _ hk
 rw [bY] at hN;refine ⟨(cur.toList.drop (n * sz)).take (k * sz), by rw [ay, aK]; omega, ?_, .inr ⟨g, cap, cur, rfl, hb, hg, hk, hcm, hcs, ?_⟩⟩
 ·
  rw [aA, hx, ay, aK, bY]; omega
 rw [bY, List.take_add, jd]
theorem tw {P : Program} {t e : TypeId} {sz bytes : Nat} (hE : xj P t e sz bytes) (g n cap k : Nat) (hk : k ≤ n) (hc : k < cap) :
  ∀ W kl, (Instr.slice t (.slice (some ⟨g, 0, none⟩) n cap) (some (.int kl (k : Int))) none none).run P W = .ok (.slice (some ⟨g, k * sz, none⟩) (n - k) (cap - k)) W := by
 obtain ⟨h1, h2⟩ := wD hE;intro W kl;rw [run_slice_l W t (some ⟨g, 0, none⟩) n cap h1 kl (k : Int) (by omega) (by omega), h2];have : cap ≠ k := by omega
 simp [Result.andThen, sliced, this, yP]
theorem zHP {w : World} {B : Nat} {a : Option Addr} {n cap : Nat} {xs : List Value} (h : w.ownsRow B 49 4 (.slice a n cap) n xs) (i k : Nat) (hi : i ≤ n) (h0 : 0 < n) (hk : cap < i + k) (hs : i + k ≤ 1000001) :
  ∃ w' c', (∀ ty, (Builtin.append_ #[33, 3] ty #[.slice a i cap, .int .i64 (k : Int)]).run Tryz.prog w = .ok (.slice (some ⟨w.heap.size, 0, none⟩) (i + k) c') w') ∧
   w'.ownsRow w.heap.size 49 4 (.slice (some ⟨w.heap.size, 0, none⟩) (i + k) c') (i + k) (xs.take (i * 4) ++ zU (List.replicate k fJ)) ∧ Below w.heap.size w w' ∧ c' ≤ maxLen := by
 obtain ⟨x, hx⟩ : ∃ x, Tryz.prog.info? 49 = some x := by
  cases hq : Tryz.prog.info? 49 with
  | none => have := Gh; rw [hq] at this; cases this
  | some x => exact ⟨x, rfl⟩
 have hI := Gh;rw [hx] at hI;injection hI with hI;injection hI with hz hI;injection hI with hs4 Ar;have hz : x.zero = some (jB fJ) := hz;have hcap : 0 < cap := by
  rcases h.2 with ⟨e, _⟩ | ⟨g, c, _, e, _, _, hnc, _⟩
  ·
   injection e with _ e2 _; omega
  injection e with _ _ e3; omega
 obtain ⟨hl0, a', cap', e1, _, _, _, hc⟩ := zr h;injection e1 with e1 e2 e3;subst e1 e3;have hl : (xs.take (i * 4)).length = i * 4 := by rw [ay, hl0]; exact bH (aW _ hi)
 have hold : (Builtin.firstCells x.size i (.slice a i cap)).run Tryz.prog w.drew = .ok (xs.take (i * 4)).toArray w.drew := by
  obtain ⟨b, off, e4, hcell⟩ := hc (by rw [hl0]; omega);subst e4;rw [hs4];refine run_firstCells_some (P := Tryz.prog) (w := w.drew) 4 i ⟨b, off, none⟩ i cap _ hl (fun j v hj => ?_);rw [yP];refine hcell j v ?_;rw [cL] at hj
  split at hj
  ·
   exact hj
  cases hj
 have hnb : Builtin.nextslicecap (i + k) cap * x.bytes ≤ 281474976710656 := growslice_fits hk (by rw [Ar]; omega);have hr : ∀ ty, _ := fun ty => Lib.run_append_grow_zeros (P := Tryz.prog) w 33 3 ty 49 x (jB fJ) .i64 .i64 Tryz.underlying33 Tryz.underlying3 hx hz a i cap (xs.take (i * 4)) hold k (by omega) (by rw [hs4]; decide) hk (by omega) (by rw [Ar]; omega) hnb
 refine ⟨_, _, hr, ?_, (Below.drew (aj _ _)).alloc (ai _) _, grownCap_le_maxLen w (i + k) cap _ (by unfold maxLen; omega)⟩;have hge := grownCap_ge w (i + k) cap 49;have hcm : grownCap w (i + k) cap 49 ≤ maxLen := grownCap_le_maxLen w (i + k) cap _ (by unfold maxLen; omega);have hzl : (zU (List.replicate k fJ)).length = k * 4 := by rw [yF, dy]
 have hlen : (xs.take (i * 4) ++ zU (List.replicate k fJ)).length = (i + k) * 4 := by rw [aA, hl, hzl, bY]
 refine ⟨hlen, .inr ⟨w.heap.size, _, _, rfl, ai _, dg w.drew _, hge, hcm, ?_, ?_⟩⟩
 ·
  have z4 : (jB fJ).cells.size = 4 := rfl;simp only [Array.size_append, bZ, size_zeroCells, z4, hl, ← bY];rw [show i + k + (grownCap w (i + k) cap 49 - (i + k)) = grownCap w (i + k) cap 49 from by omega]
 simp only [Array.toList_append];rw [vv, ← hlen];exact List.take_left
theorem zH6 {xs z c : List Value} {n i : Nat} (hi : i ≤ n) (hx : xs.length = n * 4) (hz : z.length = (n + 1 - i) * 4) (hc : c.length = 4) :
  ((xs.take (i * 4) ++ z).take (i * 4) ++ c ++ (xs.take (i * 4) ++ z).drop (i * 4 + 4)).take ((i + 1) * 4) ++ xs.drop (i * 4) ++ ((xs.take (i * 4) ++ z).take (i * 4) ++ c ++ (xs.take (i * 4) ++ z).drop (i * 4 + 4)).drop ((i + 1) * 4 + (n - i) * 4) = xs.take (i * 4) ++ c ++ xs.drop (i * 4) := by
 have hl : (xs.take (i * 4)).length = i * 4 := by rw [ay, hx]; omega
 have e1 : (xs.take (i * 4) ++ z).take (i * 4) = xs.take (i * 4) := cE hl;have e2 : (xs.take (i * 4) ++ z).drop (i * 4 + 4) = z.drop 4 := by rw [← bU, List.drop_left' hl]
 have l2 : (xs.take (i * 4) ++ c).length = (i + 1) * 4 := by rw [aA, hl, hc]; omega
 have e3 : (xs.take (i * 4) ++ c ++ z.drop 4).drop ((i + 1) * 4 + (n - i) * 4) = [] := bQ (by rw [aA, l2, aK, hz]; omega);rw [e1, e2, cE l2, e3, bW]
theorem zHY {xs ys c : List Value} {n i : Nat} (hi : i ≤ n) (hx : xs.length = n * 4) (hy : ys.length = 4) :
  ((xs ++ ys).take ((i + 1) * 4) ++ ((xs ++ ys).drop (i * 4)).take ((n - i) * 4) ++ (xs ++ ys).drop ((i + 1) * 4 + (n - i) * 4)).take (i * 4) ++ c ++ ((xs ++ ys).take ((i + 1) * 4) ++ ((xs ++ ys).drop (i * 4)).take ((n - i) * 4) ++ (xs ++ ys).drop ((i + 1) * 4 + (n - i) * 4)).drop (i * 4 + 4) = xs.take (i * 4) ++ c ++ xs.drop (i * 4) := by
 have ld : (xs.drop (i * 4)).length = (n - i) * 4 := by rw [aK, hx]; omega
 have e1 : ((xs ++ ys).drop (i * 4)).take ((n - i) * 4) = xs.drop (i * 4) := by
  rw [List.drop_append_of_le_length (by omega), cE ld]
 have e2 : (xs ++ ys).drop ((i + 1) * 4 + (n - i) * 4) = [] := bQ (by rw [aA, hx, hy]; omega);have l3 : ((xs ++ ys).take ((i + 1) * 4)).length = (i + 1) * 4 := by rw [ay, aA, hx, hy]; omega
 rw [e1, e2, bW];have e3 : ((xs ++ ys).take ((i + 1) * 4) ++ xs.drop (i * 4)).take (i * 4) = xs.take (i * 4) := by
  rw [dN (by omega), dh, bH (by omega), dN (by omega)]
 have e4 : ((xs ++ ys).take ((i + 1) * 4) ++ xs.drop (i * 4)).drop (i * 4 + 4) = xs.drop (i * 4) := List.drop_left' (by rw [l3]; omega);rw [e3, e4]
theorem zHq {w : World} {B g n cap : Nat} {xs : List Value} (h : w.ownsRow B 49 4 (.slice (some ⟨g, 0, none⟩) n cap) n xs) (i : Nat) (hi : i < n) :
  ∃ w', (∀ ty c, (Builtin.clear_ #[33] ty #[.slice (some ⟨g, i * 4, none⟩) (n - i) c]).run Tryz.prog w = .ok (.tuple #[]) w') ∧ w'.ownsRow B 49 4 (.slice (some ⟨g, 0, none⟩) n cap) n (xs.take (i * 4) ++ zU (List.replicate (n - i) fJ)) ∧ w.grownBy w' (some g) := by
 have hl : xs.length = n * 4 := h.1;obtain ⟨w', h1, h2, h3⟩ := tj (P := Tryz.prog) h (i * 4) (zU (List.replicate (n - i) fJ)) (by rw [yF, dy]; omega) (zn _);refine ⟨w', fun ty c => ?_, ?_, h3⟩
 ·
  obtain ⟨m, hm⟩ : ∃ m, n - i = m + 1 := ⟨n - i - 1, by omega⟩
  rw [hm] at h1 ⊢;simp only [Builtin.clear_];simp [run_underlying Tryz.underlying33];have hz := vv (m + 1);simp only [jB, fJ] at hz;rw [hz, show zU (List.replicate (m + 1) ⟨0, 0, 0, 0⟩) = zU (List.replicate (m + 1) fJ) from rfl, h1]
  rfl
 rw [bQ (by rw [yF, dy]; omega), bW] at h2;exact h2
theorem zIH {w : World} {B g n cap : Nat} {xs : List Value} (h : w.ownsRow B 49 4 (.slice (some ⟨g, 0, none⟩) n cap) n xs) {sa : Addr} {m sc : Nat} {news : List Value} (hs : Rd w 4 (.slice (some sa) m sc) m news) (h1 : ∀ u ∈ news, u.oneCell' = true) (hr : n + m ≤ cap) :
  ∃ w', (∀ ty, (Builtin.append_ #[33, 33] ty #[.slice (some ⟨g, 0, none⟩) n cap, .slice (some sa) m sc]).run Tryz.prog w = .ok (.slice (some ⟨g, 0, none⟩) (n + m) cap) w') ∧ w'.ownsRow B 49 4 (.slice (some ⟨g, 0, none⟩) (n + m) cap) (n + m) (xs ++ news) ∧ w.grownBy w' (some g) := by
 obtain ⟨x, hx⟩ : ∃ x, Tryz.prog.info? 49 = some x := by
  cases hq : Tryz.prog.info? 49 with
  | none => have := Gh; rw [hq] at this; cases this
  | some x => exact ⟨x, rfl⟩
 have hI := Gh;rw [hx] at hI;injection hI with hI;injection hI with _ hI;injection hI with hs4 _;have hs4 : x.size = 4 := hs4;obtain ⟨hl, a', cap', e1, _, _, _, hc⟩ := hs;injection e1 with e1 e2 e3;subst e3;have hnews : ∀ j u, news[j]? = some u → w.cell? (sa.add j) = some u := fun j u hj => by
  have hp : 0 < news.length := by have := (List.getElem?_eq_some_iff.1 hj).1; omega
  obtain ⟨b, off, e4, hcell⟩ := hc hp;rw [← e1] at e4;obtain rfl := Option.some.inj e4;rw [yP]; exact hcell j u hj
 rcases h.2 with ⟨h', _⟩ | ⟨g', c2, cur, h', hb, hg, hnc, hcm, hcs, jd⟩
 ·
  cases h'
 injection h' with h' _ h'';injection h' with h';injection h' with h' _;subst h' h'';have hx1 := h.1;have hfit : n * 4 + news.length ≤ cur.size := by rw [hl, hcs]; omega
 refine ⟨_, fun ty => run_append_room (P := Tryz.prog) w 33 ty 49 x Tryz.underlying33 hx g n cap cur hg sa m sc news (by rw [hs4]; exact hl) hnews h1 hr (by rw [hs4]; exact hfit), ⟨?_, .inr ⟨g, cap, _, rfl, hb, setRow_heap w g cur _ _ _ hg, hr, hcm, ?_, ?_⟩⟩, ⟨rfl, rfl, rfl, by simp, fun k _ hk => setRow_other w g k _ (fun e => hk (by rw [e]))⟩⟩
 ·
  rw [aA, hx1, hl, bY]
 ·
  rw [hs4];simp only [bZ, aA, ay, aK, dM];omega
 rw [hs4, jd];have : (xs ++ news).length = (n + m) * 4 := by rw [aA, hx1, hl, bY]
 rw [← this];exact List.take_left
theorem zF3 (w : World) (n : Nat) (h0 : 0 < n) (hn : n ≤ 1000000) :
  ∃ w' c, (∀ ty, (Builtin.append_ #[33, 3] ty #[.slice none 0 0, .int .i64 (n : Int)]).run Tryz.prog w = .ok (.slice (some ⟨w.heap.size, 0, none⟩) n c) w') ∧
   w'.ownsRow w.heap.size 49 4 (.slice (some ⟨w.heap.size, 0, none⟩) 0 c) 0 [] ∧ Below w.heap.size w w' ∧ n ≤ c ∧ c ≤ maxLen := by
 obtain ⟨x, hx⟩ : ∃ x, Tryz.prog.info? 49 = some x := by
  cases hq : Tryz.prog.info? 49 with
  | none => have := Gh; rw [hq] at this; cases this
  | some x => exact ⟨x, rfl⟩
 have hI := Gh;rw [hx] at hI;injection hI with hI;injection hI with hz hI;injection hI with hs4 Ar;have hz : x.zero = some (jB fJ) := hz;have hr : ∀ ty, _ := fun ty => Lib.run_append_nil_zeros (P := Tryz.prog) w 33 3 ty 49 x (jB fJ) .i64 .i64 Tryz.underlying33 Tryz.underlying3 hx hz n h0 (by rw [hs4]; decide) (by omega) (by rw [Ar]; omega)
 have hge := grownCap_ge w n 0 49;have hcm : grownCap w n 0 49 ≤ maxLen := grownCap_le_maxLen w n 0 _ (by unfold maxLen; omega);refine ⟨_, _, hr, ⟨rfl, .inr ⟨w.heap.size, _, _, rfl, ai _, dg w.drew _, au _, hcm, ?_, by simp⟩⟩, (Below.drew (aj _ _)).alloc (ai _) _, hge, hcm⟩;have z4 : (jB fJ).cells.size = 4 := rfl;simp only [Array.size_append, size_zeroCells, z4, ← bY];rw [show n + (grownCap w n 0 49 - n) = grownCap w n 0 49 from by omega]
theorem zJp (n : Nat) (hn : n ≤ 1000000) (w : World) :
  Calls Tryz.prog 172 #[.slice none 0 0, .int .i64 (n : Int)] w fun e w' => ∃ v', e = .returned v' ∧ fg w' w.heap.size v' [] ∧ Below w.heap.size w w' := by
 have hneg : decide ((n : Int) < 0) = false := by simp
 by_cases h0 : n = 0
 ·
  subst h0
  go_enter Tryz.func172, Tryz.ntmps172
  go_wp2_with fail;go_ret;exact ⟨_, rfl, aU _ _ _ _, aj _ _⟩
 have hp : decide ((0 : Int) < (n : Int)) = true := by simp; omega
 obtain ⟨w1, c, hrun, hown, hb, hnc, hcm⟩ := zF3 w n (by omega) hn;have h1 := yq (P := Tryz.prog) yE (a := some ⟨w.heap.size, 0, none⟩) (n := n) (cap := c) (fun x hx => ⟨w.heap.size, 0, (Option.some.inj hx).symm⟩) 0 (au _);have h2 : ∀ W kh, (Instr.slice 33 (.slice none 0 0) none (some (.int kh ((0 : Nat) : Int))) none).run Tryz.prog W = .ok (.slice none 0 0) W := yq (P := Tryz.prog) yE (a := none) (n := 0) (cap := 0) (fun x hx => by cases hx) 0 (ai _);rw [show ((0 : Nat) : Int) = 0 from rfl] at h1 h2;have HO := zh hown;have HB := zh hb;have j1 : IntKind.i64.wrap ((n : Int) - 0) = (n : Int) := (aH _ (by omega)).trans (by omega);clear hown hb
 go_enter Tryz.func172, Tryz.ntmps172
 go_wp2_with (at_builtin; refine Lib.wpList_append_run _ rfl (.tmp 20) (.tmp 21) _ _ rfl _ _ rfl rfl _ _ (hrun _) ?_);go_ret;exact ⟨_, rfl, HO.out, HB.out⟩
theorem PW (f : Nat → List It) (n : Nat) : (cat f (n + 1)).length = (cat f n).length + (f n).length := by
 show (cat f n ++ f n).length = _
 rw [aA]
theorem Vw (f : Nat → List It) : ∀ d n, (cat f n).length ≤ (cat f (n + d)).length
 | 0, _ => ai _
 | d + 1, n => by
  have := Vw f d n;rw [show n + (d + 1) = (n + d) + 1 by omega, PW];omega
theorem zFp (b : Nat) (s : Sl) (L G : Int) (f : Nat → List It) (w : World) (hx : eB w b s L G) (h : fw w s f) (hs : (cat f 8).length ≤ 1000000) :
  Calls Tryz.prog 133 #[.slice (some ⟨b, 0, none⟩) 8 8] w fun e w' => ∃ v', e = .returned v' ∧ fg w' w.heap.size v' (cat f 8) ∧ Below w.heap.size w w' := by
 have HX := zh hx;have HR := zh h;have HL := zh (fun i (hi : i < 8) => h.n hi);have HC := zh (fun n => PW f n)
 have HM := zh (fun n (hn : n ≤ 8) => show (cat f n).length ≤ 1000000 from by
  have := Vw f (8 - n) n
  rw [show n + (8 - n) = 8 by omega] at this
  omega)
 have HG := zh (fun n hn W => zJp n hn W);have HE := zh (fun i => show cat f (i + 1) = cat f i ++ f i from rfl);clear hx h hs
 go_enter Tryz.func133, Tryz.ntmps133
 go_wp2_with fail
 go_loopw [3, 11] (fun lv iv W => ∃ i : Nat, iv = .int .i64 (i : Int) ∧ i ≤ 8 ∧ lv = .int .i64 ((cat f i).length : Int) ∧ w = W) (fun _ iv _ => 8 - (intOf iv).toNat)
 case atStart => exact ⟨0, rfl, au _, rfl, rfl⟩
 obtain ⟨i, rfl, hi, rfl, rfl⟩ := hrel
 by_cases hin : i < 8
 ·
  have i1 : (i : Int) < 8 := by omega
  have ci := HX.out.c i hin;have rW : s.v i = .slice (s.a i) (s.n i) (s.c i) := rfl;rw [rW, HL.out i hin] at ci;have hm := HM.out (i + 1) (by omega);have hc := HC.out i;rw [hc] at hm;have DZ := zh hc;generalize (cat f i).length = p at *;generalize (f i).length = q at *;have hw : IntKind.i64.wrap ((p : Int) + (q : Int)) = ((p + q : Nat) : Int) := (aH _ (by omega)).trans (by omega);have hneg : decide (((p + q : Nat) : Int) < 0) = false := by simp; omega
  clear rW hc;go_wp2_with fail;exact ⟨⟨i + 1, by go_num, by omega, by rw [DZ.out, cU], trivial⟩, by simp [intOf]; omega⟩
 obtain rfl : i = 8 := by omega
 have Vx := zh (HG.out (cat f 8).length (HM.out 8 (ai _)) w);generalize (cat f 8).length = tot at *;go_wp2_with fail;refine Vx.out.mono ?_; rintro e w1 ⟨v1, rfl, hown1, hb1⟩;have mR := zh hown1;have eQ := zh hb1;clear hown1 hb1 Vx;go_wp2_with fail
 go_loopw [6, 27] (fun ov iv W => ∃ i : Nat, iv = .int .i64 (i : Int) ∧ i ≤ 8 ∧ Hid (W.ownsRow w.heap.size 49 4 ov (cat f i).length (zU (cat f i))) ∧ Hid (Below w.heap.size w W)) (fun _ iv _ => 8 - (intOf iv).toNat)
 case atStart => exact ⟨0, rfl, au _, mR, eQ⟩
 obtain ⟨i, rfl, hi, HO, HB⟩ := hrel
 by_cases hin : i < 8
 ·
  have i1 : (i : Int) < 8 := by omega
  have ci := Below.keeps HB.out _ _ (HX.out.c i hin);have iX := zh ((HR.out i hin).below HB.out);have rW : s.v i = .slice (s.a i) (s.n i) (s.c i) := rfl;rw [rW, HL.out i hin] at ci iX;have hm := HM.out (i + 1) (by omega);rw [HC.out i] at hm;have D3 := zh (HE.out i);have hone := zn (f i);have jm := zh hone;have hsz := HB.out.size;have ig := zh (show Rd wr 4 (.slice (s.a i) (f i).length (s.c i)) (f i).length (zU (f i)) from tK iX.out);clear rW hone;go_wp2_with (at_builtin; refine zd (n := (cat f i).length) (m := (f i).length) rfl (.tmp 31) (.tmp 32) 33 rfl yE w.heap.size rfl HO.out rfl ig.out jm.out (by unfold maxLen; omega) (by omega) hsz ?_; intro v4 w4 eZ gK hv4; clear hv4; have iB := zh (show fg w4 w.heap.size v4 (cat f (i + 1)) from yI eZ (by rw [D3.out, zu])); have fQ := zh (zM HB.out HO.out hsz gK); clear eZ gK);exact ⟨⟨i + 1, by go_num, by omega, iB, fQ⟩, by simp [intOf]; omega⟩
 obtain rfl : i = 8 := by omega
 go_wp2_with fail;go_ret;exact ⟨_, rfl, HO.out, HB.out⟩
end Go.Proofs.YtcgfilmmokmdjaaGreat
