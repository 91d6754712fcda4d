/- A part of the walk. -/
import Derived.Test.YtcgfilmmokmdjaaGreatQAB
import Derived.Deep.Onto
import Derived.StillTailTactics
set_option linter.all false
set_option maxRecDepth 100000
set_option maxHeartbeats 32000000
namespace Go.Proofs.YtcgfilmmokmdjaaGreat
open Go.RowKit
abbrev zHw (n : Int) : Value := .int .u64 n
abbrev RdU (w : World) (v : Value) (l : List Int) : Prop := RdL zHw w v l
def uat (l : List Int) (j : Nat) : Int := l.getD j 0
theorem RdU.shape0 {w : World} {v : Value} {l : List Int} (h : RdU w v l) : ∃ a cap, v = .slice a l.length cap ∧ l.length ≤ cap ∧ cap ≤ maxLen := by
 obtain ⟨a, cap, h1, h2, h3, _⟩ := RdL.shape h 0;exact ⟨a, cap, h1, h2, h3⟩
theorem RdU.at {w : World} {a : Option Addr} {n cap : Nat} {l : List Int} (h : RdU w (.slice a n cap) l) {j : Nat} (hj : j < n) : ∃ b off, a = some ⟨b, off, none⟩ ∧ w.cell? ⟨b, off + j, none⟩ = some (.int .u64 (uat l j)) := by
 obtain ⟨a', cap', e, h2, h3, _, h5⟩ := RdL.shape h 0;injection e with e1 e2 e3;subst e1 e2 e3;obtain ⟨b, off, e, hc⟩ := h5 (by omega);exact ⟨b, off, e, hc j hj⟩
theorem zCy {l : List Int} {j : Nat} (h : j < l.length) : uat l j ∈ l := by
 unfold uat;rw [List.getD_eq_getElem?_getD, List.getElem?_eq_getElem h]; exact List.getElem_mem h
theorem zDZ {l : List Int} {x : Int} {j : Nat} (h : j < l.length) (h' : uat l j = x) : l.contains x = true := by
 rw [List.contains_iff_mem]; rw [← h']; exact zCy h
theorem zCt {l : List Int} {x : Int} (h : ∀ j, j < l.length → uat l j ≠ x) : l.contains x = false := by
 cases e : l.contains x with
 | false => rfl
 | true =>
  rw [List.contains_iff_mem] at e;obtain ⟨j, hj, e⟩ := List.mem_iff_getElem.1 e;exact absurd (by simp [uat, List.getElem?_eq_getElem hj, e]) (h j hj)
theorem zEd (v : Value) (l : List Int) (x : Int) (w : World) (h : RdU w v l) :
  Calls Tryz.prog 196 #[v, .int .u64 x] w fun e w' => (∃ k : Int, e = .returned (.int .i64 k) ∧ decide (0 ≤ k) = l.contains x) ∧ w = w' := by
 obtain ⟨a, cap, rfl, h1, h2⟩ := h.shape0;have HT := zh (show (∀ j, j < l.length → uat l j ≠ x) → l.contains x = false from zCt);have HF := zh (show ∀ j, j < l.length → uat l j = x → l.contains x = true from fun j => zDZ);have hm := kC h1 h2;generalize l.contains x = r at *;generalize hn : l.length = n at *;have Hr := zh h;clear h h1 h2 hn
 go_enter Tryz.func196, Tryz.ntmps196
 go_wp2_with fail
 go_loop [8] (fun i => ∃ k : Nat, k ≤ n ∧ i = .int .i64 (k : Int) ∧ (∀ j, j < k → uat l j ≠ x)) (fun i => n - (intOf i).toNat)
 case atStart => exact ⟨0, Nat.zero_le _, rfl, fun j hj => absurd hj (by omega)⟩
 obtain ⟨k, hk, rfl, hno⟩ := hrel;have Hno := zh hno;clear hno
 by_cases hlt : k < n
 ·
  obtain ⟨b, off, rfl, c0⟩ := Hr.out.at hlt;generalize hy : uat l k = y at *;have HY := zh hy;clear hy
  by_cases hxy : x = y
  ·
   have hd : (x == y) = true := beq_iff_eq.2 hxy;have HR := zh (HF.out k hlt (by rw [HY.out, hxy]));clear hxy;go_wp2_with fail;go_ret;exact ⟨⟨k, rfl, by rw [HR.out]; simp⟩, rfl⟩
  have hd : (x == y) = false := beq_eq_false_iff_ne.2 hxy;have HXY := zh hxy;clear hxy;go_wp2_with fail;refine ⟨⟨k + 1, by omega, by go_num, fun j hj => ?_⟩, by simp [intOf]; omega⟩
  by_cases e : j = k
  ·
   rw [e, HY.out]; exact fun e => HXY.out e.symm
  exact Hno.out j (by omega)
 obtain rfl : k = n := by omega
 go_wp2_with fail;go_ret;exact ⟨⟨-1, rfl, by rw [HT.out Hno.out]; rfl⟩, rfl⟩
theorem zBW (v : Value) (l : List Int) (x : Int) (w : World) (h : RdU w v l) :
  Calls Tryz.prog 171 #[v, .int .u64 x] w fun e w' => e = .returned (.bool (l.contains x)) ∧ w = w' := by
 have HX := zh (zEd v l x w h);obtain ⟨a, cap, rfl, _, _⟩ := h.shape0;generalize l.contains x = r at *;clear h
 go_enter Tryz.func171, Tryz.ntmps171
 go_wp2_with fail;refine HX.out.mono ?_; rintro e w1 ⟨⟨k, rfl, hk⟩, rfl⟩;have HK := zh hk;clear hk;go_wp2_with fail;go_ret;exact ⟨zE HK.out, rfl⟩
def Gone (w : World) (gb : Nat) (gone : List Int) : Prop := ∃ a n cap, w.cell? ⟨gb, 0, none⟩ = some (.slice a n cap) ∧ RdU w (.slice a n cap) gone
theorem Gone.below {w w' : World} {gb : Nat} {gone : List Int} (h : Gone w gb gone) (hb : Below w.heap.size w w') : Gone w' gb gone := by
 obtain ⟨a, n, cap, h1, h2⟩ := h;exact ⟨a, n, cap, Below.keeps hb _ _ h1, h2.below hb⟩
theorem zFV (k c o s : Int) (gb : Nat) (gone : List Int) (w : World) (h : Gone w gb gone) :
  Calls Tryz.prog 170 #[.agg #[.int .u64 k, .int .u32 c, .int .i64 o, .int .i64 s], .pointer (some ⟨gb, 0, none⟩)] w fun e w' => e = .returned (.bool (gone.contains k)) ∧ Below w.heap.size w w' := by
 have HW := zh (show Below w.heap.size w (w.alloc (.cells #[.int .u64 k, .int .u32 c, .int .i64 o, .int .i64 s] 49)) from (Below.refl _ _).alloc (Nat.le_refl _) _);obtain ⟨a, n, cap, h1, h2⟩ := h;have HC := zh (zBW (.slice a n cap) gone k (w.alloc (.cells #[.int .u64 k, .int .u32 c, .int .i64 o, .int .i64 s] 49)) (h2.below HW.out));have h1' := Below.keeps HW.out _ _ h1;generalize gone.contains k = r at *;clear h2
 go_enter Tryz.func170, Tryz.ntmps170
 go_wp2_with fail;refine HC.out.mono ?_; rintro e w1 ⟨rfl, rfl⟩;go_wp2_with fail;go_ret;exact ⟨rfl, HW.out⟩
def kept (gone : List Int) (l : List It) : List It := l.filter fun x => !gone.contains x.key
theorem zGj (gone : List Int) {l : List It} {j : Nat} (h : j < l.length) : kept gone (l.take (j + 1)) = kept gone (l.take j) ++ (if gone.contains (iat l j).key then [] else [iat l j]) := by
 unfold kept;rw [yj h, List.filter_append]
 congr 1
 cases e : gone.contains (iat l j).key <;> simp only [List.filter_cons, List.filter_nil, e] <;> rfl
theorem zD2 {gone : List Int} {l : List It} (h : ∀ j, j < l.length → gone.contains (iat l j).key = false) : kept gone l = l := by
 unfold kept;rw [List.filter_eq_self];intro x hx;obtain ⟨j, hj, rfl⟩ := vd hx;rw [h j hj]; rfl
theorem zBy (y : It) : ∀ (l : List It) (k : Nat), k < l.length → ((((zL l).set (k * 4) (.int .u64 y.key)).set (k * 4 + 1) (.int .u32 y.ck)).set (k * 4 + 2) (.int .i64 y.off)).set (k * 4 + 3) (.int .i64 y.size) = zL (l.set k y)
 | [], _, h => by simp at h
 | x :: r, 0, _ => rfl
 | x :: r, k + 1, h => by
  have ih := zBy y r k (by simpa using h);have e0 : (k + 1) * 4 = k * 4 + 1 + 1 + 1 + 1 := by omega
  have e1 : (k + 1) * 4 + 1 = k * 4 + 1 + 1 + 1 + 1 + 1 := by omega
  have e2 : (k + 1) * 4 + 2 = k * 4 + 2 + 1 + 1 + 1 + 1 := by omega
  have e3 : (k + 1) * 4 + 3 = k * 4 + 3 + 1 + 1 + 1 + 1 := by omega
  rw [e1, e2, e3, e0]
  show _ = itC x ++ zL (r.set k y)
  rw [← ih]
  rfl
theorem zBM {w : World} {B g n cap : Nat} {l : List It} (h : w.ownsRow B 49 4 (.slice (some ⟨g, 0, none⟩) n cap) n (zL l)) (k : Nat) (hk : k < l.length) (y : It) :
  ((((w.setCell ⟨g, k * 4, none⟩ (.int .u64 y.key)).setCell ⟨g, k * 4 + 1, none⟩ (.int .u32 y.ck)).setCell ⟨g, k * 4 + 2, none⟩ (.int .i64 y.off)).setCell ⟨g, k * 4 + 3, none⟩ (.int .i64 y.size)).ownsRow B 49 4 (.slice (some ⟨g, 0, none⟩) n cap) n (zL (l.set k y)) := by
 rw [← zBy y l k hk];exact ((((h.stored _ _).1.stored _ _).1.stored _ _).1.stored _ _).1
theorem vZ : ∀ m : Nat, (Builtin.zeroCells (itV it0).cells m).toList = zL (List.replicate m it0)
 | 0 => by simp [Builtin.zeroCells, zL]
 | m + 1 => by
  rw [List.replicate_succ', zp, ← vZ m, yy]
  show (Array.map _ (Array.range ((m + 1) * 4))).toList = (Array.map _ (Array.range (m * 4))).toList ++ _
  have e : (m + 1) * 4 = m * 4 + 1 + 1 + 1 + 1 := by omega
  rw [e];simp only [Array.toList_map, Array.toList_range, List.range_succ, List.map_append, List.map_cons, List.map_nil, List.append_assoc]
  congr 1
  show _ = [Value.int .u64 0, .int .u32 0, .int .i64 0, .int .i64 0]
  have s4 : (itV it0).cells.size = 4 := rfl;rw [s4];rw [show m * 4 % 4 = 0 by omega, show (m * 4 + 1) % 4 = 1 by omega, show (m * 4 + 1 + 1) % 4 = 2 by omega, show (m * 4 + 1 + 1 + 1) % 4 = 3 by omega]
  rfl
theorem zHS {w : World} {B g n cap : Nat} {l : List It} (h : w.ownsRow B 49 4 (.slice (some ⟨g, 0, none⟩) n cap) n (zL l)) (i : Nat) (hi : i < n) :
  ∃ w', (∀ ty c, (Builtin.clear_ #[33] ty #[.slice (some ⟨g, i * 4, none⟩) (n - i) c]).run Tryz.prog w = .ok (.tuple #[]) w') ∧ w'.ownsRow B 49 4 (.slice (some ⟨g, 0, none⟩) n cap) n (zL (l.take i ++ List.replicate (n - i) it0)) ∧ w.grownBy w' (some g) := by
 have hl : l.length = n := by have := h.1; rw [yB] at this; omega
 obtain ⟨w', h1, h2, h3⟩ := tH (P := Tryz.prog) h (i * 4) (zL (List.replicate (n - i) it0)) (by rw [yB, List.length_replicate]; omega) (zl _);refine ⟨w', fun ty c => ?_, ?_, h3⟩
 ·
  obtain ⟨m, hm⟩ : ∃ m, n - i = m + 1 := ⟨n - i - 1, by omega⟩
  rw [hm] at h1 ⊢;simp only [Builtin.clear_];simp [run_underlying Tryz.underlying33];have hz := vZ (m + 1);simp only [itV, it0] at hz;rw [hz, show zL (List.replicate (m + 1) ⟨0, 0, 0, 0⟩) = zL (List.replicate (m + 1) it0) from rfl, h1]
  rfl
 rw [zp, xX];rw [List.drop_of_length_le (by rw [yB, yB, List.length_replicate]; omega), List.append_nil] at h2;exact h2
theorem zIb (v : Value) (l : List It) (gb : Nat) (gone : List Int) (w : World) (h : RdT w v l) (hg : Gone w gb gone) :
  Calls Tryz.prog 178 #[v, .func (.func 170) #[] #[.pointer (some ⟨gb, 0, none⟩)]] w fun e w' =>
   ((e = .returned (.int .i64 (-1)) ∧ ∀ j, j < l.length → gone.contains (iat l j).key = false) ∨ ∃ k : Nat, k < l.length ∧ e = .returned (.int .i64 (k : Int)) ∧ gone.contains (iat l k).key = true ∧ ∀ j, j < k → gone.contains (iat l j).key = false) ∧ Below w.heap.size w w' := by
 obtain ⟨a, cap, rfl, h1, h2⟩ := h.shape;have hm := kC h1 h2;have Hg := zh hg;generalize hn : l.length = n at *;have Hr := zh h;clear h h1 h2 hn hg
 go_enter Tryz.func178, Tryz.ntmps178
 go_wp2_with fail
 go_loopw [8] (fun i wr => ∃ k : Nat, k ≤ n ∧ i = .int .i64 (k : Int) ∧ (∀ j, j < k → gone.contains (iat l j).key = false) ∧ Below w.heap.size w wr) (fun i _ => n - (intOf i).toNat)
 case atStart => exact ⟨0, Nat.zero_le _, rfl, fun j hj => absurd hj (by omega), Below.refl _ _⟩
 obtain ⟨k, hk, rfl, hok, hb⟩ := hrel;have Hok := zh hok;have Hb := zh hb;have hB := hb.size;clear hok hb
 by_cases hlt : k < n
 ·
  have hr := Hr.out.below Hb.out;obtain ⟨b, off, rfl, c0, c1, c2, c3⟩ := hr.at hlt;have HV := zh (zFV (iat l k).key (iat l k).ck (iat l k).off (iat l k).size gb gone wr (Hg.out.below Hb.out));generalize hx : iat l k = x at *;have EX := zh hx;clear hr hx;go_wp2_with fail;refine HV.out.mono ?_; rintro e w1 ⟨rfl, hb1⟩;have Hb1 := zh (zA Hb.out hb1)
  cases hx : gone.contains x.key
  ·
   have HX := zh hx;clear hb1 hx;go_wp2_with fail;refine ⟨⟨k + 1, by omega, by go_num, fun j hj => ?_, Hb1.out⟩, by simp [intOf]; omega⟩
   by_cases e : j = k
   ·
    rw [e, EX.out]; exact HX.out
   exact Hok.out j (by omega)
  have HX := zh hx;clear hb1 hx;go_wp2_with fail;go_ret;exact ⟨.inr ⟨k, hlt, rfl, by rw [EX.out]; exact HX.out, Hok.out⟩, Hb1.out⟩
 obtain rfl : k = n := by omega
 go_wp2_with fail;go_ret;exact ⟨.inl ⟨rfl, Hok.out⟩, Hb.out⟩
theorem zK7 (v : Value) (l : List It) (gb : Nat) (gone : List Int) (B : Nat) (w : World) (hown : OwnT w B v l) (hB : B ≤ w.heap.size) (hg : ∀ W, Below B w W → Gone W gb gone) :
  Calls Tryz.prog 169 #[v, .func (.func 170) #[] #[.pointer (some ⟨gb, 0, none⟩)]] w fun e w' => ∃ v', e = .returned v' ∧ OwnT w' B v' (kept gone l) ∧ Below B w w' := by
 have HI := zh (zIb v l gb gone w hown.rd (hg w (Below.refl _ _)));have HG := zh hg;have HKA := zh (show (∀ j, j < l.length → _) → _ from zD2 (gone := gone) (l := l));have HKS := zh (show ∀ j, j < l.length → _ from fun j hj => zGj gone (l := l) (j := j) hj);have HKE := zh (show kept gone (l.take l.length) = kept gone l by rw [List.take_length]);obtain ⟨oa, oc, rfl, ho1, ho2, ho3⟩ := zJ hown;have hm := kC ho1 ho2;have Hown := zh (show w.ownsRow B 49 4 _ l.length (zL l) from hown);have Ho3 := zh ho3;generalize hn : l.length = n at *;have HN := zh hn;clear hg ho3 hn hown
 go_enter Tryz.func169, Tryz.ntmps169
 go_wp2_with fail;refine HI.out.mono ?_; rintro e w1 ⟨hres, hb1⟩;have HB1 := zh (show Below B w w1 from hb1.mono hB);have HO1 := zh (zH Hown.out hb1);clear hb1;rcases hres with ⟨rfl, hno⟩ | ⟨i0, hi0, rfl, hyes, hno⟩
 ·
  have HK := zh (HKA.out hno);clear hno;go_wp2_with fail;go_ret;exact ⟨_, rfl, yE HO1.out (by rw [HK.out]), HB1.out⟩
 have hneg : ((i0 : Int) == -1) = false := beq_eq_false_iff_ne.2 (by omega);have hk0 : kept gone (l.take (i0 + 1)) = l.take i0 := by
  rw [HKS.out i0 hi0, hyes];simp only [if_true, List.append_nil];refine zD2 fun j hj => ?_
  rw [List.length_take] at hj;rw [wK (by omega)];exact hno j (by omega)
 have HK0 := zh hk0;obtain ⟨g, rfl⟩ : ∃ g, oa = some ⟨g, 0, none⟩ := by
  rcases HO1.out.2 with ⟨e, h0⟩ | ⟨g, _, _, e, _⟩
  ·
   omega
  injection e with e; exact ⟨g, e⟩
 have hgB := (HO1.out.lt g rfl).1;clear hyes hno hk0;go_wp2_with fail
 go_loopw [5, 6] (fun iv jv wr => ∃ (i j : Nat) (a : List It), iv = .int .i64 (i : Int) ∧ jv = .int .i64 (j : Int) ∧ i < j ∧ j ≤ n ∧ a.length = n ∧ wr.ownsRow B 49 4 (.slice (some ⟨g, 0, none⟩) n oc) n (zL a) ∧ a.take i = kept gone (l.take j) ∧ a.drop j = l.drop j ∧ Below B w wr) (fun _ jv _ => n - (intOf jv).toNat)
 case atStart => exact ⟨i0, i0 + 1, l, rfl, by go_num, by omega, by omega, HN.out, HO1.out, HK0.out.symm, rfl, HB1.out⟩
 obtain ⟨i, j, a, rfl, rfl, hij, hj, ha, hown, hti, hdj, hb⟩ := hrel;have HA := zh ha;have HO := zh hown;have HT := zh hti;have HD := zh hdj;have Hb := zh hb;have hBr : B ≤ wr.heap.size := Nat.le_trans hB hb.size;have hgr := (hown.lt g rfl).2;clear ha hown hti hdj hb
 by_cases hlt : j < n
 ·
  obtain ⟨_, _, e, c0, c1, c2, c3⟩ := (yS (zv HO.out)).at hlt;injection e with e; injection e with e1 e2; subst e1 e2;simp only [Nat.zero_add] at c0 c1 c2 c3;have hax : iat a j = iat l j := by
   have h1 := xS a j 0;rw [HD.out, xS, Nat.add_zero] at h1;exact h1.symm
  rw [hax] at c0 c1 c2 c3;have HKj := zh (HKS.out j hlt);have HAX := zh hax;clear hax;generalize iat l j = x at *;have HW0 := zh (show Below B w (wr.alloc (.cells #[.int .u64 x.key, .int .u32 x.ck, .int .i64 x.off, .int .i64 x.size] 49)) from Hb.out.alloc hBr _);have HM := zh (zFV x.key x.ck x.off x.size gb gone (wr.alloc (.cells #[.int .u64 x.key, .int .u32 x.ck, .int .i64 x.off, .int .i64 x.size] 49)) (HG.out _ HW0.out));go_wp2_with fail;refine HM.out.mono ?_; rintro e w2 ⟨rfl, hb2⟩;have HO2 := zh (zH (HO.out.alloc _) hb2);have HB2 := zh (show Below B w w2 from HW0.out.trans (hb2.mono (by simp; omega)));have d0 := Below.keeps hb2 ⟨wr.heap.size, 0, none⟩ (.int .u64 x.key) (by simp);have d1 := Below.keeps hb2 ⟨wr.heap.size, 1, none⟩ (.int .u32 x.ck) (by simp);have d2 := Below.keeps hb2 ⟨wr.heap.size, 2, none⟩ (.int .i64 x.off) (by simp)
  have d3 := Below.keeps hb2 ⟨wr.heap.size, 3, none⟩ (.int .i64 x.size) (by simp);have hs2 : B ≤ w2.heap.size := Nat.le_trans hB HB2.out.size;clear hb2 c0 c1 c2 c3
  cases hr : gone.contains x.key
  ·
   have HR := zh hr;obtain ⟨_, _, e, c0, c1, c2, c3⟩ := (yS (zv HO2.out)).at (show i < n by omega);injection e with e; injection e with e1 e2; subst e1 e2;simp only [Nat.zero_add] at c0 c1 c2 c3;have f0 := HO2.out.frozenAt (i * 4);have f1 := HO2.out.frozenAt (i * 4 + 1);have f2 := HO2.out.frozenAt (i * 4 + 2);have f3 := HO2.out.frozenAt (i * 4 + 3);have HS := zh (zBM HO2.out i (by rw [HA.out]; omega) x);clear hr;go_wp2_with fail;have hdr : (a.set i x).drop (j + 1) = l.drop (j + 1) := by
    rw [List.drop_set_of_lt (by omega), ← List.drop_drop, HD.out, List.drop_drop]
   have htk : (a.set i x).take (i + 1) = kept gone (l.take (j + 1)) := by
    rw [HKj.out, HR.out, ← HT.out, vm a i x (by rw [HA.out]; omega)]
    rfl
   refine ⟨⟨i + 1, j + 1, a.set i x, by go_num, by go_num, by omega, by omega, by rw [List.length_set]; exact HA.out, HS.out, htk, hdr, ?_⟩, by simp [intOf]; omega⟩;exact ((((HB2.out.setCell hgB _).setCell hgB _).setCell hgB _).setCell hgB _)
  have HR := zh hr;clear hr;go_wp2_with fail;have hdr : a.drop (j + 1) = l.drop (j + 1) := by
   rw [← List.drop_drop, HD.out, List.drop_drop]
  refine ⟨⟨i, j + 1, a, rfl, by go_num, by omega, by omega, HA.out, HO2.out, ?_, hdr, HB2.out⟩, by simp [intOf]; omega⟩;rw [HKj.out, HR.out, HT.out]; simp
 obtain rfl : j = n := by omega
 obtain ⟨w3, hcl, hown3, hgr3⟩ := zHS HO.out i (by omega);have HO3 := zh (vG hown3 i (by omega));have HB3 := zh (Hb.out.grown hgr3 hBr (by intro r hr; injection hr with hr; omega));have hto := yU (P := Tryz.prog) yA (n := j) (cap := oc) Ho3.out i (by omega);clear hown3 hgr3;go_wp2_with fail;go_ret;refine ⟨_, rfl, yE HO3.out ?_, HB3.out⟩;have hia : i ≤ a.length := by rw [HA.out]; omega
 rw [← xX, List.take_append_of_le_length (by rw [List.length_take]; omega), List.take_take, Nat.min_self, HT.out, HKE.out]
def mrg (old fresh : List It) (gone : List Int) : List It := srt (kept gone (srt old) ++ srt fresh)
theorem k6 (gone : List Int) (l : List It) : (kept gone l).length ≤ l.length := List.length_filter_le _ _
theorem zG9 (vo vf vg : Value) (old fresh : List It) (gone : List Int) (w : World) (ho : RdT w vo old) (hf : RdT w vf fresh) (hg : RdU w vg gone)
  (so : wC old) (sf : wC fresh) (sm : wC (kept gone (srt old) ++ srt fresh)) (h1 : old.length ≤ 100000) (h2 : fresh.length ≤ 100000) :
  Calls Tryz.prog 132 #[vo, vf, vg] w fun e w' => ∃ v', e = .returned v' ∧ OwnT w' w.heap.size v' (mrg old fresh gone) ∧ Below w.heap.size w w' := by
 have SO := zh (fun w h => so vo w h);have SF := zh (fun w h => sf vf w h);have SM := zh (fun v w h => sm v w h);have HM := zh (show mrg old fresh gone = srt (kept gone (srt old) ++ srt fresh) from rfl);obtain ⟨a1, c1, rfl, _, _⟩ := ho.shape;obtain ⟨a2, c2, rfl, _, _⟩ := hf.shape;obtain ⟨a3, c3, rfl, _, _⟩ := hg.shape0;have l1 := yN old;have l2 := yN fresh;have l3 := k6 gone (srt old);generalize srt old = s1 at *;generalize srt fresh = s2 at *;obtain ⟨W0, hW0⟩ : ∃ W0, W0 = w.alloc (.cells #[.slice a3 gone.length c3] 87) := ⟨_, rfl⟩
 have HW0 := zh hW0;have HB0 := zh (show Below w.heap.size w W0 by rw [hW0]; exact (Below.refl _ _).alloc (Nat.le_refl _) _);have HG0 := zh (show Gone W0 w.heap.size gone from ⟨a3, gone.length, c3, by rw [hW0]; simp, hg.below HB0.out⟩);have hs0 : w.heap.size ≤ W0.heap.size := HB0.out.size;have Ho := zh ho;have Hf := zh hf;have HDF := zh (fun v w' B (h : OwnT w' B v s1) hB hg => zK7 v s1 w.heap.size gone B w' h hB hg);generalize hk : kept gone s1 = k1 at *;have HK := zh hk;clear ho hf hg so sf sm hW0 hk
 go_enter Tryz.func132, Tryz.ntmps132
 go_wp2_with fail;rw [← HW0.out];refine (SO.out _ (Ho.out.below HB0.out)).mono ?_; rintro e w1 ⟨v1, rfl, hown1, hb1⟩;have HO1 := zh hown1;have HB1 := zh hb1;clear hown1 hb1;go_wp2_with fail;refine (HDF.out v1 w1 W0.heap.size HO1.out HB1.out.size (fun W h => HG0.out.below (HB1.out.trans h))).mono ?_; rintro e w2 ⟨v2, rfl, hown2, hb2⟩;have HO2 := zh hown2;have HB2 := zh (HB1.out.trans hb2);have HC2 := zh (bup HB0.out hs0 (HB1.out.trans hb2));clear hown2 hb2;go_wp2_with fail;refine (SF.out _ (Hf.out.below HC2.out)).mono ?_; rintro e w3 ⟨v3, rfl, hown3, hb3⟩;have HO3 := zh (zH HO2.out hb3);have HR3 := zh (uo hown3.rd);have HB3 := zh (HB2.out.trans (hb3.mono HB2.out.size));clear hown3 hb3
 go_wp2_with (at_builtin; go_must (refine za rfl (.tmp 13) (.tmp 15) 33 rfl yA W0.heap.size rfl HO3.out rfl HR3.out (zl _) (by unfold maxLen; omega) (by omega) HB3.out.size ?_); intro v4 w4 hown4 hgr4 hv4; clear hv4);have HO4 := zh (yE hown4 (zp k1 s2).symm);have HB4 := zh (zK HB3.out HO3.out HB3.out.size hgr4);clear hown4 hgr4;go_wp2_with fail;refine (SM.out _ _ HO4.out.rd).mono ?_; rintro e w5 ⟨v5, rfl, hown5, hb5⟩;have HO5 := zh hown5;have HB5 := zh (HB4.out.trans (hb5.mono HB4.out.size));clear hown5 hb5;go_wp2_with fail;go_ret;refine ⟨_, rfl, ?_, HB0.out.trans (HB5.out.mono hs0)⟩;rw [HM.out];exact HO5.out.mono (Nat.le_trans hs0 HB4.out.size)
end Go.Proofs.YtcgfilmmokmdjaaGreat
namespace Go.Proofs.YtcgfilmmokmdjaaGreat
def drp (l : List It) (key : Int) : List It := l.filter fun y => !(y.key == key)
theorem zk (y : It) (r : List It) (key : Int) : fnd (y :: r) key = if y.key = key then some y else fnd r key := by
 unfold fnd;rw [List.find?_cons]
 by_cases h : y.key = key
 ·
  rw [if_pos h, show (y.key == key) = true from beq_iff_eq.2 h]
 rw [if_neg h, show (y.key == key) = false from beq_eq_false_iff_ne.2 h]
theorem vA (x : It) : ∀ l : List It, fnd (ins l x) x.key = some x
 | [] => by rw [show ins [] x = [x] from rfl, zk, if_pos rfl]
 | y :: r => by
  unfold ins
  split
  ·
   rw [zk, if_neg (by omega)]; exact vA x r
  split <;> rw [zk, if_pos rfl]
theorem wW (x : It) (key : Int) (h : key ≠ x.key) : ∀ l : List It, fnd (ins l x) key = fnd l key
 | [] => by rw [show ins [] x = [x] from rfl, zk, if_neg (Ne.symm h)]
 | y :: r => by
  have ih := wW x key h r;unfold ins
  split
  ·
   rw [zk, zk, ih]
  split
  ·
   rw [zk, zk, if_neg (Ne.symm h), if_neg (by omega)]
  rw [zk, if_neg (Ne.symm h)]
theorem qm (l : List It) (key : Int) : fnd (drp l key) key = none := by
 unfold fnd drp;rw [List.find?_eq_none];intro x hx;have := (List.mem_filter.1 hx).2;simp at this ⊢;exact this
theorem vv (k key : Int) (h : key ≠ k) : ∀ l : List It, fnd (drp l k) key = fnd l key
 | [] => rfl
 | y :: r => by
  have ih := vv k key h r;unfold drp at ih ⊢;rw [List.filter_cons]
  by_cases e : y.key = k
  ·
   rw [if_neg (by simp [e]), zk, if_neg (by omega), ih]
  rw [if_pos (by simp [e]), zk, zk, ih]
theorem ww {l : List It} {r : Nat} (h : r < l.length) : l[r] = iat l r := by
 unfold iat; rw [List.getD_eq_getElem?_getD, List.getElem?_eq_getElem h]; rfl
theorem uZ : ∀ {l : List It}, AscR l → l.Pairwise fun a b => a.key < b.key
 | [], _ => .nil
 | x :: r, h => by
  have hp := uZ h.tail;refine .cons (fun y hy => ?_) hp
  cases r with
  | nil => cases hy
  | cons z r =>
   have hz : x.key < z.key := h.1
   cases hy with
   | head => exact hz
   | tail _ hy => have := (List.pairwise_cons.1 hp).1 y hy; omega
theorem zCj : ∀ {l : List It}, (l.Pairwise fun a b => a.key < b.key) → AscR l
 | [], _ => trivial
 | [x], _ => trivial
 | x :: y :: r, h => ⟨(List.pairwise_cons.1 h).1 y (by simp), zCj (List.pairwise_cons.1 h).2⟩
theorem zCs {l : List It} (h : Asc l) (key : Int) : Asc (drp l key) :=
 (xK _).1 (zCj (List.Pairwise.filter _ (uZ ((xK _).2 h))))
theorem zC8 {l : List It} (h : Asc l) (x : It) : Asc (ins l x) := (xK _).1 (tl x l ((xK _).2 h))
theorem uI (l : List It) (key : Int) : (drp l key).length ≤ l.length := List.length_filter_le _ _
theorem zK5 {l : List It} {x : It} {r : Nat} (h : Place l x.key r) (ha : Asc l) : ins l x = if r < l.length ∧ (iat l r).key = x.key then l.set r x else l.take r ++ x :: l.drop r := by
 have := zCo l x r h.1 (fun j hj => h.lt ha hj) (fun hr => h.2.2 hr);rw [this]
 split
 ·
  rename_i hc;rw [List.set_eq_take_append_cons_drop, if_pos hc.1]
 rfl
theorem zGQ {l : List It} {key : Int} {r : Nat} (h : Place l key r) (ha : Asc l) : drp l key = if r < l.length ∧ (iat l r).key = key then l.take r ++ l.drop (r + 1) else l := by
 have hnot : ∀ (q : List It), (∀ x ∈ q, x.key ≠ key) → drp q key = q := fun q hq => by
  unfold drp;rw [List.filter_eq_self];intro x hx;simp;exact hq x hx
 have pw := uZ ((xK _).2 ha)
 split
 ·
  rename_i hc;have e : l = l.take r ++ iat l r :: l.drop (r + 1) := by
   have e1 : l.drop r = iat l r :: l.drop (r + 1) := by
    rw [List.drop_eq_getElem_cons hc.1, ww hc.1]
   rw [← e1, List.take_append_drop]
  have pw2 := pw;rw [e, List.pairwise_append] at pw2;obtain ⟨_, p2, p3⟩ := pw2;have h1 : drp (l.take r) key = l.take r := hnot _ fun y hy => by have := p3 y hy (iat l r) (by simp); omega
  have h2 : drp (l.drop (r + 1)) key = l.drop (r + 1) := hnot _ fun y hy => by have := (List.pairwise_cons.1 p2).1 y hy; omega
  conv => lhs; rw [e]
  unfold drp at h1 h2 ⊢;rw [List.filter_append, h1, List.filter_cons, if_neg (by simp [hc.2]), h2]
 rename_i hc;refine hnot _ fun y hy => ?_
 obtain ⟨j, hj, rfl⟩ := vd hy;rcases Nat.lt_or_ge j r with hjr | hjr
 ·
  have := h.lt ha hjr; omega
 by_cases hjr2 : j = r
 ·
  subst hjr2; exact fun e => hc ⟨hj, e⟩
 have h1 := h.2.2 (by omega);have h2 : (iat l r).key < (iat l j).key := by
  have := List.pairwise_iff_getElem.1 pw r j (by omega) hj (by omega);rw [ww, ww] at this;exact this
 omega
def stb (d d' : List It) : Prop := ∀ k : Int, d.filter (fun y => y.key == k) = d'.filter (fun y => y.key == k)
theorem stb.refl (d : List It) : stb d d := fun _ => rfl
theorem stb.symm {d d' : List It} (h : stb d d') : stb d' d := fun k => (h k).symm
theorem stb.trans {a b c : List It} (h : stb a b) (h' : stb b c) : stb a c := fun k => (h k).trans (h' k)
theorem stb.app {a a' b b' : List It} (h : stb a a') (h' : stb b b') : stb (a ++ b) (a' ++ b') := fun k => by rw [List.filter_append, List.filter_append, h k, h' k]
theorem zIw {u v : List It} (h : ∀ x ∈ u, ∀ y ∈ v, x.key ≠ y.key) : stb (u ++ v) (v ++ u) := fun k => by
 rw [List.filter_append, List.filter_append]
 by_cases hu : u.filter (fun y => y.key == k) = []
 ·
  rw [hu]; simp
 obtain ⟨x, hx⟩ := List.exists_mem_of_ne_nil _ hu;obtain ⟨hx1, hx2⟩ := List.mem_filter.1 hx;have hv : v.filter (fun y => y.key == k) = [] := by
  rw [List.filter_eq_nil_iff];intro y hy e;simp at hx2 e;exact h x hx1 y hy (by omega)
 rw [hv]; simp
theorem stb.mem {d d' : List It} (h : stb d d') {x : It} (hx : x ∈ d) : x ∈ d' := by
 have : x ∈ d.filter (fun y => y.key == x.key) := List.mem_filter.2 ⟨hx, by simp⟩;rw [h x.key] at this;exact (List.mem_filter.1 this).1
def seg (d : List It) (a b : Nat) : List It := (d.drop a).take (b - a)
theorem yR {d : List It} {a b : Nat} (h : b ≤ d.length) : (seg d a b).length = b - a := by
 unfold seg; rw [List.length_take, List.length_drop]; omega
theorem tU {d : List It} {a b c : Nat} (h1 : a ≤ b) (h2 : b ≤ c) : seg d a c = seg d a b ++ seg d b c := by
 unfold seg;rw [show c - a = (b - a) + (c - b) by omega, List.take_add, List.drop_drop, show a + (b - a) = b by omega]
theorem parts {d : List It} {a b : Nat} (h1 : a ≤ b) : d = d.take a ++ seg d a b ++ d.drop b := by
 have : d.drop b = (d.drop a).drop (b - a) := by rw [List.drop_drop]; congr 1; omega
 unfold seg;rw [this, List.append_assoc, List.take_append_drop, List.take_append_drop]
theorem zAS {d : List It} {a b : Nat} (h : b ≤ d.length) {x : It} : x ∈ seg d a b ↔ ∃ j, a ≤ j ∧ j < b ∧ iat d j = x := by
 unfold seg
 constructor
 ·
  intro hx;obtain ⟨j, hj, rfl⟩ := vd hx;rw [List.length_take, List.length_drop] at hj;exact ⟨a + j, by omega, by omega, by rw [wK (by omega), xS]⟩
 rintro ⟨j, h1, h2, rfl⟩;have : iat d j = iat ((d.drop a).take (b - a)) (j - a) := by
  rw [wK (by omega), xS]; congr 1; omega
 rw [this];have hl : j - a < ((d.drop a).take (b - a)).length := by rw [List.length_take, List.length_drop]; omega
 rw [← ww hl];exact List.getElem_mem hl
structure Moved (d d' : List It) (a b : Nat) : Prop where
 lo : d'.take a = d.take a
 hi : d'.drop b = d.drop b
 mid : stb (seg d a b) (seg d' a b)
 len : d'.length = d.length
theorem Moved.refl (d : List It) (a b : Nat) : Moved d d a b := ⟨rfl, rfl, .refl _, rfl⟩
theorem Moved.trans {d d' e : List It} {a b : Nat} (h : Moved d d' a b) (h' : Moved d' e a b) : Moved d e a b :=
 ⟨h'.lo.trans h.lo, h'.hi.trans h.hi, h.mid.trans h'.mid, h'.len.trans h.len⟩
theorem zCN {d d' : List It} {a a' : Nat} (h : a ≤ a') (e : d'.take a' = d.take a') : d'.take a = d.take a := by
 have := congrArg (List.take a) e
 rwa [List.take_take, List.take_take, Nat.min_eq_left h] at this
theorem zCr {d d' : List It} {b b' : Nat} (h : b' ≤ b) (e : d'.drop b' = d.drop b') : d'.drop b = d.drop b := by
 have := congrArg (List.drop (b - b')) e
 rwa [List.drop_drop, List.drop_drop, show b' + (b - b') = b by omega] at this
theorem zIF {d d' : List It} {a a' : Nat} (e : d'.take a' = d.take a') : seg d' a a' = seg d a a' := by
 unfold seg;have h1 : ∀ l : List It, (l.drop a).take (a' - a) = (l.take a').drop a := fun l => by rw [List.drop_take]
 rw [h1, h1, e]
theorem zId {d d' : List It} {b' b : Nat} (e : d'.drop b' = d.drop b') : seg d' b' b = seg d b' b := by
 unfold seg; rw [e]
theorem Moved.wide {d d' : List It} {a b a' b' : Nat} (h : Moved d d' a' b') (h1 : a ≤ a') (h2 : a' ≤ b') (h3 : b' ≤ b) : Moved d d' a b :=
 ⟨zCN h1 h.lo, zCr h3 h.hi, by
  rw [tU (d := d) h1 (Nat.le_trans h2 h3), tU (d := d') h1 (Nat.le_trans h2 h3), tU (d := d) h2 h3, tU (d := d') h2 h3, zIF h.lo, zId h.hi]
  exact (stb.refl _).app (h.mid.app (.refl _)), h.len⟩
theorem Moved.stb {d d' : List It} {a b : Nat} (h : Moved d d' a b) (hab : a ≤ b) : stb d d' := by
 rw [parts (d := d) hab, parts (d := d') hab, h.lo, h.hi];exact (Go.Proofs.YtcgfilmmokmdjaaGreat.stb.app (.app (.refl _) h.mid) (.refl _))
theorem Moved.out {d d' : List It} {a b : Nat} (h : Moved d d' a b) {i : Nat} (hi : i < a ∨ b ≤ i) : iat d' i = iat d i := by
 rcases hi with hi | hi
 ·
  rw [← wK (l := d') hi, h.lo, wK hi]
 have e : ∀ l : List It, iat l i = iat (l.drop b) (i - b) := fun l => by rw [xS]; congr 1; omega
 rw [e d', h.hi, ← e d]
theorem Moved.src {d d' : List It} {a b : Nat} (h : Moved d d' a b) (hb : b ≤ d.length) {i : Nat} (h1 : a ≤ i) (h2 : i < b) : ∃ j, a ≤ j ∧ j < b ∧ iat d' i = iat d j := by
 have hm : iat d' i ∈ seg d' a b := (zAS (by rw [h.len]; exact hb)).2 ⟨i, h1, h2, rfl⟩;obtain ⟨j, h3, h4, h5⟩ := (zAS hb).1 (h.mid.symm.mem hm);exact ⟨j, h3, h4, h5.symm⟩
def NdI (d : List It) (a b : Nat) : Prop := ∀ i j, a ≤ i → i < j → j < b → (iat d i).key ≤ (iat d j).key
def rot (d : List It) (s m e : Nat) : List It := d.take s ++ (seg d m e ++ seg d s m) ++ d.drop e
theorem ti {d : List It} {s m e : Nat} (h1 : s ≤ m) (h2 : m ≤ e) (h3 : e ≤ d.length) (hk : ∀ i, s ≤ i → i < m → ∀ j, m ≤ j → j < e → (iat d i).key ≠ (iat d j).key) : Moved d (rot d s m e) s e := by
 have l1 : (d.take s).length = s := by rw [List.length_take]; omega
 have l2 : (seg d m e ++ seg d s m).length = e - s := by rw [List.length_append, yR h3, yR (by omega)]; omega
 have hse : s ≤ e := by omega
 have e1 : (rot d s m e).take s = d.take s := by unfold rot; rw [List.append_assoc]; exact List.take_left' l1
 have e2 : (rot d s m e).drop e = d.drop e := by unfold rot; exact List.drop_left' (by rw [List.length_append, l1, l2]; omega)
 have e3 : seg (rot d s m e) s e = seg d m e ++ seg d s m := by
  have hr : rot d s m e = d.take s ++ ((seg d m e ++ seg d s m) ++ d.drop e) := by unfold rot; rw [List.append_assoc]
  show ((rot d s m e).drop s).take (e - s) = _
  rw [hr, List.drop_left' l1];exact List.take_left' l2
 refine ⟨e1, e2, ?_, ?_⟩
 ·
  rw [e3, tU h1 h2];refine zIw fun x hx y hy => ?_
  obtain ⟨i, i1, i2, rfl⟩ := (zAS (by omega)).1 hx;obtain ⟨j, j1, j2, rfl⟩ := (zAS h3).1 hy;exact hk i i1 i2 j j1 j2
 unfold rot;rw [List.length_append, List.length_append, l1, l2, List.length_drop]; omega
theorem yl {u v : List It} {i : Nat} (h : i < u.length) : iat (u ++ v) i = iat u i := by
 unfold iat;rw [List.getD_eq_getElem?_getD, List.getD_eq_getElem?_getD, List.getElem?_append_left h]
theorem zt {u v : List It} {i : Nat} (h : u.length ≤ i) : iat (u ++ v) i = iat v (i - u.length) := by
 unfold iat;rw [List.getD_eq_getElem?_getD, List.getD_eq_getElem?_getD, List.getElem?_append_right h]
theorem zFc {d : List It} {a b i : Nat} (h : i < b - a) : iat (seg d a b) i = iat d (a + i) := by
 unfold seg; rw [wK h, xS]
theorem we {d : List It} {s m e : Nat} (h1 : s ≤ m) (h2 : m ≤ e) (h3 : e ≤ d.length) {i : Nat} (i1 : s ≤ i) (i2 : i < s + (e - m)) : iat (rot d s m e) i = iat d (m + (i - s)) := by
 have l1 : (d.take s).length = s := by rw [List.length_take]; omega
 have l3 : (seg d m e).length = e - m := yR h3;have l4 : (seg d s m).length = m - s := yR (by omega);unfold rot;rw [yl (by rw [List.length_append, List.length_append, l1, l3, l4]; omega), zt (by omega), l1, yl (by omega), zFc (by omega)]
theorem wY {d : List It} {s m e : Nat} (h1 : s ≤ m) (h2 : m ≤ e) (h3 : e ≤ d.length) {i : Nat} (i1 : s + (e - m) ≤ i) (i2 : i < e) : iat (rot d s m e) i = iat d (s + (i - (s + (e - m)))) := by
 have l1 : (d.take s).length = s := by rw [List.length_take]; omega
 have l3 : (seg d m e).length = e - m := yR h3;have l4 : (seg d s m).length = m - s := yR (by omega);unfold rot;rw [yl (by rw [List.length_append, List.length_append, l1, l3, l4]; omega), zt (by omega), l1, zt (by omega), l3, zFc (by omega)]
 congr 2; omega
theorem zJ5 {d d2 d3 : List It} {a c b : Nat} (h1 : a ≤ c) (h2 : c ≤ b) (hb : b ≤ d.length) (m2 : Moved d d2 a c) (n2 : NdI d2 a c) (m3 : Moved d2 d3 c b) (n3 : NdI d3 c b)
  (hx : ∀ i, a ≤ i → i < c → ∀ j, c ≤ j → j < b → (iat d i).key ≤ (iat d j).key) : Moved d d3 a b ∧ NdI d3 a b := by
 refine ⟨(m2.wide (Nat.le_refl _) h1 h2).trans (m3.wide h1 h2 (Nat.le_refl _)), fun i j i1 ij j2 => ?_⟩;rcases Nat.lt_or_ge i c with hic | hic
 ·
  rw [m3.out (Or.inl hic)];rcases Nat.lt_or_ge j c with hjc | hjc
  ·
   rw [m3.out (Or.inl hjc)]; exact n2 i j i1 ij hjc
  obtain ⟨i', i3, i4, e1⟩ := m2.src (by omega) i1 hic;obtain ⟨j', j3, j4, e2⟩ := m3.src (by rw [m2.len]; omega) hjc j2;rw [e1, e2, m2.out (Or.inr j3)];exact hx i' i3 i4 j' j3 j4
 exact n3 i j hic ij j2
theorem zCz {d : List It} {a s m e b c : Nat} (h0 : a ≤ s) (h1 : s ≤ m) (h2 : m ≤ e) (h3 : e ≤ b) (hb : b ≤ d.length) (hc : c = s + (e - m)) (na : NdI d a m) (nb : NdI d m b)
  (H1 : ∀ i, a ≤ i → i < s → ∀ j, e ≤ j → j < b → (iat d i).key ≤ (iat d j).key) (H2 : ∀ i, s ≤ i → i < m → ∀ j, m ≤ j → j < e → (iat d j).key < (iat d i).key) :
  Moved d (rot d s m e) a b ∧ NdI (rot d s m e) a s ∧ NdI (rot d s m e) s c ∧ NdI (rot d s m e) c e ∧ NdI (rot d s m e) e b ∧
  ∀ i, a ≤ i → i < c → ∀ j, c ≤ j → j < b → (iat (rot d s m e) i).key ≤ (iat (rot d s m e) j).key := by
 subst hc;have M := ti h1 h2 (Nat.le_trans h3 hb) (fun i i1 i2 j j1 j2 => by have := H2 i i1 i2 j j1 j2; omega);have o : ∀ {i}, i < s ∨ e ≤ i → iat (rot d s m e) i = iat d i := fun h => M.out h
 have r1 : ∀ {i}, s ≤ i → i < s + (e - m) → iat (rot d s m e) i = iat d (m + (i - s)) := fun i1 i2 => we h1 h2 (Nat.le_trans h3 hb) i1 i2
 have r2 : ∀ {i}, s + (e - m) ≤ i → i < e → iat (rot d s m e) i = iat d (s + (i - (s + (e - m)))) := fun i1 i2 => wY h1 h2 (Nat.le_trans h3 hb) i1 i2
 refine ⟨M.wide h0 (by omega) h3, fun i j i1 ij j2 => ?_, fun i j i1 ij j2 => ?_, fun i j i1 ij j2 => ?_, fun i j i1 ij j2 => ?_, fun i i1 i2 j j1 j2 => ?_⟩
 ·
  rw [o (Or.inl (by omega)), o (Or.inl j2)]; exact na i j i1 ij (by omega)
 ·
  rw [r1 i1 (by omega), r1 (by omega) j2]; exact nb _ _ (by omega) (by omega) (by omega)
 ·
  rw [r2 i1 (by omega), r2 (by omega) j2]; exact na _ _ (by omega) (by omega) (by omega)
 ·
  rw [o (Or.inr i1), o (Or.inr (by omega))]; exact nb i j (by omega) ij j2
 rcases Nat.lt_or_ge i s with is | is
 ·
  rw [o (Or.inl is)];rcases Nat.lt_or_ge j e with je | je
  ·
   rw [r2 j1 je]; exact na _ _ i1 (by omega) (by omega)
  rw [o (Or.inr je)]; exact H1 i i1 is j je j2
 rw [r1 is i2];rcases Nat.lt_or_ge j e with je | je
 ·
  rw [r2 j1 je]; exact Int.le_of_lt (H2 _ (by omega) (by omega) _ (by omega) (by omega))
 rw [o (Or.inr je)]; exact nb _ _ (by omega) (by omega) j2
end Go.Proofs.YtcgfilmmokmdjaaGreat
namespace Go.Proofs.YtcgfilmmokmdjaaGreat
open Go.RowKit
def zFJ (x y : Int) : Int := if x < y then -1 else if y < x then 1 else 0
theorem zF2 (x y : Int) : (decide (zFJ x y < 0)) = decide (x < y) := by
 unfold zFJ
 by_cases h : x < y
 ·
  rw [if_pos h]; simp [h]
 rw [if_neg h]
 by_cases h2 : y < x
 ·
  rw [if_pos h2]; simp [h]
 rw [if_neg h2]; simp [h]
theorem vF (x : Int) (w : World) : Calls Tryz.prog 198 #[.int .u64 x] w fun e w' => e = .returned (.bool false) ∧ Below w.heap.size w w' := by
 go_enter Tryz.func198, Tryz.ntmps198
 have hx : (x != x) = false := by simp
 go_wp2_with fail;go_ret;exact ⟨rfl, Below.refl _ _⟩
theorem zD0 (x y : Int) (w : World) : Calls Tryz.prog 175 #[.int .u64 x, .int .u64 y] w fun e w' => e = .returned (.int .i64 (zFJ x y)) ∧ Below w.heap.size w w' := by
 unfold zFJ
 by_cases h : x < y
 ·
  rw [if_pos h]
  go_enter Tryz.func175, Tryz.ntmps175
  go_wp2_with fail;refine (vF _ _).mono ?_; rintro e w1 ⟨rfl, hb1⟩;have HB1 := zh hb1;clear hb1;go_wp2_with fail;refine (vF _ _).mono ?_; rintro e w2 ⟨rfl, hb2⟩;have HB2 := zh (zA HB1.out hb2);clear hb2;go_wp2_with fail;go_ret;exact ⟨rfl, HB2.out⟩
 rw [if_neg h]
 by_cases h2 : y < x
 ·
  rw [if_pos h2]
  go_enter Tryz.func175, Tryz.ntmps175
  go_wp2_with fail;refine (vF _ _).mono ?_; rintro e w1 ⟨rfl, hb1⟩;have HB1 := zh hb1;clear hb1;go_wp2_with fail;refine (vF _ _).mono ?_; rintro e w2 ⟨rfl, hb2⟩;have HB2 := zh (zA HB1.out hb2);clear hb2;go_wp2_with fail;go_ret;exact ⟨rfl, HB2.out⟩
 rw [if_neg h2]
 go_enter Tryz.func175, Tryz.ntmps175
 go_wp2_with fail;refine (vF _ _).mono ?_; rintro e w1 ⟨rfl, hb1⟩;have HB1 := zh hb1;clear hb1;go_wp2_with fail;refine (vF _ _).mono ?_; rintro e w2 ⟨rfl, hb2⟩;have HB2 := zh (zA HB1.out hb2);clear hb2;go_wp2_with fail;go_ret;exact ⟨rfl, HB2.out⟩
theorem zD6 (x y : It) (w : World) : Calls Tryz.prog 174 #[itV x, itV y] w fun e w' => e = .returned (.int .i64 (zFJ x.key y.key)) ∧ Below w.heap.size w w' := by
 have HW := zh (show Below w.heap.size w ((w.alloc (.cells #[.int .u64 x.key, .int .u32 x.ck, .int .i64 x.off, .int .i64 x.size] 49)).alloc (.cells #[.int .u64 y.key, .int .u32 y.ck, .int .i64 y.off, .int .i64 y.size] 49)) from ((Below.refl _ _).alloc (Nat.le_refl _) _).alloc (by simp) _)
 go_enter Tryz.func174, Tryz.ntmps174
 go_wp2_with fail;refine (zD0 _ _ _).mono ?_; rintro e w1 ⟨rfl, hb1⟩;have HB1 := zh (zA HW.out hb1);clear hb1;go_wp2_with fail;go_ret;exact ⟨rfl, HB1.out⟩
def ui (d : List It) (i j : Nat) : List It := (d.set i (iat d j)).set j (iat d i)
def tt (d : List It) (a b : Nat) : Nat → List It
 | 0 => d
 | i + 1 => ui (tt d a b i) (a + i) (b + i)
theorem vY (d : List It) (i j : Nat) : (ui d i j).length = d.length := by unfold ui; rw [List.length_set, List.length_set]
theorem xB (d : List It) (a b : Nat) : ∀ i, (tt d a b i).length = d.length
 | 0 => rfl
 | i + 1 => by show (ui _ _ _).length = _; rw [vY, xB]
def zBU (w : World) (g k : Nat) (y : It) : World := (((w.setCell ⟨g, k * 4, none⟩ (.int .u64 y.key)).setCell ⟨g, k * 4 + 1, none⟩ (.int .u32 y.ck)).setCell ⟨g, k * 4 + 2, none⟩ (.int .i64 y.off)).setCell ⟨g, k * 4 + 3, none⟩ (.int .i64 y.size)
theorem zm {a b c : World} {r : Option Nat} (a1 : a.grownBy b r) (a2 : b.grownBy c r) : a.grownBy c r :=
 ⟨a2.os.trans a1.os, a2.tape.trans a1.tape, a2.output.trans a1.output, Nat.le_trans a1.size a2.size, fun k hk hne => (a2.block k (Nat.lt_of_lt_of_le hk a1.size) hne).trans (a1.block k hk hne)⟩
theorem zEs (a : World) (r : Option Nat) : a.grownBy a.drew r := ⟨rfl, rfl, rfl, Nat.le_refl _, fun _ _ _ => rfl⟩
theorem zDR {w : World} {B g n cap : Nat} {q : List It} (h : w.ownsRow B 49 4 (.slice (some ⟨g, 0, none⟩) n cap) n (zL q)) (k : Nat) (hk : k < q.length) (y : It) :
  (zBU w g k y).ownsRow B 49 4 (.slice (some ⟨g, 0, none⟩) n cap) n (zL (q.set k y)) ∧ w.grownBy (zBU w g k y) (some g) := by
 have s1 := h.stored (k * 4) (.int .u64 y.key);have s2 := s1.1.stored (k * 4 + 1) (.int .u32 y.ck);have s3 := s2.1.stored (k * 4 + 2) (.int .i64 y.off);have s4 := s3.1.stored (k * 4 + 3) (.int .i64 y.size);exact ⟨zBM h k hk y, zm (zm (zm s1.2 s2.2) s3.2) s4.2⟩
theorem zCv {w : World} {B g n cap : Nat} {q : List It} (h : w.ownsRow B 49 4 (.slice (some ⟨g, 0, none⟩) n cap) n (zL q)) (hq : q.length = n) {i j : Nat} (hi : i < n) (hj : j < n) {x y : It} (hx : iat q i = x) (hy : iat q j = y) :
  (zBU (zBU w g i y) g j x).drew.ownsRow B 49 4 (.slice (some ⟨g, 0, none⟩) n cap) n (zL (ui q i j)) ∧ w.grownBy (zBU (zBU w g i y) g j x).drew (some g) := by
 obtain ⟨h1, g1⟩ := zDR h i (by omega) y;obtain ⟨h2, g2⟩ := zDR h1 j (by rw [List.length_set]; omega) x;unfold ui;rw [hx, hy];exact ⟨h2.drew, zm (zm g1 g2) (zEs _ _)⟩
theorem uT (g n cap a b k B : Nat) (d : List It) (fv : Value) (w : World) (hown : w.ownsRow B 49 4 (.slice (some ⟨g, 0, none⟩) n cap) n (zL d)) (hn : d.length = n) (hs : n ≤ 1000000) (hab : a + k ≤ b) (hb : b + k ≤ n) :
  Calls Tryz.prog 216 #[.slice (some ⟨g, 0, none⟩) n cap, .int .i64 (a : Int), .int .i64 (b : Int), .int .i64 (k : Int), fv] w fun e w' => e = .returned (.tuple #[]) ∧ w'.ownsRow B 49 4 (.slice (some ⟨g, 0, none⟩) n cap) n (zL (tt d a b k)) ∧ w.grownBy w' (some g) := by
 have HO := zh hown;have HL := zh (fun i => (xB d a b i).trans hn);have HS := zh (fun i => show tt d a b (i + 1) = ui (tt d a b i) (a + i) (b + i) from rfl);have hgr : w.grownBy w (some g) := ⟨rfl, rfl, rfl, Nat.le_refl _, fun _ _ _ => rfl⟩
 have HG := zh hgr;have H0 := zh (show tt d a b 0 = d from rfl);clear hown hn hgr
 go_enter Tryz.func216, Tryz.ntmps216
 go_wp2_with fail
 go_loopw [10] (fun iv wr => ∃ i : Nat, iv = .int .i64 (i : Int) ∧ i ≤ k ∧ wr.ownsRow B 49 4 (.slice (some ⟨g, 0, none⟩) n cap) n (zL (tt d a b i)) ∧ w.grownBy wr (some g)) (fun iv _ => k - (intOf iv).toNat)
 case atStart => exact ⟨0, rfl, by omega, by rw [H0.out]; exact HO.out, HG.out⟩
 obtain ⟨i, rfl, hi, hown, hgr⟩ := hrel;have Ho := zh hown;have Hg := zh hgr;clear hown hgr
 by_cases hlt : i < k
 ·
  have HL1 := zh (HL.out i);have HS1 := zh (HS.out i);generalize tt d a b i = q at *;obtain ⟨_, _, e, c0, c1, c2, c3⟩ := (yS (zv Ho.out)).at (show a + i < n by omega);injection e with e; injection e with e1 e2; subst e1 e2;obtain ⟨_, _, e, d0, d1, d2, d3⟩ := (yS (zv Ho.out)).at (show b + i < n by omega);injection e with e; injection e with e1 e2; subst e1 e2;simp only [Nat.zero_add] at c0 c1 c2 c3 d0 d1 d2 d3;have j1 : IntKind.i64.wrap ((a : Int) + (i : Int)) = (a : Int) + (i : Int) := IntWalk.i64_in _ (by omega);have j2 : IntKind.i64.wrap ((b : Int) + (i : Int)) = (b : Int) + (i : Int) := IntWalk.i64_in _ (by omega);have j3 : ((a : Int) + (i : Int)).toNat = a + i := by omega
  have j4 : ((b : Int) + (i : Int)).toNat = b + i := by omega
  go_wp2_with fail;have j5 : (0 : Int) ≤ (a : Int) + (i : Int) := by omega
  have j6 : (0 : Int) ≤ (b : Int) + (i : Int) := by omega
  have j7 : (a : Int) + (i : Int) < (n : Int) := by omega
  have j8 : (b : Int) + (i : Int) < (n : Int) := by omega
  have fz := fun k => Ho.out.frozenAt k
  have f0 := fz ((a + i) * 4);have f1 := fz ((a + i) * 4 + 1);have f2 := fz ((a + i) * 4 + 2);have f3 := fz ((a + i) * 4 + 3);have f4 := fz ((b + i) * 4);have f5 := fz ((b + i) * 4 + 1);have f6 := fz ((b + i) * 4 + 2);have f7 := fz ((b + i) * 4 + 3);clear fz;generalize hx : iat q (a + i) = x at *;generalize hy : iat q (b + i) = y at *;have HXY := zh (And.intro hx hy);clear hx hy;have HF := zh (zCv Ho.out HL1.out (i := a + i) (j := b + i) (by omega) (by omega) HXY.out.1 HXY.out.2)
  go_region_with (fail)
  all_goals go_wp2_with fail
  all_goals exact ⟨⟨i + 1, by go_num, by omega, by rw [HS1.out]; exact HF.out.1, zm Hg.out HF.out.2⟩, by simp [intOf]; omega⟩
 obtain rfl : i = k := by omega
 go_wp2_with fail;go_end0;exact ⟨rfl, Ho.out, Hg.out⟩
end Go.Proofs.YtcgfilmmokmdjaaGreat
namespace Go.Proofs.YtcgfilmmokmdjaaGreat
theorem zFp {d : List It} {i : Nat} {x : It} (hi : i < d.length) (j : Nat) : iat (d.set i x) j = if j = i then x else iat d j := by
 unfold iat;rw [List.getD_eq_getElem?_getD, List.getD_eq_getElem?_getD, List.getElem?_set]
 by_cases h : j = i
 ·
  subst h; rw [if_pos rfl, if_pos rfl, if_pos hi]; rfl
 rw [if_neg (Ne.symm h), if_neg h]
theorem qU {d : List It} {i j : Nat} (hi : i < d.length) (hj : j < d.length) (k : Nat) : iat (ui d i j) k = if k = j then iat d i else if k = i then iat d j else iat d k := by
 unfold ui;rw [zFp (by rw [List.length_set]; exact hj), zFp hi]
theorem zFw {d : List It} {a b : Nat} : ∀ (k : Nat), a + k ≤ b → b + k ≤ d.length → ∀ i, iat (tt d a b k) i = if a ≤ i ∧ i < a + k then iat d (i - a + b) else if b ≤ i ∧ i < b + k then iat d (i - b + a) else iat d i
 | 0, _, _, i => by rw [if_neg (by omega), if_neg (by omega)]; rfl
 | k + 1, h1, h2, i => by
  have ih := zFw (d := d) (a := a) (b := b) k (by omega) (by omega)
  show iat (ui (tt d a b k) (a + k) (b + k)) i = _
  rw [qU (by rw [xB]; omega) (by rw [xB]; omega)]
  by_cases e1 : i = b + k
  ·
   subst e1;rw [if_pos rfl, ih, if_neg (by omega), if_neg (by omega), if_neg (by omega), if_pos (by omega)]
   congr 1; omega
  rw [if_neg e1]
  by_cases e2 : i = a + k
  ·
   subst e2;rw [if_pos rfl, ih, if_neg (by omega), if_neg (by omega), if_pos (by omega)]
   congr 1; omega
  rw [if_neg e2, ih]
  by_cases c1 : a ≤ i ∧ i < a + k
  ·
   rw [if_pos c1, if_pos (by omega)]
  rw [if_neg c1, if_neg (show ¬ (a ≤ i ∧ i < a + (k + 1)) by omega)]
  by_cases c2 : b ≤ i ∧ i < b + k
  ·
   rw [if_pos c2, if_pos (by omega)]
  rw [if_neg c2, if_neg (show ¬ (b ≤ i ∧ i < b + (k + 1)) by omega)]
theorem qr {u v : List It} (hl : u.length = v.length) (h : ∀ i, i < u.length → iat u i = iat v i) : u = v := by
 apply List.ext_getElem hl;intro i h1 h2;rw [ww h1, ww h2]; exact h i h1
theorem uw {P X Y Z Q : List It} (h : X.length = Z.length) : tt (P ++ (X ++ (Y ++ (Z ++ Q)))) P.length (P.length + X.length + Y.length) X.length = P ++ (Z ++ (Y ++ (X ++ Q))) := by
 refine qr (by rw [xB]; simp only [List.length_append]; omega) fun i hi => ?_
 rw [xB] at hi;simp only [List.length_append] at hi;rw [zFw _ (by omega) (by simp only [List.length_append]; omega)]
 by_cases p1 : i < P.length
 ·
  rw [if_neg (by omega), if_neg (by omega), yl p1, yl p1]
 by_cases p2 : i < P.length + X.length
 ·
  rw [if_pos (by omega), zt (u := P) (by omega), zt (u := X) (by omega), zt (u := Y) (by omega), yl (u := Z) (by omega), zt (u := P) (by omega), yl (u := Z) (by omega)]
  congr 1; omega
 by_cases p3 : i < P.length + X.length + Y.length
 ·
  rw [if_neg (by omega), if_neg (by omega), zt (u := P) (by omega), zt (u := X) (by omega), yl (u := Y) (by omega), zt (u := P) (by omega), zt (u := Z) (by omega), yl (u := Y) (by omega)]
  congr 1; omega
 by_cases p4 : i < P.length + X.length + Y.length + Z.length
 ·
  rw [if_neg (by omega), if_pos (by omega), zt (u := P) (by omega), yl (u := X) (by omega), zt (u := P) (by omega), zt (u := Z) (by omega), zt (u := Y) (by omega), yl (u := X) (by omega)]
  congr 1; omega
 rw [if_neg (by omega), if_neg (by omega), zt (u := P) (by omega), zt (u := X) (by omega), zt (u := Y) (by omega), zt (u := Z) (by omega), zt (u := P) (by omega), zt (u := Z) (by omega), zt (u := Y) (by omega), zt (u := X) (by omega)]
 congr 1; omega
end Go.Proofs.YtcgfilmmokmdjaaGreat
