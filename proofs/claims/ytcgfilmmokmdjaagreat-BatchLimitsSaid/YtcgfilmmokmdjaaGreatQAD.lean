/- A part of the walk. -/
import Derived.Test.YtcgfilmmokmdjaaGreatQAC
import Derived.Test.YtcgfilmmokmdjaaGreatQAB
import Derived.Test.YtcgfilmmokmdjaaGreatQAA
import Derived.Lib.OwnKind
set_option linter.all false
set_option maxRecDepth 100000
set_option maxHeartbeats 32000000
namespace Go.Proofs.YtcgfilmmokmdjaaGreat
open Go.RowKit
structure RotC (T q : List It) (m i j : Nat) : Prop where
 ex : ∃ P U V Q : List It, q = P ++ (U ++ (V ++ Q)) ∧ T = P ++ (V ++ (U ++ Q)) ∧ U.length = i ∧ V.length = j ∧ P.length + i = m
 hi : 0 < i
 hj : 0 < j
theorem RotC.gt {T q : List It} {m i j : Nat} (h : RotC T q m i j) (hij : j < i) : RotC T (tt q (m - i) m j) m (i - j) j := by
 obtain ⟨⟨P, U, V, Q, rfl, rfl, hu, hv, hm⟩, h1, h2⟩ := h;refine ⟨⟨P ++ V, U.drop j, U.take j, Q, ?_, ?_, by rw [List.length_drop]; omega, by rw [List.length_take]; omega, by rw [List.length_append]; omega⟩, by omega, h2⟩
 ·
  have hx : (U.take j).length = V.length := by rw [List.length_take]; omega
  have hb := uw (P := P) (X := U.take j) (Y := U.drop j) (Z := V) (Q := Q) hx;have hlen : P.length + (U.take j).length + (U.drop j).length = m := by rw [List.length_take, List.length_drop]; omega
  rw [hlen, hx, hv, show P.length = m - i by omega, ← List.append_assoc (U.take j), List.take_append_drop] at hb;rw [hb]; simp
 simp only [List.append_assoc];rw [← List.append_assoc (U.take j), List.take_append_drop]
theorem RotC.lt {T q : List It} {m i j : Nat} (h : RotC T q m i j) (hij : i < j) : RotC T (tt q (m - i) (m + j - i) i) m i (j - i) := by
 obtain ⟨⟨P, U, V, Q, rfl, rfl, hu, hv, hm⟩, h1, h2⟩ := h;refine ⟨⟨P, V.drop (j - i), V.take (j - i), U ++ Q, ?_, ?_, by rw [List.length_drop]; omega, by rw [List.length_take]; omega, hm⟩, h1, by omega⟩
 ·
  have hx : U.length = (V.drop (j - i)).length := by rw [List.length_drop]; omega
  have hb := uw (P := P) (X := U) (Y := V.take (j - i)) (Z := V.drop (j - i)) (Q := Q) hx;have hlen : P.length + U.length + (V.take (j - i)).length = m + j - i := by rw [List.length_take]; omega
  rw [hlen, hu, show P.length = m - i by omega, ← List.append_assoc (V.take (j - i)), List.take_append_drop] at hb;rw [hb]
 rw [← List.append_assoc (V.take (j - i)), List.take_append_drop]
theorem RotC.eq {T q : List It} {m i : Nat} (h : RotC T q m i i) : tt q (m - i) m i = T := by
 obtain ⟨⟨P, U, V, Q, rfl, rfl, hu, hv, hm⟩, h1, h2⟩ := h;have hb := uw (P := P) (X := U) (Y := []) (Z := V) (Q := Q) (by omega);rw [hu, show P.length = m - i by omega] at hb;simp only [List.length_nil, List.nil_append, Nat.add_zero] at hb;rw [show m - i + i = m by omega] at hb;exact hb
theorem RotC.len {T q : List It} {m i j : Nat} (h : RotC T q m i j) : i ≤ m ∧ m + j ≤ q.length := by
 obtain ⟨⟨P, U, V, Q, rfl, rfl, hu, hv, hm⟩, h1, h2⟩ := h;simp only [List.length_append]; omega
theorem zFI {d : List It} {a m b : Nat} (h1 : a < m) (h2 : m < b) (h3 : b ≤ d.length) : RotC (rot d a m b) d m (m - a) (b - m) := by
 refine ⟨⟨d.take a, seg d a m, seg d m b, d.drop b, ?_, ?_, yR (by omega), yR h3, by rw [List.length_take]; omega⟩, by omega, by omega⟩
 ·
  have := parts (d := d) (a := a) (b := b) (by omega);rw [tU (Nat.le_of_lt h1) (Nat.le_of_lt h2)] at this
  simpa using this
 unfold rot; simp
theorem zEp (g n cap a m b B : Nat) (d : List It) (fv : Value) (w : World) (hown : w.ownsRow B 49 4 (.slice (some ⟨g, 0, none⟩) n cap) n (zL d)) (hn : d.length = n) (hs : n ≤ 1000000) (h1 : a < m) (h2 : m < b) (h3 : b ≤ n) :
  Calls Tryz.prog 214 #[.slice (some ⟨g, 0, none⟩) n cap, .int .i64 (a : Int), .int .i64 (m : Int), .int .i64 (b : Int), fv] w fun e w' => e = .returned (.tuple #[]) ∧ w'.ownsRow B 49 4 (.slice (some ⟨g, 0, none⟩) n cap) n (zL (rot d a m b)) ∧ w.grownBy w' (some g) := by
 have HO := zh hown;have HR := zh (zFI h1 h2 (by omega) : RotC (rot d a m b) d m (m - a) (b - m));have hgr : w.grownBy w (some g) := ⟨rfl, rfl, rfl, Nat.le_refl _, fun _ _ _ => rfl⟩
 have HG := zh hgr;have HN := zh hn;generalize rot d a m b = T at *;clear hown hgr hn
 go_enter Tryz.func214, Tryz.ntmps214
 go_wp2_with fail
 go_loopw [10, 11] (fun iv jv wr => ∃ (i j : Nat) (q : List It), iv = .int .i64 (i : Int) ∧ jv = .int .i64 (j : Int) ∧ RotC T q m i j ∧ q.length = n ∧ wr.ownsRow B 49 4 (.slice (some ⟨g, 0, none⟩) n cap) n (zL q) ∧ w.grownBy wr (some g)) (fun iv jv _ => (intOf iv).toNat + (intOf jv).toNat)
 case atStart => exact ⟨m - a, b - m, d, by go_num, by go_num, HR.out, HN.out, HO.out, HG.out⟩
 obtain ⟨i, j, q, rfl, rfl, hr, hq, ho, hg⟩ := hrel;have hl := hr.len;have hip := hr.hi;have hjp := hr.hj;rw [hq] at hl;have Ho := zh ho;have Hg := zh hg;have Hr := zh hr;have Hq := zh hq;clear ho hg hr hq;rcases Nat.lt_trichotomy i j with hij | hij | hij
 ·
  have HC := zh (uT g n cap (m - i) (m + j - i) i B q fv wr Ho.out Hq.out hs (by omega) (by omega));have e1 : ((m - i : Nat) : Int) = (m : Int) - (i : Int) := by omega
  have e2 : ((m + j - i : Nat) : Int) = (m : Int) + (j : Int) - (i : Int) := by omega
  rw [e1, e2] at HC;have HR2 := zh (Hr.out.lt hij);have HL2 := zh ((xB q (m - i) (m + j - i) i).trans Hq.out);generalize tt q (m - i) (m + j - i) i = q2 at *;clear e1 e2;have hne : ((i : Int) != (j : Int)) = true := by rw [bne_iff_ne]; omega
  go_wp2_with fail;refine HC.out.mono ?_; rintro e w2 ⟨rfl, hown2, hgr2⟩;have HO2 := zh hown2;have HG2 := zh (zm Hg.out hgr2);clear hown2 hgr2;go_wp2_with fail;exact ⟨⟨i, j - i, q2, rfl, by go_num, HR2.out, HL2.out, HO2.out, HG2.out⟩, by simp [intOf]; omega⟩
 ·
  subst hij;have HC := zh (uT g n cap (m - i) m i B q fv wr Ho.out Hq.out hs (by omega) (by omega));have e1 : ((m - i : Nat) : Int) = (m : Int) - (i : Int) := by omega
  rw [e1, Hr.out.eq] at HC;clear e1;have hne : ((i : Int) != (i : Int)) = false := by simp
  go_wp2_with fail;refine HC.out.mono ?_; rintro e w2 ⟨rfl, hown2, hgr2⟩;have HO2 := zh hown2;have HG2 := zh (zm Hg.out hgr2);clear hown2 hgr2;go_wp2_with fail;go_end0;exact ⟨rfl, HO2.out, HG2.out⟩
 have HC := zh (uT g n cap (m - i) m j B q fv wr Ho.out Hq.out hs (by omega) (by omega));have e1 : ((m - i : Nat) : Int) = (m : Int) - (i : Int) := by omega
 rw [e1] at HC;have HR2 := zh (Hr.out.gt hij);have HL2 := zh ((xB q (m - i) m j).trans Hq.out);generalize tt q (m - i) m j = q2 at *;clear e1;have hne : ((i : Int) != (j : Int)) = true := by rw [bne_iff_ne]; omega
 go_wp2_with fail;refine HC.out.mono ?_; rintro e w2 ⟨rfl, hown2, hgr2⟩;have HO2 := zh hown2;have HG2 := zh (zm Hg.out hgr2);clear hown2 hgr2;go_wp2_with fail;exact ⟨⟨i - j, j, q2, by go_num, rfl, HR2.out, HL2.out, HO2.out, HG2.out⟩, by simp [intOf]; omega⟩
theorem zEz {q : List It} {j : Nat} (h0 : 0 < j) (hj : j < q.length) (hk : (iat q j).key < (iat q (j - 1)).key) : Moved q (ui q j (j - 1)) (j - 1) (j + 1) := by
 have M := ti (d := q) (s := j - 1) (m := j) (e := j + 1) (by omega) (by omega) (by omega) (fun i i1 i2 k k1 k2 => by
  obtain rfl : i = j - 1 := by omega
  obtain rfl : k = j := by omega
  omega)
 have e : ui q j (j - 1) = rot q (j - 1) j (j + 1) := by
  refine qr (by rw [vY, M.len]) fun i _ => ?_
  rw [qU hj (by omega)]
  by_cases e1 : i = j - 1
  ·
   rw [if_pos e1, we (by omega) (by omega) (by omega) (by omega) (by omega)]; congr 1; omega
  rw [if_neg e1]
  by_cases e2 : i = j
  ·
   rw [if_pos e2, wY (by omega) (by omega) (by omega) (by omega) (by omega)]; congr 1; omega
  rw [if_neg e2, M.out (by omega)]
 rw [e]; exact M
structure Way (d q : List It) (a b i j : Nat) : Prop where
 mv : Moved d q a b
 rest : ∀ x y, a ≤ x → x < y → y ≤ i → x ≠ j → y ≠ j → (iat q x).key ≤ (iat q y).key
 up : ∀ y, j < y → y ≤ i → (iat q j).key ≤ (iat q y).key
 lo : a ≤ j
 hi : j ≤ i
 ib : i < b
theorem Way.start {d q : List It} {a b i : Nat} (m : Moved d q a b) (n : NdI q a i) (h : a ≤ i) (hb : i < b) : Way d q a b i i :=
 ⟨m, fun x y x1 xy y1 _ y2 => n x y x1 xy (by omega), fun y y1 y2 => by omega, h, Nat.le_refl _, hb⟩
theorem Way.done {d q : List It} {a b i j : Nat} (h : Way d q a b i j) (hs : j = a ∨ (iat q (j - 1)).key ≤ (iat q j).key) : NdI q a (i + 1) := fun x y x1 xy y2 => by
 by_cases e1 : x = j
 ·
  subst e1; exact h.up y xy (by omega)
 by_cases e2 : y = j
 ·
  subst e2;rcases hs with hs | hs
  ·
   omega
  by_cases e3 : x = y - 1
  ·
   subst e3; exact hs
  exact Int.le_trans (h.rest x (y - 1) x1 (by omega) (by have := h.hi; omega) e1 (by omega)) hs
 exact h.rest x y x1 xy (by omega) e1 e2
theorem Way.step {d q : List It} {a b i j : Nat} (h : Way d q a b i j) (hb : b ≤ q.length) (ha : a < j) (hk : (iat q j).key < (iat q (j - 1)).key) : Way d (ui q j (j - 1)) a b i (j - 1) := by
 have hib := h.ib;have hji := h.hi;have at_ := qU (d := q) (i := j) (j := j - 1) (by omega) (by omega);have M := zEz (q := q) (j := j) (by omega) (by omega) hk;refine ⟨h.mv.trans (M.wide (by omega) (by omega) (by omega)), fun x y x1 xy y1 x2 y2 => ?_, fun y y1 y2 => ?_, by omega, by omega, hib⟩
 ·
  rw [at_, at_, if_neg x2, if_neg y2]
  by_cases e1 : x = j
  ·
   rw [if_pos e1, if_neg (by omega)]; exact h.rest (j - 1) y (by omega) (by omega) y1 (by omega) (by omega)
  rw [if_neg e1]
  by_cases e2 : y = j
  ·
   rw [if_pos e2]; exact h.rest x (j - 1) x1 (by omega) (by omega) e1 (by omega)
  rw [if_neg e2]; exact h.rest x y x1 xy y1 e1 e2
 rw [at_, at_, if_pos rfl, if_neg (by omega)]
 by_cases e1 : y = j
 ·
  rw [if_pos e1]; omega
 rw [if_neg e1]; exact h.up y (by omega) y2
theorem xH {a b : World} (h : a.grownBy b none) (r : Option Nat) : a.grownBy b r := ⟨h.os, h.tape, h.output, h.size, fun k hk _ => h.block k hk (by simp)⟩
theorem tv (g n cap a b B : Nat) (d : List It) (w : World) (hown : w.ownsRow B 49 4 (.slice (some ⟨g, 0, none⟩) n cap) n (zL d)) (hn : d.length = n) (hs : n ≤ 1000000) (h1 : a ≤ b) (h2 : b ≤ n) :
  Calls Tryz.prog 186 #[.slice (some ⟨g, 0, none⟩) n cap, .int .i64 (a : Int), .int .i64 (b : Int), .func (.func 174) #[] #[]] w fun e w' => e = .returned (.tuple #[]) ∧ ∃ d', w'.ownsRow B 49 4 (.slice (some ⟨g, 0, none⟩) n cap) n (zL d') ∧ Moved d d' a b ∧ NdI d' a b ∧ w.grownBy w' (some g) := by
 have HO := zh hown;have hgr : w.grownBy w (some g) := ⟨rfl, rfl, rfl, Nat.le_refl _, fun _ _ _ => rfl⟩
 have HG := zh hgr;have HN := zh hn;have HM := zh (Moved.refl d a b);have HL := zh (fun q (h : Moved d q a b) => h.len.trans hn);clear hown hgr hn
 go_enter Tryz.func186, Tryz.ntmps186
 go_wp2_with fail
 go_loopw [8] (fun iv wr => ∃ (i : Nat) (q : List It), iv = .int .i64 (i : Int) ∧ a < i ∧ (i ≤ b ∨ i = a + 1) ∧ Moved d q a b ∧ NdI q a i ∧ wr.ownsRow B 49 4 (.slice (some ⟨g, 0, none⟩) n cap) n (zL q) ∧ w.grownBy wr (some g)) (fun iv _ => n + 1 - (intOf iv).toNat)
 case atStart => exact ⟨a + 1, d, by go_num, by omega, by omega, HM.out, fun i j i1 ij j2 => by omega, HO.out, HG.out⟩
 obtain ⟨i, q, rfl, hi, hib, hm, hnd, ho, hg⟩ := hrel;have Hm := zh hm;have Hnd := zh hnd;have Ho := zh ho;have Hg := zh hg;clear hm hnd ho hg
 by_cases hlt : i < b
 ·
  have HW := zh (Way.start Hm.out Hnd.out (by omega) hlt);go_wp2_with fail
  go_loopw [9] (fun jv wj => ∃ (j : Nat) (q : List It), jv = .int .i64 (j : Int) ∧ a ≤ j ∧ j ≤ i ∧ Way d q a b i j ∧ wj.ownsRow B 49 4 (.slice (some ⟨g, 0, none⟩) n cap) n (zL q) ∧ w.grownBy wj (some g)) (fun jv _ => (intOf jv).toNat)
  case atStart => exact ⟨i, q, rfl, by omega, by omega, HW.out, Ho.out, Hg.out⟩
  obtain ⟨j, r, rfl, hja, hji, hw, ho, hg⟩ := hrel;have Hw := zh hw;have Ho := zh ho;have Hg := zh hg;have hlr := HL.out _ hw.mv;have HLr := zh hlr;clear hw ho hg hlr
  by_cases hgt : a < j
  ·
   obtain ⟨_, _, e, c0, c1, c2, c3⟩ := (yS (zv Ho.out)).at (show j < n by omega);injection e with e; injection e with e1 e2; subst e1 e2;obtain ⟨_, _, e, d0, d1, d2, d3⟩ := (yS (zv Ho.out)).at (show j - 1 < n by omega);injection e with e; injection e with e1 e2; subst e1 e2;simp only [Nat.zero_add] at c0 c1 c2 c3 d0 d1 d2 d3;have HV := zh (fun W => zD6 (iat r j) (iat r (j - 1)) W);have hcl := zF2 (iat r j).key (iat r (j - 1)).key;obtain ⟨x, hx⟩ : ∃ x, iat r j = x := ⟨_, rfl⟩
   obtain ⟨y, hy⟩ : ∃ y, iat r (j - 1) = y := ⟨_, rfl⟩
   have HXY := zh (And.intro hx hy);rw [hx] at c0 c1 c2 c3 HV hcl;rw [hy] at d0 d1 d2 d3 HV hcl;clear hx hy;obtain ⟨c, hc⟩ : ∃ c, zFJ x.key y.key = c := ⟨_, rfl⟩
   rw [hc] at HV hcl;clear hc;have hcl := zh hcl;have j1 : IntKind.i64.wrap ((j : Int) - 1) = (j : Int) - 1 := IntWalk.i64_in _ (by omega);have j2 : (0 : Int) ≤ (j : Int) - 1 := by omega
   have j3 : ((j : Int) - 1).toNat = j - 1 := by omega
   have j4 : (j : Int) - 1 < (n : Int) := by omega
   have j5 : (j : Int) < (n : Int) := by omega
   have f0 := zC c0;have f1 := zC c1;have f2 := zC c2;have f3 := zC c3;have f4 := zC d0;have f5 := zC d1;have f6 := zC d2;have f7 := zC d3;clear c0 c1 c2 c3 d0 d1 d2 d3
   by_cases hk : c < 0
   ·
    have hkk : x.key < y.key := by have := hcl.out; rw [decide_eq_true hk] at this; exact of_decide_eq_true this.symm
    go_wp2_with fail;refine zB (by kernel_rfl) (by kernel_rfl) ?_
    repeat (go_big_quiet_step ((exact zI (HV.out _))))
    refine wpQuiet_nil ?_;intro _ hw';obtain ⟨p, hw'⟩ := hw';subst hw';have Hp := zh (zH Ho.out p.h);have Gp := zh (zm Hg.out (xH (grown_of p.h) (some g)));obtain ⟨_, _, e, c0, c1, c2, c3⟩ := (yS (zv Hp.out)).at (show j < n by omega);injection e with e; injection e with e1 e2; subst e1 e2;obtain ⟨_, _, e, d0, d1, d2, d3⟩ := (yS (zv Hp.out)).at (show j - 1 < n by omega);injection e with e; injection e with e1 e2; subst e1 e2;simp only [Nat.zero_add] at c0 c1 c2 c3 d0 d1 d2 d3;rw [HXY.out.1] at c0 c1 c2 c3;rw [HXY.out.2] at d0 d1 d2 d3;have fz := fun k => Hp.out.frozenAt k
    have z0 := fz (j * 4);have z1 := fz (j * 4 + 1);have z2 := fz (j * 4 + 2);have z3 := fz (j * 4 + 3);have z4 := fz ((j - 1) * 4);have z5 := fz ((j - 1) * 4 + 1);have z6 := fz ((j - 1) * 4 + 2);have z7 := fz ((j - 1) * 4 + 3);clear fz f0 f1 f2 f3 f4 f5 f6 f7;have HF := zh (zCv Hp.out HLr.out (i := j) (j := j - 1) (by omega) (by omega) HXY.out.1 HXY.out.2);have HS := zh (Hw.out.step (by rw [HLr.out]; exact h2) hgt (by rw [HXY.out.1, HXY.out.2]; exact hkk));generalize p.w' = wp at *;clear hkk;go_wp2_with fail
    go_region_with (fail)
    all_goals go_wp2_with fail
    all_goals exact ⟨⟨j - 1, ui r j (j - 1), by go_num, by omega, by omega, HS.out, HF.out.1, zm Gp.out HF.out.2⟩, by simp [intOf]; omega⟩
   have hkk : ¬ x.key < y.key := by have := hcl.out; rw [decide_eq_false hk] at this; exact of_decide_eq_false this.symm
   have HD := zh (Hw.out.done (Or.inr (by rw [HXY.out.1, HXY.out.2]; omega)));have hkd : decide (c < 0) = false := decide_eq_false hk;have hkd2 : decide (x.key < y.key) = false := decide_eq_false hkk;clear hk;go_wp2_with fail;refine zB (by kernel_rfl) (by kernel_rfl) ?_
   repeat (go_big_quiet_step ((exact zI (HV.out _))))
   refine wpQuiet_nil ?_;intro _ hw';obtain ⟨p, hw'⟩ := hw';subst hw';have Hp := zh (zH Ho.out p.h);have Gp := zh (zm Hg.out (xH (grown_of p.h) (some g)));generalize p.w' = wp at *;go_wp2_with fail;exact ⟨⟨i + 1, r, by go_num, by omega, by omega, Hw.out.mv, HD.out, Hp.out, Gp.out⟩, by simp [intOf]; omega⟩
  obtain rfl : j = a := by omega
  have HD := zh (Hw.out.done (Or.inl rfl));go_wp2_with fail;refine zB (by kernel_rfl) (by kernel_rfl) ?_
  repeat (go_big_quiet_step (fail))
  refine wpQuiet_nil ?_;intro _ hw';obtain ⟨p, hw'⟩ := hw';subst hw';have Hp := zh (zH Ho.out p.h);have Gp := zh (zm Hg.out (xH (grown_of p.h) (some g)));generalize p.w' = wp at *;go_wp2_with fail;exact ⟨⟨i + 1, r, by go_num, by omega, by omega, Hw.out.mv, HD.out, Hp.out, Gp.out⟩, by simp [intOf]; omega⟩
 have HD := zh (show NdI q a b from fun x y x1 xy y2 => Hnd.out x y x1 xy (by omega));go_wp2_with fail;go_end0;exact ⟨rfl, q, Ho.out, Hm.out, HD.out, Hg.out⟩
end Go.Proofs.YtcgfilmmokmdjaaGreat
namespace Go.Proofs.YtcgfilmmokmdjaaGreat
theorem tW {d : List It} {s m e : Nat} (h1 : s ≤ m) (h2 : m ≤ e) (h3 : e ≤ d.length) {i : Nat} (hi : i < s ∨ e ≤ i) : iat (rot d s m e) i = iat d i := by
 have l1 : (d.take s).length = s := by rw [List.length_take]; omega
 have l2 : (seg d m e ++ seg d s m).length = e - s := by rw [List.length_append, yR h3, yR (by omega)]; omega
 unfold rot;rcases hi with hi | hi
 ·
  rw [List.append_assoc, yl (by omega), wK hi]
 rw [zt (by rw [List.length_append, l1, l2]; omega), List.length_append, l1, l2, xS]
 congr 1; omega
theorem wQ {d : List It} {s m e : Nat} (h1 : s ≤ m) (h2 : m ≤ e) (h3 : e ≤ d.length) : (rot d s m e).length = d.length := by
 have l1 : (d.take s).length = s := by rw [List.length_take]; omega
 unfold rot;rw [List.length_append, List.length_append, List.length_append, l1, yR h3, yR (by omega), List.length_drop]; omega
theorem qe {d : List It} {s e : Nat} (h1 : s ≤ e) : rot d s e e = d ∧ rot d s s e = d := by
 have e0 : ∀ x, seg d x x = [] := fun x => by unfold seg; rw [Nat.sub_self, List.take_zero]
 have p := parts (d := d) h1
 constructor <;> · unfold rot; rw [e0]; simpa using p.symm
theorem zHU {d : List It} {a k : Nat} (h1 : a ≤ k) (h2 : k + 2 ≤ d.length) : ui (rot d a (a + 1) (k + 1)) k (k + 1) = rot d a (a + 1) (k + 2) := by
 have hl := wQ (d := d) (s := a) (m := a + 1) (e := k + 1) (by omega) (by omega) (by omega);have hl2 := wQ (d := d) (s := a) (m := a + 1) (e := k + 2) (by omega) (by omega) (by omega);refine qr (by rw [vY, hl, hl2]) fun i _ => ?_
 rw [qU (by rw [hl]; omega) (by rw [hl]; omega)]
 by_cases e1 : i = k + 1
 ·
  rw [if_pos e1, wY (by omega) (by omega) (by omega) (by omega) (by omega), wY (by omega) (by omega) (by omega) (by omega) (by omega)]
  congr 1; omega
 rw [if_neg e1]
 by_cases e2 : i = k
 ·
  rw [if_pos e2, tW (by omega) (by omega) (by omega) (by omega), we (by omega) (by omega) (by omega) (by omega) (by omega)]
  congr 1; omega
 rw [if_neg e2]
 by_cases e3 : i < a ∨ k + 2 ≤ i
 ·
  rw [tW (by omega) (by omega) (by omega) (by omega), tW (by omega) (by omega) (by omega) (by omega)]
 rw [we (by omega) (by omega) (by omega) (by omega) (by omega), we (by omega) (by omega) (by omega) (by omega) (by omega)]
theorem zKi {d : List It} {k m : Nat} (h1 : k + 1 ≤ m) (h2 : m + 1 ≤ d.length) : ui (rot d (k + 1) m (m + 1)) (k + 1) k = rot d k m (m + 1) := by
 have hl := wQ (d := d) (s := k + 1) (m := m) (e := m + 1) (by omega) (by omega) (by omega);have hl2 := wQ (d := d) (s := k) (m := m) (e := m + 1) (by omega) (by omega) (by omega);refine qr (by rw [vY, hl, hl2]) fun i _ => ?_
 rw [qU (by rw [hl]; omega) (by rw [hl]; omega)]
 by_cases e1 : i = k
 ·
  rw [if_pos e1, we (by omega) (by omega) (by omega) (by omega) (by omega), we (by omega) (by omega) (by omega) (by omega) (by omega)]
  congr 1; omega
 rw [if_neg e1]
 by_cases e2 : i = k + 1
 ·
  rw [if_pos e2, tW (by omega) (by omega) (by omega) (by omega), wY (by omega) (by omega) (by omega) (by omega) (by omega)]
  congr 1; omega
 rw [if_neg e2]
 by_cases e3 : i < k ∨ m + 1 ≤ i
 ·
  rw [tW (by omega) (by omega) (by omega) (by omega), tW (by omega) (by omega) (by omega) (by omega)]
 rw [wY (by omega) (by omega) (by omega) (by omega) (by omega), wY (by omega) (by omega) (by omega) (by omega) (by omega)]
 congr 1; omega
theorem zJd {d : List It} {a i b : Nat} (h1 : a + 1 ≤ i) (h2 : i ≤ b) (hb : b ≤ d.length) (nb : NdI d (a + 1) b)
  (H1 : ∀ j, a + 1 ≤ j → j < i → (iat d j).key < (iat d a).key) (H2 : ∀ j, i ≤ j → j < b → (iat d a).key ≤ (iat d j).key) :
  Moved d (rot d a (a + 1) i) a b ∧ NdI (rot d a (a + 1) i) a b := by
 have R := zCz (d := d) (a := a) (s := a) (m := a + 1) (e := i) (b := b) (c := a + (i - (a + 1))) (Nat.le_refl _) (by omega) h1 h2 hb rfl (fun x y x1 xy y1 => by omega) nb
  (fun x x1 x2 => by omega) (fun x x1 x2 j j1 j2 => (show x = a by omega) ▸ H1 j j1 j2)
 obtain ⟨m, n1, n2, n3, n4, hx⟩ := R;refine ⟨m, fun x y x1 xy y2 => ?_⟩;rcases Nat.lt_or_ge x (a + (i - (a + 1))) with xc | xc
 ·
  rcases Nat.lt_or_ge y (a + (i - (a + 1))) with yc | yc
  ·
   exact n2 x y x1 xy yc
  exact hx x x1 xc y yc y2
 have hxi : ∀ z, i ≤ z → iat (rot d a (a + 1) i) z = iat d z := fun z hz => (ti (by omega) h1 (Nat.le_trans h2 hb) (fun p p1 p2 q q1 q2 => by
  obtain rfl : p = a := by omega
  have := H1 q q1 q2; omega)).out (Or.inr hz)
 rcases Nat.lt_or_ge x i with xi | xi
 ·
  rcases Nat.lt_or_ge y i with yi | yi
  ·
   omega
  rw [hxi y yi, wY (by omega) h1 (Nat.le_trans h2 hb) xc xi];have : a + (x - (a + (i - (a + 1)))) = a := by omega
  rw [this]; exact H2 y yi y2
 exact n4 x y xi xy y2
theorem zIB {d : List It} {a i m : Nat} (h1 : a ≤ i) (h2 : i ≤ m) (hb : m + 1 ≤ d.length) (na : NdI d a m)
  (H1 : ∀ j, a ≤ j → j < i → (iat d j).key ≤ (iat d m).key) (H2 : ∀ j, i ≤ j → j < m → (iat d m).key < (iat d j).key) :
  Moved d (rot d i m (m + 1)) a (m + 1) ∧ NdI (rot d i m (m + 1)) a (m + 1) := by
 have R := zCz (d := d) (a := a) (s := i) (m := m) (e := m + 1) (b := m + 1) (c := i + 1) h1 h2 (by omega) (Nat.le_refl _) hb (by omega) na (fun x y x1 xy y1 => by omega)
  (fun x x1 x2 j j1 j2 => by omega) (fun x x1 x2 j j1 j2 => (show j = m by omega) ▸ H2 x x1 x2)
 obtain ⟨mv, n1, n2, n3, n4, hx⟩ := R;refine ⟨mv, fun x y x1 xy y2 => ?_⟩;rcases Nat.lt_or_ge x (i + 1) with xc | xc
 ·
  rcases Nat.lt_or_ge y (i + 1) with yc | yc
  ·
   rcases Nat.lt_or_ge y i with yi | yi
   ·
    exact n1 x y x1 xy yi
   obtain rfl : y = i := by omega
   have ho : iat (rot d y m (m + 1)) x = iat d x := (ti h2 (by omega) hb (fun p p1 p2 q q1 q2 => by
    obtain rfl : q = m := by omega
    have := H2 p p1 p2; omega)).out (Or.inl (by omega))
   rw [ho, we h2 (by omega) hb (Nat.le_refl _) (by omega)];have : m + (y - y) = m := by omega
   rw [this]; exact H1 x x1 (by omega)
  exact hx x x1 xc y yc y2
 exact n3 x y xc xy y2
structure Srch (d : List It) (a m b s : Nat) : Prop where
 lo : (if m > (a + b) / 2 then (a + b) / 2 + m - b else a) ≤ s
 hi : s ≤ (if m > (a + b) / 2 then (a + b) / 2 else m)
 l : (if m > (a + b) / 2 then (a + b) / 2 + m - b else a) < s → (iat d (s - 1)).key ≤ (iat d ((a + b) / 2 + m - s)).key
 r : s < (if m > (a + b) / 2 then (a + b) / 2 else m) → (iat d ((a + b) / 2 + m - 1 - s)).key < (iat d s).key
theorem Srch.ends {d : List It} {a m b s : Nat} (h : Srch d a m b s) : a ≤ s ∧ s ≤ m ∧ s ≤ (a + b) / 2 ∧ m ≤ (a + b) / 2 + m - s ∧ (a + b) / 2 + m - s ≤ b := by
 have := h.lo;have := h.hi
 split at this <;> split at * <;> omega
theorem zJp {d : List It} {a m b s : Nat} (h : Srch d a m b s) (h1 : a < m) (h2 : m < b) (hb : b ≤ d.length) (na : NdI d a m) (nb : NdI d m b) :
  Moved d (rot d s m ((a + b) / 2 + m - s)) a b ∧ NdI (rot d s m ((a + b) / 2 + m - s)) a s ∧ NdI (rot d s m ((a + b) / 2 + m - s)) s ((a + b) / 2) ∧ NdI (rot d s m ((a + b) / 2 + m - s)) ((a + b) / 2) ((a + b) / 2 + m - s) ∧ NdI (rot d s m ((a + b) / 2 + m - s)) ((a + b) / 2 + m - s) b ∧
  ∀ i, a ≤ i → i < (a + b) / 2 → ∀ j, (a + b) / 2 ≤ j → j < b → (iat (rot d s m ((a + b) / 2 + m - s)) i).key ≤ (iat (rot d s m ((a + b) / 2 + m - s)) j).key := by
 obtain ⟨e1, e2, e3, e4, e5⟩ := h.ends;have nle : ∀ {x y}, a ≤ x → x ≤ y → y < m → (iat d x).key ≤ (iat d y).key := fun {x y} x1 xy y1 => by
  rcases Nat.lt_or_ge x y with q | q
  ·
   exact na x y x1 q y1
  rw [show x = y by omega]; exact Int.le_refl _
 have mle : ∀ {x y}, m ≤ x → x ≤ y → y < b → (iat d x).key ≤ (iat d y).key := fun {x y} x1 xy y1 => by
  rcases Nat.lt_or_ge x y with q | q
  ·
   exact nb x y x1 q y1
  rw [show x = y by omega]; exact Int.le_refl _
 refine zCz e1 e2 e4 e5 hb (by omega) na nb (fun i i1 i2 j j1 j2 => ?_) (fun i i1 i2 j j1 j2 => ?_)
 ·
  have hl := h.l
  by_cases q : (if m > (a + b) / 2 then (a + b) / 2 + m - b else a) < s
  ·
   exact Int.le_trans (nle i1 (show i ≤ s - 1 by omega) (by omega)) (Int.le_trans (hl q) (mle e4 j1 j2))
  exfalso; split at q <;> omega
 have hr := h.r
 by_cases q : s < (if m > (a + b) / 2 then (a + b) / 2 else m)
 ·
  exact Int.lt_of_le_of_lt (mle j1 (show j ≤ (a + b) / 2 + m - 1 - s by omega) (by omega)) (Int.lt_of_lt_of_le (hr q) (nle e1 i1 i2))
 exfalso; split at q <;> omega
def vr : List It → List It
 | [] => []
 | [x] => [x]
 | x :: y :: r => if y.key = x.key then vr (y :: r) else x :: vr (y :: r)
def NdL (d : List It) : Prop := d.Pairwise fun a b => a.key ≤ b.key
theorem zKo {d : List It} (h : NdI d 0 d.length) : NdL d := by
 refine List.pairwise_iff_getElem.2 fun i j hi hj hij => ?_
 rw [ww hi, ww hj];exact h i j (Nat.zero_le _) hij hj
theorem zFW (k : Int) : fnd [] k = none := rfl
theorem zBu (x : It) {f : List It} (h : f ≠ []) : (x :: f).getLast? = f.getLast? := by
 cases f with
 | nil => exact absurd rfl h
 | cons y f => rw [List.getLast?_cons_cons]
theorem zDx : ∀ (d : List It), NdL d → ∀ k : Int, fnd (vr d) k = (d.filter fun y => y.key == k).getLast?
 | [], _, k => rfl
 | [x], _, k => by
  unfold vr;rw [zk, List.filter_cons]
  by_cases h : x.key = k
  ·
   rw [if_pos h, if_pos (by simp [h])]; rfl
  rw [if_neg h, if_neg (by simp [h])]; rfl
 | x :: y :: r, hp, k => by
  obtain ⟨h1, h2⟩ := List.pairwise_cons.1 hp;have ih := zDx (y :: r) h2 k;unfold vr;rw [List.filter_cons]
  by_cases e : y.key = x.key
  ·
   rw [if_pos e, ih]
   by_cases hk : x.key = k
   ·
    rw [if_pos (by simp [hk]), zBu];intro h0;have : y ∈ (y :: r).filter fun y => y.key == k := List.mem_filter.2 ⟨by simp, by simp; omega⟩
    rw [h0] at this; cases this
   rw [if_neg (by simp [hk])]
  rw [if_neg e, zk]
  by_cases hk : x.key = k
  ·
   rw [if_pos hk, if_pos (by simp [hk])];have h0 : (y :: r).filter (fun y => y.key == k) = [] := by
    rw [List.filter_eq_nil_iff];intro z hz;have hxy := h1 y (by simp);have hyz : y.key ≤ z.key := by
     rcases List.mem_cons.1 hz with rfl | hz
     ·
      exact Int.le_refl _
     exact (List.pairwise_cons.1 h2).1 z hz
    simp; omega
   rw [h0]; rfl
  rw [if_neg hk, if_neg (by simp [hk]), ih]
theorem zAW : ∀ (d : List It), ∀ z ∈ vr d, z ∈ d
 | [], _, h => h
 | [x], z, h => h
 | x :: y :: r, z, h => by
  unfold vr at h
  split at h
  ·
   exact List.mem_cons_of_mem _ (zAW (y :: r) z h)
  rcases List.mem_cons.1 h with rfl | h
  ·
   simp
  exact List.mem_cons_of_mem _ (zAW (y :: r) z h)
theorem zDD : ∀ (d : List It), NdL d → (vr d).Pairwise fun a b => a.key < b.key
 | [], _ => .nil
 | [x], _ => .cons (fun _ h => by cases h) .nil
 | x :: y :: r, hp => by
  obtain ⟨h1, h2⟩ := List.pairwise_cons.1 hp;have ih := zDD (y :: r) h2;unfold vr
  split
  ·
   exact ih
  rename_i e;refine .cons (fun z hz => ?_) ih;have hz := zAW _ z hz;have hxy := h1 y (by simp);rcases List.mem_cons.1 hz with rfl | hz
  ·
   omega
  have := (List.pairwise_cons.1 h2).1 z hz; omega
theorem wE {l : List It} {k : Int} {x : It} (h : fnd l k = some x) : x ∈ l ∧ x.key = k := by
 unfold fnd at h;exact ⟨List.mem_of_find?_eq_some h, by simpa using List.find?_some h⟩
theorem wh {l : List It} {k : Int} (h : ∀ x ∈ l, x.key ≠ k) : fnd l k = none := by
 unfold fnd;rw [List.find?_eq_none];intro x hx; simpa using h x hx
theorem tT : ∀ (u v : List It), (u.Pairwise fun a b => a.key < b.key) → (v.Pairwise fun a b => a.key < b.key) → (∀ k, fnd u k = fnd v k) → u = v
 | [], [], _, _, _ => rfl
 | [], y :: v, _, _, h => by
  have := h y.key;rw [zFW, zk, if_pos rfl] at this; cases this
 | x :: u, [], _, _, h => by
  have := h x.key;rw [zFW, zk, if_pos rfl] at this; cases this
 | x :: u, y :: v, hu, hv, h => by
  obtain ⟨u1, u2⟩ := List.pairwise_cons.1 hu;obtain ⟨v1, v2⟩ := List.pairwise_cons.1 hv;have hx := h x.key;rw [zk, if_pos rfl] at hx;have hy := h y.key;rw [zk (y := y), if_pos rfl] at hy;have m1 := wE hx.symm;have m2 := wE hy;have e : x.key = y.key := by
   rcases List.mem_cons.1 m1.1 with e | m1
   ·
    rw [e]
   have := v1 _ m1;rcases List.mem_cons.1 m2.1 with e | m2
   ·
    rw [e]
   have := u1 _ m2; omega
  have exy : x = y := by
   rw [zk, if_pos e.symm] at hx;exact Option.some.inj hx
  subst exy
  congr 1
  refine tT u v u2 v2 fun k => ?_
  by_cases hk : x.key = k
  ·
   rw [wh fun z hz => by have := u1 z hz; omega, wh fun z hz => by have := v1 z hz; omega]
  have := h k
  rwa [zk, zk, if_neg hk, if_neg hk] at this
theorem zBq : ∀ (l out : List It) (k : Int), fnd (l.foldl ins out) k = match (l.filter fun y => y.key == k).getLast? with | some x => some x | none => fnd out k
 | [], out, k => rfl
 | x :: l, out, k => by
  rw [List.foldl_cons, zBq l (ins out x) k, List.filter_cons]
  by_cases h : x.key = k
  ·
   rw [if_pos (by simp [h])]
   by_cases h0 : l.filter (fun y => y.key == k) = []
   ·
    rw [h0]
    show fnd (ins out x) k = some x
    rw [← h]; exact vA x out
   rw [zBu x h0]
   cases e : (l.filter fun y => y.key == k).getLast? with
   | none => rw [List.getLast?_eq_none_iff] at e; exact absurd e h0
   | some y => rfl
  rw [if_neg (by simp [h]), wW x k (Ne.symm h)]
theorem zCn (l : List It) (k : Int) : fnd (srt l) k = (l.filter fun y => y.key == k).getLast? := by
 unfold srt;rw [zBq]
 cases (l.filter fun y => y.key == k).getLast? <;> rfl
theorem zJR {l d : List It} (h : stb l d) (hn : NdI d 0 d.length) : vr d = srt l := by
 have hp := zKo hn;refine tT _ _ (zDD d hp) (uZ ((xK _).2 (wU l))) fun k => ?_
 rw [zDx d hp, zCn, h k]
theorem vD {d : List It} {i : Nat} (h : i < d.length) : d.drop i = iat d i :: d.drop (i + 1) := by
 rw [List.drop_eq_getElem_cons h, ww h]
theorem zHz {d : List It} {i : Nat} (h : i + 1 = d.length) : vr (d.drop i) = [iat d i] ++ vr (d.drop (i + 1)) := by
 rw [vD (by omega), List.drop_eq_nil_of_le (by omega)]; rfl
theorem zHO {d : List It} {i : Nat} (h : i + 1 < d.length) (hk : (iat d (i + 1)).key ≠ (iat d i).key) : vr (d.drop i) = [iat d i] ++ vr (d.drop (i + 1)) := by
 rw [vD (show i < d.length by omega), vD h]
 conv => lhs; unfold vr
 rw [if_neg hk]; rfl
theorem zGR {d : List It} {i : Nat} (h : i + 1 < d.length) (hk : (iat d (i + 1)).key = (iat d i).key) : vr (d.drop i) = vr (d.drop (i + 1)) := by
 rw [vD (show i < d.length by omega), vD h]
 conv => lhs; unfold vr
 rw [if_pos hk]
/-! ### Blocks -/
def Blk (d : List It) (bs lo hi : Nat) : Prop := ∀ k i j, lo ≤ i → i < j → j < hi → k * bs ≤ i → j < k * bs + bs → (iat d i).key ≤ (iat d j).key
theorem Blk.nd {d : List It} {bs lo hi k a b : Nat} (h : Blk d bs lo hi) (h1 : lo ≤ a) (h2 : b ≤ hi) (h3 : k * bs ≤ a) (h4 : b ≤ k * bs + bs) : NdI d a b := fun i j i1 ij j1 => h k i j (by omega) ij (by omega) (by omega) (by omega)
theorem Blk.sub {d : List It} {bs lo hi lo' hi' : Nat} (h : Blk d bs lo hi) (h1 : lo ≤ lo') (h2 : hi' ≤ hi) : Blk d bs lo' hi' := fun k i j i1 ij j1 a b => h k i j (by omega) ij (by omega) a b
theorem Blk.none (d : List It) (bs lo : Nat) : Blk d bs lo lo := fun k i j i1 ij j1 => by omega
theorem Blk.keep {d d' : List It} {bs lo hi a b : Nat} (h : Blk d bs lo hi) (m : Moved d d' a b) (hh : hi ≤ a ∨ b ≤ lo) : Blk d' bs lo hi := fun k i j i1 ij j1 p q => by
 rw [m.out (by omega), m.out (by omega)]; exact h k i j i1 ij j1 p q
theorem Blk.more {d : List It} {bs a b k : Nat} (h : Blk d bs 0 a) (hk : a = k * bs) (n : NdI d a b) : Blk d bs 0 b := fun c i j i1 ij j1 p q => by
 by_cases e : j < a
 ·
  exact h c i j i1 ij e p q
 have hc : k ≤ c := by
  rcases Nat.lt_or_ge c k with hc | hc
  ·
   have := Nat.mul_le_mul_right bs (show c + 1 ≤ k by omega);rw [Nat.succ_mul] at this; omega
  exact hc
 have := Nat.mul_le_mul_right bs hc;exact n i j (by omega) ij j1
theorem Blk.whole {d : List It} {bs n : Nat} (h : Blk d bs 0 n) (hb : n ≤ bs) : NdI d 0 n := fun i j i1 ij j1 => h 0 i j i1 ij j1 (by omega) (by omega)
theorem qH (u v : List It) : srt (u ++ v) = v.foldl ins (srt u) := by unfold srt; rw [List.foldl_append]
theorem zKC (l : List It) : mrg [] l [] = srt l := by
 unfold mrg;rw [zFs]
 show srt ([] ++ srt l) = _
 rw [List.nil_append, yH (wU l)]
theorem uu (s : List It) (x : It) (k : Int) : fnd (ins s x) k = if x.key = k then some x else fnd s k := by
 by_cases h : x.key = k
 ·
  rw [if_pos h, ← h]; exact vA x s
 rw [if_neg h]; exact wW x k (Ne.symm h) s
theorem zA7 (s : List It) (key k : Int) : fnd (drp s key) k = if k = key then none else fnd s k := by
 by_cases h : k = key
 ·
  rw [if_pos h, h]; exact qm s key
 rw [if_neg h]; exact vv key k h s
theorem zJH (u : List It) (x : It) : srt (u ++ [x]) = ins (srt u) x := by rw [qH]; rfl
def zq (s : List It) : Nat := (s.map fun x => szN x.size.toNat).sum
theorem yp (s t : List It) : zq (s ++ t) = zq s + zq t := by simp [zq]
theorem tI (s : List It) : zq s ≤ s.length * 4127 := by
 induction s with
 | nil => exact Nat.le_refl _
 | cons x l ih =>
  have := xg x.size.toNat
  show szN x.size.toNat + zq l ≤ _
  rw [List.length_cons]; omega
theorem zCK : ∀ (u v : List It) (x : It), (∀ z ∈ u, z.key < x.key) → ins (u ++ v) x = u ++ ins v x
 | [], _, _, _ => rfl
 | y :: u, v, x, h => by
  show ins (y :: (u ++ v)) x = y :: (u ++ ins v x)
  simp only [ins];rw [if_pos (h y (by simp)), zCK u v x (fun z hz => h z (by simp [hz]))]
theorem zDl : ∀ (u v : List It) (x : It), (∃ z ∈ u, x.key ≤ z.key) → ins (u ++ v) x = ins u x ++ v
 | [], _, _, h => by obtain ⟨z, hz, _⟩ := h; cases hz
 | y :: u, v, x, h => by
  show ins (y :: (u ++ v)) x = ins (y :: u) x ++ v
  simp only [ins]
  split
  ·
   rename_i hlt
   rw [zDl u v x (by
    obtain ⟨z, hz, hx⟩ := h
    rcases List.mem_cons.1 hz with rfl | hz
    ·
     omega
    exact ⟨z, hz, hx⟩)]
   rfl
  split <;> rfl
theorem zIU (u : List It) (y : It) (key : Int) : drp (u ++ [y]) key = drp u key ++ if y.key = key then [] else [y] := by
 unfold drp;rw [List.filter_append]
 by_cases h : y.key = key
 ·
  rw [if_pos h]; simp [h]
 rw [if_neg h]; simp [h]
structure PutW (s : List It) (x : It) (i : Nat) (done : Bool) (out : List It) : Prop where
 no : done = false → out = s.take i ∧ ∀ z ∈ s.take i, z.key < x.key
 yes : done = true → out = ins (s.take i) x ∧ ∃ j, j < i ∧ x.key ≤ (iat s j).key
theorem PutW.start (s : List It) (x : It) : PutW s x 0 false [] := ⟨fun _ => ⟨rfl, fun z hz => by cases hz⟩, fun h => by cases h⟩
theorem PutW.low {s out : List It} {x : It} {i : Nat} (h : PutW s x i false out) (hi : i < s.length) (hk : (iat s i).key < x.key) : PutW s x (i + 1) false (out ++ [iat s i]) := by
 obtain ⟨h1, h2⟩ := h.no rfl;refine ⟨fun _ => ⟨by rw [yj hi, h1], fun z hz => ?_⟩, fun h => by cases h⟩;rw [yj hi] at hz;rcases List.mem_append.1 hz with hz | hz
 ·
  exact h2 z hz
 rw [List.mem_singleton.1 hz]; exact hk
theorem PutW.here {s out : List It} {x : It} {i : Nat} (h : PutW s x i false out) (hi : i < s.length) (hk : (iat s i).key = x.key) : PutW s x (i + 1) true (out ++ [x]) := by
 obtain ⟨h1, h2⟩ := h.no rfl;refine ⟨(fun h => by cases h), fun _ => ⟨?_, i, by omega, by omega⟩⟩;rw [yj hi, zCK _ _ _ h2, h1];simp only [ins];rw [if_neg (by omega), if_pos hk]
theorem PutW.ahead {s out : List It} {x : It} {i : Nat} (h : PutW s x i false out) (hi : i < s.length) (hk : x.key < (iat s i).key) : PutW s x (i + 1) true (out ++ [x] ++ [iat s i]) := by
 obtain ⟨h1, h2⟩ := h.no rfl;refine ⟨(fun h => by cases h), fun _ => ⟨?_, i, by omega, by omega⟩⟩;rw [yj hi, zCK _ _ _ h2, h1];simp only [ins];rw [if_neg (by omega), if_neg (by omega), List.append_assoc]; rfl
theorem PutW.gt {s out : List It} {x : It} {i : Nat} (h : PutW s x i true out) (ha : Asc s) (hi : i < s.length) : x.key < (iat s i).key := by
 obtain ⟨_, j, hj, hx⟩ := h.yes rfl;exact Int.lt_of_le_of_lt hx (ha.mono hj hi)
theorem PutW.more {s out : List It} {x : It} {i : Nat} (h : PutW s x i true out) (hi : i < s.length) : PutW s x (i + 1) true (out ++ [iat s i]) := by
 obtain ⟨h1, j, hj, hx⟩ := h.yes rfl;refine ⟨(fun h => by cases h), fun _ => ⟨?_, j, by omega, hx⟩⟩;rw [yj hi, zDl _ _ _ ⟨iat s j, ?_, hx⟩, h1];have hm : iat (s.take i) j ∈ s.take i := tQ (by rw [List.length_take]; omega)
 rwa [wK hj] at hm
theorem PutW.end1 {s out : List It} {x : It} (h : PutW s x s.length true out) : out = ins s x := by
 have := (h.yes rfl).1
 rwa [List.take_length] at this
theorem PutW.end0 {s out : List It} {x : It} (h : PutW s x s.length false out) : out ++ [x] = ins s x := by
 obtain ⟨h1, h2⟩ := h.no rfl;rw [List.take_length] at h1 h2;rw [zBN x s h2, h1]
theorem PutW.len {s out : List It} {x : It} {i : Nat} {b : Bool} (h : PutW s x i b out) : out.length ≤ i + 1 := by
 cases b with
 | false => rw [(h.no rfl).1, List.length_take]; omega
 | true =>
  have := vJ x (s.take i);rw [(h.yes rfl).1];have h2 : (s.take i).length ≤ i := by rw [List.length_take]; omega
  omega
theorem zJ4 {l : List It} {key : Int} {r : Nat} (h : r < l.length) (hk : (iat l r).key = key) (hn : ∀ j, r < j → j < l.length → (iat l j).key ≠ key) : fnd (srt l) key = some (iat l r) := by
 rw [zCn];have e : l = l.take r ++ iat l r :: l.drop (r + 1) := by rw [← vD h, List.take_append_drop]
 have h0 : (l.drop (r + 1)).filter (fun y => y.key == key) = [] := by
  rw [List.filter_eq_nil_iff];intro y hy;obtain ⟨j, hj, rfl⟩ := vd hy;rw [xS];rw [List.length_drop] at hj
  simpa using hn (r + 1 + j) (by omega) (by omega)
 conv => lhs; rw [e]
 rw [List.filter_append, List.filter_cons, if_pos (by simp [hk]), h0, List.getLast?_append]
 rfl
theorem zG0 {l : List It} {key : Int} (hn : ∀ j, j < l.length → (iat l j).key ≠ key) : fnd (srt l) key = none := by
 rw [zCn];have h0 : l.filter (fun y => y.key == key) = [] := by
  rw [List.filter_eq_nil_iff];intro y hy;obtain ⟨j, hj, rfl⟩ := vd hy
  simpa using hn j hj
 rw [h0]; rfl
def zLd (s v : List It) : List It := v.foldl ins s
def zb (key : Int) : Nat := (key * 11400714819323198485 % 18446744073709551616 / 2305843009213693952).toNat
theorem wD (key : Int) : zb key < 8 := by unfold zb; omega
structure Mp where
 st : Nat → List It
 live : Int
 garb : Int
def cat (f : Nat → List It) : Nat → List It
 | 0 => []
 | n + 1 => cat f n ++ f n
def ws (M : Mp) : List It := cat M.st 8
def okS (M : Mp) (i : Nat) : Bool := xY (M.st i) && (M.st i).all fun x => zb x.key == i
def yX (M : Mp) : Bool := (List.range 8).all (okS M) && (M.live == (zq (ws M) : Int)) && decide (0 ≤ M.garb) && decide (M.garb ≤ 1099511627776)
structure VldM (M : Mp) : Prop where
 ok : ∀ i, i < 8 → xY (M.st i) = true
 sp : ∀ i, i < 8 → ∀ x ∈ M.st i, zb x.key = i
 lv : M.live = (zq (ws M) : Int)
 g0 : 0 ≤ M.garb
 g1 : M.garb ≤ 1099511627776
theorem zM (M : Mp) : yX M = true ↔ VldM M := by
 unfold yX okS;rw [Bool.and_eq_true, Bool.and_eq_true, Bool.and_eq_true, List.all_eq_true, decide_eq_true_eq, decide_eq_true_eq, beq_iff_eq]
 constructor
 ·
  rintro ⟨⟨⟨h1, h2⟩, h3⟩, h4⟩;have h := fun i (hi : i < 8) => Bool.and_eq_true_iff.1 (h1 i (List.mem_range.2 hi))
  exact ⟨fun i hi => (h i hi).1, fun i hi x hx => beq_iff_eq.1 (List.all_eq_true.1 (h i hi).2 x hx), h2, h3, h4⟩
 rintro ⟨h1, h2, h3, h4, h5⟩;exact ⟨⟨⟨fun i hi => Bool.and_eq_true_iff.2 ⟨h1 i (List.mem_range.1 hi), List.all_eq_true.2 fun x hx => beq_iff_eq.2 (h2 i (List.mem_range.1 hi) x hx)⟩, h3⟩, h4⟩, h5⟩
theorem tw {l : List It} (h : Asc l) : l.Pairwise fun a b => a.key < b.key := uZ ((xK _).2 h)
theorem vV {l : List It} (h : xY l = true) : Asc l := (uC.1 h).1
theorem zHY {l : List It} (h : Asc l) {y : It} (hy : y ∈ l) : fnd l y.key = some y := by
 have hp := tw h;clear h
 induction l with
 | nil => cases hy
 | cons x l ih =>
  rw [List.pairwise_cons] at hp;rw [zk];rcases List.mem_cons.1 hy with rfl | hy
  ·
   rw [if_pos rfl]
  rw [if_neg (by have := hp.1 y hy; omega)]; exact ih hy hp.2
theorem zCi {l : List It} {k : Int} (h : fnd l k = none) : ∀ x ∈ l, x.key ≠ k := fun x hx => by
 unfold fnd at h;rw [List.find?_eq_none] at h
 simpa using h x hx
theorem zFt (s : List It) (k : Int) : ∀ n (v : List It), v.length = n → fnd (v.foldl ins s) k = match fnd (srt v) k with | some x => some x | none => fnd s k
 | 0, v, h => by rw [List.length_eq_zero_iff.1 h]; rfl
 | n + 1, v, h => by
  obtain ⟨u, y, rfl⟩ : ∃ u y, v = u ++ [y] := by
   have hv : v ≠ [] := fun e => by rw [e] at h; cases h
   exact ⟨v.dropLast, v.getLast hv, (List.dropLast_concat_getLast hv).symm⟩
  have ih := zFt s k n u (by rw [List.length_append] at h; simpa using h);rw [List.foldl_append, zJH]
  show fnd (ins (u.foldl ins s) y) k = _
  rw [uu, uu, ih]
  by_cases e : y.key = k
  ·
   rw [if_pos e, if_pos e]
  rw [if_neg e, if_neg e]
theorem zJU (u v : List It) (k : Int) : fnd (srt (u ++ v)) k = match fnd (srt v) k with | some x => some x | none => fnd (srt u) k := by
 rw [qH]; exact zFt (srt u) k _ v rfl
theorem zCl (f : Nat → List It) (k : Int) : ∀ n, (∀ i, i < n → Asc (f i) ∧ ∀ x ∈ f i, zb x.key = i) → fnd (srt (cat f n)) k = if zb k < n then fnd (f (zb k)) k else none
 | 0, _ => by rw [if_neg (by omega)]; rfl
 | n + 1, h => by
  have ih := zCl f k n (fun i hi => h i (by omega));obtain ⟨ha, hs⟩ := h n (by omega)
  show fnd (srt (cat f n ++ f n)) k = _
  rw [zJU, yH ha, ih]
  by_cases e : zb k = n
  ·
   rw [if_neg (show ¬ zb k < n by omega), if_pos (show zb k < n + 1 by omega), e]
   cases fnd (f n) k <;> rfl
  have hn : fnd (f n) k = none := wh fun x hx e2 => e (by rw [← e2]; exact hs x hx)
  rw [hn]
  by_cases hl : zb k < n
  ·
   rw [if_pos hl, if_pos (by omega)]
  rw [if_neg hl, if_neg (by omega)]
theorem VldM.fnd {M : Mp} (h : VldM M) (k : Int) : fnd (srt (ws M)) k = fnd (M.st (zb k)) k := by
 have := zCl M.st k 8 (fun i hi => ⟨vV (h.ok i hi), h.sp i hi⟩);rw [if_pos (wD k)] at this;exact this
theorem zA2 (p : It → Bool) (b : Bool) (k : Int) (hp : ∀ x : It, x.key = k → p x = b) : ∀ l : List It, fnd (l.filter p) k = if b then fnd l k else none
 | [] => by cases b <;> rfl
 | x :: l => by
  have ih := zA2 p b k hp l
  by_cases e : x.key = k
  ·
   rw [List.filter_cons, hp x e]
   cases b
   ·
    simpa using ih
   simp only [if_true]; rw [zk, zk, if_pos e, if_pos e]
  rw [List.filter_cons]
  split
  ·
   rw [zk, if_neg e, ih, zk, if_neg e]
  rw [ih, zk, if_neg e]
def inS (i : Nat) (l : List It) : List It := l.filter fun x => zb x.key == i
theorem uP (i : Nat) (l : List It) (k : Int) : fnd (inS i l) k = if zb k = i then fnd l k else none := by
 have := zA2 (fun x => zb x.key == i) (decide (zb k = i)) k (fun x e => by rw [e]; by_cases h : zb k = i <;> simp [h]) l;unfold inS;rw [this]
 by_cases h : zb k = i <;> simp [h]
theorem zCJ (i : Nat) {l : List It} (h : Asc l) : (inS i l).Pairwise fun a b => a.key < b.key := (tw h).filter _
theorem VldM.inS {M : Mp} (h : VldM M) {i : Nat} (hi : i < 8) : inS i (srt (ws M)) = M.st i := by
 refine tT _ _ (zCJ i (wU _)) (tw (vV (h.ok i hi))) fun k => ?_
 rw [uP, h.fnd]
 by_cases e : zb k = i
 ·
  rw [if_pos e, e]
 rw [if_neg e];exact (wh fun x hx e2 => e (by rw [← e2]; exact h.sp i hi x hx)).symm
theorem zJ2 {l : List It} (h : Asc l) (x : It) (i : Nat) : inS i (ins l x) = if zb x.key = i then ins (inS i l) x else inS i l := by
 have hp := zCJ i h;refine tT _ _ ((uZ (tl _ _ ((xK _).2 h))).filter _) ?_ fun k => ?_
 ·
  split
  ·
   exact uZ (tl _ _ (zCj hp))
  exact hp
 rw [uP, uu]
 by_cases e : zb x.key = i
 ·
  rw [if_pos e, uu, uP]
  by_cases e2 : x.key = k
  ·
   rw [if_pos e2, if_pos (show zb k = i by rw [← e2]; exact e), if_pos e2]
  rw [if_neg e2, if_neg e2]
 rw [if_neg e, uP]
 by_cases e2 : x.key = k
 ·
  rw [if_neg (by rw [← e2]; exact e), if_neg (by rw [← e2]; exact e)]
 rw [if_neg e2]
theorem zJx {l : List It} (h : Asc l) (key : Int) (i : Nat) : inS i (drp l key) = if zb key = i then drp (inS i l) key else inS i l := by
 have hp := zCJ i h;refine tT _ _ ((tw (zCs h key)).filter _) ?_ fun k => ?_
 ·
  split
  ·
   exact hp.filter _
  exact hp
 rw [uP, zA7]
 by_cases e : zb key = i
 ·
  rw [if_pos e, zA7, uP]
  by_cases e2 : k = key
  ·
   rw [if_pos e2, if_pos (show zb k = i by rw [e2]; exact e), if_pos e2]
  rw [if_neg e2, if_neg e2]
 rw [if_neg e, uP]
 by_cases e2 : k = key
 ·
  rw [if_neg (by rw [e2]; exact e), if_neg (by rw [e2]; exact e)]
 rw [if_neg e2]
/-! ### Bytes -/
def szO : Option It → Nat
 | some y => szN y.size.toNat
 | none => 0
theorem zAq (x : It) : ∀ s : List It, Asc s → zq (ins s x) + szO (fnd s x.key) = zq s + szN x.size.toNat := fun s h => by
 have hp := tw h;clear h
 induction s with
 | nil => simp [ins, zq, szO, fnd]
 | cons y s ih =>
  rw [List.pairwise_cons] at hp;have ih := ih hp.2;rw [zk];simp only [ins]
  split
  ·
   rename_i hlt;rw [if_neg (by omega)]
   show szN y.size.toNat + zq (ins s x) + _ = szN y.size.toNat + zq s + _
   omega
  split
  ·
   rename_i hle he
   show szN x.size.toNat + zq s + szN y.size.toNat = szN y.size.toNat + zq s + _
   omega
  rename_i hle he;have : fnd s x.key = none := wh fun z hz e => by have := hp.1 z hz; omega
  rw [this]
  show szN x.size.toNat + (szN y.size.toNat + zq s) + 0 = szN y.size.toNat + zq s + _
  omega
theorem zDS (key : Int) : ∀ s : List It, Asc s → zq (drp s key) + szO (fnd s key) = zq s := fun s h => by
 have hp := tw h;clear h
 induction s with
 | nil => rfl
 | cons y s ih =>
  rw [List.pairwise_cons] at hp;have ih := ih hp.2;rw [zk]
  by_cases e : y.key = key
  ·
   have hn : drp s key = s := by
    unfold drp;rw [List.filter_eq_self];intro z hz;have := hp.1 z hz;have : z.key ≠ key := by omega
    simpa using this
   have : drp (y :: s) key = s := by rw [← hn]; unfold drp; rw [List.filter_cons, if_neg (by simpa using e), List.filter_filter]; simp
   rw [if_pos e, this]
   show zq s + szN y.size.toNat = szN y.size.toNat + zq s
   omega
  have : drp (y :: s) key = y :: drp s key := by unfold drp; rw [List.filter_cons, if_pos (by simpa using e)]
  rw [if_neg e, this]
  show szN y.size.toNat + zq (drp s key) + _ = szN y.size.toNat + zq s
  omega
theorem zEF : ∀ (v s : List It), Asc s → (v.Pairwise fun a b => a.key < b.key) → (∀ x ∈ v, fnd s x.key = none) → zq (v.foldl ins s) = zq s + zq v
 | [], s, _, _, _ => by simp [zq]
 | x :: v, s, hs, hv, hn => by
  rw [List.pairwise_cons] at hv;have h1 := zAq x s hs;rw [hn x (by simp)] at h1
  show zq (v.foldl ins (ins s x)) = _
  rw [zEF v (ins s x) ((xK _).1 (tl _ _ ((xK _).2 hs))) hv.2 (fun y hy => by
   rw [uu, if_neg (by have := hv.1 y hy; omega)]; exact hn y (by simp [hy]))]
  show _ = zq s + (szN x.size.toNat + zq v)
  simp only [szO] at h1;omega
theorem zDp (f : Nat → List It) : ∀ n, (∀ i, i < n → Asc (f i) ∧ ∀ x ∈ f i, zb x.key = i) → zq (srt (cat f n)) = zq (cat f n)
 | 0, _ => rfl
 | n + 1, h => by
  have ih := zDp f n (fun i hi => h i (by omega));obtain ⟨ha, hs⟩ := h n (by omega)
  show zq (srt (cat f n ++ f n)) = zq (cat f n ++ f n)
  rw [qH, zEF _ _ (wU _) (tw ha) (fun x hx => by
   rw [zCl f x.key n (fun i hi => h i (by omega)), if_neg (by rw [hs x hx]; omega)]), yp, ih]
theorem VldM.sum {M : Mp} (h : VldM M) : zq (srt (ws M)) = zq (ws M) := zDp M.st 8 fun i hi => ⟨vV (h.ok i hi), h.sp i hi⟩
end Go.Proofs.YtcgfilmmokmdjaaGreat
namespace Go.Proofs.YtcgfilmmokmdjaaGreat
open Go.RowKit
structure BoxT (w : World) (b : Nat) (x : It) : Prop where
 c0 : w.cell? ⟨b, 0, none⟩ = some (.int .u64 x.key)
 c1 : w.cell? ⟨b, 1, none⟩ = some (.int .u32 x.ck)
 c2 : w.cell? ⟨b, 2, none⟩ = some (.int .i64 x.off)
 c3 : w.cell? ⟨b, 3, none⟩ = some (.int .i64 x.size)
theorem BoxT.q {w : World} {b : Nat} {x : It} (h : BoxT w b x) : w.cell? ⟨b, 0, none⟩ = some (.int .u64 x.key) ∧ w.cell? ⟨b, 1, none⟩ = some (.int .u32 x.ck) ∧ w.cell? ⟨b, 2, none⟩ = some (.int .i64 x.off) ∧ w.cell? ⟨b, 3, none⟩ = some (.int .i64 x.size) := ⟨h.c0, h.c1, h.c2, h.c3⟩
theorem BoxT.below {w w' : World} {b : Nat} {x : It} (h : BoxT w b x) (hb : Below w.heap.size w w') : BoxT w' b x :=
 ⟨Below.keeps hb _ _ h.c0, Below.keeps hb _ _ h.c1, Below.keeps hb _ _ h.c2, Below.keeps hb _ _ h.c3⟩
abbrev yq (x : It) : Obj := .cells #[.int .u64 x.key, .int .u32 x.ck, .int .i64 x.off, .int .i64 x.size] 49
theorem BoxT.new (w : World) (x : It) : BoxT (w.alloc (yq x)) w.heap.size x := ⟨by simp, by simp, by simp, by simp⟩
theorem zu (w : World) (x : It) : Below w.heap.size w (w.alloc (yq x)) := (Below.refl _ _).alloc (Nat.le_refl _) _
theorem BoxT.set {w : World} {b : Nat} {x : It} (h : BoxT w b x) (y : It) : BoxT ((((w.setCell ⟨b, 0, none⟩ (.int .u64 y.key)).setCell ⟨b, 1, none⟩ (.int .u32 y.ck)).setCell ⟨b, 2, none⟩ (.int .i64 y.off)).setCell ⟨b, 3, none⟩ (.int .i64 y.size)) b y := by
 obtain ⟨h0, h1, h2, h3⟩ := h;exact ⟨by simp [go_sem, h0], by simp [go_sem, h1], by simp [go_sem, h2], by simp [go_sem, h3]⟩
end Go.Proofs.YtcgfilmmokmdjaaGreat
