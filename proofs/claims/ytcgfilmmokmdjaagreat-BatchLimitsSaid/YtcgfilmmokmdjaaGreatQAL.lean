/- A part of the walk. -/
import Derived.Test.YtcgfilmmokmdjaaGreatQAH
import Derived.Test.YtcgfilmmokmdjaaGreatQAK
import Derived.Test.YtcgfilmmokmdjaaGreatQAJ
import Derived.Test.YtcgfilmmokmdjaaGreatQAA
import Derived.Test.YtcgfilmmokmdjaaGreatGv
import Derived.StillTailTactics
import Derived.Deep.Quiet
import Derived.BigQuiet
import Derived.Test.YtcgfilmmokmdjaaGreatBase
set_option linter.all false
set_option maxRecDepth 100000
set_option maxHeartbeats 32000000
namespace Go.Proofs.YtcgfilmmokmdjaaGreat
open Go.RowKit
theorem BoxM.setG {W : World} {b : Nat} {s : Sl} {l g : Int} (h : BoxM W b s l g) (g' : Int) : BoxM (W.setCell ⟨b, 9, none⟩ (.int .i64 g')) b s l g' := by
 have hg := h.cg;refine ⟨fun j hj => ?_, ?_, by simp [go_sem, hg], fun i => by simp [h.f]⟩
 ·
  have := h.c j hj;exact (World.cell?_setCell_other (h := fun e => by injection e with _ e _; omega) ..).trans this
 exact (World.cell?_setCell_other (h := fun e => by injection e with _ e _; omega) ..).trans h.cl
theorem zDO (s : Sl) (M : Mp) (n : Int) (w : World) (h : RdM w s M.st) (hs : ∀ i, i < 8 → (M.st i).length ≤ 10000) :
  Calls Tryz.prog 81 #[yC s M.live M.garb, .int .i64 n] w fun e w' => e = .returned (yC s (yh M n).live (yh M n).garb) ∧ Below w.heap.size w w' := by
 have HV := zh (fun W h => vT s M W h (fun i hi => Nat.le_trans (hs i hi) (by decide)));obtain ⟨W0, hW0⟩ : ∃ W0, (w.alloc (.cells (yQ s M.live M.garb) 111)).alloc (.cells (yQ Sl.nil 0 0) 111) = W0 := ⟨_, rfl⟩
 have HBx := zh (show BoxM W0 w.heap.size s M.live M.garb from hW0 ▸ ((BoxM.new w s M.live M.garb 111).below (zR _ Sl.nil 0 0 111)));have HBy := zh (show BoxM W0 (w.heap.size + 1) Sl.nil 0 0 from hW0 ▸ (by have := BoxM.new (w.alloc (.cells (yQ s M.live M.garb) 111)) Sl.nil 0 0 111; simpa using this));have HB0 := zh (show Below w.heap.size w W0 from hW0 ▸ zA (zR w s M.live M.garb 111) (zR _ Sl.nil 0 0 111));have HW00 := zh hW0;clear hW0;have Hr := zh h;have HVl := zh (fun hv : yX M = true => (⟨((zM M).1 hv).g0, ((zM M).1 hv).g1⟩ : _ ∧ _));have HW := zh (show yh M n = if yX M = true ∧ 0 ≤ n ∧ n ≤ 1099511627776 - M.garb then ⟨M.st, M.live, M.garb + n⟩ else M from rfl);clear h hs;generalize yX M = vb at *;generalize yh M n = WM at *;obtain ⟨f, L, G⟩ := M;dsimp only at *
 go_enter Tryz.func81, Tryz.ntmps81
 go_upto_region 1 with fail;have hW0 := HW00.out;rw [show (w.alloc (.cells (yQ s L G) 111)).alloc (.cells #[.slice none 0 0, .slice none 0 0, .slice none 0 0, .slice none 0 0, .slice none 0 0, .slice none 0 0, .slice none 0 0, .slice none 0 0, .int .i64 0, .int .i64 0] 111) = W0 from hW0];clear hW0 HW00;obtain ⟨c0, c1, c2, c3, c4, c5, c6, c7, c8, c9⟩ := HBx.out.q;have cF := HBx.out.f;have HVi := zh (HV.out W0 (Hr.out.below HB0.out));clear HV
 by_cases hok : vb = true ∧ 0 ≤ n ∧ n ≤ 1099511627776 - G
 ·
  rw [if_pos hok] at HW;obtain ⟨rfl, h1, h2⟩ := hok;obtain ⟨hG0, hG1⟩ := HVl.out rfl;have g1 : decide (0 ≤ n) = true := by simpa using h1
  have j1 : IntKind.i64.wrap (1099511627776 - G) = 1099511627776 - G := IntWalk.i64_in _ (by omega);have j2 : IntKind.i64.wrap (G + n) = G + n := IntWalk.i64_in _ (by omega);have g2 : decide (n ≤ 1099511627776 - G) = true := by simpa using h2
  go_wp2_with fail;refine HVi.out.mono ?_; rintro e w1 ⟨rfl, hb1⟩;have HX1 := zh (HBx.out.below hb1);have HY1 := zh (HBy.out.below hb1);have HB1 := zh (zA HB0.out hb1);clear c0 c1 c2 c3 c4 c5 c6 c7 c8 c9 cF hb1;obtain ⟨c0, c1, c2, c3, c4, c5, c6, c7, c8, c9⟩ := HX1.out.q;have cF := HX1.out.f;go_upto_region 3 with fail;obtain ⟨V5, hV5⟩ : ∃ V5, w1.setCell ⟨w.heap.size, 9, none⟩ (.int .i64 (G + n)) = V5 := ⟨_, rfl⟩
  have HX5 := zh (show BoxM V5 w.heap.size s L (G + n) from hV5 ▸ HX1.out.setG (G + n));have HY5 := zh (show BoxM V5 (w.heap.size + 1) Sl.nil 0 0 from hV5 ▸ HY1.out.set_ne (p := ⟨w.heap.size, 9, none⟩) (show w.heap.size ≠ w.heap.size + 1 by omega) _);have HB5 := zh (show Below w.heap.size w V5 from hV5 ▸ HB1.out.setCell (p := ⟨w.heap.size, 9, none⟩) (Nat.le_refl _) _);rw [hV5];clear c0 c1 c2 c3 c4 c5 c6 c7 c8 c9 cF hV5 HX1 HY1 HB1;obtain ⟨c0, c1, c2, c3, c4, c5, c6, c7, c8, c9⟩ := HX5.out.q;have cF := HX5.out.f;obtain ⟨d0, d1, d2, d3, d4, d5, d6, d7, d8, d9⟩ := HY5.out.q;have dF := HY5.out.f;go_wp2_with fail;change bodyPost _ _ _ _ _ (z8 V5 (w.heap.size + 1) s L (G + n));have hby := HY5.out.all s L (G + n);have HBz := zh (zQ HB5.out (show w.heap.size ≤ w.heap.size + 1 by omega) s L (G + n));generalize z8 V5 (w.heap.size + 1) s L (G + n) = V9 at *
  exact bodyPost_ret (v := yC s L (G + n)) (by simp [results, Tryz.results81, go_sem, hby.c0, hby.c1, hby.c2, hby.c3, hby.c4, hby.c5, hby.c6, hby.c7, hby.cl, hby.cg]) rfl ⟨by rw [HW.out], HBz.out⟩
 rw [if_neg hok] at HW;have HFin := zh (fun (V : World) (hb : Below W0.heap.size W0 V) => show _ ∧ _ ∧ _ from ⟨HBx.out.below hb, HBy.out.below hb, zA HB0.out hb⟩);have hcs : (vb = false) ∨ (vb = true ∧ n < 0) ∨ (vb = true ∧ 0 ≤ n ∧ 1099511627776 - G < n) := by
  cases vb
  ·
   exact .inl rfl
  by_cases h1 : 0 ≤ n
  ·
   exact .inr (.inr ⟨rfl, h1, by have : ¬ n ≤ 1099511627776 - G := fun e => hok ⟨rfl, h1, e⟩; omega⟩)
  exact .inr (.inl ⟨rfl, by omega⟩)
 clear hok;rcases hcs with rfl | ⟨rfl, h1⟩ | ⟨rfl, h1, h2⟩
 ·
  go_wp2_with fail;refine HVi.out.mono ?_; rintro e w1 ⟨rfl, hb1⟩;obtain ⟨hx, hy, hb⟩ := HFin.out _ hb1;have HX5 := zh hx;have HY5 := zh hy;have HB5 := zh hb;clear c0 c1 c2 c3 c4 c5 c6 c7 c8 c9 cF hb1 hx hy hb;obtain ⟨c0, c1, c2, c3, c4, c5, c6, c7, c8, c9⟩ := HX5.out.q;have cF := HX5.out.f;obtain ⟨d0, d1, d2, d3, d4, d5, d6, d7, d8, d9⟩ := HY5.out.q;have dF := HY5.out.f;go_wp2_with fail;change bodyPost _ _ _ _ _ (z8 w1 (w.heap.size + 1) s L G);have hby := HY5.out.all s L G;have HBz := zh (zQ HB5.out (show w.heap.size ≤ w.heap.size + 1 by omega) s L G);generalize z8 w1 (w.heap.size + 1) s L G = V9 at *;exact bodyPost_ret (v := yC s L G) (by simp [results, Tryz.results81, go_sem, hby.c0, hby.c1, hby.c2, hby.c3, hby.c4, hby.c5, hby.c6, hby.c7, hby.cl, hby.cg]) rfl ⟨by rw [HW.out], HBz.out⟩
 ·
  have g1 : decide (0 ≤ n) = false := by simp; omega
  go_wp2_with fail;refine HVi.out.mono ?_; rintro e w1 ⟨rfl, hb1⟩;obtain ⟨hx, hy, hb⟩ := HFin.out _ hb1;have HX5 := zh hx;have HY5 := zh hy;have HB5 := zh hb;clear c0 c1 c2 c3 c4 c5 c6 c7 c8 c9 cF hb1 hx hy hb;obtain ⟨c0, c1, c2, c3, c4, c5, c6, c7, c8, c9⟩ := HX5.out.q;have cF := HX5.out.f;obtain ⟨d0, d1, d2, d3, d4, d5, d6, d7, d8, d9⟩ := HY5.out.q;have dF := HY5.out.f;go_wp2_with fail;change bodyPost _ _ _ _ _ (z8 w1 (w.heap.size + 1) s L G);have hby := HY5.out.all s L G;have HBz := zh (zQ HB5.out (show w.heap.size ≤ w.heap.size + 1 by omega) s L G);generalize z8 w1 (w.heap.size + 1) s L G = V9 at *;exact bodyPost_ret (v := yC s L G) (by simp [results, Tryz.results81, go_sem, hby.c0, hby.c1, hby.c2, hby.c3, hby.c4, hby.c5, hby.c6, hby.c7, hby.cl, hby.cg]) rfl ⟨by rw [HW.out], HBz.out⟩
 obtain ⟨hG0, hG1⟩ := HVl.out rfl;have g1 : decide (0 ≤ n) = true := by simpa using h1
 have j1 : IntKind.i64.wrap (1099511627776 - G) = 1099511627776 - G := IntWalk.i64_in _ (by omega);have g2 : decide (n ≤ 1099511627776 - G) = false := by simp; omega
 go_wp2_with fail;refine HVi.out.mono ?_; rintro e w1 ⟨rfl, hb1⟩;obtain ⟨hx, hy, hb⟩ := HFin.out _ hb1;have HX5 := zh hx;have HY5 := zh hy;have HB5 := zh hb;clear c0 c1 c2 c3 c4 c5 c6 c7 c8 c9 cF hb1 hx hy hb;obtain ⟨c0, c1, c2, c3, c4, c5, c6, c7, c8, c9⟩ := HX5.out.q;have cF := HX5.out.f;obtain ⟨d0, d1, d2, d3, d4, d5, d6, d7, d8, d9⟩ := HY5.out.q;have dF := HY5.out.f;go_wp2_with fail;change bodyPost _ _ _ _ _ (z8 w1 (w.heap.size + 1) s L G);have hby := HY5.out.all s L G;have HBz := zh (zQ HB5.out (show w.heap.size ≤ w.heap.size + 1 by omega) s L G);generalize z8 w1 (w.heap.size + 1) s L G = V9 at *;exact bodyPost_ret (v := yC s L G) (by simp [results, Tryz.results81, go_sem, hby.c0, hby.c1, hby.c2, hby.c3, hby.c4, hby.c5, hby.c6, hby.c7, hby.cl, hby.cg]) rfl ⟨by rw [HW.out], HBz.out⟩
theorem OwnM.eqM {w : World} {B : Nat} {s : Sl} {f g : Nat → List It} (h : OwnM w B s f) (e : ∀ i, i < 8 → g i = f i) : OwnM w B s g := fun i hi => by rw [e i hi]; exact h i hi
theorem OldOwn.eqM {w' : World} {B : Nat} {s s' : Sl} {f0 f g : Nat → List It} (h : OldOwn w' B s f0 s' f) (e : ∀ i, i < 8 → g i = f i) : OldOwn w' B s f0 s' g := by
 rcases h with ⟨h1, h2⟩ | h
 ·
  exact .inl ⟨h1, fun i hi => (e i hi).trans (h2 i hi)⟩
 exact .inr (h.eqM e)
theorem OldOwn.pts {w : World} {B b : Nat} {s s' : Sl} {f f' : Nat → List It} (h : OldOwn w B s f s' f') (hb : b < B) (vs : List (Nat × Value)) : OldOwn (Go.Proofs.YtcgfilmmokmdjaaGreat.pts w b vs) B s f s' f' := h.imp id fun h => h.pts hb vs
theorem zIp (s : Sl) (M : Mp) (x : It) (w : World) (h : RdM w s M.st) (hs : ∀ i, i < 8 → (M.st i).length ≤ 9000) :
  Calls Tryz.prog 83 #[yC s M.live M.garb, itV x] w fun e w' => (∃ s', e = .returned (yC s' (wB M x).live (wB M x).garb) ∧ OldOwn w' w.heap.size s M.st s' (wB M x).st) ∧ Below w.heap.size w w' := by
 have e := zH5 M x;refine (zGn s M x w h hs).mono ?_;rintro e' w' ⟨⟨s', rfl, ho⟩, hb⟩;exact ⟨⟨s', by rw [e.l, e.g], ho.eqM e.st⟩, hb⟩
theorem zDQ (s : Sl) (M : Mp) (key : Int) (w : World) (h : RdM w s M.st) (hs : ∀ i, i < 8 → (M.st i).length ≤ 9000) :
  Calls Tryz.prog 82 #[yC s M.live M.garb, .int .u64 key] w fun e w' => (∃ s', e = .returned (yC s' (yF M key).live (yF M key).garb) ∧ OldOwn w' w.heap.size s M.st s' (yF M key).st) ∧ Below w.heap.size w w' := by
 have e := zHe M key;refine (zGT s M key w h hs).mono ?_;rintro e' w' ⟨⟨s', rfl, ho⟩, hb⟩;exact ⟨⟨s', by rw [e.l, e.g], ho.eqM e.st⟩, hb⟩
def GOO (w0 : World) (s : Sl) (f : Nat → List It) (p : Int × Gn) (e : Ending) (w' : World) : Prop := (∃ s', e = .returned (.tuple #[ze p.2.num p.2.rev p.2.mode p.2.size s' p.2.m.live p.2.m.garb, .int .i64 p.1]) ∧ OldOwn w' w0.heap.size s f s' p.2.m.st) ∧ Below w0.heap.size w0 w'
/-! ### The reference's ends, plain -/
def zBk (l : List It) (size : Int) : Bool := (List.range l.length).all fun i => decide (vP (iat l i) ≤ size) && (List.range l.length).all fun k => decide (k = i) || !(decide ((iat l i).off ≤ (iat l k).off) && decide ((iat l k).off < vP (iat l i)))
theorem zB4 (l : List It) (size : Int) : zBk l size = true ↔ ∀ i, i < l.length → vP (iat l i) ≤ size ∧ ∀ k, k < l.length → k ≠ i → ¬ ((iat l i).off ≤ (iat l k).off ∧ (iat l k).off < vP (iat l i)) := by
 unfold zBk;rw [List.all_eq_true];refine ⟨fun h i hi => ?_, fun h i hi => ?_⟩
 ·
  have h1 := h i (List.mem_range.2 hi);rw [Bool.and_eq_true, decide_eq_true_eq, List.all_eq_true] at h1;refine ⟨h1.1, fun k hk hne hc => ?_⟩;have h2 := h1.2 k (List.mem_range.2 hk);rw [decide_eq_false hne, decide_eq_true hc.1, decide_eq_true hc.2] at h2
  cases h2
 obtain ⟨h1, h2⟩ := h i (List.mem_range.1 hi);rw [Bool.and_eq_true, decide_eq_true_eq, List.all_eq_true];refine ⟨h1, fun k hk => ?_⟩
 by_cases e : k = i
 ·
  rw [decide_eq_true e]; rfl
 rw [decide_eq_false e, Bool.false_or, Bool.not_eq_true', Bool.and_eq_false_iff, decide_eq_false_iff_not, decide_eq_false_iff_not];have := h2 k (List.mem_range.1 hk) e;omega
theorem zI7 {l : List It} (hok : ∀ x ∈ l, okP x) (size : Int) : zBk l size = vM l size := by
 refine Bool.eq_iff_iff.2 ((zB4 l size).trans (Iff.trans ?_ (decide_eq_true_iff (p := qd l size)).symm));have hm : ∀ i, (h : i < l.length) → iat l i = l[i] := fun i h => by unfold iat; rw [List.getD_eq_getElem?_getD, List.getElem?_eq_getElem h]; rfl
 constructor
 ·
  intro h;refine ⟨List.pairwise_iff_getElem.2 fun i j hi hj hij => ?_, fun x hx => ?_⟩
  ·
   have h1 := (h i hi).2 j hj (by omega);have h2 := (h j hj).2 i hi (by omega);rw [hm i hi, hm j hj] at h1 h2;unfold zBY;omega
  obtain ⟨i, hi, rfl⟩ := List.getElem_of_mem hx;have := (h i hi).1
  rwa [hm i hi] at this
 rintro ⟨hp, hs⟩ i hi;rw [hm i hi];refine ⟨hs _ (List.getElem_mem hi), fun k hk e => ?_⟩;rw [hm k hk];have gi := tO (hok _ (List.getElem_mem hi));have gk := tO (hok _ (List.getElem_mem hk));rcases Nat.lt_or_gt_of_ne e with hlt | hlt
 ·
  have := List.pairwise_iff_getElem.1 hp k i hk hi hlt;unfold zBY at this;omega
 have := List.pairwise_iff_getElem.1 hp i k hi hk hlt;unfold zBY at this;omega
theorem RdT.at2' {w : World} {b off n cap : Nat} {l : List It} (h : RdT w (.slice (some ⟨b, off, none⟩) n cap) l) {j : Nat} (hj : j < n) : w.cell? ⟨b, off + j * 4 + 2, none⟩ = some (.int .i64 (iat l j).off) := by
 obtain ⟨b', o', e, c0, c1, c2, c3⟩ := h.at hj;injection e with e;injection e with e1 e2;subst e1 e2;exact c2
theorem zGM (v : Value) (l : List It) (size : Int) (w : World) (h : RdT w v l) (hok : ∀ x ∈ l, okP x) (hsm : l.length ≤ 1000000) :
  Calls Tryz.prog 122 #[v, .int .i64 size] w fun e w' => e = .returned (.bool (zBk l size)) ∧ Below w.heap.size w w' := by
 have HE := zh (zB4 l size);have HOk := zh (fun i (hi : i < l.length) => hok (iat l i) (tQ hi));generalize zBk l size = res at *;clear hok;obtain ⟨a, cap, rfl, h1, h2⟩ := h.shape;have hm := kC h1 h2;have Hr := zh h;clear h;generalize hn : l.length = n at *;clear hn h1 h2
 go_enter Tryz.func122, Tryz.ntmps122
 go_wp2_with fail
 go_loopw [5] (fun iv W => ∃ i : Nat, iv = .int .i64 (i : Int) ∧ i ≤ n ∧ Hid (∀ j, j < i → vP (iat l j) ≤ size ∧ ∀ k, k < n → k ≠ j → ¬ ((iat l j).off ≤ (iat l k).off ∧ (iat l k).off < vP (iat l j))) ∧ Hid (Below w.heap.size w W)) (fun iv _ => n - (intOf iv).toNat)
 case atStart => exact ⟨0, rfl, Nat.zero_le _, zh (fun j hj => by omega), zh (Below.refl _ _)⟩
 obtain ⟨i, rfl, hi, HI, HB⟩ := hrel
 by_cases hlt : i < n
 ·
  obtain ⟨b, off, rfl, c0, c1, c2, c3⟩ := (Hr.out.below HB.out).at hlt;have hx := HOk.out i hlt;have hsl : szN (iat l i).size.toNat ≤ 4127 := xg _;have hx1 := hx.2.2.1;have hz0 : ((iat l i).size.toNat : Int) = (iat l i).size := Int.toNat_of_nonneg hx.2.2.2.1;have HZ := zh (fun W => zCX (iat l i).size.toNat W);rw [hz0] at HZ;have hEnd := zh (show vP (iat l i) = (iat l i).off + (szN (iat l i).size.toNat : Int) from rfl);have i1 : (i : Int) < (n : Int) := by omega
  have hxo : 16 ≤ (iat l i).off ∧ (iat l i).off ≤ 1048576 := ⟨hx.1, hx.2.1⟩
  have HZ2 := zh (fun W => show Calls Tryz.prog 28 #[.int .i64 (iat l i).size] W fun e w' => e = .returned (.int .i64 (szN (iat l i).size.toNat : Int)) ∧ Below W.heap.size W w' from (HZ.out W).mono fun e w' hh => ⟨hh.1, hh.2 ▸ Below.refl _ _⟩);have y2 := zC c2;have y3 := zC c3;clear HZ hx;generalize szN (iat l i).size.toNat = z at *;go_wp2_with fail;refine zB (by kernel_rfl) (by kernel_rfl) ?_
  repeat (go_big_quiet_step (exact zI (HZ2.out _)))
  refine wpQuiet_nil ?_;intro w2 hw2;obtain ⟨q, hw2⟩ := hw2;subst hw2;have HB2 := zh (zA HB.out q.h);generalize q.w' = w2 at *;clear q y2 y3 HZ2 c0 c1 c2 c3;obtain ⟨en, hen⟩ : ∃ en : Int, (iat l i).off + (z : Int) = en := ⟨_, rfl⟩
  have hen0 : 16 ≤ en ∧ en ≤ 2097152 := by omega
  have HEn := zh (hEnd.out.trans hen)
  by_cases hsz : size < en
  ·
   have e0 : decide (size < (iat l i).off + (z : Int)) = true := by rw [hen]; exact decide_eq_true hsz
   go_wp2_with fail;go_ret;refine ⟨zE ?_, HB2.out⟩
   symm
   rw [← Bool.not_eq_true, HE.out];intro hh;have := (hh i hlt).1;rw [HEn.out] at this;omega
  have e0 : decide (size < (iat l i).off + (z : Int)) = false := by rw [hen]; exact decide_eq_false hsz
  rw [hen] at e0;go_wp2_with fail;clear e0;have HEi := HEn
  go_loopw [7] (fun kv W => ∃ k : Nat, kv = .int .i64 (k : Int) ∧ k ≤ n ∧ Hid (∀ j, j < k → j ≠ i → ¬ ((iat l i).off ≤ (iat l j).off ∧ (iat l j).off < vP (iat l i))) ∧ Hid (Below w.heap.size w W)) (fun kv _ => n - (intOf kv).toNat)
  case atStart => exact ⟨0, rfl, Nat.zero_le _, zh (fun j hj => by omega), HB2⟩
  obtain ⟨k, rfl, hk, HK, HB3⟩ := hrel;clear HB2
  by_cases hkn : k < n
  ·
   have ci := (Hr.out.below HB3.out).at2' hlt;have ck := (Hr.out.below HB3.out).at2' hkn;have yi := zC ci;have yk := zC ck;have i2 : (k : Int) < (n : Int) := by omega
   clear ci ck
   by_cases hki : k = i
   ·
    have e1 : ((k : Int) != (i : Int)) = false := by rw [hki]; simp
    have hki2 : ¬ k ≠ i := by omega
    have hle : k = i := hki;clear hki;go_wp2_with fail;refine zB (by kernel_rfl) (by kernel_rfl) ?_
    repeat (go_big_quiet_step (fail))
    refine wpQuiet_nil ?_;intro w4 hw4;obtain ⟨q, hw4⟩ := hw4;subst hw4;have HB4 := zh (zA HB3.out q.h);generalize q.w' = w4 at *;clear q yi yk;go_wp2_with fail
    go_roundw
    case rel => exact ⟨k + 1, by go_num, by omega, zh (fun j hj hne hc => by
     by_cases e : j = k
     ·
      subst e
      have h1 := hc.1
      have h2 := hc.2
      rw [HEn.out] at h2
      omega
     exact HK.out j (by omega) hne hc), HB4⟩
    case measure => simp [intOf]; omega
   have e1 : ((k : Int) != (i : Int)) = true := bne_iff_ne.2 (by omega)
   by_cases hge : (iat l i).off ≤ (iat l k).off
   ·
    have e2 : decide ((iat l i).off ≤ (iat l k).off) = true := decide_eq_true hge
    by_cases hlk : (iat l k).off < en
    ·
     have e3 : decide ((iat l k).off < en) = true := decide_eq_true hlk;go_wp2_with fail;refine zB (by kernel_rfl) (by kernel_rfl) ?_
     repeat (go_big_quiet_step (fail))
     refine wpQuiet_nil ?_;intro w4 hw4;obtain ⟨q, hw4⟩ := hw4;subst hw4;have HB4 := zh (zA HB3.out q.h);generalize q.w' = w4 at *;clear q yi yk;go_wp2_with fail;go_ret;refine ⟨zE ?_, HB4.out⟩
     symm
     rw [← Bool.not_eq_true, HE.out];intro hh;exact (hh i hlt).2 k hkn hki ⟨hge, by rw [HEn.out]; exact hlk⟩
    have e3 : decide ((iat l k).off < en) = false := decide_eq_false hlk;go_wp2_with fail;refine zB (by kernel_rfl) (by kernel_rfl) ?_
    repeat (go_big_quiet_step (fail))
    refine wpQuiet_nil ?_;intro w4 hw4;obtain ⟨q, hw4⟩ := hw4;subst hw4;have HB4 := zh (zA HB3.out q.h);generalize q.w' = w4 at *;clear q yi yk;go_wp2_with fail
    go_roundw
    case rel => exact ⟨k + 1, by go_num, by omega, zh (fun j hj hne hc => by
     by_cases e : j = k
     ·
      subst e
      have h1 := hc.1
      have h2 := hc.2
      rw [HEn.out] at h2
      omega
     exact HK.out j (by omega) hne hc), HB4⟩
    case measure => simp [intOf]; omega
   have e2 : decide ((iat l i).off ≤ (iat l k).off) = false := decide_eq_false hge;go_wp2_with fail;refine zB (by kernel_rfl) (by kernel_rfl) ?_
   repeat (go_big_quiet_step (fail))
   refine wpQuiet_nil ?_;intro w4 hw4;obtain ⟨q, hw4⟩ := hw4;subst hw4;have HB4 := zh (zA HB3.out q.h);generalize q.w' = w4 at *;clear q yi yk;go_wp2_with fail
   go_roundw
   case rel => exact ⟨k + 1, by go_num, by omega, zh (fun j hj hne hc => by
    by_cases e : j = k
    ·
     subst e
     have h1 := hc.1
     have h2 := hc.2
     rw [HEn.out] at h2
     omega
    exact HK.out j (by omega) hne hc), HB4⟩
   case measure => simp [intOf]; omega
  obtain rfl : k = n := by omega
  go_wp2_with fail
  go_roundw
  case rel => exact ⟨i + 1, by go_num, by omega, zh (fun j hj => by
   by_cases e : j = i
   ·
    subst e
    exact ⟨by rw [HEn.out]; omega, fun k hk hne => HK.out k hk hne⟩
   exact HI.out j (by omega)), HB3⟩
  case measure => simp [intOf]; omega
 obtain rfl : i = n := by omega
 go_wp2_with fail;go_ret;refine ⟨zE ?_, HB.out⟩
 symm
 rw [HE.out];exact HI.out
end Go.Proofs.YtcgfilmmokmdjaaGreat
namespace Go.Proofs.YtcgfilmmokmdjaaGreat
open Go Go.RowKit
section
variable {P : Program} {ops : Array Oper} {md : Region.Mode}
def zN (ops : Array Oper) (j : Nat) : Option Tmp := (ops[j]?).bind (·.dst)
def frm (ops : Array Oper) (a0 : Act) (f : Nat → Value) : Nat → Act
 | 0 => a0
 | n + 1 => (frm ops a0 f n).put (zN ops n) (f n)
def yv (f : Nat → Value) (i : Nat) (v : Value) : Nat → Value := fun j => if j = i then v else f j
theorem zJr (a : Act) (d : Option Tmp) (u v : Value) : (a.put d u).put d v = a.put d v := by
 cases d with
 | none => rfl
 | some d => simp [Act.put]
theorem put_comm (a : Act) (d e : Option Tmp) (u v : Value) (h : d = none ∨ d ≠ e) : (a.put d u).put e v = (a.put e v).put d u := by
 cases d with
 | none => rfl
 | some d =>
  cases e with
  | none => rfl
  | some e =>
   have hne : d ≠ e := by
    rcases h with h | h
    ·
     cases h
    exact fun e1 => h (by rw [e1])
   simp only [Act.put];rw [Array.setIfInBounds_comm _ _ hne]
theorem zD9 (ops : Array Oper) (a0 : Act) (f : Nat → Value) (i : Nat) (v : Value) : ∀ n, n ≤ i → frm ops a0 (yv f i v) n = frm ops a0 f n
 | 0, _ => rfl
 | n + 1, h => by
  show (frm ops a0 (yv f i v) n).put _ (yv f i v n) = _
  rw [zD9 ops a0 f i v n (by omega)];have : yv f i v n = f n := if_neg (by omega);rw [this]; rfl
theorem tK (ops : Array Oper) (a0 : Act) (f : Nat → Value) (i : Nat) (v : Value) : ∀ n, i < n → (∀ j, j < n → j ≠ i → zN ops i = none ∨ zN ops i ≠ zN ops j) → (frm ops a0 f n).put (zN ops i) v = frm ops a0 (yv f i v) n
 | 0, h, _ => by omega
 | n + 1, h, hd => by
  show ((frm ops a0 f n).put (zN ops n) (f n)).put (zN ops i) v = (frm ops a0 (yv f i v) n).put (zN ops n) (yv f i v n)
  by_cases e : i = n
  ·
   subst e;rw [zJr, zD9 ops a0 f i v i (Nat.le_refl _)];have : yv f i v i = v := if_pos rfl;rw [this]
  have h1 : zN ops n = none ∨ zN ops n ≠ zN ops i := by
   rcases hd n (by omega) (fun e1 => e e1.symm) with h | h
   ·
    cases hn : zN ops n with
    | none => exact .inl rfl
    | some d => exact .inr (by rw [h]; simp)
   exact .inr (Ne.symm h)
  rw [put_comm _ _ _ _ _ h1, tK ops a0 f i v n (by omega) fun j hj hji => hd j (by omega) hji];have : yv f i v n = f n := if_neg (by omega);rw [this]
theorem kT (ops : Array Oper) (a0 : Act) : ∀ n, frm ops a0 (fun j => match zN ops j with | some d => a0.tmps.getD d undef | none => undef) n = a0
 | 0 => rfl
 | n + 1 => by
  show (frm ops a0 _ n).put (zN ops n) _ = a0
  rw [kT ops a0 n]
  cases hd : zN ops n with
  | none => rfl
  | some d =>
   simp only [hd];obtain ⟨t, ds⟩ := a0;simp only [Act.put]
   congr 1
   apply Array.ext_getElem?;intro i
   by_cases e : d = i
   ·
    subst e;rw [Array.getElem?_setIfInBounds_self]
    split
    ·
     rename_i h; simp [h]
    rename_i h; rw [Array.getElem?_eq_none (by omega)]
   rw [Array.getElem?_setIfInBounds_ne e]
def zJc (md : Region.Mode) (ops : Array Oper) (n : Nat) : Bool :=
 decide (n < ops.size) && Region.sinkB md ops n && Region.chainB md ops n &&
 ((List.range n).all fun i => ((ops[i]?).map fun o => o.dst.isSome && o.after.all fun e => !Region.binds md e || decide (e.on < i)).getD false) &&
 ((List.range n).all fun i => (List.range n).all fun j => decide (i = j) || decide (zN ops i ≠ zN ops j)) &&
 Region.seqB md ops (ops.size - n) n ((List.range ops.size).map fun j => decide (j < n)).toArray
variable {Q : Exit → Act → World → Prop}
def blk : Value → Nat
 | .pointer (some a) => a.block
 | _ => 0
def ue (B0 : Value → World → Prop) (F : Prop) (ds : List Deferred) (d : Option Tmp) (w : World) (a' : Act) (w' : World) : Prop :=
 a'.defers = ds ∧ Below w.heap.size w w' ∧ ∀ t, d = some t → B0 (a'.tmps.getD t undef) w' ∧ (F → w.heap.size ≤ blk (a'.tmps.getD t undef) ∧ blk (a'.tmps.getD t undef) < w'.heap.size)
theorem qk {o : Oper} {a : Act} {w : World} {R : Act → World → Prop} (h : wpList P ops (Exit.then R Q) [o] a w) {K : Act → World → Prop}
  (hK : ∀ v w', R (a.put o.dst v) w' → K (a.put o.dst v) w') (hD : ∀ d v w', R ({ a with defers := d :: a.defers }.put o.dst v) w' → False) :
  if Region.wanted o (yielded ops a.tmps) then o.wp P a w K Q ∨ (o.asks P a w ∧ LetsOut Q) else K (a.put o.dst undef) w := by
 unfold wpList at h
 split at h
 ·
  rename_i hw;rw [if_pos hw];rcases h with h | ⟨h1, h2⟩
  ·
   left
   unfold Oper.wp at h ⊢;generalize (execOp a.eval o).run P w = r at *
   cases r with
   | ok nx w' =>
    cases nx with
    | value v => exact hK _ _ h
    | skip => exact hK _ _ h
    | defer d => exact absurd h (hD _ _ _)
    | enter f args =>
     refine Calls.mono h fun e w'' he => ?_
     cases e with
     | returned v => exact hK _ _ he
     | panicked c => exact he
     | outgrown => exact he
    | row r args => exact Rows.mono h fun v w'' he => hK _ _ he
    | _ => exact h
   | halt x w' => cases x <;> first | exact h | exact False.elim h
  exact .inr ⟨h1, h2⟩
 rename_i hw;rw [if_neg hw];exact hK _ _ h
theorem ux {T : List Nat} (h : T ≠ []) : ∃ m, m ∈ T ∧ ∀ k ∈ T, m ≤ k := by
 induction T with
 | nil => exact absurd rfl h
 | cons x r ih =>
  by_cases hr : r = []
  ·
   subst hr; exact ⟨x, by simp, fun k hk => by simp at hk; omega⟩
  obtain ⟨m, hm, hle⟩ := ih hr
  by_cases hx : x ≤ m
  ·
   exact ⟨x, by simp, fun k hk => by
    rcases List.mem_cons.1 hk with rfl | hk
    ·
     exact Nat.le_refl _
    exact Nat.le_trans hx (hle k hk)⟩
  exact ⟨m, by simp [hm], fun k hk => by
   rcases List.mem_cons.1 hk with rfl | hk
   ·
    omega
   exact hle k hk⟩
theorem uF (ops : Array Oper) (a0 : Act) (f : Nat → Value) : ∀ n, (frm ops a0 f n).tmps.size = a0.tmps.size
 | 0 => rfl
 | n + 1 => by
  show ((frm ops a0 f n).put (zN ops n) (f n)).tmps.size = _
  rw [← uF ops a0 f n]
  cases zN ops n <;> simp [Act.put]
theorem zJ8 {n : Nat} {a0 : Act} {w0 : World} {Φ : Nat → Value → World → Prop} {F : Nat → Prop} {l : List Oper} (hl : ops = l.toArray) (hB : zJc md ops n = true) (hN : ∀ i, i < n → ∀ t, zN ops i = some t → t < a0.tmps.size)
  (mono : ∀ j, j < n → ∀ v w1 w2, Below w1.heap.size w1 w2 → Φ j v w1 → Φ j v w2)
  (head : ∀ i o, i < n → ops[i]? = some o → ∀ f w1, Below w0.heap.size w0 w1 → (∀ e ∈ o.after, Region.binds md e = true → Φ e.on (f e.on) w1) →
   wpList P ops (Exit.then (ue (Φ i) (F i) (frm ops a0 f n).defers o.dst w1) Q) [o] (frm ops a0 f n) w1)
  (tail : ∀ f w1, Below w0.heap.size w0 w1 → (∀ j, j < n → Φ j (f j) w1) → (∀ j k, j < n → k < n → j ≠ k → F j → F k → blk (f j) ≠ blk (f k)) → wpList P ops Q (l.drop n) (frm ops a0 f n) w1) :
  ∀ (fuel : Nat) (T : List Nat) (s : Array Bool) (f : Nat → Value) (w : World), T.Nodup → T.length = fuel → (∀ j, j < n → (s.getD j false = false ↔ j ∈ T)) → (∀ j ∈ T, j < n) → HeadInv md ops n s → Below w0.heap.size w0 w →
   (∀ j, j < n → s.getD j false = true → Φ j (f j) w) → (∀ j, j < n → s.getD j false = true → F j → blk (f j) < w.heap.size) →
   (∀ j k, j < n → k < n → j ≠ k → s.getD j false = true → s.getD k false = true → F j → F k → blk (f j) ≠ blk (f k)) → wpAny P md ops Q (fuel + (ops.size - n)) s (frm ops a0 f n) w := by
 simp only [zJc, Bool.and_eq_true, decide_eq_true_eq] at hB;obtain ⟨⟨⟨⟨⟨hn, hs⟩, hc⟩, hfw⟩, hdd⟩, hsq⟩ := hB;have hfw' : ∀ i o, i < n → ops[i]? = some o → o.dst.isSome = true ∧ ∀ e ∈ o.after, Region.binds md e = true → e.on < i := fun i o hi ho => by
  have := List.all_eq_true.1 hfw i (List.mem_range.2 hi);rw [ho] at this;simp only [Option.map_some, Option.getD_some, Bool.and_eq_true] at this;refine ⟨this.1, fun e he hb => ?_⟩;have h2 := Array.all_eq_true_iff_forall_mem.1 this.2 e he;rw [hb] at h2
  simpa using h2
 have hdd' : ∀ i j, i < n → j < n → i ≠ j → zN ops i ≠ zN ops j := fun i j hi hj hij => by
  have := List.all_eq_true.1 (List.all_eq_true.1 hdd i (List.mem_range.2 hi)) j (List.mem_range.2 hj)
  simpa [hij] using this
 intro fuel
 induction fuel with
 | zero =>
  intro T s f w hT hlen hsT hTn inv hb hΦ hF hFF;have hT0 : T = [] := List.length_eq_zero_iff.1 hlen;subst hT0;have hall : ∀ j, j < n → s.getD j false = true := fun j hj => by
   cases h : s.getD j false with
   | true => rfl
   | false => exact absurd ((hsT j hj).1 h) (by simp)
  have hse : s = ((List.range ops.size).map fun j => decide (j < n)).toArray := by
   apply Array.ext
   ·
    simp [inv.size]
   intro j h1 h2;have hjs : j < ops.size := by rw [← inv.size]; exact h1
   simp only [List.getElem_toArray, List.getElem_map, List.getElem_range]
   by_cases e : j < n
   ·
    have := hall j e;rw [Array.getD_eq_getD_getElem?, Array.getElem?_eq_getElem h1] at this;simp only [Option.getD_some] at this;rw [this]; simp [e]
   have := inv.tail j (by omega) hjs;rw [Array.getD_eq_getD_getElem?, Array.getElem?_eq_getElem h1] at this;simp only [Option.getD_some] at this;rw [this]; simp [e]
  rw [Nat.zero_add];have hdl : (l.drop n).length = ops.size - n := by rw [hl]; simp
  have h3 := wpAny_of_seq (P := P) (md := md) (ops := ops) (Q' := Q) (l.drop n) n s (frm ops a0 f n) w (fun j => by rw [hl]; simp [List.getElem?_drop]) (by rw [hdl, hse]; exact hsq) (tail f w hb (fun j hj => hΦ j hj (hall j hj)) fun j k hj hk hjk => hFF j k hj hk hjk (hall j hj) (hall k hk))
  rwa [hdl] at h3
 | succ fuel ih =>
  intro T s f w hT hlen hsT hTn inv hb hΦ hF hFF;have hTne : T ≠ [] := fun e => by rw [e] at hlen; cases hlen
  obtain ⟨m, hm, hle⟩ := ux hTne;have hmn := hTn m hm;have hun : s.getD m false = false := (hsT m hmn).2 hm;have hms : m < s.size := by rw [inv.size]; omega
  obtain ⟨om, hom⟩ : ∃ o, ops[m]? = some o := ⟨_, Array.getElem?_eq_getElem (by omega)⟩
  have hready : m ∈ Region.ready md ops s := mem_ready.2 ⟨getD_in hms hun, om, hom, fun e he hbnd => by
   have h1 := (hfw' m om hmn hom).2 e he hbnd
   cases h2 : s.getD e.on false with
   | true => rfl
   | false =>
    have := hle _ ((hsT e.on (by omega)).1 h2)
    omega⟩
  rw [show fuel + 1 + (ops.size - n) = (fuel + (ops.size - n)) + 1 by omega];refine ⟨fun e => absurd hready (by rw [e]; simp), fun i hi => ?_⟩;obtain ⟨hiu, oi, hoi, hdeps⟩ := mem_ready.1 hi;have hin : i < n := Nat.lt_of_not_le fun h => tail_waits hs hc hn inv _ m rfl hmn (getD_in hms hun) i h hi
  have hiT : i ∈ T := (hsT i hin).1 (getD_both hiu);have hfi := hfw' i oi hin hoi;have hdo : zN ops i = oi.dst := by unfold zN; rw [hoi]; rfl
  unfold wpOp;rw [hoi];simp only [];have hh := head i oi hin hoi f w hb fun e he hbnd => hΦ e.on (by have := hfi.2 e he hbnd; omega) (hdeps e he hbnd)
  refine qk hh (fun v w' hR => ?_) (fun d v w' hR => ?_)
  ·
   obtain ⟨_, hbw, hv⟩ := hR;have hval : ∀ i, i < n → oi.dst.isSome = true → zN ops i = oi.dst → (∀ t, oi.dst = some t → Φ i (((frm ops a0 f n).put oi.dst v).tmps.getD t undef) w' ∧ (F i → w.heap.size ≤ blk (((frm ops a0 f n).put oi.dst v).tmps.getD t undef) ∧ blk (((frm ops a0 f n).put oi.dst v).tmps.getD t undef) < w'.heap.size)) → Φ i v w' ∧ (F i → w.heap.size ≤ blk v ∧ blk v < w'.heap.size) := fun i hi h1 hdo h => by
    obtain ⟨t, ht⟩ := Option.isSome_iff_exists.1 h1;have h4 := h t ht;have h5 : t < (frm ops a0 f n).tmps.size := by rw [uF]; exact hN i hi t (by rw [hdo, ht])
    rw [ht] at h4
    simpa [Act.put, h5] using h4
   rw [← hdo, tK ops a0 f i v n hin fun j hj hji => .inr (hdd' i j hin hj (Ne.symm hji))];refine ih (T.erase i) _ _ w' (hT.erase i) (by rw [List.length_erase_of_mem hiT]; omega) (fun j hj => ?_) (fun j hj => hTn j (List.mem_of_mem_erase hj)) (inv.set hi hin) (zA hb hbw) (fun j hj hjs => ?_) (fun j hj hjs hFj => ?_) (fun j k hj hk hjk hjs hks hFj hFk => ?_)
   ·
    rw [hT.mem_erase_iff]
    by_cases e : j = i
    ·
     subst e;have hjs : j < s.size := by rw [inv.size]; omega
     simp [Array.getD_eq_getD_getElem?, hjs]
    rw [getD_set_ne false (Ne.symm e), hsT j hj];simp [e]
   ·
    by_cases e : j = i
    ·
     subst e;have : yv f j v j = v := if_pos rfl;rw [this];exact (hval j hj hfi.1 hdo hv).1
    have : yv f i v j = f j := if_neg e;rw [this];rw [getD_set_ne false (Ne.symm e)] at hjs;exact mono j hj _ _ _ hbw (hΦ j hj hjs)
   ·
    by_cases e : j = i
    ·
     subst e;have : yv f j v j = v := if_pos rfl;rw [this];exact ((hval j hj hfi.1 hdo hv).2 hFj).2
    have : yv f i v j = f j := if_neg e;rw [this];rw [getD_set_ne false (Ne.symm e)] at hjs;exact Nat.lt_of_lt_of_le (hF j hj hjs hFj) hbw.size
   by_cases e : j = i
   ·
    subst e;have e1 : yv f j v j = v := if_pos rfl;have e2 : yv f j v k = f k := if_neg (Ne.symm hjk);rw [e1, e2];rw [getD_set_ne false hjk] at hks;have h1 := ((hval j hj hfi.1 hdo hv).2 hFj).1;have h2 := hF k hk hks hFk;omega
   have e1 : yv f i v j = f j := if_neg e;rw [e1];rw [getD_set_ne false (Ne.symm e)] at hjs
   by_cases e3 : k = i
   ·
    subst e3;have e2 : yv f k v k = v := if_pos rfl;rw [e2];have h1 := ((hval k hk hfi.1 hdo hv).2 hFk).1;have h2 := hF j hj hjs hFj;omega
   have e2 : yv f i v k = f k := if_neg e3;rw [e2];rw [getD_set_ne false (Ne.symm e3)] at hks;exact hFF j k hj hk hjk hjs hks hFj hFk
  have h1 := hR.1;have h2 := congrArg List.length h1
  cases hod : oi.dst <;> simp [Act.put, hod] at h2
structure Sta where
 p : Value → World → Prop
 m : ∀ v w w', Below w.heap.size w w' → p v w → p v w'
instance : Inhabited Sta := ⟨⟨fun _ _ => True, fun _ _ _ _ _ => trivial⟩⟩
def eqS (x : Value) : Sta := ⟨fun v _ => v = x, fun _ _ _ _ h => h⟩
def zCm (o : Oper) (j : Nat) : Bool := o.after.any fun e => Region.binds .any e && e.on == j
def stA (L : List Sta) (j : Nat) : Sta := L.getD j default
def zBD (ops : Array Oper) (n N : Nat) : Bool := (List.range n).all fun i => ((zN ops i).map fun t => decide (t < N)).getD true
def zDU (P : Program) (Q : Exit → Act → World → Prop) (ops : Array Oper) (L : List Sta) (F : List Nat) (fr : (Nat → Value) → Act) (w : World) : List Oper → List Sta → Nat → Prop
 | o :: r, S :: R, i => (∀ f w1, Below w.heap.size w w1 → (∀ j, zCm o j = true → (stA L j).p (f j) w1) → wpList P ops (Exit.then (ue S.p (i ∈ F) (fr f).defers o.dst w1) Q) [o] (fr f) w1) ∧ zDU P Q ops L F fr w r R (i + 1)
 | _, _, _ => True
theorem kD {ops : Array Oper} {L : List Sta} {F : List Nat} {fr : (Nat → Value) → Act} {w : World} : ∀ (l : List Oper) (R : List Sta) (k : Nat), zDU P Q ops L F fr w l R k →
  ∀ i o S, l[i]? = some o → R[i]? = some S → ∀ f w1, Below w.heap.size w w1 → (∀ j, zCm o j = true → (stA L j).p (f j) w1) → wpList P ops (Exit.then (ue S.p (k + i ∈ F) (fr f).defers o.dst w1) Q) [o] (fr f) w1
 | [], _, _, _, i, o, S, ho, _ => by simp at ho
 | o :: r, [], _, _, i, _, S, _, hS => by simp at hS
 | o :: r, S :: R, k, h, 0, o', S', ho, hS => by
  simp at ho hS;subst ho hS;exact h.1
 | o :: r, S :: R, k, h, i + 1, o', S', ho, hS => by
  have := kD r R (k + 1) h.2 i o' S' (by simpa using ho) (by simpa using hS)
  rwa [show k + 1 + i = k + (i + 1) by omega] at this
theorem yt {id : Nat} {a0 : Act} {w : World} {l : List Oper} (L : List Sta) (F : List Nat) (N : Nat) (hm : P.follows .mixedOrders = true) (hB : zJc .any l.toArray L.length = true)
  (hsz : a0.tmps.size = N) (hN : zBD l.toArray L.length N = true) {fr : (Nat → Value) → Act} (hfr : ∀ f, frm l.toArray a0 f L.length = fr f)
  (head : zDU P Q l.toArray L F fr w l L 0)
  (tail : ∀ f w1, Below w.heap.size w w1 → (∀ j, j < L.length → (stA L j).p (f j) w1) → (∀ j k, j < L.length → k < L.length → j ≠ k → j ∈ F → k ∈ F → blk (f j) ≠ blk (f k)) → wpList P l.toArray Q (l.drop L.length) (fr f) w1) : (Code.region id l.toArray true).wp P Q a0 w := by
 have hn : L.length < l.toArray.size := by
  simp only [zJc, Bool.and_eq_true, decide_eq_true_eq] at hB;exact hB.1.1.1.1.1
 refine wp_region_any hm ?_;have h := zJ8 (md := .any) (Q := Q) (P := P) (n := L.length) (a0 := a0) (w0 := w) (Φ := fun j => (stA L j).p) (F := fun j => j ∈ F) rfl hB
  (fun i hi t ht => by
   have h1 := List.all_eq_true.1 hN i (List.mem_range.2 hi)
   rw [ht] at h1
   rw [hsz]
   simpa using h1)
  (fun j _ v w1 w2 hb h => (stA L j).m v w1 w2 hb h)
  (fun i o hi ho f w1 hb hd => by
   rw [hfr]
   have hS : L[i]? = some (stA L i) := by
    unfold stA
    rw [List.getD_eq_getElem?_getD, List.getElem?_eq_getElem hi]; rfl
   have h2 := kD l L 0 head i o (stA L i) (by simpa using ho) hS f w1 hb (fun j hj => by
    unfold zCm at hj
    obtain ⟨e, he, h3⟩ := Array.any_eq_true'.1 hj
    simp only [Bool.and_eq_true, beq_iff_eq] at h3
    rw [← h3.2]
    exact hd e he h3.1)
   rwa [Nat.zero_add] at h2)
  (fun f w1 hb hΦ hFF => by rw [hfr]; exact tail f w1 hb hΦ hFF)
  L.length (List.range L.length) (Array.replicate l.toArray.size false) (fun j => match zN l.toArray j with | some d => a0.tmps.getD d undef | none => undef) w.drew
  List.nodup_range (by simp) (fun j hj => by rw [getD_replicate_false]; simp [hj]) (fun j hj => by simpa using hj)
  ⟨by simp, fun j oj _ hl => (by rw [getD_replicate_false] at hl; cases hl), fun t _ ht => getD_in (by simpa using ht) (getD_replicate_false _ _)⟩
  (zi (Below.refl _ _)) (fun j _ hl => by rw [getD_replicate_false] at hl; cases hl) (fun j _ hl => by rw [getD_replicate_false] at hl; cases hl) (fun j k _ _ _ hl => by rw [getD_replicate_false] at hl; cases hl)
 rw [kT, show L.length + (l.toArray.size - L.length) = l.toArray.size by omega] at h;exact h
end
theorem pS {x : Value} {i : Nat} {F : List Nat} {d : Tmp} {w : World} {ts : Array Value} (h : ts.getD d undef = x) (hf : ¬ i ∈ F) : ue (eqS x).p (i ∈ F) [] (some d) w ⟨ts, []⟩ w :=
 ⟨rfl, Below.refl _ _, fun t ht => by injection ht with ht; subst ht; exact ⟨h, fun h => absurd h hf⟩⟩
theorem pT {x : Value} {i : Nat} {F : List Nat} {d : Tmp} {w w' : World} {ts : Array Value} (h : ts.getD d undef = x) (hf : ¬ i ∈ F) (hb : Below w.heap.size w w') : ue (eqS x).p (i ∈ F) [] (some d) w ⟨ts, []⟩ w' :=
 ⟨rfl, hb, fun t ht => by injection ht with ht; subst ht; exact ⟨h, fun h => absurd h hf⟩⟩
end Go.Proofs.YtcgfilmmokmdjaaGreat
