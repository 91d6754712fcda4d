/- A part of the walk. -/
import Derived.Test.YtcgfilmmokmdjaaGreatQAD
import Derived.Test.YtcgfilmmokmdjaaGreatQAA
import Derived.Laws.ComplexArith
import Derived.Test.YtcgfilmmokmdjaaGreatQAB
set_option linter.all false
set_option maxRecDepth 100000
set_option maxHeartbeats 32000000
namespace Go.Proofs.YtcgfilmmokmdjaaGreat
open Go.RowKit
structure Sl where
 a : Nat → Option Addr
 n : Nat → Nat
 c : Nat → Nat
def Sl.v (s : Sl) (i : Nat) : Value := .slice (s.a i) (s.n i) (s.c i)
def Sl.set (s : Sl) (k : Nat) (a : Option Addr) (n c : Nat) : Sl := ⟨fun i => if i = k then a else s.a i, fun i => if i = k then n else s.n i, fun i => if i = k then c else s.c i⟩
def Sl.nil : Sl := ⟨fun _ => none, fun _ => 0, fun _ => 0⟩
theorem Sl.set_v (s : Sl) (k : Nat) (a : Option Addr) (n c i : Nat) : (s.set k a n c).v i = if i = k then .slice a n c else s.v i := by
 unfold Sl.set Sl.v
 by_cases h : i = k
 ·
  simp [h]
 simp [h]
abbrev yQ (s : Sl) (l g : Int) : Array Value := #[.slice (s.a 0) (s.n 0) (s.c 0), .slice (s.a 1) (s.n 1) (s.c 1), .slice (s.a 2) (s.n 2) (s.c 2), .slice (s.a 3) (s.n 3) (s.c 3), .slice (s.a 4) (s.n 4) (s.c 4), .slice (s.a 5) (s.n 5) (s.c 5), .slice (s.a 6) (s.n 6) (s.c 6), .slice (s.a 7) (s.n 7) (s.c 7), .int .i64 l, .int .i64 g]
abbrev yC (s : Sl) (l g : Int) : Value := .agg (yQ s l g)
abbrev zLo (s : Sl) : Array Value := #[.slice (s.a 0) (s.n 0) (s.c 0), .slice (s.a 1) (s.n 1) (s.c 1), .slice (s.a 2) (s.n 2) (s.c 2), .slice (s.a 3) (s.n 3) (s.c 3), .slice (s.a 4) (s.n 4) (s.c 4), .slice (s.a 5) (s.n 5) (s.c 5), .slice (s.a 6) (s.n 6) (s.c 6), .slice (s.a 7) (s.n 7) (s.c 7)]
def RdM (w : World) (s : Sl) (f : Nat → List It) : Prop := ∀ i, i < 8 → RdT w (s.v i) (f i)
theorem RdM.below {w w' : World} {s : Sl} {f : Nat → List It} (h : RdM w s f) (hb : Below w.heap.size w w') : RdM w' s f := fun i hi => (h i hi).below hb
theorem RdM.n {w : World} {s : Sl} {f : Nat → List It} (h : RdM w s f) {i : Nat} (hi : i < 8) : s.n i = (f i).length := by
 obtain ⟨a, c, e, _, _⟩ := (h i hi).shape;injection e
structure BoxM (W : World) (b : Nat) (s : Sl) (l g : Int) : Prop where
 c : ∀ j, j < 8 → W.cell? ⟨b, j, none⟩ = some (s.v j)
 cl : W.cell? ⟨b, 8, none⟩ = some (.int .i64 l)
 cg : W.cell? ⟨b, 9, none⟩ = some (.int .i64 g)
 f : ∀ i, W.frozen? ⟨b, i, none⟩ = false
theorem BoxM.q {W : World} {b : Nat} {s : Sl} {l g : Int} (h : BoxM W b s l g) : W.cell? ⟨b, 0, none⟩ = some (.slice (s.a 0) (s.n 0) (s.c 0)) ∧ W.cell? ⟨b, 1, none⟩ = some (.slice (s.a 1) (s.n 1) (s.c 1)) ∧ W.cell? ⟨b, 2, none⟩ = some (.slice (s.a 2) (s.n 2) (s.c 2)) ∧ W.cell? ⟨b, 3, none⟩ = some (.slice (s.a 3) (s.n 3) (s.c 3)) ∧ W.cell? ⟨b, 4, none⟩ = some (.slice (s.a 4) (s.n 4) (s.c 4)) ∧ W.cell? ⟨b, 5, none⟩ = some (.slice (s.a 5) (s.n 5) (s.c 5)) ∧ W.cell? ⟨b, 6, none⟩ = some (.slice (s.a 6) (s.n 6) (s.c 6)) ∧ W.cell? ⟨b, 7, none⟩ = some (.slice (s.a 7) (s.n 7) (s.c 7)) ∧ W.cell? ⟨b, 8, none⟩ = some (.int .i64 l) ∧ W.cell? ⟨b, 9, none⟩ = some (.int .i64 g) := ⟨h.c 0 (by decide), h.c 1 (by decide), h.c 2 (by decide), h.c 3 (by decide), h.c 4 (by decide), h.c 5 (by decide), h.c 6 (by decide), h.c 7 (by decide), h.cl, h.cg⟩
theorem lt8 {j : Nat} (h : j < 8) : j = 0 ∨ j = 1 ∨ j = 2 ∨ j = 3 ∨ j = 4 ∨ j = 5 ∨ j = 6 ∨ j = 7 := by omega
theorem BoxM.new (W : World) (s : Sl) (l g : Int) (t : TypeId) : BoxM (W.alloc (.cells (yQ s l g) t)) W.heap.size s l g :=
 ⟨fun j hj => by rcases lt8 hj with h | h | h | h | h | h | h | h <;> subst h <;> simp [Sl.v], by simp, by simp, fun i => by simp⟩
theorem BoxM.keep {W W' : World} {b B : Nat} {s : Sl} {l g : Int} (h : BoxM W b s l g) (hb : b < B) (hB : Below B W W') : BoxM W' b s l g :=
 ⟨fun j hj => (hB.cell (p := ⟨b, j, none⟩) hb).trans (h.c j hj), (hB.cell (p := ⟨b, 8, none⟩) hb).trans h.cl, (hB.cell (p := ⟨b, 9, none⟩) hb).trans h.cg, fun i => (hB.frozen (p := ⟨b, i, none⟩) hb).trans (h.f i)⟩
theorem BoxM.lt {W : World} {b : Nat} {s : Sl} {l g : Int} (h : BoxM W b s l g) : b < W.heap.size := World.block_lt_of_cell? W _ h.cl
theorem BoxM.below {W W' : World} {b : Nat} {s : Sl} {l g : Int} (h : BoxM W b s l g) (hB : Below W.heap.size W W') : BoxM W' b s l g := h.keep h.lt hB
theorem BoxM.setS {W : World} {b : Nat} {s : Sl} {l g : Int} (h : BoxM W b s l g) {k : Nat} (hk : k < 8) (a : Option Addr) (n c : Nat) : BoxM (W.setCell ⟨b, k, none⟩ (.slice a n c)) b (s.set k a n c) l g := by
 have hkc := h.c k hk;refine ⟨fun j hj => ?_, ?_, ?_, fun i => by simp [h.f]⟩
 ·
  rw [Sl.set_v]
  by_cases e : j = k
  ·
   subst e; rw [if_pos rfl]; simp [go_sem, hkc]
  rw [if_neg e];have := h.c j hj;simp [go_sem, this]
 ·
  have := h.cl;simp [go_sem, this]
 have := h.cg;simp [go_sem, this]
theorem zAs (n : Nat) (w : World) : Calls Tryz.prog 53 #[.int .i64 (n : Int)] w fun e w' => e = .returned (.int .i64 ((szN n : Nat) : Int)) ∧ w = w' := by
 by_cases hn : n ≤ 4096
 ·
  have HS := zh (show ((szN n : Nat) : Int) = (20 + (n : Int) + 4 + 8 - 1) / 8 * 8 by unfold szN nsz; rw [if_pos hn]; omega);have hd : decide ((4096 : Int) < (n : Int)) = false := by simp; omega
  have hd2 : decide ((n : Int) < 0) = false := by simp
  go_enter Tryz.func53, Tryz.ntmps53
  go_wp2_with fail;go_ret;exact ⟨xE (by rw [HS.out]), rfl⟩
 have HS := zh (show szN n = 0 by unfold szN; rw [if_neg hn]);have hd : decide ((4096 : Int) < (n : Int)) = true := by simp; omega
 have hd2 : decide ((n : Int) < 0) = false := by simp
 go_enter Tryz.func53, Tryz.ntmps53
 go_wp2_with fail;go_ret;exact ⟨xE (by rw [HS.out]; rfl), rfl⟩
theorem zCX (n : Nat) (w : World) : Calls Tryz.prog 28 #[.int .i64 (n : Int)] w fun e w' => e = .returned (.int .i64 ((szN n : Nat) : Int)) ∧ w = w' := by
 by_cases hn : n ≤ 4096
 ·
  have HS := zh (show ((szN n : Nat) : Int) = (20 + (n : Int) + 4 + 8 - 1) / 8 * 8 by unfold szN nsz; rw [if_pos hn]; omega);have hd : decide ((4096 : Int) < (n : Int)) = false := by simp; omega
  have hd2 : decide ((n : Int) < 0) = false := by simp
  go_enter Tryz.func28, Tryz.ntmps28
  go_wp2_with fail;go_ret;exact ⟨xE (by rw [HS.out]; omega), rfl⟩
 have HS := zh (show szN n = 0 by unfold szN; rw [if_neg hn]);have hd : decide ((4096 : Int) < (n : Int)) = true := by simp; omega
 have hd2 : decide ((n : Int) < 0) = false := by simp
 go_enter Tryz.func28, Tryz.ntmps28
 go_wp2_with fail;go_ret;exact ⟨xE (by rw [HS.out]; rfl), rfl⟩
end Go.Proofs.YtcgfilmmokmdjaaGreat
namespace Go.Proofs.YtcgfilmmokmdjaaGreat.Fx
open Ieee
def fb (n : Int) : Nat := FloatKind.f64.nearest n
def Small (n : Int) : Prop := n.natAbs < 2 ^ 53
theorem p52 : (2 : Nat) ^ 52 = 4503599627370496 := rfl
theorem p53 : (2 : Nat) ^ 53 = 9007199254740992 := rfl
theorem infR : double.infRung = 9218868437227405312 := rfl
theorem binR : double.binade = 4503599627370496 := rfl
theorem sigR : double.signWeight = 9223372036854775808 := rfl
theorem log2_mul (a k : Nat) (h : 0 < a) : (a * 2 ^ k).log2 = a.log2 + k := by
 have ha : a ≠ 0 := by omega
 have hp : 0 < 2 ^ k := Nat.two_pow_pos k;have hm : a * 2 ^ k ≠ 0 := Nat.mul_ne_zero ha (by omega);refine Nat.le_antisymm ?_ ?_
 ·
  refine Nat.lt_succ_iff.1 ((Nat.log2_lt hm).2 ?_);rw [show (a.log2 + k).succ = (a.log2 + 1) + k by omega, Nat.pow_add];exact Nat.mul_lt_mul_of_pos_right ((Nat.log2_lt ha).1 (Nat.lt_succ_self _)) hp
 refine (Nat.le_log2 hm).2 ?_;rw [Nat.pow_add];exact Nat.mul_le_mul_right _ ((Nat.le_log2 ha).1 (Nat.le_refl _))
theorem log2_le {a : Nat} (h : 0 < a) (hs : a < 2 ^ 53) : a.log2 ≤ 52 := Nat.lt_succ_iff.1 ((Nat.log2_lt (by omega)).2 hs)
theorem full {a : Nat} (h : 0 < a) (hs : a < 2 ^ 53) : 2 ^ 52 ≤ a * 2 ^ (52 - a.log2) ∧ a * 2 ^ (52 - a.log2) < 2 ^ 53 := by
 have hl := log2_le h hs;have h1 := (Nat.le_log2 (n := a) (by omega)).1 (Nat.le_refl _);have h2 := (Nat.log2_lt (n := a) (by omega)).1 (Nat.lt_succ_self _);have hp : 0 < 2 ^ (52 - a.log2) := Nat.two_pow_pos _;refine ⟨?_, ?_⟩
 ·
  have := Nat.mul_le_mul_right (2 ^ (52 - a.log2)) h1
  rwa [← Nat.pow_add, show a.log2 + (52 - a.log2) = 52 by omega] at this
 have := Nat.mul_lt_mul_of_pos_right h2 hp
 rwa [← Nat.pow_add, show a.log2.succ + (52 - a.log2) = 53 by omega] at this
theorem cut_exact (way : Toward) (neg : Bool) (b k : Nat) (h : k ≤ (b * 2 ^ k).log2 + 2 ∨ b = 0) : way.cut neg (b * 2 ^ k) k = b := by
 unfold Toward.cut;rcases h with h | h
 ·
  rw [Nat.min_eq_left h, Nat.shiftLeft_eq, Nat.one_mul];have hp : 0 < 2 ^ k := Nat.two_pow_pos k;simp only [Nat.mul_div_cancel _ hp, Nat.mul_mod_left]
  cases way <;> cases neg <;> simp <;> omega
 subst h;rw [Nat.zero_mul];have hp : 0 < 1 <<< min k (Nat.log2 0 + 2) := by rw [Nat.shiftLeft_eq, Nat.one_mul]; exact Nat.two_pow_pos _
 simp only [Nat.zero_div, Nat.zero_mod]
 cases way <;> cases neg <;> simp <;> omega
def rung (a : Nat) : Nat := (a.log2 + 1022) * 2 ^ 52 + a * 2 ^ (52 - a.log2)
theorem nearest_pos (neg : Bool) (a k : Nat) (h : 0 < a) (hs : a < 2 ^ 53) : double.nearest neg (a * 2 ^ k) (-(k : Int)) = double.word neg (rung a) := by
 have hl := log2_le h hs;have hf := full h hs;have hm : a * 2 ^ k ≠ 0 := Nat.mul_ne_zero (by omega) (by have := Nat.two_pow_pos k; omega);unfold Format.nearest;rw [if_neg hm];have hlp : double.leastPlace = -1074 := by decide
 have hb : double.binade = 2 ^ 52 := rfl;have hlog := log2_mul a k h;have hfr : double.fractionBits = 52 := rfl;have hlast : max (-(k : Int) + ((a * 2 ^ k).log2 : Int) - (double.fractionBits : Int)) double.leastPlace = (a.log2 : Int) - 52 := by
  rw [hlog, hlp, hfr]; omega
 have hkept : Toward.even.cut neg ((a * 2 ^ k) <<< (-(k : Int) - ((a.log2 : Int) - 52)).toNat) ((a.log2 : Int) - 52 - -(k : Int)).toNat = a * 2 ^ (52 - a.log2) := by
  rw [Nat.shiftLeft_eq]
  by_cases hc : k + a.log2 ≤ 52
  ·
   have e1 : (-(k : Int) - ((a.log2 : Int) - 52)).toNat = 52 - a.log2 - k := by omega
   have e2 : ((a.log2 : Int) - 52 - -(k : Int)).toNat = 0 := by omega
   rw [e1, e2, Nat.mul_assoc, ← Nat.pow_add, show k + (52 - a.log2 - k) = 52 - a.log2 by omega];have := cut_exact .even neg (a * 2 ^ (52 - a.log2)) 0 (.inl (by omega))
   rwa [Nat.pow_zero, Nat.mul_one] at this
  have e1 : (-(k : Int) - ((a.log2 : Int) - 52)).toNat = 0 := by omega
  have e2 : ((a.log2 : Int) - 52 - -(k : Int)).toNat = k - (52 - a.log2) := by omega
  rw [e1, e2, Nat.pow_zero, Nat.mul_one];have e3 : a * 2 ^ k = a * 2 ^ (52 - a.log2) * 2 ^ (k - (52 - a.log2)) := by
   rw [Nat.mul_assoc, ← Nat.pow_add, show 52 - a.log2 + (k - (52 - a.log2)) = k by omega]
  rw [e3];refine cut_exact .even neg _ _ (.inl ?_);rw [← e3, hlog]; omega
 simp only [hlast, hkept];have hr : ((a.log2 : Int) - 52 - double.leastPlace).toNat * double.binade + a * 2 ^ (52 - a.log2) = rung a := by
  rw [hlp, hb, show ((a.log2 : Int) - 52 - -1074).toNat = a.log2 + 1022 by omega]; rfl
 rw [hr, Nat.min_eq_left];rw [infR];unfold rung;rw [p52, p53] at *;omega
theorem fb_eq (n : Int) : fb n = double.nearest (decide (n < 0)) n.natAbs 0 := rfl
theorem wr (n : Int) (hs : Small n) (k : Nat) : double.nearest (decide (n < 0)) (n.natAbs * 2 ^ k) (-(k : Int)) = fb n := by
 rw [fb_eq]
 by_cases h0 : n = 0
 ·
  subst h0;unfold Format.nearest;simp
 have h := nearest_pos (decide (n < 0)) n.natAbs k (by omega) hs;have h' := nearest_pos (decide (n < 0)) n.natAbs 0 (by omega) hs;rw [Nat.pow_zero, Nat.mul_one] at h';rw [h];exact h'.symm
theorem read_word (neg : Bool) (r : Nat) (h1 : 4503599627370496 ≤ r) (h2 : r < 9218868437227405312) : double.read (double.word neg r) = .number neg (4503599627370496 + r % 4503599627370496) (-1074 + ((r / 4503599627370496 - 1 : Nat) : Int)) := by
 have hlp : double.leastPlace = -1074 := by decide
 have e1 : double.word neg r % 9223372036854775808 = r := by
  unfold Format.word;rw [sigR]
  cases neg
  ·
   simp only [Bool.false_eq_true, if_false]; omega
  simp only [if_true]; omega
 have e2 : (double.word neg r / 9223372036854775808 % 2 == 1) = neg := by
  unfold Format.word;rw [sigR]
  cases neg
  ·
   simp only [Bool.false_eq_true, if_false]; rw [beq_eq_false_iff_ne]; omega
  simp only [if_true]; rw [beq_iff_eq]; omega
 unfold Format.read;simp only [sigR, binR, infR, e1, e2, hlp];rw [if_neg (by omega), if_pos h2]
theorem rd (n : Int) (hs : Small n) : ∃ k : Nat, double.read (fb n) = .number (decide (n < 0)) (n.natAbs * 2 ^ k) (-(k : Int)) := by
 by_cases h0 : n = 0
 ·
  subst h0;have e : double.read (fb 0) = .number false 0 (-1074) := rfl;obtain ⟨K, hK⟩ : ∃ K : Nat, K = 1074 := ⟨_, rfl⟩
  refine ⟨K, ?_⟩;rw [e, Int.natAbs_zero, Nat.zero_mul, hK]
  rfl
 have ha : 0 < n.natAbs := by omega
 have hl := log2_le ha hs;have hf := full ha hs;have h := nearest_pos (decide (n < 0)) n.natAbs 0 ha hs;rw [Nat.pow_zero, Nat.mul_one] at h;have e : fb n = double.word (decide (n < 0)) (rung n.natAbs) := h;have hr : rung n.natAbs = (n.natAbs.log2 + 1022) * 4503599627370496 + n.natAbs * 2 ^ (52 - n.natAbs.log2) := rfl;rw [p52, p53] at hf;have hg : ∃ k, k = 52 - n.natAbs.log2 := ⟨_, rfl⟩
 obtain ⟨k, hk⟩ := hg;refine ⟨k, ?_⟩;rw [← hk] at hf hr;have hg : ∃ q, q = n.natAbs * 2 ^ k := ⟨_, rfl⟩
 obtain ⟨q, hq⟩ := hg;rw [← hq] at hf hr ⊢;clear hq h;have e1 : 4503599627370496 + rung n.natAbs % 4503599627370496 = q := by rw [hr]; omega
 have e2 : -1074 + ((rung n.natAbs / 4503599627370496 - 1 : Nat) : Int) = -(k : Int) := by rw [hr]; omega
 rw [e, read_word _ _ (by rw [hr]; omega) (by rw [hr]; omega), e1, e2]
theorem signed_val (n : Int) (k up : Nat) : signed (decide (n < 0)) (n.natAbs * 2 ^ k) up = n * (2 ^ (k + up) : Nat) := by
 unfold signed;rw [Nat.shiftLeft_eq, Nat.mul_assoc, ← Nat.pow_add]
 by_cases h : n < 0
 ·
  rw [if_pos (by simpa using h), Int.natCast_mul];rw [show ((n.natAbs : Nat) : Int) = -n by omega, Int.neg_mul, Int.neg_neg]
 rw [if_neg (by simpa using h), Int.natCast_mul];rw [show ((n.natAbs : Nat) : Int) = n by omega]
theorem add_fb (a b : Int) (ha : Small a) (hb : Small b) (hab : Small (a + b)) : double.add (fb a) (fb b) = some (fb (a + b)) := by
 obtain ⟨k, hk⟩ := rd a ha;obtain ⟨j, hj⟩ := rd b hb;unfold Format.add;rw [hk, hj]
 show Option.map double.write (some _) = _
 rw [Option.map_some]
 congr 1
 have hmin : min (-(k : Int)) (-(j : Int)) = -((max k j : Nat) : Int) := by omega
 have e1 : (-(k : Int) - -((max k j : Nat) : Int)).toNat = max k j - k := by omega
 have e2 : (-(j : Int) - -((max k j : Nat) : Int)).toNat = max k j - j := by omega
 simp only [hmin, e1, e2, signed_val];rw [show k + (max k j - k) = max k j by omega, show j + (max k j - j) = max k j by omega, ← Int.add_mul];generalize max k j = M;have hp : 0 < 2 ^ M := Nat.two_pow_pos M;have hp' : (0 : Int) < ((2 ^ M : Nat) : Int) := by omega
 have hn : ((a + b) * ((2 ^ M : Nat) : Int)).natAbs = (a + b).natAbs * 2 ^ M := by rw [Int.natAbs_mul, Int.natAbs_natCast]
 rw [hn];have hsg : (if (a + b) * ((2 ^ M : Nat) : Int) = 0 then decide (a < 0) && decide (b < 0) else decide ((a + b) * ((2 ^ M : Nat) : Int) < 0)) = decide (a + b < 0) := by
  by_cases h0 : a + b = 0
  ·
   rw [if_pos (by rw [h0, Int.zero_mul]), h0]
   by_cases h1 : a < 0
   ·
    simp [h1]; omega
   simp [h1]
  rw [if_neg (Int.mul_ne_zero h0 (by omega))];refine decide_eq_decide.2 ⟨fun h => ?_, fun h => Int.mul_neg_of_neg_of_pos h hp'⟩
  by_cases h1 : a + b < 0
  ·
   exact h1
  have := Int.mul_nonneg (show 0 ≤ a + b by omega) (Int.le_of_lt hp'); omega
 rw [hsg];exact wr (a + b) hab M
theorem order_fb (a b : Int) (ha : Small a) (hb : Small b) : double.order (fb a) (fb b) = some (compare a b) := by
 obtain ⟨k, hk⟩ := rd a ha;obtain ⟨j, hj⟩ := rd b hb;unfold Format.order;rw [hk, hj];have hmin : min (-(k : Int)) (-(j : Int)) = -((max k j : Nat) : Int) := by omega
 have e1 : (-(k : Int) - -((max k j : Nat) : Int)).toNat = max k j - k := by omega
 have e2 : (-(j : Int) - -((max k j : Nat) : Int)).toNat = max k j - j := by omega
 show some (compare _ _) = _
 simp only [hmin, e1, e2, signed_val];rw [show k + (max k j - k) = max k j by omega, show j + (max k j - j) = max k j by omega];generalize max k j = M;have hp : 0 < 2 ^ M := Nat.two_pow_pos M;have hp' : (0 : Int) < ((2 ^ M : Nat) : Int) := by omega
 congr 1
 show compareOfLessAndEq _ _ = compareOfLessAndEq _ _
 unfold compareOfLessAndEq;have h1 : a * ((2 ^ M : Nat) : Int) < b * ((2 ^ M : Nat) : Int) ↔ a < b := ⟨fun h => Int.lt_of_mul_lt_mul_right h (Int.le_of_lt hp'), fun h => Int.mul_lt_mul_of_pos_right h hp'⟩
 have h2 : a * ((2 ^ M : Nat) : Int) = b * ((2 ^ M : Nat) : Int) ↔ a = b := ⟨fun h => Int.eq_of_mul_eq_mul_right (by omega) h, fun h => by rw [h]⟩
 simp only [h1, h2]
theorem toInt_fb (a : Int) (ha : Small a) : (double.read (fb a)).toInt .zero = some a := by
 obtain ⟨k, hk⟩ := rd a ha;rw [hk];unfold Datum.toInt Datum.integral;have e1 : (-(k : Int)).toNat = 0 := by omega
 have e2 : (- -(k : Int)).toNat = k := by omega
 simp only [e1, e2, Nat.shiftLeft_zero];have hc : Toward.zero.cut (decide (a < 0)) (a.natAbs * 2 ^ k) k = a.natAbs := by
  by_cases h0 : a.natAbs = 0
  ·
   rw [h0]; exact cut_exact _ _ 0 k (.inr rfl)
  exact cut_exact _ _ _ k (.inl (by rw [log2_mul _ _ (by omega)]; omega))
 rw [hc];have := signed_val a 0 0;rw [Nat.pow_zero, Nat.mul_one] at this;rw [this]; simp
end Go.Proofs.YtcgfilmmokmdjaaGreat.Fx
namespace Go.Proofs.YtcgfilmmokmdjaaGreat
open Go.RowKit
theorem uV (key : Int) (w : World) : Calls Tryz.prog 94 #[.int .u64 key] w fun e w' => e = .returned (.int .i64 (zb key : Int)) ∧ w = w' := by
 have h1 : IntKind.u64.wrap (key * 11400714819323198485) = key * 11400714819323198485 % 18446744073709551616 := by simp [IntKind.wrap, IntKind.signed, IntKind.bits]
 have h2 : (zb key : Int) = key * 11400714819323198485 % 18446744073709551616 / 2305843009213693952 := by unfold zb; omega
 go_enter Tryz.func94, Tryz.ntmps94
 go_wp2_with fail;go_ret;exact ⟨xE h2.symm, rfl⟩
theorem zJg (w : World) : Calls Tryz.prog 103 #[] w fun e w' => e = .returned (yC Sl.nil 0 0) ∧ Below w.heap.size w w' := by
 go_enter Tryz.func103, Tryz.ntmps103
 go_wp2_with fail;exact bodyPost_ret (v := yC Sl.nil 0 0) (by simp [results, Tryz.results103, go_sem, Sl.nil]) rfl ⟨rfl, (Below.refl _ _).alloc (Nat.le_refl _) _⟩
theorem zK1 (z : Int) (w : World) : Calls Tryz.prog 53 #[.int .i64 z] w fun e w' => (∃ n : Nat, e = .returned (.int .i64 (n : Int)) ∧ n ≤ 4127 ∧ (0 ≤ z → n = szN z.toNat)) ∧ w = w' := by
 by_cases hz : 0 ≤ z
 ·
  obtain ⟨n, rfl⟩ := Int.eq_ofNat_of_zero_le hz;refine (zAs n w).mono ?_; rintro e w' ⟨rfl, rfl⟩;exact ⟨⟨szN n, rfl, xg n, fun _ => by rw [Int.toNat_natCast]⟩, rfl⟩
 have hd : decide (z < 0) = true := by simp; omega
 have HS := zh hz;clear hz
 go_enter Tryz.func53, Tryz.ntmps53
 go_wp2_with fail;go_ret;exact ⟨⟨0, rfl, by omega, fun h => by have := HS.out; omega⟩, rfl⟩
theorem zAd (x : It) (w : World) : Calls Tryz.prog 97 #[itV x] w fun e w' => (∃ n : Nat, e = .returned (.int .i64 (n : Int)) ∧ n ≤ 4127 ∧ (0 ≤ x.size → n = szN x.size.toNat)) ∧ Below w.heap.size w w' := by
 have HZ := zh (fun W => zK1 x.size W);obtain ⟨x0, x1, x2, x3⟩ := x;dsimp only at HZ
 go_enter Tryz.func97, Tryz.ntmps97
 go_wp2_with fail;refine (HZ.out _).mono ?_; rintro e w2 ⟨⟨n, rfl, h1, h2⟩, rfl⟩;have H1 := zh h1;have H2 := zh h2;clear h1 h2;go_wp2_with fail;go_ret;exact ⟨⟨n, rfl, H1.out, H2.out⟩, (Below.refl _ _).alloc (Nat.le_refl _) _⟩
theorem uQ (s : Sl) (l g : Int) (w : World) : Calls Tryz.prog 93 #[yC s l g] w fun e w' => e = .returned (.complex .f64 (Fx.fb l) (Fx.fb g)) ∧ Below w.heap.size w w' := by
 go_enter Tryz.func93, Tryz.ntmps93
 go_wp2_with fail;go_ret;exact ⟨rfl, (Below.refl _ _).alloc (Nat.le_refl _) _⟩
theorem zAX (n : Nat) (hn : n ≤ 10000) (w : World) : Calls Tryz.prog 96 #[.int .i64 (n : Int)] w fun e w' => e = .returned (.complex .f64 (Fx.fb (-(n : Int))) (Fx.fb n)) ∧ Below w.heap.size w w' := by
 go_enter Tryz.func96, Tryz.ntmps96
 go_wp2_with fail;go_ret;exact ⟨rfl, Below.refl _ _⟩
theorem zF5 (a : Int) (ha : Fx.Small a) : floatToIntVal .f64 (Fx.fb a) .i64 = some a := by
 have h : a.natAbs < 2 ^ 53 := ha;rw [Fx.p53] at h;unfold floatToIntVal;have : (FloatKind.f64.decode (Fx.fb a)).toInt .zero = some a := Fx.toInt_fb a ha;rw [this];simp only [IntKind.min, IntKind.max, IntKind.signed, IntKind.bits];rw [if_pos];simp; omega
theorem zAg (s : Sl) (l0 g0 l g : Int) (hl : Fx.Small l) (hg : Fx.Small g) (w : World) : Calls Tryz.prog 92 #[yC s l0 g0, .complex .f64 (Fx.fb l) (Fx.fb g)] w fun e w' => e = .returned (yC s l g) ∧ Below w.heap.size w w' := by
 have h1 := fun W => run_convert_float_int (P := Tryz.prog) W 170 2 .f64 .i64 (Fx.fb l) l (by kernel_rfl) Tryz.underlying2 (zF5 l hl)
 have h2 := fun W => run_convert_float_int (P := Tryz.prog) W 170 2 .f64 .i64 (Fx.fb g) g (by kernel_rfl) Tryz.underlying2 (zF5 g hg)
 generalize Fx.fb l = bl at *;generalize Fx.fb g = bg at *
 go_enter Tryz.func92, Tryz.ntmps92
 go_wp2_with fail;exact bodyPost_ret (v := yC s l g) (by simp [results, Tryz.results92, go_sem]) rfl ⟨rfl, ((Below.refl _ _).alloc (Nat.le_refl _) _).alloc (by simp) _⟩
theorem kq (key : Int) (w : World) : Calls Tryz.prog 162 #[.int .u64 key] w fun e w' => e = .returned (.int .i64 (zb key : Int)) ∧ w = w' := by
 have h1 : IntKind.u64.wrap (key * 11400714819323198485) = key * 11400714819323198485 % 18446744073709551616 := by simp [IntKind.wrap, IntKind.signed, IntKind.bits]
 have h2 : (zb key : Int) = key * 11400714819323198485 % 18446744073709551616 / 2305843009213693952 := by unfold zb; omega
 go_enter Tryz.func162, Tryz.ntmps162
 go_wp2_with fail;go_ret;exact ⟨xE h2.symm, rfl⟩
theorem zE1 (z : Int) (hz : 0 ≤ z) (w : World) : Calls Tryz.prog 28 #[.int .i64 z] w fun e w' => e = .returned (.int .i64 (szN z.toNat : Int)) ∧ w = w' := by
 obtain ⟨n, rfl⟩ := Int.eq_ofNat_of_zero_le hz;rw [Int.toNat_natCast];exact zCX n w
theorem zCD {T : List It} {n : Nat} (h : n < T.length) : zq (T.take (n + 1)) = zq (T.take n) + szN (iat T n).size.toNat := by
 rw [yj h, yp]; rfl
theorem kr (v : Value) (l : List It) (w : World) (h : RdT w v l) (hp : ∀ x ∈ l, 0 ≤ x.size) (hs : l.length ≤ 1000000) :
  Calls Tryz.prog 163 #[v] w fun e w' => e = .returned (.int .i64 (zq l : Int)) ∧ Below w.heap.size w w' := by
 obtain ⟨a, cap, rfl, _, _⟩ := h.shape;have Hr := zh h;have HP := zh (fun j (h : j < l.length) => hp _ (tQ h));have HS := zh (fun j (h : j < l.length) => zCD h);have HE := zh (show zq (l.take l.length) = zq l by rw [List.take_length])
 have HB := zh (fun j => show zq (l.take j) ≤ 4127000000 from by
  have := tI (l.take j)
  rw [List.length_take] at this
  have : min j l.length * 4127 ≤ 1000000 * 4127 := Nat.mul_le_mul_right _ (by omega)
  omega)
 generalize hn : l.length = n at *;clear h hp hn
 go_enter Tryz.func163, Tryz.ntmps163
 go_wp2_with fail
 go_loopw [3, 4] (fun sv iv W => ∃ i p : Nat, iv = .int .i64 (i : Int) ∧ sv = .int .i64 (p : Int) ∧ i ≤ n ∧ Hid (p = zq (l.take i)) ∧ Hid (Below w.heap.size w W)) (fun _ iv _ => n - (intOf iv).toNat)
 case atStart => exact ⟨0, 0, by rfl, rfl, Nat.zero_le _, zh rfl, zh (Below.refl _ _)⟩
 obtain ⟨i, p, rfl, rfl, hi, Hm, Hb⟩ := hrel
 by_cases hin : i < n
 ·
  obtain ⟨pb, poff, rfl, c0, c1, c2, c3⟩ := (Hr.out.below Hb.out).at hin;have hS := HS.out i hin;have hB := HB.out (i + 1);have hZ := HP.out i hin;generalize iat l i = x at *;obtain ⟨x0, x1, x2, x3⟩ := x;dsimp only at *;have HZ := zh (fun W => zE1 x3 hZ W);generalize szN x3.toNat = z at *;rw [hS, ← Hm.out] at hB;have HN := zh (show p + z = zq (l.take (i + 1)) by rw [hS, Hm.out]);have hpz : IntKind.i64.wrap ((p : Int) + (z : Int)) = ((p + z : Nat) : Int) := (IntWalk.i64_in _ (by omega)).trans (by omega);have i1 : (i : Int) < (n : Int) := by omega
  clear hS hZ;go_wp2_with fail;refine (HZ.out _).mono ?_; rintro e w2 ⟨rfl, rfl⟩;go_wp2_with fail;exact ⟨⟨i + 1, p + z, by go_num, rfl, by omega, HN, Hb⟩, by simp [intOf]; omega⟩
 obtain rfl : i = n := by omega
 have HF := zh (Hm.out.trans HE.out);go_wp2_with fail;go_ret;exact ⟨xE (by rw [HF.out]), Hb.out⟩
theorem zDu (s : Sl) {i : Nat} (hi : i < 8) (W : World) : (Instr.index 34 (.agg (zLo s)) (.int .i64 (i : Int))).run Tryz.prog W = .ok (s.v i) W := by
 rcases lt8 hi with h | h | h | h | h | h | h | h <;> subst h <;> rfl
theorem zFi {M : Mp} {i : Nat} (hi : i < 8) (h : okS M i = false) : yX M = false := by
 unfold yX;have : (List.range 8).all (okS M) = false := by
  rw [List.all_eq_false];exact ⟨i, List.mem_range.2 hi, by rw [h]; simp⟩
 rw [this]; rfl
theorem zEK {M : Mp} (h : ∀ i, i < 8 → okS M i = true) : yX M = ((M.live == (zq (ws M) : Int)) && decide (0 ≤ M.garb) && decide (M.garb ≤ 1099511627776)) := by
 unfold yX;have : (List.range 8).all (okS M) = true := List.all_eq_true.2 fun i hi => h i (List.mem_range.1 hi)
 rw [this, Bool.true_and]
theorem zF0 {M : Mp} {i : Nat} (h : xY (M.st i) = false) : okS M i = false := by unfold okS; rw [h]; rfl
theorem zF1 {M : Mp} {i j : Nat} (hj : j < (M.st i).length) (h : zb (iat (M.st i) j).key ≠ i) : okS M i = false := by
 unfold okS;rw [tM hj (by simpa using h), Bool.and_false]
theorem zFX {M : Mp} {i : Nat} (h : xY (M.st i) = true) (h2 : ∀ j, j < (M.st i).length → zb (iat (M.st i) j).key = i) : okS M i = true := by
 unfold okS;rw [h, qX fun j hj => by simpa using h2 j hj]; rfl
theorem t8 {M : Mp} {B : Nat} (h : ∀ i, i < 8 → (M.st i).length ≤ B) : ∀ n, n ≤ 8 → (cat M.st n).length ≤ n * B
 | 0, _ => by simp [cat]
 | n + 1, hn => by
  have ih := t8 h n (by omega)
  show (cat M.st n ++ M.st n).length ≤ _
  rw [List.length_append, Nat.succ_mul];have := h n (by omega);omega
theorem qh {l : List It} (h : xY l = true) : ∀ x ∈ l, 0 ≤ x.size := fun x hx => ((uC.1 h).2 x hx).2.2.2.1
theorem vL (s : Sl) (M : Mp) (w : World) (h : RdM w s M.st) (hs : ∀ i, i < 8 → (M.st i).length ≤ 100000) :
  Calls Tryz.prog 87 #[yC s M.live M.garb] w fun e w' => e = .returned (.bool (yX M)) ∧ Below w.heap.size w w' := by
 have Hr := zh h;have HV := zh (fun i (hi : i < 8) W (hb : Below w.heap.size w W) => zFY (s.v i) (M.st i) W ((h i hi).below hb));have HI := zh (fun i (hi : i < 8) => zDu s hi);have HL := zh (fun i (hi : i < 8) => h.n hi);have HSz := zh hs;have HNo := zh (fun i (hi : i < 8) (h : okS M i = false) => zFi hi h);have HAll := zh (fun h => zEK (M := M) h)
 have HTot := zh (fun n (hn : n ≤ 8) => show zq (cat M.st n) ≤ 3301600000 from by
  have h1 := t8 hs n hn
  have h2 := tI (cat M.st n)
  have : (cat M.st n).length * 4127 ≤ (8 * 100000) * 4127 := Nat.mul_le_mul_right _ (Nat.le_trans h1 (Nat.mul_le_mul_right _ hn))
  omega)
 have HA := zh (show ws M = cat M.st 8 from rfl);clear h hs;obtain ⟨f, L, G⟩ := M;dsimp only at *
 go_enter Tryz.func87, Tryz.ntmps87
 go_wp2_with fail;obtain ⟨W0, hW0, HB0, HL0, HG0⟩ : ∃ W0, w.alloc (.cells (yQ s L G) 36) = W0 ∧ Hid (Below w.heap.size w W0) ∧ Hid (W0.cell? ⟨w.heap.size, 8, none⟩ = some (.int .i64 L)) ∧ Hid (W0.cell? ⟨w.heap.size, 9, none⟩ = some (.int .i64 G)) := ⟨_, rfl, zh ((Below.refl _ _).alloc (Nat.le_refl _) _), zh (by simp), zh (by simp)⟩
 try rw [hW0]
 clear hW0
 go_loopw [3, 10] (fun lv iv W => ∃ i p : Nat, iv = .int .i64 (i : Int) ∧ lv = .int .i64 (p : Int) ∧ i ≤ 8 ∧ Hid (∀ j, j < i → okS ⟨f, L, G⟩ j = true) ∧ Hid (p = zq (cat f i)) ∧ Hid (Below W0.heap.size W0 W)) (fun _ iv _ => 8 - (intOf iv).toNat)
 case atStart => exact ⟨0, 0, rfl, rfl, Nat.zero_le _, zh (fun j hj => by omega), zh rfl, zh (Below.refl _ _)⟩
 obtain ⟨i, p, rfl, rfl, hi, Hok, Hp, HB⟩ := hrel
 by_cases hin : i < 8
 ·
  have i1 : (i : Int) < 8 := by omega
  have hI := HI.out i hin;have hL := HL.out i hin;have HBi := zh (zA HB0.out HB.out);have HVi := zh (HV.out i hin wr HBi.out);have HRi := zh ((Hr.out i hin).below HBi.out);have hvi : s.v i = .slice (s.a i) (s.n i) (s.c i) := rfl;rw [hvi] at HVi HRi hI;have HSi := HSz.out i hin;have hT := HTot.out (i + 1) (by omega);have hcs : cat f (i + 1) = cat f i ++ f i := rfl;rw [hcs, yp, ← Hp.out] at hT;have HCs := zh (show zq (cat f (i + 1)) = p + zq (f i) by rw [hcs, yp, Hp.out]);rw [hL] at HVi HRi hI;generalize s.a i = sa at *;generalize s.c i = sc at *;have HNi := zh (HNo.out i hin);have HY := zh (fun h1 h2 => zFX (M := ⟨f, L, G⟩) (i := i) h1 h2);have HN1 := zh (fun h => HNi.out (zF0 (M := ⟨f, L, G⟩) (i := i) h));have HN2 := zh (fun j h1 h2 => HNi.out (zF1 (M := ⟨f, L, G⟩) (i := i) (j := j) h1 h2));have HSt := zh (fun j (h : j < (f i).length) => zCD h)
  have HSe := zh (show zq ((f i).take (f i).length) = zq (f i) by rw [List.take_length])
  have HSz2 := zh (fun j => show zq ((f i).take j) ≤ zq (f i) from by
   have : zq ((f i).take j ++ (f i).drop j) = zq (f i) := by rw [List.take_append_drop]
   rw [yp] at this; omega)
  have HVs := zh (fun h => qh (l := f i) h);dsimp only at HY HN1 HN2;generalize f i = l at *;clear hL hvi hcs HNi
  by_cases hv : xY l = true
  ·
   rw [hv] at HVi;have HVs2 := zh (fun j (h : j < l.length) => HVs.out hv _ (tQ h));generalize hn : l.length = n at *;clear hn;go_wp2_with fail;refine HVi.out.mono ?_; rintro e w2 ⟨rfl, hb2⟩;have HB2 := zh (zA HB.out hb2);have HR2 := zh (HRi.out.below hb2);clear hb2 HVi HBi HB HRi;go_wp2_with fail
   go_loopw [3, 19] (fun lv jv W => ∃ j q : Nat, jv = .int .i64 (j : Int) ∧ lv = .int .i64 ((p + q : Nat) : Int) ∧ j ≤ n ∧ Hid (∀ r, r < j → zb (iat l r).key = i) ∧ Hid (q = zq (l.take j)) ∧ Hid (Below w2.heap.size w2 W)) (fun _ jv _ => n - (intOf jv).toNat)
   case atStart => exact ⟨0, 0, rfl, rfl, Nat.zero_le _, zh (fun j hj => by omega), zh rfl, zh (Below.refl _ _)⟩
   obtain ⟨j, q, rfl, rfl, hj, Hks, Hq, HBj⟩ := hrel
   by_cases hjn : j < n
   ·
    obtain ⟨pb, poff, rfl, c0, c1, c2, c3⟩ := (HR2.out.below HBj.out).at hjn;have i2 : (j : Int) < (n : Int) := by omega
    have hSt := HSt.out j hjn;have hS2 := HSz2.out (j + 1);have hpos := HVs2.out j hjn;have HN2j := zh (HN2.out j hjn)
    have HK := zh (fun (hk : zb (iat l j).key = i) r (hr : r < j + 1) => show zb (iat l r).key = i from by
     by_cases e : r = j
     ·
      rw [e]; exact hk
     exact Hks.out r (by omega))
    rw [hSt, ← Hq.out] at hS2;generalize iat l j = x at *;have HLn := zh (fun W => zAd x W);have HBx := zh (show Below wr.heap.size wr (wr.alloc (yq x)) from zu wr x);have HS := zh (fun W => uV x.key W);generalize hk : zb x.key = k at *;have hk8 : k < 8 := by rw [← hk]; exact wD _
    obtain ⟨x0, x1, x2, x3⟩ := x;dsimp only at *;clear hk
    by_cases hki : k = i
    ·
     have g1 : ((k : Int) != (i : Int)) = false := by rw [bne_eq_false_iff_eq]; omega
     have HK2 := zh (HK.out hki);clear hki HN2j HK;go_wp2_with fail;refine (HS.out _).mono ?_; rintro e w3 ⟨rfl, rfl⟩;go_wp2_with fail;refine (HLn.out _).mono ?_; rintro e w4 ⟨⟨z, rfl, hz, hz2⟩, hb4⟩;have hz3 := hz2 hpos;have HB4 := zh (zA HBj.out (zA HBx.out hb4));have HQ := zh (show q + z = zq (l.take (j + 1)) by rw [hSt, Hq.out, hz3]);rw [← hz3] at hS2;have hw : IntKind.i64.wrap (((p + q : Nat) : Int) + (z : Int)) = ((p + (q + z) : Nat) : Int) := (IntWalk.i64_in _ (by omega)).trans (by omega);rw [Int.natCast_add] at hw;clear hb4 hz2 hz3 hSt;go_wp2_with fail;exact ⟨⟨j + 1, q + z, by go_num, by simp, by omega, HK2, HQ, HB4⟩, by simp [intOf]; omega⟩
    have g1 : ((k : Int) != (i : Int)) = true := bne_iff_ne.2 (by omega);have HF := zh (HN2j.out hki);have HBz := zh (zA HB0.out (zA HB2.out (zA HBj.out HBx.out)));clear hki HN2j HK;go_wp2_with fail;refine (HS.out _).mono ?_; rintro e w3 ⟨rfl, rfl⟩;go_wp2_with fail;go_ret;exact ⟨zE HF.out.symm, HBz.out⟩
   obtain rfl : j = n := by omega
   have HOk2 := zh (show ∀ r, r < i + 1 → okS ⟨f, L, G⟩ r = true from fun r hr => by
    by_cases e : r = i
    ·
     rw [e]; exact HY.out hv Hks.out
    exact Hok.out r (by omega))
   have HP2 := zh (show p + q = zq (cat f (i + 1)) by rw [HCs.out, Hq.out, HSe.out]);have HBz := zh (zA HB2.out HBj.out);go_wp2_with fail;exact ⟨⟨i + 1, p + q, by go_num, by simp, by omega, HOk2, HP2, HBz⟩, by simp [intOf]; omega⟩
  have hv' : xY l = false := by simpa using hv
  have HF := zh (HN1.out hv');rw [hv'] at HVi;generalize l.length = n at *;go_wp2_with fail;refine HVi.out.mono ?_; rintro e w2 ⟨rfl, hb2⟩;have HB2 := zh (zA HBi.out hb2);clear hb2;go_wp2_with fail;go_ret;exact ⟨zE HF.out.symm, HB2.out⟩
 obtain rfl : i = 8 := by omega
 have hall := HAll.out Hok.out;rw [HA.out] at hall;rw [← Hp.out] at hall;have HF := zh hall;have e8 := Below.keeps HB.out _ _ HL0.out;have e9 := Below.keeps HB.out _ _ HG0.out;have HBz := zh (zA HB0.out HB.out);clear hall
 by_cases g1 : L = (p : Int)
 ·
  have q1 : (L == (p : Int)) = true := beq_iff_eq.2 g1;rw [q1] at HF
  by_cases g2 : 0 ≤ G
  ·
   have q2 : decide (0 ≤ G) = true := by simpa using g2
   rw [q2] at HF;clear g1;go_wp2_with fail;go_ret;exact ⟨zE (by rw [HF.out]; simp), HBz.out⟩
  have q2 : decide (0 ≤ G) = false := by simpa using g2
  rw [q2] at HF;clear g1;go_wp2_with fail;go_ret;exact ⟨zE (by rw [HF.out]; simp), HBz.out⟩
 have q1 : (L == (p : Int)) = false := beq_eq_false_iff_ne.2 g1;rw [q1] at HF;go_wp2_with fail;go_ret;exact ⟨zE (by rw [HF.out]; simp), HBz.out⟩
theorem zR (w : World) (s : Sl) (l g : Int) (t : TypeId) : Below w.heap.size w (w.alloc (.cells (yQ s l g) t)) := (Below.refl _ _).alloc (Nat.le_refl _) _
theorem vT (s : Sl) (M : Mp) (w : World) (h : RdM w s M.st) (hs : ∀ i, i < 8 → (M.st i).length ≤ 100000) :
  Calls Tryz.prog 121 #[yC s M.live M.garb] w fun e w' => e = .returned (.bool (yX M)) ∧ Below w.heap.size w w' := by
 have Hr := zh h;have HV := zh (fun i (hi : i < 8) W (hb : Below w.heap.size w W) => zHu (s.v i) (M.st i) W ((h i hi).below hb));have HL := zh (fun i (hi : i < 8) => h.n hi);have HSz := zh hs;have HNo := zh (fun i (hi : i < 8) (h : okS M i = false) => zFi hi h);have HAll := zh (fun h => zEK (M := M) h)
 have HTot := zh (fun n (hn : n ≤ 8) => show zq (cat M.st n) ≤ 3301600000 from by
  have h1 := t8 hs n hn
  have h2 := tI (cat M.st n)
  have : (cat M.st n).length * 4127 ≤ (8 * 100000) * 4127 := Nat.mul_le_mul_right _ (Nat.le_trans h1 (Nat.mul_le_mul_right _ hn))
  omega)
 have HA := zh (show ws M = cat M.st 8 from rfl);clear h hs;obtain ⟨f, L, G⟩ := M;dsimp only at *;have HBx := zh (BoxM.new w s L G 111);have HB0 := zh (zR w s L G 111)
 go_enter Tryz.func121, Tryz.ntmps121
 go_wp2_with fail;obtain ⟨W0, hW0⟩ : ∃ W0, w.alloc (.cells (yQ s L G) 111) = W0 := ⟨_, rfl⟩
 rw [hW0] at HBx HB0
 try rw [hW0]
 clear hW0
 go_loopw [3, 4] (fun lv iv W => ∃ i p : Nat, iv = .int .i64 (i : Int) ∧ lv = .int .i64 (p : Int) ∧ i ≤ 8 ∧ Hid (∀ j, j < i → okS ⟨f, L, G⟩ j = true) ∧ Hid (p = zq (cat f i)) ∧ Hid (Below W0.heap.size W0 W)) (fun _ iv _ => 8 - (intOf iv).toNat)
 case atStart => exact ⟨0, 0, rfl, rfl, Nat.zero_le _, zh (fun j hj => by omega), zh rfl, zh (Below.refl _ _)⟩
 obtain ⟨i, p, rfl, rfl, hi, Hok, Hp, HB⟩ := hrel;have HBi := zh (show Below w.heap.size w wr from zA HB0.out HB.out)
 by_cases hin : i < 8
 ·
  have i1 : (i : Int) < 8 := by omega
  have hL := HL.out i hin;have HVi := zh (HV.out i hin wr HBi.out);have HRi := zh ((Hr.out i hin).below HBi.out);have hvi : s.v i = .slice (s.a i) (s.n i) (s.c i) := rfl;have ci := HBx.out.c i hin;rw [hvi] at HVi HRi ci;have hT := HTot.out (i + 1) (by omega);have hcs : cat f (i + 1) = cat f i ++ f i := rfl;rw [hcs, yp, ← Hp.out] at hT;have HCs := zh (show zq (cat f (i + 1)) = p + zq (f i) by rw [hcs, yp, Hp.out]);rw [hL] at HVi HRi ci;generalize s.a i = sa at *;generalize s.c i = sc at *;have HNi := zh (HNo.out i hin);have HY := zh (fun h1 h2 => zFX (M := ⟨f, L, G⟩) (i := i) h1 h2);have HN1 := zh (fun h => HNi.out (zF0 (M := ⟨f, L, G⟩) (i := i) h));have HN2 := zh (fun j h1 h2 => HNi.out (zF1 (M := ⟨f, L, G⟩) (i := i) (j := j) h1 h2));have HVs := zh (fun h => qh (l := f i) h);have HSi := HSz.out i hin;dsimp only at HY HN1 HN2;have HCi := zh ci;generalize f i = l at *
  clear hL hvi hcs HNi ci
  by_cases hv : xY l = true
  ·
   rw [hv] at HVi;have HBb := zh (fun a n c W (h : RdT W (.slice a n c) l) => kr (.slice a n c) l W h (HVs.out hv) (by omega));generalize hn : l.length = n at *;clear hn;have c1 := Below.keeps HB.out _ _ HCi.out;go_wp2_with fail;refine HVi.out.mono ?_; rintro e w2 ⟨rfl, hb2⟩;have HB2 := zh (zA HB.out hb2);have HR2 := zh (HRi.out.below hb2);clear hb2 HVi HB HRi c1;go_wp2_with fail
   go_loopw [5] (fun jv W => ∃ j : Nat, jv = .int .i64 (j : Int) ∧ j ≤ n ∧ Hid (∀ r, r < j → zb (iat l r).key = i) ∧ Hid (Below w2.heap.size w2 W)) (fun jv _ => n - (intOf jv).toNat)
   case atStart => exact ⟨0, rfl, Nat.zero_le _, zh (fun j hj => by omega), zh (Below.refl _ _)⟩
   obtain ⟨j, rfl, hj, Hks, HBj⟩ := hrel;have c1 := Below.keeps (zA HB2.out HBj.out) _ _ HCi.out
   by_cases hjn : j < n
   ·
    obtain ⟨pb, poff, rfl, e0, e1, e2, e3⟩ := (HR2.out.below HBj.out).at hjn;have i2 : (j : Int) < (n : Int) := by omega
    have HN2j := zh (HN2.out j hjn)
    have HK := zh (fun (hk : zb (iat l j).key = i) r (hr : r < j + 1) => show zb (iat l r).key = i from by
     by_cases e : r = j
     ·
      rw [e]; exact hk
     exact Hks.out r (by omega))
    generalize iat l j = x at *;have HS := zh (fun W => kq x.key W);generalize hk : zb x.key = k at *;have hk8 : k < 8 := by rw [← hk]; exact wD _
    obtain ⟨x0, x1, x2, x3⟩ := x;dsimp only at *;clear hk
    by_cases hki : k = i
    ·
     have g1 : ((k : Int) != (i : Int)) = false := by rw [bne_eq_false_iff_eq]; omega
     have HK2 := zh (HK.out hki);clear hki HN2j HK;go_wp2_with fail;refine (HS.out _).mono ?_; rintro e w3 ⟨rfl, rfl⟩;go_wp2_with fail;exact ⟨⟨j + 1, by go_num, by omega, HK2, HBj⟩, by simp [intOf]; omega⟩
    have g1 : ((k : Int) != (i : Int)) = true := bne_iff_ne.2 (by omega);have HF := zh (HN2j.out hki);have HBz := zh (show Below w.heap.size w wr from zA HB0.out (zA HB2.out HBj.out));clear hki HN2j HK;go_wp2_with fail;refine (HS.out _).mono ?_; rintro e w3 ⟨rfl, rfl⟩;go_wp2_with fail;go_ret;exact ⟨zE HF.out.symm, HBz.out⟩
   obtain rfl : j = n := by omega
   have HOk2 := zh (show ∀ r, r < i + 1 → okS ⟨f, L, G⟩ r = true from fun r hr => by
    by_cases e : r = i
    ·
     rw [e]; exact HY.out hv Hks.out
    exact Hok.out r (by omega))
   have HBy := zh (HBb.out _ _ _ wr (HR2.out.below HBj.out));generalize zq l = q at *;have hw : IntKind.i64.wrap ((p : Int) + (q : Int)) = ((p + q : Nat) : Int) := (IntWalk.i64_in _ (by omega)).trans (by omega);go_wp2_with fail;refine HBy.out.mono ?_; rintro e w3 ⟨rfl, hb3⟩;have HBz := zh (zA (zA HB2.out HBj.out) hb3);clear hb3;go_wp2_with fail;exact ⟨⟨i + 1, p + q, by go_num, rfl, by omega, HOk2, zh HCs.out.symm, HBz⟩, by simp [intOf]; omega⟩
  have hv' : xY l = false := by simpa using hv
  have HF := zh (HN1.out hv');rw [hv'] at HVi;generalize l.length = n at *;have c1 := Below.keeps HB.out _ _ HCi.out;go_wp2_with fail;refine HVi.out.mono ?_; rintro e w2 ⟨rfl, hb2⟩;have HB2 := zh (zA HBi.out hb2);clear hb2;go_wp2_with fail;go_ret;exact ⟨zE HF.out.symm, HB2.out⟩
 obtain rfl : i = 8 := by omega
 have hall := HAll.out Hok.out;rw [HA.out] at hall;rw [← Hp.out] at hall;have HF := zh hall;have e8 := Below.keeps HB.out _ _ HBx.out.cl;have e9 := Below.keeps HB.out _ _ HBx.out.cg;have HBz := HBi;clear hall
 by_cases g1 : L = (p : Int)
 ·
  have q1 : (L == (p : Int)) = true := beq_iff_eq.2 g1;rw [q1] at HF
  by_cases g2 : 0 ≤ G
  ·
   have q2 : decide (0 ≤ G) = true := by simpa using g2
   rw [q2] at HF;clear g1;go_wp2_with fail;go_ret;exact ⟨zE (by rw [HF.out]; simp), HBz.out⟩
  have q2 : decide (0 ≤ G) = false := by simpa using g2
  rw [q2] at HF;clear g1;go_wp2_with fail;go_ret;exact ⟨zE (by rw [HF.out]; simp), HBz.out⟩
 have q1 : (L == (p : Int)) = false := beq_eq_false_iff_ne.2 g1;rw [q1] at HF;go_wp2_with fail;go_ret;exact ⟨zE (by rw [HF.out]; simp), HBz.out⟩
end Go.Proofs.YtcgfilmmokmdjaaGreat
namespace Go.Proofs.YtcgfilmmokmdjaaGreat
open Go.RowKit
def z8 (W : World) (b : Nat) (s : Sl) (l g : Int) : World :=
 (((((((((W.setCell ⟨b, 0, none⟩ (.slice (s.a 0) (s.n 0) (s.c 0))).setCell ⟨b, 1, none⟩ (.slice (s.a 1) (s.n 1) (s.c 1))).setCell ⟨b, 2, none⟩ (.slice (s.a 2) (s.n 2) (s.c 2))).setCell ⟨b, 3, none⟩ (.slice (s.a 3) (s.n 3) (s.c 3))).setCell ⟨b, 4, none⟩ (.slice (s.a 4) (s.n 4) (s.c 4))).setCell ⟨b, 5, none⟩ (.slice (s.a 5) (s.n 5) (s.c 5))).setCell ⟨b, 6, none⟩ (.slice (s.a 6) (s.n 6) (s.c 6))).setCell ⟨b, 7, none⟩ (.slice (s.a 7) (s.n 7) (s.c 7))).setCell ⟨b, 8, none⟩ (.int .i64 l)).setCell ⟨b, 9, none⟩ (.int .i64 g)
theorem BoxM.all {W : World} {b : Nat} {s : Sl} {l g : Int} (h : BoxM W b s l g) (s' : Sl) (l' g' : Int) : BoxM (z8 W b s' l' g') b s' l' g' := by
 have c0 := h.c 0 (by decide);have c1 := h.c 1 (by decide);have c2 := h.c 2 (by decide);have c3 := h.c 3 (by decide);have c4 := h.c 4 (by decide);have c5 := h.c 5 (by decide);have c6 := h.c 6 (by decide);have c7 := h.c 7 (by decide);have c8 := h.cl;have c9 := h.cg;refine ⟨fun j hj => ?_, ?_, ?_, fun i => by simp [z8, h.f]⟩
 ·
  rcases lt8 hj with e | e | e | e | e | e | e | e <;> subst e <;> simp [z8, go_sem, c0, c1, c2, c3, c4, c5, c6, c7, Sl.v]
 ·
  simp [z8, go_sem, c8]
 simp [z8, go_sem, c9]
theorem zQ {B b : Nat} {w0 W : World} (h : Below B w0 W) (hb : B ≤ b) (s : Sl) (l g : Int) : Below B w0 (z8 W b s l g) :=
 (((((((((h.setCell hb _).setCell hb _).setCell hb _).setCell hb _).setCell hb _).setCell hb _).setCell hb _).setCell hb _).setCell hb _).setCell hb _
theorem BoxM.set_ne {W : World} {b : Nat} {s : Sl} {l g : Int} (h : BoxM W b s l g) {p : Addr} (hp : p.block ≠ b) (u : Value) : BoxM (W.setCell p u) b s l g := by
 have ne : ∀ i, p ≠ ⟨b, i, none⟩ := fun i e => hp (by rw [e])
 exact ⟨fun j hj => (World.cell?_setCell_other (h := ne j) ..).trans (h.c j hj), (World.cell?_setCell_other (h := ne 8) ..).trans h.cl, (World.cell?_setCell_other (h := ne 9) ..).trans h.cg, fun i => by simp [h.f]⟩
theorem BoxM.putM_ne {W : World} {b c : Nat} {s : Sl} {l g : Int} (h : BoxM W b s l g) (hp : c ≠ b) (s' : Sl) (l' g' : Int) : BoxM (z8 W c s' l' g') b s l g :=
 (((((((((h.set_ne (p := ⟨c, 0, none⟩) hp _).set_ne (p := ⟨c, 1, none⟩) hp _).set_ne (p := ⟨c, 2, none⟩) hp _).set_ne (p := ⟨c, 3, none⟩) hp _).set_ne (p := ⟨c, 4, none⟩) hp _).set_ne (p := ⟨c, 5, none⟩) hp _).set_ne (p := ⟨c, 6, none⟩) hp _).set_ne (p := ⟨c, 7, none⟩) hp _).set_ne (p := ⟨c, 8, none⟩) hp _).set_ne (p := ⟨c, 9, none⟩) hp _
theorem zy {W : World} {B : Nat} {e : TypeId} {sz n : Nat} {v : Value} {xs : List Value} (h : W.ownsRow B e sz v n xs) {p : Addr} (hp : p.block < B) (u : Value) : (W.setCell p u).ownsRow B e sz v n xs :=
 uG h (fun e => by have := (World.ownsRow.lt h _ e).1; omega) u
theorem zEQ {W : World} {B b : Nat} {e : TypeId} {sz n : Nat} {v : Value} {xs : List Value} (h : W.ownsRow B e sz v n xs) (hp : b < B) (s : Sl) (l g : Int) : (z8 W b s l g).ownsRow B e sz v n xs :=
 zy (p := ⟨b, 9, none⟩) (zy (p := ⟨b, 8, none⟩) (zy (p := ⟨b, 7, none⟩) (zy (p := ⟨b, 6, none⟩) (zy (p := ⟨b, 5, none⟩) (zy (p := ⟨b, 4, none⟩) (zy (p := ⟨b, 3, none⟩) (zy (p := ⟨b, 2, none⟩) (zy (p := ⟨b, 1, none⟩) (zy (p := ⟨b, 0, none⟩) h hp _) hp _) hp _) hp _) hp _) hp _) hp _) hp _) hp _) hp _
def OwnM (w : World) (B : Nat) (s : Sl) (f : Nat → List It) : Prop := ∀ i, i < 8 → OwnT w B (s.v i) (f i)
theorem OwnM.rd {w : World} {B : Nat} {s : Sl} {f : Nat → List It} (h : OwnM w B s f) : RdM w s f := fun i hi => (h i hi).rd
theorem OwnM.keep {w w' : World} {B : Nat} {s : Sl} {f : Nat → List It} (h : OwnM w B s f) (hb : Below w.heap.size w w') : OwnM w' B s f := fun i hi => zH (h i hi) hb
theorem OwnM.mono {w : World} {B B' : Nat} {s : Sl} {f : Nat → List It} (h : OwnM w B s f) (hb : B' ≤ B) : OwnM w B' s f := fun i hi => World.ownsRow.mono (h i hi) hb
theorem OwnM.putM {w : World} {B b : Nat} {s : Sl} {f : Nat → List It} (h : OwnM w B s f) (hb : b < B) (s' : Sl) (l g : Int) : OwnM (z8 w b s' l g) B s f := fun i hi => zEQ (h i hi) hb s' l g
theorem OwnM.nil (w : World) (B : Nat) : OwnM w B Sl.nil (fun _ => []) := fun _ _ => World.ownsRow_nil _ _ _ _
theorem OwnM.set {w : World} {B : Nat} {s : Sl} {f : Nat → List It} (h : OwnM w B s f) {k : Nat} {a : Option Addr} {n c : Nat} {l : List It} (hl : OwnT w B (.slice a n c) l) : OwnM w B (s.set k a n c) (fun i => if i = k then l else f i) := fun i hi => by
 show OwnT w B ((s.set k a n c).v i) (if i = k then l else f i)
 rw [Sl.set_v]
 by_cases e : i = k
 ·
  rw [if_pos e, if_pos e]; exact hl
 rw [if_neg e, if_neg e]; exact h i hi
section
variable {W : World} {b : Nat} {s : Sl} {l g : Int} (h : BoxM W b s l g)
include h
theorem BoxM.c0 : W.cell? ⟨b, 0, none⟩ = some (.slice (s.a 0) (s.n 0) (s.c 0)) := h.c 0 (by decide)
theorem BoxM.c1 : W.cell? ⟨b, 1, none⟩ = some (.slice (s.a 1) (s.n 1) (s.c 1)) := h.c 1 (by decide)
theorem BoxM.c2 : W.cell? ⟨b, 2, none⟩ = some (.slice (s.a 2) (s.n 2) (s.c 2)) := h.c 2 (by decide)
theorem BoxM.c3 : W.cell? ⟨b, 3, none⟩ = some (.slice (s.a 3) (s.n 3) (s.c 3)) := h.c 3 (by decide)
theorem BoxM.c4 : W.cell? ⟨b, 4, none⟩ = some (.slice (s.a 4) (s.n 4) (s.c 4)) := h.c 4 (by decide)
theorem BoxM.c5 : W.cell? ⟨b, 5, none⟩ = some (.slice (s.a 5) (s.n 5) (s.c 5)) := h.c 5 (by decide)
theorem BoxM.c6 : W.cell? ⟨b, 6, none⟩ = some (.slice (s.a 6) (s.n 6) (s.c 6)) := h.c 6 (by decide)
theorem BoxM.c7 : W.cell? ⟨b, 7, none⟩ = some (.slice (s.a 7) (s.n 7) (s.c 7)) := h.c 7 (by decide)
end
theorem qJ (s : Sl) (L G : Int) (f : Nat → List It) (w : World) (h : RdM w s f) (hs : ∀ i, i < 8 → (f i).length ≤ 100000) :
  Calls Tryz.prog 91 #[yC s L G] w fun e w' => (∃ s', e = .returned (yC s' L G) ∧ OwnM w' w.heap.size s' f) ∧ Below w.heap.size w w' := by
 have Hr := zh h;have HC := zh (fun i (hi : i < 8) W (hb : Below w.heap.size w W) => kU (s.v i) (f i) W ((h i hi).below hb) (Nat.le_trans (hs i hi) (by decide)));have HI := zh (fun i (hi : i < 8) => zDu s hi);have HL := zh (fun i (hi : i < 8) => h.n hi);clear h hs;have HBx := zh ((BoxM.new w s L G 36).below (zR (w.alloc (.cells (yQ s L G) 36)) Sl.nil 0 0 36));have HBy := zh (BoxM.new (w.alloc (.cells (yQ s L G) 36)) Sl.nil 0 0 36);have HB0 := zh (zA (zR w s L G 36) (zR (w.alloc (.cells (yQ s L G) 36)) Sl.nil 0 0 36));rw [show (w.alloc (.cells (yQ s L G) 36)).heap.size = w.heap.size + 1 by simp] at HBy
 go_enter Tryz.func91, Tryz.ntmps91
 go_wp2_with fail;obtain ⟨W0, hW0⟩ : ∃ W0, (w.alloc (.cells (yQ s L G) 36)).alloc (.cells #[.slice none 0 0, .slice none 0 0, .slice none 0 0, .slice none 0 0, .slice none 0 0, .slice none 0 0, .slice none 0 0, .slice none 0 0, .int .i64 0, .int .i64 0] 36) = W0 := ⟨_, rfl⟩
 have hW1 : (w.alloc (.cells (yQ s L G) 36)).alloc (.cells (yQ Sl.nil 0 0) 36) = W0 := hW0;rw [hW1] at HBx HBy HB0
 try rw [hW0]
 clear hW0 hW1;have hs0 : w.heap.size + 2 ≤ W0.heap.size := HBy.out.lt;have HS0 := zh hs0;clear hs0
 go_loopw [7] (fun iv W => ∃ (i : Nat) (q : Sl), iv = .int .i64 (i : Int) ∧ i ≤ 8 ∧ Hid (∀ j, j < i → W.ownsRow (w.heap.size + 2) 49 4 (q.v j) (f j).length (zL (f j))) ∧ Hid (∀ j, i ≤ j → q.v j = s.v j) ∧ Hid (BoxM W w.heap.size q L G) ∧ Hid (BoxM W (w.heap.size + 1) Sl.nil 0 0) ∧ Hid (Below w.heap.size w W)) (fun iv _ => 8 - (intOf iv).toNat)
 case atStart => exact ⟨0, s, rfl, Nat.zero_le _, zh (fun j hj => by omega), zh (fun j _ => rfl), HBx, HBy, HB0⟩
 obtain ⟨i, q, rfl, hi, Hq1, Hq2, HX, HY, HB⟩ := hrel
 by_cases hin : i < 8
 ·
  have i1 : (i : Int) < 8 := by omega
  have hI := HI.out i hin;have hL := HL.out i hin;have HCi := zh (HC.out i hin wr HB.out);have hvi : s.v i = .slice (s.a i) (s.n i) (s.c i) := rfl;rw [hvi] at HCi hI;rw [hL] at HCi hI;generalize s.a i = sa at *;generalize s.c i = sc at *;clear hvi hL;go_wp2_with fail;refine HCi.out.mono ?_; rintro e w2 ⟨v2, rfl, hown2, hb2⟩;have HB2 := zh (zA HB.out hb2);have HX2 := zh (HX.out.below hb2);have HY2 := zh (HY.out.below hb2);have HQ2 := zh (fun j hj => zH (Hq1.out j hj) hb2);have hlow : w.heap.size + 2 ≤ wr.heap.size := HY.out.lt;have HO2 := zh (hown2.mono hlow);obtain ⟨oa, oc, hov, _⟩ := zJ hown2;subst hov;clear hown2 hb2 hlow HCi;have ci := HX2.out.c i hin;have fi := HX2.out.f i;have hqi : q.v i = .slice (q.a i) (q.n i) (q.c i) := rfl;rw [hqi] at ci;clear hqi;go_wp2_with fail;have HX3 := zh (HX2.out.setS hin oa (f i).length oc)
  have HY3 := zh (HY2.out.set_ne (p := ⟨w.heap.size, i, none⟩) (show w.heap.size ≠ w.heap.size + 1 by omega) (.slice oa (f i).length oc));have HB3 := zh (HB2.out.setCell (p := ⟨w.heap.size, i, none⟩) (Nat.le_refl _) (.slice oa (f i).length oc));refine ⟨⟨i + 1, q.set i oa (f i).length oc, by go_num, by omega, zh (fun j hj => ?_), zh (fun j hj => ?_), HX3, HY3, HB3⟩, by simp [intOf]; omega⟩
  ·
   rw [Sl.set_v]
   by_cases e : j = i
   ·
    subst e; rw [if_pos rfl]; exact zy HO2.out (show w.heap.size < w.heap.size + 2 by omega) _
   rw [if_neg e]; exact zy (HQ2.out j (by omega)) (show w.heap.size < w.heap.size + 2 by omega) _
  rw [Sl.set_v, if_neg (by omega)]; exact Hq2.out j (by omega)
 obtain rfl : i = 8 := by omega
 obtain ⟨c0, c1, c2, c3, c4, c5, c6, c7, c8, c9⟩ := HX.out.q;obtain ⟨d0, d1, d2, d3, d4, d5, d6, d7, d8, d9⟩ := HY.out.q;have F := HY.out.f;go_wp2_with fail;change bodyPost _ _ _ _ _ (z8 wr (w.heap.size + 1) q L G);have hby := HY.out.all q L G;have HRq := zh (show OwnM (z8 wr (w.heap.size + 1) q L G) w.heap.size q f from fun j hj => World.ownsRow.mono (zEQ (Hq1.out j hj) (show w.heap.size + 1 < w.heap.size + 2 by omega) q L G) (by omega));have HBz := zh (zQ HB.out (Nat.le_succ _) q L G);generalize z8 wr (w.heap.size + 1) q L G = V at *;exact bodyPost_ret (v := yC q L G) (by simp [results, Tryz.results91, go_sem, hby.c0, hby.c1, hby.c2, hby.c3, hby.c4, hby.c5, hby.c6, hby.c7, hby.cl, hby.cg]) rfl ⟨⟨q, rfl, HRq.out⟩, HBz.out⟩
end Go.Proofs.YtcgfilmmokmdjaaGreat
