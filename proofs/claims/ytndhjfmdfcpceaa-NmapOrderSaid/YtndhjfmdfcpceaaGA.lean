/- Several texts in one, each over the last: The needle map, in plain Lean: stripes of items, live and other bytes. No program here. Needle maps as values and in memory: eight slices and two numbers. Numbers of kind float64 that stand for whole numbers of less than 53 digits: reading, sums, order, back to an integer. No program here. The needle map's small functions: walks. -/
import Derived.Test.YtndhjfmdfcpceaaSu
import Derived.Test.YtndhjfmdfcpceaaPr
import Derived.Test.YtndhjfmdfcpceaaIt
import Derived.Test.YtndhjfmdfcpceaaBx
import Derived.Laws.ComplexArith
import Derived.Test.YtndhjfmdfcpceaaNz
namespace Go.Proofs.Ytndhjfmdfcpceaa

def strp (key : Int) : Nat := (key * 11400714819323198485 % 18446744073709551616 / 2305843009213693952).toNat
theorem strp_lt (key : Int) : strp key < 8 := by unfold strp; omega
structure Mp where
  st : Nat → List It
  live : Int
  garb : Int
/-- The first n stripes, one behind the other. -/
def cat (f : Nat → List It) : Nat → List It
  | 0 => []
  | n + 1 => cat f n ++ f n
def allM (M : Mp) : List It := cat M.st 8
def okS (M : Mp) (i : Nat) : Bool := vldB (M.st i) && (M.st i).all fun x => strp x.key == i
def vldM (M : Mp) : Bool := (List.range 8).all (okS M) && (M.live == (sumI (allM M) : Int)) && decide (0 ≤ M.garb) && decide (M.garb ≤ 1099511627776)
structure VldM (M : Mp) : Prop where
  ok : ∀ i, i < 8 → vldB (M.st i) = true
  sp : ∀ i, i < 8 → ∀ x ∈ M.st i, strp x.key = i
  lv : M.live = (sumI (allM M) : Int)
  g0 : 0 ≤ M.garb
  g1 : M.garb ≤ 1099511627776
theorem vldM_iff (M : Mp) : vldM M = true ↔ VldM M := by
  unfold vldM okS
  rw [Bool.and_eq_true, Bool.and_eq_true, Bool.and_eq_true, List.all_eq_true, decide_eq_true_eq, decide_eq_true_eq, beq_iff_eq]
  constructor
  · rintro ⟨⟨⟨h1, h2⟩, h3⟩, h4⟩
    have h := fun i (hi : i < 8) => Bool.and_eq_true_iff.1 (h1 i (List.mem_range.2 hi))
    exact ⟨fun i hi => (h i hi).1, fun i hi x hx => beq_iff_eq.1 (List.all_eq_true.1 (h i hi).2 x hx), h2, h3, h4⟩
  · rintro ⟨h1, h2, h3, h4, h5⟩
    exact ⟨⟨⟨fun i hi => Bool.and_eq_true_iff.2 ⟨h1 i (List.mem_range.1 hi), List.all_eq_true.2 fun x hx => beq_iff_eq.2 (h2 i (List.mem_range.1 hi) x hx)⟩, h3⟩, h4⟩, h5⟩
theorem pw_of {l : List It} (h : Asc l) : l.Pairwise fun a b => a.key < b.key := ascR_pw ((ascR_iff _).2 h)
theorem vld_asc {l : List It} (h : vldB l = true) : Asc l := (vldB_iff.1 h).1
theorem fnd_mem' {l : List It} (h : Asc l) {y : It} (hy : y ∈ l) : fnd l y.key = some y := by
  have hp := pw_of h
  clear h
  induction l with
  | nil => cases hy
  | cons x l ih =>
    rw [List.pairwise_cons] at hp
    rw [fnd_cons]
    rcases List.mem_cons.1 hy with rfl | hy
    · rw [if_pos rfl]
    · rw [if_neg (by have := hp.1 y hy; omega)]; exact ih hy hp.2
theorem fnd_none_iff {l : List It} {k : Int} (h : fnd l k = none) : ∀ x ∈ l, x.key ≠ k := fun x hx => by
  unfold fnd at h
  rw [List.find?_eq_none] at h
  simpa using h x hx
/-- One list laid upon another. -/
theorem fnd_lay (s : List It) (k : Int) : ∀ n (v : List It), v.length = n → fnd (v.foldl ins s) k = match fnd (srt v) k with | some x => some x | none => fnd s k
  | 0, v, h => by rw [List.length_eq_zero_iff.1 h]; rfl
  | n + 1, v, h => by
    obtain ⟨u, y, rfl⟩ : ∃ u y, v = u ++ [y] := by
      have hv : v ≠ [] := fun e => by rw [e] at h; cases h
      exact ⟨v.dropLast, v.getLast hv, (List.dropLast_concat_getLast hv).symm⟩
    have ih := fnd_lay s k n u (by rw [List.length_append] at h; simpa using h)
    rw [List.foldl_append, srt_snoc]
    show fnd (ins (u.foldl ins s) y) k = _
    rw [fnd_ins', fnd_ins', ih]
    by_cases e : y.key = k
    · rw [if_pos e, if_pos e]
    · rw [if_neg e, if_neg e]
theorem fnd_app (u v : List It) (k : Int) : fnd (srt (u ++ v)) k = match fnd (srt v) k with | some x => some x | none => fnd (srt u) k := by
  rw [srt_append]; exact fnd_lay (srt u) k _ v rfl
/-- What a key has among the first n stripes. -/
theorem fnd_cat (f : Nat → List It) (k : Int) : ∀ n, (∀ i, i < n → Asc (f i) ∧ ∀ x ∈ f i, strp x.key = i) → fnd (srt (cat f n)) k = if strp k < n then fnd (f (strp k)) k else none
  | 0, _ => by rw [if_neg (by omega)]; rfl
  | n + 1, h => by
    have ih := fnd_cat f k n (fun i hi => h i (by omega))
    obtain ⟨ha, hs⟩ := h n (by omega)
    show fnd (srt (cat f n ++ f n)) k = _
    rw [fnd_app, srt_of_asc ha, ih]
    by_cases e : strp k = n
    · rw [if_neg (show ¬ strp k < n by omega), if_pos (show strp k < n + 1 by omega), e]
      cases fnd (f n) k <;> rfl
    · have hn : fnd (f n) k = none := fnd_none_of fun x hx e2 => e (by rw [← e2]; exact hs x hx)
      rw [hn]
      by_cases hl : strp k < n
      · rw [if_pos hl, if_pos (by omega)]
      · rw [if_neg hl, if_neg (by omega)]
theorem VldM.fnd {M : Mp} (h : VldM M) (k : Int) : fnd (srt (allM M)) k = fnd (M.st (strp k)) k := by
  have := fnd_cat M.st k 8 (fun i hi => ⟨vld_asc (h.ok i hi), h.sp i hi⟩)
  rw [if_pos (strp_lt k)] at this
  exact this
theorem fnd_filter (p : It → Bool) (b : Bool) (k : Int) (hp : ∀ x : It, x.key = k → p x = b) : ∀ l : List It, fnd (l.filter p) k = if b then fnd l k else none
  | [] => by cases b <;> rfl
  | x :: l => by
    have ih := fnd_filter p b k hp l
    by_cases e : x.key = k
    · rw [List.filter_cons, hp x e]
      cases b
      · simpa using ih
      · simp only [if_true]; rw [fnd_cons, fnd_cons, if_pos e, if_pos e]
    · rw [List.filter_cons]
      split
      · rw [fnd_cons, if_neg e, ih, fnd_cons, if_neg e]
      · rw [ih, fnd_cons, if_neg e]
def inS (i : Nat) (l : List It) : List It := l.filter fun x => strp x.key == i
theorem fnd_inS (i : Nat) (l : List It) (k : Int) : fnd (inS i l) k = if strp k = i then fnd l k else none := by
  have := fnd_filter (fun x => strp x.key == i) (decide (strp k = i)) k (fun x e => by rw [e]; by_cases h : strp k = i <;> simp [h]) l
  unfold inS
  rw [this]
  by_cases h : strp k = i <;> simp [h]
theorem inS_asc (i : Nat) {l : List It} (h : Asc l) : (inS i l).Pairwise fun a b => a.key < b.key := (pw_of h).filter _
theorem inS_ok (i : Nat) (l : List It) : ∀ x ∈ inS i l, strp x.key = i := fun x hx => by simpa using (List.mem_filter.1 hx).2
/-- A stripe is what the whole list has of it. -/
theorem VldM.inS {M : Mp} (h : VldM M) {i : Nat} (hi : i < 8) : inS i (srt (allM M)) = M.st i := by
  refine asc_ext _ _ (inS_asc i (srt_asc _)) (pw_of (vld_asc (h.ok i hi))) fun k => ?_
  rw [fnd_inS, h.fnd]
  by_cases e : strp k = i
  · rw [if_pos e, e]
  · rw [if_neg e]
    exact (fnd_none_of fun x hx e2 => e (by rw [← e2]; exact h.sp i hi x hx)).symm
theorem inS_ins {l : List It} (h : Asc l) (x : It) (i : Nat) : inS i (ins l x) = if strp x.key = i then ins (inS i l) x else inS i l := by
  have hp := inS_asc i h
  refine asc_ext _ _ ((ascR_pw (ins_asc _ _ ((ascR_iff _).2 h))).filter _) ?_ fun k => ?_
  · split
    · exact ascR_pw (ins_asc _ _ (pw_ascR hp))
    · exact hp
  · rw [fnd_inS, fnd_ins']
    by_cases e : strp x.key = i
    · rw [if_pos e, fnd_ins', fnd_inS]
      by_cases e2 : x.key = k
      · rw [if_pos e2, if_pos (show strp k = i by rw [← e2]; exact e), if_pos e2]
      · rw [if_neg e2, if_neg e2]
    · rw [if_neg e, fnd_inS]
      by_cases e2 : x.key = k
      · rw [if_neg (by rw [← e2]; exact e), if_neg (by rw [← e2]; exact e)]
      · rw [if_neg e2]
theorem inS_drp {l : List It} (h : Asc l) (key : Int) (i : Nat) : inS i (drp l key) = if strp key = i then drp (inS i l) key else inS i l := by
  have hp := inS_asc i h
  refine asc_ext _ _ ((pw_of (drp_asc h key)).filter _) ?_ fun k => ?_
  · split
    · exact hp.filter _
    · exact hp
  · rw [fnd_inS, fnd_drp']
    by_cases e : strp key = i
    · rw [if_pos e, fnd_drp', fnd_inS]
      by_cases e2 : k = key
      · rw [if_pos e2, if_pos (show strp k = i by rw [e2]; exact e), if_pos e2]
      · rw [if_neg e2, if_neg e2]
    · rw [if_neg e, fnd_inS]
      by_cases e2 : k = key
      · rw [if_neg (by rw [e2]; exact e), if_neg (by rw [e2]; exact e)]
      · rw [if_neg e2]
/-! ### Bytes -/
def szO : Option It → Nat
  | some y => szN y.size.toNat
  | none => 0
theorem sumI_put (x : It) : ∀ s : List It, Asc s → sumI (ins s x) + szO (fnd s x.key) = sumI s + szN x.size.toNat := fun s h => by
  have hp := pw_of h
  clear h
  induction s with
  | nil => simp [ins, sumI, szO, fnd]
  | cons y s ih =>
    rw [List.pairwise_cons] at hp
    have ih := ih hp.2
    rw [fnd_cons]
    simp only [ins]
    split
    · rename_i hlt
      rw [if_neg (by omega)]
      show szN y.size.toNat + sumI (ins s x) + _ = szN y.size.toNat + sumI s + _
      omega
    · split
      · rename_i hle he
        show szN x.size.toNat + sumI s + szN y.size.toNat = szN y.size.toNat + sumI s + _
        omega
      · rename_i hle he
        have : fnd s x.key = none := fnd_none_of fun z hz e => by have := hp.1 z hz; omega
        rw [this]
        show szN x.size.toNat + (szN y.size.toNat + sumI s) + 0 = szN y.size.toNat + sumI s + _
        omega
theorem sumI_drp (key : Int) : ∀ s : List It, Asc s → sumI (drp s key) + szO (fnd s key) = sumI s := fun s h => by
  have hp := pw_of h
  clear h
  induction s with
  | nil => rfl
  | cons y s ih =>
    rw [List.pairwise_cons] at hp
    have ih := ih hp.2
    rw [fnd_cons]
    by_cases e : y.key = key
    · have hn : drp s key = s := by
        unfold drp
        rw [List.filter_eq_self]
        intro z hz
        have := hp.1 z hz
        have : z.key ≠ key := by omega
        simpa using this
      have : drp (y :: s) key = s := by rw [← hn]; unfold drp; rw [List.filter_cons, if_neg (by simpa using e), List.filter_filter]; simp
      rw [if_pos e, this]
      show sumI s + szN y.size.toNat = szN y.size.toNat + sumI s
      omega
    · have : drp (y :: s) key = y :: drp s key := by unfold drp; rw [List.filter_cons, if_pos (by simpa using e)]
      rw [if_neg e, this]
      show szN y.size.toNat + sumI (drp s key) + _ = szN y.size.toNat + sumI s
      omega
theorem sumI_lay : ∀ (v s : List It), Asc s → (v.Pairwise fun a b => a.key < b.key) → (∀ x ∈ v, fnd s x.key = none) → sumI (v.foldl ins s) = sumI s + sumI v
  | [], s, _, _, _ => by simp [sumI]
  | x :: v, s, hs, hv, hn => by
    rw [List.pairwise_cons] at hv
    have h1 := sumI_put x s hs
    rw [hn x (by simp)] at h1
    show sumI (v.foldl ins (ins s x)) = _
    rw [sumI_lay v (ins s x) ((ascR_iff _).1 (ins_asc _ _ ((ascR_iff _).2 hs))) hv.2 (fun y hy => by
      rw [fnd_ins', if_neg (by have := hv.1 y hy; omega)]; exact hn y (by simp [hy]))]
    show _ = sumI s + (szN x.size.toNat + sumI v)
    simp only [szO] at h1
    omega
theorem sumI_cat (f : Nat → List It) : ∀ n, (∀ i, i < n → Asc (f i) ∧ ∀ x ∈ f i, strp x.key = i) → sumI (srt (cat f n)) = sumI (cat f n)
  | 0, _ => rfl
  | n + 1, h => by
    have ih := sumI_cat f n (fun i hi => h i (by omega))
    obtain ⟨ha, hs⟩ := h n (by omega)
    show sumI (srt (cat f n ++ f n)) = sumI (cat f n ++ f n)
    rw [srt_append, sumI_lay _ _ (srt_asc _) (pw_of ha) (fun x hx => by
      rw [fnd_cat f x.key n (fun i hi => h i (by omega)), if_neg (by rw [hs x hx]; omega)]), sumI_append, ih]
theorem VldM.sum {M : Mp} (h : VldM M) : sumI (srt (allM M)) = sumI (allM M) := sumI_cat M.st 8 fun i hi => ⟨vld_asc (h.ok i hi), h.sp i hi⟩
end Go.Proofs.Ytndhjfmdfcpceaa

namespace Go.Proofs.Ytndhjfmdfcpceaa
open Go.RowKit

/-- Eight slices. -/
structure Sl where
  a : Nat → Option Addr
  n : Nat → Nat
  c : Nat → Nat
def Sl.v (s : Sl) (i : Nat) : Value := .slice (s.a i) (s.n i) (s.c i)
def Sl.set (s : Sl) (k : Nat) (a : Option Addr) (n c : Nat) : Sl := ⟨fun i => if i = k then a else s.a i, fun i => if i = k then n else s.n i, fun i => if i = k then c else s.c i⟩
def Sl.nil : Sl := ⟨fun _ => none, fun _ => 0, fun _ => 0⟩
theorem Sl.set_v (s : Sl) (k : Nat) (a : Option Addr) (n c i : Nat) : (s.set k a n c).v i = if i = k then .slice a n c else s.v i := by
  unfold Sl.set Sl.v
  by_cases h : i = k
  · simp [h]
  · simp [h]
abbrev mapC (s : Sl) (l g : Int) : Array Value := #[.slice (s.a 0) (s.n 0) (s.c 0), .slice (s.a 1) (s.n 1) (s.c 1), .slice (s.a 2) (s.n 2) (s.c 2), .slice (s.a 3) (s.n 3) (s.c 3), .slice (s.a 4) (s.n 4) (s.c 4), .slice (s.a 5) (s.n 5) (s.c 5), .slice (s.a 6) (s.n 6) (s.c 6), .slice (s.a 7) (s.n 7) (s.c 7), .int .i64 l, .int .i64 g]
abbrev mapV (s : Sl) (l g : Int) : Value := .agg (mapC s l g)
abbrev strC (s : Sl) : Array Value := #[.slice (s.a 0) (s.n 0) (s.c 0), .slice (s.a 1) (s.n 1) (s.c 1), .slice (s.a 2) (s.n 2) (s.c 2), .slice (s.a 3) (s.n 3) (s.c 3), .slice (s.a 4) (s.n 4) (s.c 4), .slice (s.a 5) (s.n 5) (s.c 5), .slice (s.a 6) (s.n 6) (s.c 6), .slice (s.a 7) (s.n 7) (s.c 7)]
/-- The stripes, for reading. -/
def RdM (w : World) (s : Sl) (f : Nat → List It) : Prop := ∀ i, i < 8 → RdT w (s.v i) (f i)
theorem RdM.below {w w' : World} {s : Sl} {f : Nat → List It} (h : RdM w s f) (hb : Below w.heap.size w w') : RdM w' s f := fun i hi => (h i hi).below hb
theorem RdM.n {w : World} {s : Sl} {f : Nat → List It} (h : RdM w s f) {i : Nat} (hi : i < 8) : s.n i = (f i).length := by
  obtain ⟨a, c, e, _, _⟩ := (h i hi).shape
  injection e
theorem RdM.set {w : World} {s : Sl} {f : Nat → List It} (h : RdM w s f) {k : Nat} {a : Option Addr} {n c : Nat} {l : List It} (hl : RdT w (.slice a n c) l) : RdM w (s.set k a n c) (fun i => if i = k then l else f i) := fun i hi => by
  show RdT w ((s.set k a n c).v i) (if i = k then l else f i)
  rw [Sl.set_v]
  by_cases e : i = k
  · rw [if_pos e, if_pos e]; exact hl
  · rw [if_neg e, if_neg e]; exact h i hi
/-- A map in a block of its own. -/
structure BoxM (W : World) (b : Nat) (s : Sl) (l g : Int) : Prop where
  c : ∀ j, j < 8 → W.cell? ⟨b, j, none⟩ = some (s.v j)
  cl : W.cell? ⟨b, 8, none⟩ = some (.int .i64 l)
  cg : W.cell? ⟨b, 9, none⟩ = some (.int .i64 g)
  f : ∀ i, W.frozen? ⟨b, i, none⟩ = false
theorem lt8 {j : Nat} (h : j < 8) : j = 0 ∨ j = 1 ∨ j = 2 ∨ j = 3 ∨ j = 4 ∨ j = 5 ∨ j = 6 ∨ j = 7 := by omega
theorem BoxM.new (W : World) (s : Sl) (l g : Int) (t : TypeId) : BoxM (W.alloc (.cells (mapC s l g) t)) W.heap.size s l g :=
  ⟨fun j hj => by rcases lt8 hj with h | h | h | h | h | h | h | h <;> subst h <;> simp [Sl.v], by simp, by simp, fun i => by simp⟩
theorem BoxM.keep {W W' : World} {b B : Nat} {s : Sl} {l g : Int} (h : BoxM W b s l g) (hb : b < B) (hB : Below B W W') : BoxM W' b s l g :=
  ⟨fun j hj => (hB.cell (p := ⟨b, j, none⟩) hb).trans (h.c j hj), (hB.cell (p := ⟨b, 8, none⟩) hb).trans h.cl, (hB.cell (p := ⟨b, 9, none⟩) hb).trans h.cg, fun i => (hB.frozen (p := ⟨b, i, none⟩) hb).trans (h.f i)⟩
theorem BoxM.lt {W : World} {b : Nat} {s : Sl} {l g : Int} (h : BoxM W b s l g) : b < W.heap.size := World.block_lt_of_cell? W _ h.cl
theorem BoxM.below {W W' : World} {b : Nat} {s : Sl} {l g : Int} (h : BoxM W b s l g) (hB : Below W.heap.size W W') : BoxM W' b s l g := h.keep h.lt hB
theorem BoxM.setS {W : World} {b : Nat} {s : Sl} {l g : Int} (h : BoxM W b s l g) {k : Nat} (hk : k < 8) (a : Option Addr) (n c : Nat) : BoxM (W.setCell ⟨b, k, none⟩ (.slice a n c)) b (s.set k a n c) l g := by
  have hkc := h.c k hk
  refine ⟨fun j hj => ?_, ?_, ?_, fun i => by simp [h.f]⟩
  · rw [Sl.set_v]
    by_cases e : j = k
    · subst e; rw [if_pos rfl]; simp [go_sem, hkc]
    · rw [if_neg e]
      have := h.c j hj
      simp [go_sem, this]
  · have := h.cl
    simp [go_sem, this]
  · have := h.cg
    simp [go_sem, this]
end Go.Proofs.Ytndhjfmdfcpceaa

namespace Go.Proofs.Ytndhjfmdfcpceaa.Fx
open Ieee

/-- The word of a whole number. -/
def fb (n : Int) : Nat := FloatKind.f64.nearest n
/-- Few enough digits. -/
def Small (n : Int) : Prop := n.natAbs < 2 ^ 53
theorem p52 : (2 : Nat) ^ 52 = 4503599627370496 := rfl
theorem p53 : (2 : Nat) ^ 53 = 9007199254740992 := rfl
theorem p63 : (2 : Nat) ^ 63 = 9223372036854775808 := rfl
theorem infR : double.infRung = 9218868437227405312 := rfl
theorem binR : double.binade = 4503599627370496 := rfl
theorem sigR : double.signWeight = 9223372036854775808 := rfl
theorem log2_mul (a k : Nat) (h : 0 < a) : (a * 2 ^ k).log2 = a.log2 + k := by
  have ha : a ≠ 0 := by omega
  have hp : 0 < 2 ^ k := Nat.two_pow_pos k
  have hm : a * 2 ^ k ≠ 0 := Nat.mul_ne_zero ha (by omega)
  refine Nat.le_antisymm ?_ ?_
  · refine Nat.lt_succ_iff.1 ((Nat.log2_lt hm).2 ?_)
    rw [show (a.log2 + k).succ = (a.log2 + 1) + k by omega, Nat.pow_add]
    exact Nat.mul_lt_mul_of_pos_right ((Nat.log2_lt ha).1 (Nat.lt_succ_self _)) hp
  · refine (Nat.le_log2 hm).2 ?_
    rw [Nat.pow_add]
    exact Nat.mul_le_mul_right _ ((Nat.le_log2 ha).1 (Nat.le_refl _))
theorem log2_le {a : Nat} (h : 0 < a) (hs : a < 2 ^ 53) : a.log2 ≤ 52 := Nat.lt_succ_iff.1 ((Nat.log2_lt (by omega)).2 hs)
theorem full {a : Nat} (h : 0 < a) (hs : a < 2 ^ 53) : 2 ^ 52 ≤ a * 2 ^ (52 - a.log2) ∧ a * 2 ^ (52 - a.log2) < 2 ^ 53 := by
  have hl := log2_le h hs
  have h1 := (Nat.le_log2 (n := a) (by omega)).1 (Nat.le_refl _)
  have h2 := (Nat.log2_lt (n := a) (by omega)).1 (Nat.lt_succ_self _)
  have hp : 0 < 2 ^ (52 - a.log2) := Nat.two_pow_pos _
  refine ⟨?_, ?_⟩
  · have := Nat.mul_le_mul_right (2 ^ (52 - a.log2)) h1
    rwa [← Nat.pow_add, show a.log2 + (52 - a.log2) = 52 by omega] at this
  · have := Nat.mul_lt_mul_of_pos_right h2 hp
    rwa [← Nat.pow_add, show a.log2.succ + (52 - a.log2) = 53 by omega] at this
theorem cut_exact (way : Toward) (neg : Bool) (b k : Nat) (h : k ≤ (b * 2 ^ k).log2 + 2 ∨ b = 0) : way.cut neg (b * 2 ^ k) k = b := by
  unfold Toward.cut
  rcases h with h | h
  · rw [Nat.min_eq_left h, Nat.shiftLeft_eq, Nat.one_mul]
    have hp : 0 < 2 ^ k := Nat.two_pow_pos k
    simp only [Nat.mul_div_cancel _ hp, Nat.mul_mod_left]
    cases way <;> cases neg <;> simp <;> omega
  · subst h
    rw [Nat.zero_mul]
    have hp : 0 < 1 <<< min k (Nat.log2 0 + 2) := by rw [Nat.shiftLeft_eq, Nat.one_mul]; exact Nat.two_pow_pos _
    simp only [Nat.zero_div, Nat.zero_mod]
    cases way <;> cases neg <;> simp <;> omega
/-- The rung of a whole number. -/
def rung (a : Nat) : Nat := (a.log2 + 1022) * 2 ^ 52 + a * 2 ^ (52 - a.log2)
theorem nearest_pos (neg : Bool) (a k : Nat) (h : 0 < a) (hs : a < 2 ^ 53) : double.nearest neg (a * 2 ^ k) (-(k : Int)) = double.word neg (rung a) := by
  have hl := log2_le h hs
  have hf := full h hs
  have hm : a * 2 ^ k ≠ 0 := Nat.mul_ne_zero (by omega) (by have := Nat.two_pow_pos k; omega)
  unfold Format.nearest
  rw [if_neg hm]
  have hlp : double.leastPlace = -1074 := by decide
  have hb : double.binade = 2 ^ 52 := rfl
  have hlog := log2_mul a k h
  have hfr : double.fractionBits = 52 := rfl
  have hlast : max (-(k : Int) + ((a * 2 ^ k).log2 : Int) - (double.fractionBits : Int)) double.leastPlace = (a.log2 : Int) - 52 := by
    rw [hlog, hlp, hfr]; omega
  have hkept : Toward.even.cut neg ((a * 2 ^ k) <<< (-(k : Int) - ((a.log2 : Int) - 52)).toNat) ((a.log2 : Int) - 52 - -(k : Int)).toNat = a * 2 ^ (52 - a.log2) := by
    rw [Nat.shiftLeft_eq]
    by_cases hc : k + a.log2 ≤ 52
    · have e1 : (-(k : Int) - ((a.log2 : Int) - 52)).toNat = 52 - a.log2 - k := by omega
      have e2 : ((a.log2 : Int) - 52 - -(k : Int)).toNat = 0 := by omega
      rw [e1, e2, Nat.mul_assoc, ← Nat.pow_add, show k + (52 - a.log2 - k) = 52 - a.log2 by omega]
      have := cut_exact .even neg (a * 2 ^ (52 - a.log2)) 0 (.inl (by omega))
      rwa [Nat.pow_zero, Nat.mul_one] at this
    · have e1 : (-(k : Int) - ((a.log2 : Int) - 52)).toNat = 0 := by omega
      have e2 : ((a.log2 : Int) - 52 - -(k : Int)).toNat = k - (52 - a.log2) := by omega
      rw [e1, e2, Nat.pow_zero, Nat.mul_one]
      have e3 : a * 2 ^ k = a * 2 ^ (52 - a.log2) * 2 ^ (k - (52 - a.log2)) := by
        rw [Nat.mul_assoc, ← Nat.pow_add, show 52 - a.log2 + (k - (52 - a.log2)) = k by omega]
      rw [e3]
      refine cut_exact .even neg _ _ (.inl ?_)
      rw [← e3, hlog]; omega
  simp only [hlast, hkept]
  have hr : ((a.log2 : Int) - 52 - double.leastPlace).toNat * double.binade + a * 2 ^ (52 - a.log2) = rung a := by
    rw [hlp, hb, show ((a.log2 : Int) - 52 - -1074).toNat = a.log2 + 1022 by omega]; rfl
  rw [hr, Nat.min_eq_left]
  rw [infR]
  unfold rung
  rw [p52, p53] at *
  omega
theorem fb_eq (n : Int) : fb n = double.nearest (decide (n < 0)) n.natAbs 0 := rfl
theorem wr (n : Int) (hs : Small n) (k : Nat) : double.nearest (decide (n < 0)) (n.natAbs * 2 ^ k) (-(k : Int)) = fb n := by
  rw [fb_eq]
  by_cases h0 : n = 0
  · subst h0
    unfold Format.nearest
    simp
  · have h := nearest_pos (decide (n < 0)) n.natAbs k (by omega) hs
    have h' := nearest_pos (decide (n < 0)) n.natAbs 0 (by omega) hs
    rw [Nat.pow_zero, Nat.mul_one] at h'
    rw [h]
    exact h'.symm
theorem read_word (neg : Bool) (r : Nat) (h1 : 4503599627370496 ≤ r) (h2 : r < 9218868437227405312) : double.read (double.word neg r) = .number neg (4503599627370496 + r % 4503599627370496) (-1074 + ((r / 4503599627370496 - 1 : Nat) : Int)) := by
  have hlp : double.leastPlace = -1074 := by decide
  have e1 : double.word neg r % 9223372036854775808 = r := by
    unfold Format.word
    rw [sigR]
    cases neg
    · simp only [Bool.false_eq_true, if_false]; omega
    · simp only [if_true]; omega
  have e2 : (double.word neg r / 9223372036854775808 % 2 == 1) = neg := by
    unfold Format.word
    rw [sigR]
    cases neg
    · simp only [Bool.false_eq_true, if_false]; rw [beq_eq_false_iff_ne]; omega
    · simp only [if_true]; rw [beq_iff_eq]; omega
  unfold Format.read
  simp only [sigR, binR, infR, e1, e2, hlp]
  rw [if_neg (by omega), if_pos h2]
theorem rd (n : Int) (hs : Small n) : ∃ k : Nat, double.read (fb n) = .number (decide (n < 0)) (n.natAbs * 2 ^ k) (-(k : Int)) := by
  by_cases h0 : n = 0
  · subst h0
    have e : double.read (fb 0) = .number false 0 (-1074) := rfl
    obtain ⟨K, hK⟩ : ∃ K : Nat, K = 1074 := ⟨_, rfl⟩
    refine ⟨K, ?_⟩
    rw [e, Int.natAbs_zero, Nat.zero_mul, hK]
    rfl
  · have ha : 0 < n.natAbs := by omega
    have hl := log2_le ha hs
    have hf := full ha hs
    have h := nearest_pos (decide (n < 0)) n.natAbs 0 ha hs
    rw [Nat.pow_zero, Nat.mul_one] at h
    have e : fb n = double.word (decide (n < 0)) (rung n.natAbs) := h
    have hr : rung n.natAbs = (n.natAbs.log2 + 1022) * 4503599627370496 + n.natAbs * 2 ^ (52 - n.natAbs.log2) := rfl
    rw [p52, p53] at hf
    have hg : ∃ k, k = 52 - n.natAbs.log2 := ⟨_, rfl⟩
    obtain ⟨k, hk⟩ := hg
    refine ⟨k, ?_⟩
    rw [← hk] at hf hr
    have hg : ∃ q, q = n.natAbs * 2 ^ k := ⟨_, rfl⟩
    obtain ⟨q, hq⟩ := hg
    rw [← hq] at hf hr ⊢
    clear hq h
    have e1 : 4503599627370496 + rung n.natAbs % 4503599627370496 = q := by rw [hr]; omega
    have e2 : -1074 + ((rung n.natAbs / 4503599627370496 - 1 : Nat) : Int) = -(k : Int) := by rw [hr]; omega
    rw [e, read_word _ _ (by rw [hr]; omega) (by rw [hr]; omega), e1, e2]
theorem signed_val (n : Int) (k up : Nat) : signed (decide (n < 0)) (n.natAbs * 2 ^ k) up = n * (2 ^ (k + up) : Nat) := by
  unfold signed
  rw [Nat.shiftLeft_eq, Nat.mul_assoc, ← Nat.pow_add]
  by_cases h : n < 0
  · rw [if_pos (by simpa using h), Int.natCast_mul]
    rw [show ((n.natAbs : Nat) : Int) = -n by omega, Int.neg_mul, Int.neg_neg]
  · rw [if_neg (by simpa using h), Int.natCast_mul]
    rw [show ((n.natAbs : Nat) : Int) = n by omega]
theorem add_fb (a b : Int) (ha : Small a) (hb : Small b) (hab : Small (a + b)) : double.add (fb a) (fb b) = some (fb (a + b)) := by
  obtain ⟨k, hk⟩ := rd a ha
  obtain ⟨j, hj⟩ := rd b hb
  unfold Format.add
  rw [hk, hj]
  show Option.map double.write (some _) = _
  rw [Option.map_some]
  congr 1
  have hmin : min (-(k : Int)) (-(j : Int)) = -((max k j : Nat) : Int) := by omega
  have e1 : (-(k : Int) - -((max k j : Nat) : Int)).toNat = max k j - k := by omega
  have e2 : (-(j : Int) - -((max k j : Nat) : Int)).toNat = max k j - j := by omega
  simp only [hmin, e1, e2, signed_val]
  rw [show k + (max k j - k) = max k j by omega, show j + (max k j - j) = max k j by omega, ← Int.add_mul]
  generalize max k j = M
  have hp : 0 < 2 ^ M := Nat.two_pow_pos M
  have hp' : (0 : Int) < ((2 ^ M : Nat) : Int) := by omega
  have hn : ((a + b) * ((2 ^ M : Nat) : Int)).natAbs = (a + b).natAbs * 2 ^ M := by rw [Int.natAbs_mul, Int.natAbs_natCast]
  rw [hn]
  have hsg : (if (a + b) * ((2 ^ M : Nat) : Int) = 0 then decide (a < 0) && decide (b < 0) else decide ((a + b) * ((2 ^ M : Nat) : Int) < 0)) = decide (a + b < 0) := by
    by_cases h0 : a + b = 0
    · rw [if_pos (by rw [h0, Int.zero_mul]), h0]
      by_cases h1 : a < 0
      · simp [h1]; omega
      · simp [h1]
    · rw [if_neg (Int.mul_ne_zero h0 (by omega))]
      refine decide_eq_decide.2 ⟨fun h => ?_, fun h => Int.mul_neg_of_neg_of_pos h hp'⟩
      by_cases h1 : a + b < 0
      · exact h1
      · have := Int.mul_nonneg (show 0 ≤ a + b by omega) (Int.le_of_lt hp'); omega
  rw [hsg]
  exact wr (a + b) hab M
theorem order_fb (a b : Int) (ha : Small a) (hb : Small b) : double.order (fb a) (fb b) = some (compare a b) := by
  obtain ⟨k, hk⟩ := rd a ha
  obtain ⟨j, hj⟩ := rd b hb
  unfold Format.order
  rw [hk, hj]
  have hmin : min (-(k : Int)) (-(j : Int)) = -((max k j : Nat) : Int) := by omega
  have e1 : (-(k : Int) - -((max k j : Nat) : Int)).toNat = max k j - k := by omega
  have e2 : (-(j : Int) - -((max k j : Nat) : Int)).toNat = max k j - j := by omega
  show some (compare _ _) = _
  simp only [hmin, e1, e2, signed_val]
  rw [show k + (max k j - k) = max k j by omega, show j + (max k j - j) = max k j by omega]
  generalize max k j = M
  have hp : 0 < 2 ^ M := Nat.two_pow_pos M
  have hp' : (0 : Int) < ((2 ^ M : Nat) : Int) := by omega
  congr 1
  show compareOfLessAndEq _ _ = compareOfLessAndEq _ _
  unfold compareOfLessAndEq
  have h1 : a * ((2 ^ M : Nat) : Int) < b * ((2 ^ M : Nat) : Int) ↔ a < b := ⟨fun h => Int.lt_of_mul_lt_mul_right h (Int.le_of_lt hp'), fun h => Int.mul_lt_mul_of_pos_right h hp'⟩
  have h2 : a * ((2 ^ M : Nat) : Int) = b * ((2 ^ M : Nat) : Int) ↔ a = b := ⟨fun h => Int.eq_of_mul_eq_mul_right (by omega) h, fun h => by rw [h]⟩
  simp only [h1, h2]
theorem toInt_fb (a : Int) (ha : Small a) : (double.read (fb a)).toInt .zero = some a := by
  obtain ⟨k, hk⟩ := rd a ha
  rw [hk]
  unfold Datum.toInt Datum.integral
  have e1 : (-(k : Int)).toNat = 0 := by omega
  have e2 : (- -(k : Int)).toNat = k := by omega
  simp only [e1, e2, Nat.shiftLeft_zero]
  have hc : Toward.zero.cut (decide (a < 0)) (a.natAbs * 2 ^ k) k = a.natAbs := by
    by_cases h0 : a.natAbs = 0
    · rw [h0]; exact cut_exact _ _ 0 k (.inr rfl)
    · exact cut_exact _ _ _ k (.inl (by rw [log2_mul _ _ (by omega)]; omega))
  rw [hc]
  have := signed_val a 0 0
  rw [Nat.pow_zero, Nat.mul_one] at this
  rw [this]; simp
end Go.Proofs.Ytndhjfmdfcpceaa.Fx

namespace Go.Proofs.Ytndhjfmdfcpceaa
open Go.RowKit

theorem stripe_any (key : Int) (w : World) : Calls Try.prog 33 #[.int .u64 key] w fun e w' => e = .returned (.int .i64 (strp key : Int)) ∧ w = w' := by
  have h1 : IntKind.u64.wrap (key * 11400714819323198485) = key * 11400714819323198485 % 18446744073709551616 := by simp [IntKind.wrap, IntKind.signed, IntKind.bits]
  have h2 : (strp key : Int) = key * 11400714819323198485 % 18446744073709551616 / 2305843009213693952 := by unfold strp; omega
  go_enter Try.func33, Try.ntmps33
  go_wp2_with fail
  go_ret
  exact ⟨ret_int h2.symm, rfl⟩
theorem new_any (w : World) : Calls Try.prog 23 #[] w fun e w' => e = .returned (mapV Sl.nil 0 0) ∧ Below w.heap.size w w' := by
  go_enter Try.func23, Try.ntmps23
  go_wp2_with fail
  exact bodyPost_ret (v := mapV Sl.nil 0 0) (by simp [results, Try.results23, go_sem, Sl.nil]) rfl ⟨rfl, (Below.refl _ _).alloc (Nat.le_refl _) _⟩
theorem nsizeZ (z : Int) (w : World) : Calls Try.prog 35 #[.int .i64 z] w fun e w' => (∃ n : Nat, e = .returned (.int .i64 (n : Int)) ∧ n ≤ 4127 ∧ (0 ≤ z → n = szN z.toNat)) ∧ w = w' := by
  by_cases hz : 0 ≤ z
  · obtain ⟨n, rfl⟩ := Int.eq_ofNat_of_zero_le hz
    refine (nsizeB n w).mono ?_; rintro e w' ⟨rfl, rfl⟩
    exact ⟨⟨szN n, rfl, szN_le n, fun _ => by rw [Int.toNat_natCast]⟩, rfl⟩
  · have hd : decide (z < 0) = true := by simp; omega
    have HS := Lib.hid hz
    clear hz
    go_enter Try.func35, Try.ntmps35
    go_wp2_with fail
    go_ret
    exact ⟨⟨0, rfl, by omega, fun h => by have := HS.out; omega⟩, rfl⟩
theorem length_any (x : It) (w : World) : Calls Try.prog 42 #[itV x] w fun e w' => (∃ n : Nat, e = .returned (.int .i64 (n : Int)) ∧ n ≤ 4127 ∧ (0 ≤ x.size → n = szN x.size.toNat)) ∧ Below w.heap.size w w' := by
  have HZ := Lib.hid (fun W => nsizeZ x.size W)
  obtain ⟨x0, x1, x2, x3⟩ := x
  dsimp only at HZ
  go_enter Try.func42, Try.ntmps42
  go_wp2_with fail
  refine (HZ.out _).mono ?_; rintro e w2 ⟨⟨n, rfl, h1, h2⟩, rfl⟩
  have H1 := Lib.hid h1
  have H2 := Lib.hid h2
  clear h1 h2
  go_wp2_with fail
  go_ret
  exact ⟨⟨n, rfl, H1.out, H2.out⟩, (Below.refl _ _).alloc (Nat.le_refl _) _⟩
theorem counters_any (s : Sl) (l g : Int) (w : World) : Calls Try.prog 41 #[mapV s l g] w fun e w' => e = .returned (.complex .f64 (Fx.fb l) (Fx.fb g)) ∧ Below w.heap.size w w' := by
  go_enter Try.func41, Try.ntmps41
  go_wp2_with fail
  go_ret
  exact ⟨rfl, (Below.refl _ _).alloc (Nat.le_refl _) _⟩
theorem turned_any (n : Nat) (hn : n ≤ 10000) (w : World) : Calls Try.prog 44 #[.int .i64 (n : Int)] w fun e w' => e = .returned (.complex .f64 (Fx.fb (-(n : Int))) (Fx.fb n)) ∧ Below w.heap.size w w' := by
  go_enter Try.func44, Try.ntmps44
  go_wp2_with fail
  go_ret
  exact ⟨rfl, Below.refl _ _⟩
theorem conv_fb (a : Int) (ha : Fx.Small a) : floatToIntVal .f64 (Fx.fb a) .i64 = some a := by
  have h : a.natAbs < 2 ^ 53 := ha
  rw [Fx.p53] at h
  unfold floatToIntVal
  have : (FloatKind.f64.decode (Fx.fb a)).toInt .zero = some a := Fx.toInt_fb a ha
  rw [this]
  simp only [IntKind.min, IntKind.max, IntKind.signed, IntKind.bits]
  rw [if_pos]
  simp; omega
theorem with_any (s : Sl) (l0 g0 l g : Int) (hl : Fx.Small l) (hg : Fx.Small g) (w : World) : Calls Try.prog 46 #[mapV s l0 g0, .complex .f64 (Fx.fb l) (Fx.fb g)] w fun e w' => e = .returned (mapV s l g) ∧ Below w.heap.size w w' := by
  have h1 := fun W => run_convert_float_int (P := Try.prog) W 73 2 .f64 .i64 (Fx.fb l) l (by kernel_rfl) Try.underlying2 (conv_fb l hl)
  have h2 := fun W => run_convert_float_int (P := Try.prog) W 73 2 .f64 .i64 (Fx.fb g) g (by kernel_rfl) Try.underlying2 (conv_fb g hg)
  generalize Fx.fb l = bl at *
  generalize Fx.fb g = bg at *
  go_enter Try.func46, Try.ntmps46
  go_wp2_with fail
  exact bodyPost_ret (v := mapV s l g) (by simp [results, Try.results46, go_sem]) rfl ⟨rfl, ((Below.refl _ _).alloc (Nat.le_refl _) _).alloc (by simp) _⟩
end Go.Proofs.Ytndhjfmdfcpceaa
