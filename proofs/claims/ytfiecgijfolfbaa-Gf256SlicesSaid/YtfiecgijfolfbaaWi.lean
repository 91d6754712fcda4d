/- The walks over gf256's Inv, Div, Exp, Log, Pow: what each call returns, said in plain numbers. -/
import Derived.Test.YtfiecgijfolfbaaWt
import Derived.BigQuiet
import Derived.Deep.QuietTactic
namespace Go.Proofs.Ytfiecgijfolfbaa
open Go.RowKit

theorem store_first (w1 : World) (A A' : Array Value) (t : TypeId) (B : Obj) : ((w1.alloc (.cells A t)).alloc B).setRow w1.heap.size A' = (w1.alloc (.cells A' t)).alloc B := by
  show World.mk _ _ _ _ _ = World.mk _ _ _ _ _
  congr 1
  show ((w1.heap.push (.cells A t)).push B).modify w1.heap.size _ = (w1.heap.push (.cells A' t)).push B
  apply Array.ext_getElem?
  intro i
  rw [Array.getElem?_modify]
  simp only [Array.getElem?_push, Array.size_push]
  by_cases h : w1.heap.size = i
  · subst h; simp
  · rw [if_neg h]
    by_cases h2 : i = w1.heap.size + 1
    · rw [if_pos h2, if_pos h2]
    · rw [if_neg h2, if_neg h2, if_neg (fun e => h e.symm), if_neg (fun e => h e.symm)]
theorem store_second (w1 : World) (A : Obj) (B B' : Array Value) (t : TypeId) : ((w1.alloc A).alloc (.cells B t)).setRow (w1.heap.size + 1) B' = (w1.alloc A).alloc (.cells B' t) := by
  show World.mk _ _ _ _ _ = World.mk _ _ _ _ _
  congr 1
  show ((w1.heap.push A).push (.cells B t)).modify (w1.heap.size + 1) _ = (w1.heap.push A).push (.cells B' t)
  apply Array.ext_getElem?
  intro i
  rw [Array.getElem?_modify]
  simp only [Array.getElem?_push, Array.size_push]
  by_cases h : w1.heap.size + 1 = i
  · subst h; simp
  · have h' : ¬ i = w1.heap.size + 1 := fun e => h e.symm
    rw [if_neg h, if_neg h', if_neg h']
theorem heap_pair (w : World) (A B : Obj) : ((w.alloc A).alloc B).heap[w.heap.size]? = some A ∧ ((w.alloc A).alloc B).heap[w.heap.size + 1]? = some B := by
  show ((w.heap.push A).push B)[w.heap.size]? = _ ∧ ((w.heap.push A).push B)[w.heap.size + 1]? = _
  constructor
  · simp only [Array.getElem?_push, Array.size_push]; rw [if_neg (by omega), if_pos trivial]
  · simp only [Array.getElem?_push, Array.size_push]; rw [if_pos trivial]
theorem wpList_store41 {ops : Array Oper} {rest : List Oper} {o : Oper} {a : Act} {w1 : World} {B : Obj} {Q : Exit → Act → World → Prop} (hg : o.guard = none) (x y : Operand) (ho : o.op = .store 41 x y)
    (hx : a.eval x = .pointer (some ⟨w1.heap.size, 0, none⟩)) (hy : a.eval y = .agg ETab) (h : wpList Try.prog ops Q rest (a.put o.dst undef) ((w1.alloc (.cells ETab 41)).alloc B)) :
    wpList Try.prog ops Q (o :: rest) a ((w1.alloc (.cells Z41 41)).alloc B) :=
  wpList_plain hg fun _ hK => wp_store_row 41 x y ho w1.heap.size ETab hx hy 41 Z41 (heap_pair w1 _ _).1 (info41 255) (by rw [ETab_size]; simp [Z41]) (EA_one 255 (Nat.le_refl _))
    (by rw [store_first]; exact hK _ _ h)
theorem wpList_store42 {ops : Array Oper} {rest : List Oper} {o : Oper} {a : Act} {w1 : World} {A : Obj} {Q : Exit → Act → World → Prop} (hg : o.guard = none) (x y : Operand) (ho : o.op = .store 42 x y)
    (hx : a.eval x = .pointer (some ⟨w1.heap.size + 1, 0, none⟩)) (hy : a.eval y = .agg LTab) (h : wpList Try.prog ops Q rest (a.put o.dst undef) ((w1.alloc A).alloc (.cells LTab 42))) :
    wpList Try.prog ops Q (o :: rest) a ((w1.alloc A).alloc (.cells Z42 42)) :=
  wpList_plain hg fun _ hK => wp_store_row 42 x y ho (w1.heap.size + 1) LTab hx hy 42 Z42 (heap_pair w1 _ _).2 (info42 255) (by rw [LTab_size]; simp [Z42]) (LA_one 255)
    (by rw [store_second]; exact hK _ _ h)

def erz (a : Nat) : Int := if a = 0 then 1 else 0
def invV (a : Nat) : Nat := if a = 0 then 0 else Gf.inv a
theorem erz_pos {a : Nat} (h : 0 < a) : erz a = 0 := if_neg (by omega)
theorem invV_pos {a : Nat} (h : 0 < a) : invV a = Gf.inv a := if_neg (by omega)
theorem ret_pair {k l : IntKind} {a b c d : Int} (h : a = b) (h' : c = d) : Ending.returned (.tuple #[.int k a, .int l c]) = .returned (.tuple #[.int k b, .int l d]) := by rw [h, h']

set_option maxRecDepth 100000 in
set_option maxHeartbeats 400000 in
theorem log_any (a : Nat) (w : World) (ha : a < 256) :
    Calls Try.prog 21 #[.int .u8 (a : Int)] w fun e w' => e = .returned (.tuple #[.int .i64 (Gf.lg a : Nat), .int .i64 (erz a)]) ∧ Below w.heap.size w w' := by
  rcases Nat.eq_zero_or_pos a with h0 | h0
  · subst h0
    go_enter Try.func21, Try.ntmps21
    go_wp2
    go_ret2
    exact ⟨ret_pair (by rw [Gf.lg_zero]; rfl) rfl, Below.refl _ _⟩
  · have z41 := zero41
    have z42 := zero42
    have ht := LTab_at a ha
    have h0' : ((a : Int) == 0) = false := by simp; omega
    go_enter Try.func21, Try.ntmps21
    go_wp2_with (first | (go_at_call 27; refine (tables_any _).mono ?_; rintro e w1 ⟨rfl, hb⟩) | ((with_reducible refine wpList_store41 ?_ (.tmp 4) (.tmp 10) ?_ ?_ ?_ ?_); rfl; rfl; rfl; rfl) | ((with_reducible refine wpList_store42 ?_ (.tmp 5) (.tmp 11) ?_ ?_ ?_ ?_); rfl; rfl; rfl; rfl))
    go_ret2
    exact ⟨ret_pair rfl (erz_pos h0).symm, (hb.alloc hb.size _).alloc (by simp; have := hb.size; omega) _⟩

/-! ### The exponent within the order of 2 -/
theorem rem_bounds (n : Int) : -255 < n.tmod 255 ∧ n.tmod 255 < 255 := by
  have h1 := Int.tmod_lt_of_pos n (show (0 : Int) < 255 by decide)
  have h2 := Int.lt_tmod_of_pos n (show (0 : Int) < 255 by decide)
  omega
theorem rem_mod (n : Int) : (n.tmod 255 + 255) % 255 = n % 255 := by
  have h := Int.tmod_add_mul_tdiv n 255
  omega
set_option maxHeartbeats 400000 in
theorem within_any (n : Int) (w : World) :
    Calls Try.prog 28 #[.int .i64 n] w fun e w' => e = .returned (.int .i64 (n % 255)) ∧ w = w' := by
  have hb := rem_bounds n
  obtain ⟨hb1, hb2⟩ := hb
  go_enter Try.func28, Try.ntmps28
  go_wp2
  go_ret
  exact ⟨ret_int (rem_mod n), rfl⟩
def ex (n : Int) : Nat := Gf.pw (n % 255).toNat
set_option maxRecDepth 100000 in
set_option maxHeartbeats 400000 in
theorem exp_any (n : Int) (w : World) :
    Calls Try.prog 23 #[.int .i64 n] w fun e w' => e = .returned (.int .u8 (ex n : Nat)) ∧ Below w.heap.size w w' := by
  have z41 := zero41
  have z42 := zero42
  obtain ⟨k, hk⟩ : ∃ k : Nat, n % 255 = (k : Int) := ⟨(n % 255).toNat, by omega⟩
  have hk2 : k < 255 := by omega
  have ht := ETab_at k (by omega)
  have HE := Lib.hid (show ex n = Gf.pw k by unfold ex; rw [hk]; rfl)
  have HC : ∀ w, Calls Try.prog 28 #[.int .i64 n] w fun e w' => e = .returned (.int .i64 (k : Int)) ∧ w = w' := fun w => by rw [← hk]; exact within_any n w
  have HW := Lib.hid HC
  clear HC hk
  go_enter Try.func23, Try.ntmps23
  go_wp2_with (first | (go_at_call 27; refine (tables_any _).mono ?_; rintro e w1 ⟨rfl, hb⟩) | ((with_reducible refine wpList_store41 ?_ (.tmp 3) (.tmp 7) ?_ ?_ ?_ ?_); rfl; rfl; rfl; rfl) | ((with_reducible refine wpList_store42 ?_ (.tmp 4) (.tmp 8) ?_ ?_ ?_ ?_); rfl; rfl; rfl; rfl) | (go_at_call 28; refine (HW.out _).mono ?_; rintro e w2 ⟨rfl, rfl⟩))
  go_ret
  exact ⟨ret_int (by rw [HE.out]), (hb.alloc hb.size _).alloc (by simp; have := hb.size; omega) _⟩
theorem inv_zero (w : World) : Calls Try.prog 15 #[.int .u8 0] w fun e w' => e = .returned (.tuple #[.int .u8 0, .int .i64 1]) ∧ w = w' := by
  go_enter Try.func15, Try.ntmps15
  go_wp2
  go_ret2
  exact ⟨rfl, rfl⟩
set_option maxRecDepth 100000 in
set_option maxHeartbeats 400000 in
theorem inv_pos (a : Nat) (w : World) (h0 : 0 < a) (ha : a < 256) :
    Calls Try.prog 15 #[.int .u8 (a : Int)] w fun e w' => e = .returned (.tuple #[.int .u8 (Gf.inv a : Nat), .int .i64 0]) ∧ Below w.heap.size w w' := by
  have z41 := zero41
  have z42 := zero42
  have ht := LTab_at a ha
  have hl := Gf.lg_lt a
  have ht2 := ETab_at (255 - Gf.lg a) (by omega)
  have h0' : ((a : Int) == 0) = false := by simp; omega
  go_enter Try.func15, Try.ntmps15
  go_wp2_with (first | (go_at_call 27; refine (tables_any _).mono ?_; rintro e w1 ⟨rfl, hb⟩) | ((with_reducible refine wpList_store41 ?_ (.tmp 4) (.tmp 10) ?_ ?_ ?_ ?_); rfl; rfl; rfl; rfl) | ((with_reducible refine wpList_store42 ?_ (.tmp 5) (.tmp 11) ?_ ?_ ?_ ?_); rfl; rfl; rfl; rfl))
  go_ret2
  exact ⟨rfl, (hb.alloc hb.size _).alloc (by simp; have := hb.size; omega) _⟩
theorem inv_any (a : Nat) (w : World) (ha : a < 256) :
    Calls Try.prog 15 #[.int .u8 (a : Int)] w fun e w' => e = .returned (.tuple #[.int .u8 (invV a : Nat), .int .i64 (erz a)]) ∧ Below w.heap.size w w' := by
  rcases Nat.eq_zero_or_pos a with h0 | h0
  · subst h0
    exact (inv_zero w).mono fun e w' ⟨he, hw⟩ => ⟨he, hw ▸ Below.refl _ _⟩
  · rw [erz_pos h0, invV_pos h0]; exact inv_pos a w h0 ha
theorem div_zero (a : Nat) (w : World) : Calls Try.prog 17 #[.int .u8 (a : Int), .int .u8 0] w fun e w' => e = .returned (.tuple #[.int .u8 0, .int .i64 1]) ∧ w = w' := by
  go_enter Try.func17, Try.ntmps17
  go_wp2_with (go_at_call 15; refine (inv_zero _).mono ?_; rintro e w1 ⟨rfl, rfl⟩)
  go_ret2
  exact ⟨rfl, rfl⟩
theorem div_pos (a b : Nat) (w : World) (ha : a < 256) (h0 : 0 < b) (hb : b < 256) : Calls Try.prog 17 #[.int .u8 (a : Int), .int .u8 (b : Int)] w fun e w' => e = .returned (.tuple #[.int .u8 (Gf.mul a (Gf.inv b) : Nat), .int .i64 0]) ∧ Below w.heap.size w w' := by
  have hi := Gf.inv_lt b
  go_enter Try.func17, Try.ntmps17
  go_wp2_with (first | (go_at_call 15; refine (inv_pos b _ h0 hb).mono ?_; rintro e w1 ⟨rfl, hb⟩) | (go_at_call 11; refine (mul_any a (Gf.inv b) _ ha hi).mono ?_; rintro e w2 ⟨rfl, rfl⟩))
  go_ret2
  exact ⟨rfl, hb⟩
def divV (a b : Nat) : Nat := if b = 0 then 0 else Gf.mul a (Gf.inv b)
theorem div_any (a b : Nat) (w : World) (ha : a < 256) (hb : b < 256) : Calls Try.prog 17 #[.int .u8 (a : Int), .int .u8 (b : Int)] w fun e w' => e = .returned (.tuple #[.int .u8 (divV a b : Nat), .int .i64 (erz b)]) ∧ Below w.heap.size w w' := by
  rcases Nat.eq_zero_or_pos b with h0 | h0
  · subst h0
    exact (div_zero a w).mono fun e w' ⟨he, hw⟩ => ⟨he, hw ▸ Below.refl _ _⟩
  · rw [erz_pos h0, show divV a b = Gf.mul a (Gf.inv b) from if_neg (by omega)]; exact div_pos a b w ha h0 hb
/-! ### Powers -/
def powV (a : Nat) (n : Int) : Nat := if n = 0 then 1 else if a = 0 then 0 else Gf.pw (Gf.lg a * (n % 255).toNat % 255)
set_option maxRecDepth 100000 in
set_option maxHeartbeats 400000 in
theorem pow_pos (a : Nat) (n : Int) (w : World) (h0 : 0 < a) (ha : a < 256) (hn : ¬ n = 0) :
    Calls Try.prog 25 #[.int .u8 (a : Int), .int .i64 n] w fun e w' => e = .returned (.int .u8 (powV a n : Nat)) ∧ Below w.heap.size w w' := by
  have z41 := zero41
  have z42 := zero42
  obtain ⟨k, hk⟩ : ∃ k : Nat, n % 255 = (k : Int) := ⟨(n % 255).toNat, by omega⟩
  have hk2 : k < 255 := by omega
  have ht := LTab_at a ha
  have hl := Gf.lg_lt a
  have HE := Lib.hid (show powV a n = Gf.pw (Gf.lg a * k % 255) by unfold powV; rw [if_neg hn, if_neg (by omega), hk]; rfl)
  have HC : ∀ w, Calls Try.prog 28 #[.int .i64 n] w fun e w' => e = .returned (.int .i64 (k : Int)) ∧ w = w' := fun w => by rw [← hk]; exact within_any n w
  have HW := Lib.hid HC
  have h0' : ((a : Int) == 0) = false := by simp; omega
  have hn' : (n == 0) = false := by simp [hn]
  clear HC hk hn
  generalize Gf.lg a = l at ht hl HE
  have hm : l * k ≤ 254 * 254 := Nat.mul_le_mul (by omega) (by omega)
  obtain ⟨m, hm2⟩ : ∃ m, m = l * k % 255 := ⟨_, rfl⟩
  have hm3 : m < 255 := by omega
  have ht2 := ETab_at m (by omega)
  have e1 : IntKind.i64.wrap ((l : Int) * (k : Int)) = (l : Int) * (k : Int) := by rw [← Int.natCast_mul]; exact IntWalk.i64_in _ (by omega)
  have e2 : ((l : Int) * (k : Int)).tmod 255 = (m : Int) := by rw [← Int.natCast_mul, Int.tmod_eq_emod_of_nonneg (by omega), hm2]; rfl
  rw [← hm2] at HE
  have e3 : (a : Int) < 256 := by omega
  have e4 : (m : Int) < 510 := by omega
  clear hm2
  go_enter Try.func25, Try.ntmps25
  go_wp2_with (first | (go_at_call 27; refine (tables_any _).mono ?_; rintro e w1 ⟨rfl, hb⟩) | ((with_reducible refine wpList_store41 ?_ (.tmp 5) (.tmp 15) ?_ ?_ ?_ ?_); rfl; rfl; rfl; rfl) | ((with_reducible refine wpList_store42 ?_ (.tmp 6) (.tmp 16) ?_ ?_ ?_ ?_); rfl; rfl; rfl; rfl))
  go_quiet ((go_at_call 28; exact Calls.quiet_of_same ((HW.out _).mono fun _ _ ⟨h1, h2⟩ => ⟨h1, h2.symm⟩)))
  go_wp2
  go_ret
  exact ⟨ret_int (by rw [HE.out]), below_drewN ((hb.alloc hb.size _).alloc (by simp; have := hb.size; omega) _) nq⟩
theorem pow_zero (a : Nat) (w : World) : Calls Try.prog 25 #[.int .u8 (a : Int), .int .i64 0] w fun e w' => e = .returned (.int .u8 1) ∧ w = w' := by
  go_enter Try.func25, Try.ntmps25
  go_wp2
  go_ret
  exact ⟨rfl, rfl⟩
theorem pow_base0 (n : Int) (w : World) (hn : ¬ n = 0) : Calls Try.prog 25 #[.int .u8 0, .int .i64 n] w fun e w' => e = .returned (.int .u8 0) ∧ w = w' := by
  have hn' : (n == 0) = false := by simp [hn]
  clear hn
  go_enter Try.func25, Try.ntmps25
  go_wp2
  go_ret
  exact ⟨rfl, rfl⟩
theorem pow_any (a : Nat) (n : Int) (w : World) (ha : a < 256) :
    Calls Try.prog 25 #[.int .u8 (a : Int), .int .i64 n] w fun e w' => e = .returned (.int .u8 (powV a n : Nat)) ∧ Below w.heap.size w w' := by
  by_cases hn : n = 0
  · subst hn
    exact (pow_zero a w).mono fun e w' ⟨he, hw⟩ => ⟨he, hw ▸ Below.refl _ _⟩
  · rcases Nat.eq_zero_or_pos a with h0 | h0
    · subst h0
      refine (pow_base0 n w hn).mono fun e w' ⟨he, hw⟩ => ⟨?_, hw ▸ Below.refl _ _⟩
      rw [he, show powV 0 n = 0 by unfold powV; rw [if_neg hn, if_pos rfl]]; rfl
    · exact pow_pos a n w h0 ha hn
end Go.Proofs.Ytfiecgijfolfbaa
