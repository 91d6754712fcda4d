/- Several texts in one, each over the last: Needle maps as values and in memory: eight slices and two numbers. The needle map's small functions: walks. The needle map's Valid, the reference's Stripe, bytes and Valid: walks. The reference's Valid of needle maps: the walk. The needle map's clone: the walk. slices.Grow of nil and slices.Concat of the stripes: walks. The needle map's Items, Len and Get: walks. -/
import Derived.Test.YtenkeodfijladaaGreatDoorNm
import Derived.Test.YtenkeodfijladaaGreatDoorIt
import Derived.Test.YtenkeodfijladaaGreatDoorBx
import Derived.Test.YtenkeodfijladaaGreatDoorGY
import Derived.Test.YtenkeodfijladaaGreatDoorIv
import Derived.Test.YtenkeodfijladaaGreatDoorFi
import Derived.Test.YtenkeodfijladaaGreatDoorGW
import Derived.Lib.AppendZeros
import Derived.Test.YtenkeodfijladaaGreatDoorGT
import Derived.Test.YtenkeodfijladaaGreatDoorRf
namespace Go.Proofs.YtenkeodfijladaaGreatDoor
open Go.RowKit

/-- Eight slices. -/
structure Sl where
  a : Nat → Option Addr
  n : Nat → Nat
  c : Nat → Nat
def Sl.v (s : Sl) (i : Nat) : Value := .slice (s.a i) (s.n i) (s.c i)
def Sl.set (s : Sl) (k : Nat) (a : Option Addr) (n c : Nat) : Sl := ⟨fun i => if i = k then a else s.a i, fun i => if i = k then n else s.n i, fun i => if i = k then c else s.c i⟩
def Sl.nil : Sl := ⟨fun _ => none, fun _ => 0, fun _ => 0⟩
theorem Sl.set_v (s : Sl) (k : Nat) (a : Option Addr) (n c i : Nat) : (s.set k a n c).v i = if i = k then .slice a n c else s.v i := by
  unfold Sl.set Sl.v
  by_cases h : i = k
  · simp [h]
  · simp [h]
abbrev mapC (s : Sl) (l g : Int) : Array Value := #[.slice (s.a 0) (s.n 0) (s.c 0), .slice (s.a 1) (s.n 1) (s.c 1), .slice (s.a 2) (s.n 2) (s.c 2), .slice (s.a 3) (s.n 3) (s.c 3), .slice (s.a 4) (s.n 4) (s.c 4), .slice (s.a 5) (s.n 5) (s.c 5), .slice (s.a 6) (s.n 6) (s.c 6), .slice (s.a 7) (s.n 7) (s.c 7), .int .i64 l, .int .i64 g]
abbrev mapV (s : Sl) (l g : Int) : Value := .agg (mapC s l g)
abbrev strC (s : Sl) : Array Value := #[.slice (s.a 0) (s.n 0) (s.c 0), .slice (s.a 1) (s.n 1) (s.c 1), .slice (s.a 2) (s.n 2) (s.c 2), .slice (s.a 3) (s.n 3) (s.c 3), .slice (s.a 4) (s.n 4) (s.c 4), .slice (s.a 5) (s.n 5) (s.c 5), .slice (s.a 6) (s.n 6) (s.c 6), .slice (s.a 7) (s.n 7) (s.c 7)]
/-- The stripes, for reading. -/
def RdM (w : World) (s : Sl) (f : Nat → List It) : Prop := ∀ i, i < 8 → RdT w (s.v i) (f i)
theorem RdM.below {w w' : World} {s : Sl} {f : Nat → List It} (h : RdM w s f) (hb : Below w.heap.size w w') : RdM w' s f := fun i hi => (h i hi).below hb
theorem RdM.n {w : World} {s : Sl} {f : Nat → List It} (h : RdM w s f) {i : Nat} (hi : i < 8) : s.n i = (f i).length := by
  obtain ⟨a, c, e, _, _⟩ := (h i hi).shape
  injection e
theorem RdM.set {w : World} {s : Sl} {f : Nat → List It} (h : RdM w s f) {k : Nat} {a : Option Addr} {n c : Nat} {l : List It} (hl : RdT w (.slice a n c) l) : RdM w (s.set k a n c) (fun i => if i = k then l else f i) := fun i hi => by
  show RdT w ((s.set k a n c).v i) (if i = k then l else f i)
  rw [Sl.set_v]
  by_cases e : i = k
  · rw [if_pos e, if_pos e]; exact hl
  · rw [if_neg e, if_neg e]; exact h i hi
/-- A map in a block of its own. -/
structure BoxM (W : World) (b : Nat) (s : Sl) (l g : Int) : Prop where
  c : ∀ j, j < 8 → W.cell? ⟨b, j, none⟩ = some (s.v j)
  cl : W.cell? ⟨b, 8, none⟩ = some (.int .i64 l)
  cg : W.cell? ⟨b, 9, none⟩ = some (.int .i64 g)
  f : ∀ i, W.frozen? ⟨b, i, none⟩ = false
theorem lt8 {j : Nat} (h : j < 8) : j = 0 ∨ j = 1 ∨ j = 2 ∨ j = 3 ∨ j = 4 ∨ j = 5 ∨ j = 6 ∨ j = 7 := by omega
theorem BoxM.new (W : World) (s : Sl) (l g : Int) (t : TypeId) : BoxM (W.alloc (.cells (mapC s l g) t)) W.heap.size s l g :=
  ⟨fun j hj => by rcases lt8 hj with h | h | h | h | h | h | h | h <;> subst h <;> simp [Sl.v], by simp, by simp, fun i => by simp⟩
theorem BoxM.keep {W W' : World} {b B : Nat} {s : Sl} {l g : Int} (h : BoxM W b s l g) (hb : b < B) (hB : Below B W W') : BoxM W' b s l g :=
  ⟨fun j hj => (hB.cell (p := ⟨b, j, none⟩) hb).trans (h.c j hj), (hB.cell (p := ⟨b, 8, none⟩) hb).trans h.cl, (hB.cell (p := ⟨b, 9, none⟩) hb).trans h.cg, fun i => (hB.frozen (p := ⟨b, i, none⟩) hb).trans (h.f i)⟩
theorem BoxM.lt {W : World} {b : Nat} {s : Sl} {l g : Int} (h : BoxM W b s l g) : b < W.heap.size := World.block_lt_of_cell? W _ h.cl
theorem BoxM.below {W W' : World} {b : Nat} {s : Sl} {l g : Int} (h : BoxM W b s l g) (hB : Below W.heap.size W W') : BoxM W' b s l g := h.keep h.lt hB
theorem BoxM.setS {W : World} {b : Nat} {s : Sl} {l g : Int} (h : BoxM W b s l g) {k : Nat} (hk : k < 8) (a : Option Addr) (n c : Nat) : BoxM (W.setCell ⟨b, k, none⟩ (.slice a n c)) b (s.set k a n c) l g := by
  have hkc := h.c k hk
  refine ⟨fun j hj => ?_, ?_, ?_, fun i => by simp [h.f]⟩
  · rw [Sl.set_v]
    by_cases e : j = k
    · subst e; rw [if_pos rfl]; simp [go_sem, hkc]
    · rw [if_neg e]
      have := h.c j hj
      simp [go_sem, this]
  · have := h.cl
    simp [go_sem, this]
  · have := h.cg
    simp [go_sem, this]
end Go.Proofs.YtenkeodfijladaaGreatDoor

namespace Go.Proofs.YtenkeodfijladaaGreatDoor
open Go.RowKit

theorem stripe_any (key : Int) (w : World) : Calls Tryz.prog 58 #[.int .u64 key] w fun e w' => e = .returned (.int .i64 (strp key : Int)) ∧ w = w' := by
  have h1 : IntKind.u64.wrap (key * 11400714819323198485) = key * 11400714819323198485 % 18446744073709551616 := by simp [IntKind.wrap, IntKind.signed, IntKind.bits]
  have h2 : (strp key : Int) = key * 11400714819323198485 % 18446744073709551616 / 2305843009213693952 := by unfold strp; omega
  go_enter Tryz.func58, Tryz.ntmps58
  go_wp2_with fail
  go_ret
  exact ⟨ret_int h2.symm, rfl⟩
theorem new_any (w : World) : Calls Tryz.prog 50 #[] w fun e w' => e = .returned (mapV Sl.nil 0 0) ∧ Below w.heap.size w w' := by
  go_enter Tryz.func50, Tryz.ntmps50
  go_wp2_with fail
  exact bodyPost_ret (v := mapV Sl.nil 0 0) (by simp [results, Tryz.results50, go_sem, Sl.nil]) rfl ⟨rfl, (Below.refl _ _).alloc (Nat.le_refl _) _⟩
theorem nsizeZ (z : Int) (w : World) : Calls Tryz.prog 29 #[.int .i64 z] w fun e w' => (∃ n : Nat, e = .returned (.int .i64 (n : Int)) ∧ n ≤ 4127 ∧ (0 ≤ z → n = szN z.toNat)) ∧ w = w' := by
  by_cases hz : 0 ≤ z
  · obtain ⟨n, rfl⟩ := Int.eq_ofNat_of_zero_le hz
    refine (nsizeB n w).mono ?_; rintro e w' ⟨rfl, rfl⟩
    exact ⟨⟨szN n, rfl, szN_le n, fun _ => by rw [Int.toNat_natCast]⟩, rfl⟩
  · have hd : decide (z < 0) = true := by simp; omega
    have HS := Lib.hid hz
    clear hz
    go_enter Tryz.func29, Tryz.ntmps29
    go_wp2_with fail
    go_ret
    exact ⟨⟨0, rfl, by omega, fun h => by have := HS.out; omega⟩, rfl⟩
theorem length_any (x : It) (w : World) : Calls Tryz.prog 61 #[itV x] w fun e w' => (∃ n : Nat, e = .returned (.int .i64 (n : Int)) ∧ n ≤ 4127 ∧ (0 ≤ x.size → n = szN x.size.toNat)) ∧ Below w.heap.size w w' := by
  have HZ := Lib.hid (fun W => nsizeZ x.size W)
  obtain ⟨x0, x1, x2, x3⟩ := x
  dsimp only at HZ
  go_enter Tryz.func61, Tryz.ntmps61
  go_wp2_with fail
  refine (HZ.out _).mono ?_; rintro e w2 ⟨⟨n, rfl, h1, h2⟩, rfl⟩
  have H1 := Lib.hid h1
  have H2 := Lib.hid h2
  clear h1 h2
  go_wp2_with fail
  go_ret
  exact ⟨⟨n, rfl, H1.out, H2.out⟩, (Below.refl _ _).alloc (Nat.le_refl _) _⟩
theorem counters_any (s : Sl) (l g : Int) (w : World) : Calls Tryz.prog 57 #[mapV s l g] w fun e w' => e = .returned (.complex .f64 (Fx.fb l) (Fx.fb g)) ∧ Below w.heap.size w w' := by
  go_enter Tryz.func57, Tryz.ntmps57
  go_wp2_with fail
  go_ret
  exact ⟨rfl, (Below.refl _ _).alloc (Nat.le_refl _) _⟩
theorem turned_any (n : Nat) (hn : n ≤ 10000) (w : World) : Calls Tryz.prog 60 #[.int .i64 (n : Int)] w fun e w' => e = .returned (.complex .f64 (Fx.fb (-(n : Int))) (Fx.fb n)) ∧ Below w.heap.size w w' := by
  go_enter Tryz.func60, Tryz.ntmps60
  go_wp2_with fail
  go_ret
  exact ⟨rfl, Below.refl _ _⟩
theorem conv_fb (a : Int) (ha : Fx.Small a) : floatToIntVal .f64 (Fx.fb a) .i64 = some a := by
  have h : a.natAbs < 2 ^ 53 := ha
  rw [Fx.p53] at h
  unfold floatToIntVal
  have : (FloatKind.f64.decode (Fx.fb a)).toInt .zero = some a := Fx.toInt_fb a ha
  rw [this]
  simp only [IntKind.min, IntKind.max, IntKind.signed, IntKind.bits]
  rw [if_pos]
  simp; omega
theorem with_any (s : Sl) (l0 g0 l g : Int) (hl : Fx.Small l) (hg : Fx.Small g) (w : World) : Calls Tryz.prog 56 #[mapV s l0 g0, .complex .f64 (Fx.fb l) (Fx.fb g)] w fun e w' => e = .returned (mapV s l g) ∧ Below w.heap.size w w' := by
  have h1 := fun W => run_convert_float_int (P := Tryz.prog) W 100 2 .f64 .i64 (Fx.fb l) l (by kernel_rfl) Tryz.underlying2 (conv_fb l hl)
  have h2 := fun W => run_convert_float_int (P := Tryz.prog) W 100 2 .f64 .i64 (Fx.fb g) g (by kernel_rfl) Tryz.underlying2 (conv_fb g hg)
  generalize Fx.fb l = bl at *
  generalize Fx.fb g = bg at *
  go_enter Tryz.func56, Tryz.ntmps56
  go_wp2_with fail
  exact bodyPost_ret (v := mapV s l g) (by simp [results, Tryz.results56, go_sem]) rfl ⟨rfl, ((Below.refl _ _).alloc (Nat.le_refl _) _).alloc (by simp) _⟩
end Go.Proofs.YtenkeodfijladaaGreatDoor

namespace Go.Proofs.YtenkeodfijladaaGreatDoor
open Go.RowKit

theorem rstripe_any (key : Int) (w : World) : Calls Tryz.prog 97 #[.int .u64 key] w fun e w' => e = .returned (.int .i64 (strp key : Int)) ∧ w = w' := by
  have h1 : IntKind.u64.wrap (key * 11400714819323198485) = key * 11400714819323198485 % 18446744073709551616 := by simp [IntKind.wrap, IntKind.signed, IntKind.bits]
  have h2 : (strp key : Int) = key * 11400714819323198485 % 18446744073709551616 / 2305843009213693952 := by unfold strp; omega
  go_enter Tryz.func97, Tryz.ntmps97
  go_wp2_with fail
  go_ret
  exact ⟨ret_int h2.symm, rfl⟩
theorem rsizeZ (z : Int) (hz : 0 ≤ z) (w : World) : Calls Tryz.prog 35 #[.int .i64 z] w fun e w' => e = .returned (.int .i64 (szN z.toNat : Int)) ∧ w = w' := by
  obtain ⟨n, rfl⟩ := Int.eq_ofNat_of_zero_le hz
  rw [Int.toNat_natCast]
  exact rsizeB n w
theorem sumI_take {T : List It} {n : Nat} (h : n < T.length) : sumI (T.take (n + 1)) = sumI (T.take n) + szN (iat T n).size.toNat := by
  rw [take_snoc h, sumI_append]; rfl
theorem rbytesI_any (v : Value) (l : List It) (w : World) (h : RdT w v l) (hp : ∀ x ∈ l, 0 ≤ x.size) (hs : l.length ≤ 1000000) :
    Calls Tryz.prog 98 #[v] w fun e w' => e = .returned (.int .i64 (sumI l : Int)) ∧ Below w.heap.size w w' := by
  obtain ⟨a, cap, rfl, _, _⟩ := h.shape
  have Hr := Lib.hid h
  have HP := Lib.hid (fun j (h : j < l.length) => hp _ (iat_mem h))
  have HS := Lib.hid (fun j (h : j < l.length) => sumI_take h)
  have HE := Lib.hid (show sumI (l.take l.length) = sumI l by rw [List.take_length])
  have HB := Lib.hid (fun j => show sumI (l.take j) ≤ 4127000000 from by
    have := sumI_le (l.take j)
    rw [List.length_take] at this
    have : min j l.length * 4127 ≤ 1000000 * 4127 := Nat.mul_le_mul_right _ (by omega)
    omega)
  generalize hn : l.length = n at *
  clear h hp hn
  go_enter Tryz.func98, Tryz.ntmps98
  go_wp2_with fail
  go_loopw [3, 4] (fun sv iv W => ∃ i p : Nat, iv = .int .i64 (i : Int) ∧ sv = .int .i64 (p : Int) ∧ i ≤ n ∧ Hid (p = sumI (l.take i)) ∧ Hid (Below w.heap.size w W)) (fun _ iv _ => n - (intOf iv).toNat)
  case atStart => exact ⟨0, 0, by rfl, rfl, Nat.zero_le _, Lib.hid rfl, Lib.hid (Below.refl _ _)⟩
  case round =>
    obtain ⟨i, p, rfl, rfl, hi, Hm, Hb⟩ := hrel
    by_cases hin : i < n
    · obtain ⟨pb, poff, rfl, c0, c1, c2, c3⟩ := (Hr.out.below Hb.out).at hin
      have hS := HS.out i hin
      have hB := HB.out (i + 1)
      have hZ := HP.out i hin
      generalize iat l i = x at *
      obtain ⟨x0, x1, x2, x3⟩ := x
      dsimp only at *
      have HZ := Lib.hid (fun W => rsizeZ x3 hZ W)
      generalize szN x3.toNat = z at *
      rw [hS, ← Hm.out] at hB
      have HN := Lib.hid (show p + z = sumI (l.take (i + 1)) by rw [hS, Hm.out])
      have hpz : IntKind.i64.wrap ((p : Int) + (z : Int)) = ((p + z : Nat) : Int) := (IntWalk.i64_in _ (by omega)).trans (by omega)
      have i1 : (i : Int) < (n : Int) := by omega
      clear hS hZ
      go_wp2_with fail
      refine (HZ.out _).mono ?_; rintro e w2 ⟨rfl, rfl⟩
      go_wp2_with fail
      exact ⟨⟨i + 1, p + z, by go_num, rfl, by omega, HN, Hb⟩, by simp [intOf]; omega⟩
    · obtain rfl : i = n := by omega
      have HF := Lib.hid (Hm.out.trans HE.out)
      go_wp2_with fail
      go_ret
      exact ⟨ret_int (by rw [HF.out]), Hb.out⟩
set_option maxRecDepth 100000 in
/-- Index of a value of eight slices. -/
theorem run_idx8 (s : Sl) {i : Nat} (hi : i < 8) (W : World) : (Instr.index 23 (.agg (strC s)) (.int .i64 (i : Int))).run Tryz.prog W = .ok (s.v i) W := by
  rcases lt8 hi with h | h | h | h | h | h | h | h <;> subst h <;> rfl
theorem vldM_no {M : Mp} {i : Nat} (hi : i < 8) (h : okS M i = false) : vldM M = false := by
  unfold vldM
  have : (List.range 8).all (okS M) = false := by
    rw [List.all_eq_false]
    exact ⟨i, List.mem_range.2 hi, by rw [h]; simp⟩
  rw [this]; rfl
theorem vldM_all {M : Mp} (h : ∀ i, i < 8 → okS M i = true) : vldM M = ((M.live == (sumI (allM M) : Int)) && decide (0 ≤ M.garb) && decide (M.garb ≤ 1099511627776)) := by
  unfold vldM
  have : (List.range 8).all (okS M) = true := List.all_eq_true.2 fun i hi => h i (List.mem_range.1 hi)
  rw [this, Bool.true_and]
theorem okS_no1 {M : Mp} {i : Nat} (h : vldB (M.st i) = false) : okS M i = false := by unfold okS; rw [h]; rfl
theorem okS_no2 {M : Mp} {i j : Nat} (hj : j < (M.st i).length) (h : strp (iat (M.st i) j).key ≠ i) : okS M i = false := by
  unfold okS
  rw [all_false hj (by simpa using h), Bool.and_false]
theorem okS_yes {M : Mp} {i : Nat} (h : vldB (M.st i) = true) (h2 : ∀ j, j < (M.st i).length → strp (iat (M.st i) j).key = i) : okS M i = true := by
  unfold okS
  rw [h, all_true fun j hj => by simpa using h2 j hj]; rfl
theorem cat_le {M : Mp} {B : Nat} (h : ∀ i, i < 8 → (M.st i).length ≤ B) : ∀ n, n ≤ 8 → (cat M.st n).length ≤ n * B
  | 0, _ => by simp [cat]
  | n + 1, hn => by
    have ih := cat_le h n (by omega)
    show (cat M.st n ++ M.st n).length ≤ _
    rw [List.length_append, Nat.succ_mul]
    have := h n (by omega)
    omega
theorem vld_size {l : List It} (h : vldB l = true) : ∀ x ∈ l, 0 ≤ x.size := fun x hx => ((vldB_iff.1 h).2 x hx).2.2.2.1
set_option maxRecDepth 100000 in
set_option maxHeartbeats 8000000 in
theorem validM_any (s : Sl) (M : Mp) (w : World) (h : RdM w s M.st) (hs : ∀ i, i < 8 → (M.st i).length ≤ 100000) :
    Calls Tryz.prog 51 #[mapV s M.live M.garb] w fun e w' => e = .returned (.bool (vldM M)) ∧ Below w.heap.size w w' := by
  have Hr := Lib.hid h
  have HV := Lib.hid (fun i (hi : i < 8) W (hb : Below w.heap.size w W) => vld_any (s.v i) (M.st i) W ((h i hi).below hb))
  have HI := Lib.hid (fun i (hi : i < 8) => run_idx8 s hi)
  have HL := Lib.hid (fun i (hi : i < 8) => h.n hi)
  have HSz := Lib.hid hs
  have HNo := Lib.hid (fun i (hi : i < 8) (h : okS M i = false) => vldM_no hi h)
  have HAll := Lib.hid (fun h => vldM_all (M := M) h)
  have HTot := Lib.hid (fun n (hn : n ≤ 8) => show sumI (cat M.st n) ≤ 3301600000 from by
    have h1 := cat_le hs n hn
    have h2 := sumI_le (cat M.st n)
    have : (cat M.st n).length * 4127 ≤ (8 * 100000) * 4127 := Nat.mul_le_mul_right _ (Nat.le_trans h1 (Nat.mul_le_mul_right _ hn))
    omega)
  have HA := Lib.hid (show allM M = cat M.st 8 from rfl)
  clear h hs
  obtain ⟨f, L, G⟩ := M
  dsimp only at *
  go_enter Tryz.func51, Tryz.ntmps51
  go_wp2_with fail
  obtain ⟨W0, hW0, HB0, HL0, HG0⟩ : ∃ W0, w.alloc (.cells (mapC s L G) 41) = W0 ∧ Hid (Below w.heap.size w W0) ∧ Hid (W0.cell? ⟨w.heap.size, 8, none⟩ = some (.int .i64 L)) ∧ Hid (W0.cell? ⟨w.heap.size, 9, none⟩ = some (.int .i64 G)) := ⟨_, rfl, Lib.hid ((Below.refl _ _).alloc (Nat.le_refl _) _), Lib.hid (by simp), Lib.hid (by simp)⟩
  try rw [hW0]
  clear hW0
  go_loopw [3, 10] (fun lv iv W => ∃ i p : Nat, iv = .int .i64 (i : Int) ∧ lv = .int .i64 (p : Int) ∧ i ≤ 8 ∧ Hid (∀ j, j < i → okS ⟨f, L, G⟩ j = true) ∧ Hid (p = sumI (cat f i)) ∧ Hid (Below W0.heap.size W0 W)) (fun _ iv _ => 8 - (intOf iv).toNat)
  case atStart => exact ⟨0, 0, rfl, rfl, Nat.zero_le _, Lib.hid (fun j hj => by omega), Lib.hid rfl, Lib.hid (Below.refl _ _)⟩
  case round =>
    obtain ⟨i, p, rfl, rfl, hi, Hok, Hp, HB⟩ := hrel
    by_cases hin : i < 8
    · have i1 : (i : Int) < 8 := by omega
      have hI := HI.out i hin
      have hL := HL.out i hin
      have HBi := Lib.hid (bstep HB0.out HB.out)
      have HVi := Lib.hid (HV.out i hin wr HBi.out)
      have HRi := Lib.hid ((Hr.out i hin).below HBi.out)
      have hvi : s.v i = .slice (s.a i) (s.n i) (s.c i) := rfl
      rw [hvi] at HVi HRi hI
      have HSi := HSz.out i hin
      have hT := HTot.out (i + 1) (by omega)
      have hcs : cat f (i + 1) = cat f i ++ f i := rfl
      rw [hcs, sumI_append, ← Hp.out] at hT
      have HCs := Lib.hid (show sumI (cat f (i + 1)) = p + sumI (f i) by rw [hcs, sumI_append, Hp.out])
      rw [hL] at HVi HRi hI
      generalize s.a i = sa at *
      generalize s.c i = sc at *
      have HNi := Lib.hid (HNo.out i hin)
      have HY := Lib.hid (fun h1 h2 => okS_yes (M := ⟨f, L, G⟩) (i := i) h1 h2)
      have HN1 := Lib.hid (fun h => HNi.out (okS_no1 (M := ⟨f, L, G⟩) (i := i) h))
      have HN2 := Lib.hid (fun j h1 h2 => HNi.out (okS_no2 (M := ⟨f, L, G⟩) (i := i) (j := j) h1 h2))
      have HSt := Lib.hid (fun j (h : j < (f i).length) => sumI_take h)
      have HSe := Lib.hid (show sumI ((f i).take (f i).length) = sumI (f i) by rw [List.take_length])
      have HSz2 := Lib.hid (fun j => show sumI ((f i).take j) ≤ sumI (f i) from by
        have : sumI ((f i).take j ++ (f i).drop j) = sumI (f i) := by rw [List.take_append_drop]
        rw [sumI_append] at this; omega)
      have HVs := Lib.hid (fun h => vld_size (l := f i) h)
      dsimp only at HY HN1 HN2
      generalize f i = l at *
      clear hL hvi hcs HNi
      by_cases hv : vldB l = true
      · rw [hv] at HVi
        have HVs2 := Lib.hid (fun j (h : j < l.length) => HVs.out hv _ (iat_mem h))
        generalize hn : l.length = n at *
        clear hn
        go_wp2_with fail
        refine HVi.out.mono ?_; rintro e w2 ⟨rfl, hb2⟩
        have HB2 := Lib.hid (bstep HB.out hb2)
        have HR2 := Lib.hid (HRi.out.below hb2)
        clear hb2 HVi HBi HB HRi
        go_wp2_with fail
        go_loopw [3, 19] (fun lv jv W => ∃ j q : Nat, jv = .int .i64 (j : Int) ∧ lv = .int .i64 ((p + q : Nat) : Int) ∧ j ≤ n ∧ Hid (∀ r, r < j → strp (iat l r).key = i) ∧ Hid (q = sumI (l.take j)) ∧ Hid (Below w2.heap.size w2 W)) (fun _ jv _ => n - (intOf jv).toNat)
        case atStart => exact ⟨0, 0, rfl, rfl, Nat.zero_le _, Lib.hid (fun j hj => by omega), Lib.hid rfl, Lib.hid (Below.refl _ _)⟩
        case round =>
          obtain ⟨j, q, rfl, rfl, hj, Hks, Hq, HBj⟩ := hrel
          by_cases hjn : j < n
          · obtain ⟨pb, poff, rfl, c0, c1, c2, c3⟩ := (HR2.out.below HBj.out).at hjn
            have i2 : (j : Int) < (n : Int) := by omega
            have hSt := HSt.out j hjn
            have hS2 := HSz2.out (j + 1)
            have hpos := HVs2.out j hjn
            have HN2j := Lib.hid (HN2.out j hjn)
            have HK := Lib.hid (fun (hk : strp (iat l j).key = i) r (hr : r < j + 1) => show strp (iat l r).key = i from by
              by_cases e : r = j
              · rw [e]; exact hk
              · exact Hks.out r (by omega))
            rw [hSt, ← Hq.out] at hS2
            generalize iat l j = x at *
            have HLn := Lib.hid (fun W => length_any x W)
            have HBx := Lib.hid (show Below wr.heap.size wr (wr.alloc (boxC x)) from below_box wr x)
            have HS := Lib.hid (fun W => stripe_any x.key W)
            generalize hk : strp x.key = k at *
            have hk8 : k < 8 := by rw [← hk]; exact strp_lt _
            obtain ⟨x0, x1, x2, x3⟩ := x
            dsimp only at *
            clear hk
            by_cases hki : k = i
            · have g1 : ((k : Int) != (i : Int)) = false := by rw [bne_eq_false_iff_eq]; omega
              have HK2 := Lib.hid (HK.out hki)
              clear hki HN2j HK
              go_wp2_with fail
              refine (HS.out _).mono ?_; rintro e w3 ⟨rfl, rfl⟩
              go_wp2_with fail
              refine (HLn.out _).mono ?_; rintro e w4 ⟨⟨z, rfl, hz, hz2⟩, hb4⟩
              have hz3 := hz2 hpos
              have HB4 := Lib.hid (bstep HBj.out (bstep HBx.out hb4))
              have HQ := Lib.hid (show q + z = sumI (l.take (j + 1)) by rw [hSt, Hq.out, hz3])
              rw [← hz3] at hS2
              have hw : IntKind.i64.wrap (((p + q : Nat) : Int) + (z : Int)) = ((p + (q + z) : Nat) : Int) := (IntWalk.i64_in _ (by omega)).trans (by omega)
              rw [Int.natCast_add] at hw
              clear hb4 hz2 hz3 hSt
              go_wp2_with fail
              exact ⟨⟨j + 1, q + z, by go_num, by simp, by omega, HK2, HQ, HB4⟩, by simp [intOf]; omega⟩
            · have g1 : ((k : Int) != (i : Int)) = true := bne_iff_ne.2 (by omega)
              have HF := Lib.hid (HN2j.out hki)
              have HBz := Lib.hid (bstep HB0.out (bstep HB2.out (bstep HBj.out HBx.out)))
              clear hki HN2j HK
              go_wp2_with fail
              refine (HS.out _).mono ?_; rintro e w3 ⟨rfl, rfl⟩
              go_wp2_with fail
              go_ret
              exact ⟨ret_bool HF.out.symm, HBz.out⟩
          · obtain rfl : j = n := by omega
            have HOk2 := Lib.hid (show ∀ r, r < i + 1 → okS ⟨f, L, G⟩ r = true from fun r hr => by
              by_cases e : r = i
              · rw [e]; exact HY.out hv Hks.out
              · exact Hok.out r (by omega))
            have HP2 := Lib.hid (show p + q = sumI (cat f (i + 1)) by rw [HCs.out, Hq.out, HSe.out])
            have HBz := Lib.hid (bstep HB2.out HBj.out)
            go_wp2_with fail
            exact ⟨⟨i + 1, p + q, by go_num, by simp, by omega, HOk2, HP2, HBz⟩, by simp [intOf]; omega⟩
      · have hv' : vldB l = false := by simpa using hv
        have HF := Lib.hid (HN1.out hv')
        rw [hv'] at HVi
        generalize l.length = n at *
        go_wp2_with fail
        refine HVi.out.mono ?_; rintro e w2 ⟨rfl, hb2⟩
        have HB2 := Lib.hid (bstep HBi.out hb2)
        clear hb2
        go_wp2_with fail
        go_ret
        exact ⟨ret_bool HF.out.symm, HB2.out⟩
    · obtain rfl : i = 8 := by omega
      have hall := HAll.out Hok.out
      rw [HA.out] at hall
      rw [← Hp.out] at hall
      have HF := Lib.hid hall
      have e8 := Below.keeps HB.out _ _ HL0.out
      have e9 := Below.keeps HB.out _ _ HG0.out
      have HBz := Lib.hid (bstep HB0.out HB.out)
      clear hall
      by_cases g1 : L = (p : Int)
      · have q1 : (L == (p : Int)) = true := beq_iff_eq.2 g1
        rw [q1] at HF
        by_cases g2 : 0 ≤ G
        · have q2 : decide (0 ≤ G) = true := by simpa using g2
          rw [q2] at HF
          clear g1
          go_wp2_with fail
          go_ret
          exact ⟨ret_bool (by rw [HF.out]; simp), HBz.out⟩
        · have q2 : decide (0 ≤ G) = false := by simpa using g2
          rw [q2] at HF
          clear g1
          go_wp2_with fail
          go_ret
          exact ⟨ret_bool (by rw [HF.out]; simp), HBz.out⟩
      · have q1 : (L == (p : Int)) = false := beq_eq_false_iff_ne.2 g1
        rw [q1] at HF
        go_wp2_with fail
        go_ret
        exact ⟨ret_bool (by rw [HF.out]; simp), HBz.out⟩
end Go.Proofs.YtenkeodfijladaaGreatDoor

namespace Go.Proofs.YtenkeodfijladaaGreatDoor
open Go.RowKit

theorem below_map (w : World) (s : Sl) (l g : Int) (t : TypeId) : Below w.heap.size w (w.alloc (.cells (mapC s l g) t)) := (Below.refl _ _).alloc (Nat.le_refl _) _
set_option maxRecDepth 100000 in
set_option maxHeartbeats 8000000 in
theorem rvalidM_any (s : Sl) (M : Mp) (w : World) (h : RdM w s M.st) (hs : ∀ i, i < 8 → (M.st i).length ≤ 100000) :
    Calls Tryz.prog 66 #[mapV s M.live M.garb] w fun e w' => e = .returned (.bool (vldM M)) ∧ Below w.heap.size w w' := by
  have Hr := Lib.hid h
  have HV := Lib.hid (fun i (hi : i < 8) W (hb : Below w.heap.size w W) => rvld_any (s.v i) (M.st i) W ((h i hi).below hb))
  have HL := Lib.hid (fun i (hi : i < 8) => h.n hi)
  have HSz := Lib.hid hs
  have HNo := Lib.hid (fun i (hi : i < 8) (h : okS M i = false) => vldM_no hi h)
  have HAll := Lib.hid (fun h => vldM_all (M := M) h)
  have HTot := Lib.hid (fun n (hn : n ≤ 8) => show sumI (cat M.st n) ≤ 3301600000 from by
    have h1 := cat_le hs n hn
    have h2 := sumI_le (cat M.st n)
    have : (cat M.st n).length * 4127 ≤ (8 * 100000) * 4127 := Nat.mul_le_mul_right _ (Nat.le_trans h1 (Nat.mul_le_mul_right _ hn))
    omega)
  have HA := Lib.hid (show allM M = cat M.st 8 from rfl)
  clear h hs
  obtain ⟨f, L, G⟩ := M
  dsimp only at *
  have HBx := Lib.hid (BoxM.new w s L G 25)
  have HB0 := Lib.hid (below_map w s L G 25)
  go_enter Tryz.func66, Tryz.ntmps66
  go_wp2_with fail
  obtain ⟨W0, hW0⟩ : ∃ W0, w.alloc (.cells (mapC s L G) 25) = W0 := ⟨_, rfl⟩
  rw [hW0] at HBx HB0
  try rw [hW0]
  clear hW0
  go_loopw [3, 4] (fun lv iv W => ∃ i p : Nat, iv = .int .i64 (i : Int) ∧ lv = .int .i64 (p : Int) ∧ i ≤ 8 ∧ Hid (∀ j, j < i → okS ⟨f, L, G⟩ j = true) ∧ Hid (p = sumI (cat f i)) ∧ Hid (Below W0.heap.size W0 W)) (fun _ iv _ => 8 - (intOf iv).toNat)
  case atStart => exact ⟨0, 0, rfl, rfl, Nat.zero_le _, Lib.hid (fun j hj => by omega), Lib.hid rfl, Lib.hid (Below.refl _ _)⟩
  case round =>
    obtain ⟨i, p, rfl, rfl, hi, Hok, Hp, HB⟩ := hrel
    have HBi := Lib.hid (show Below w.heap.size w wr from bstep HB0.out HB.out)
    by_cases hin : i < 8
    · have i1 : (i : Int) < 8 := by omega
      have hL := HL.out i hin
      have HVi := Lib.hid (HV.out i hin wr HBi.out)
      have HRi := Lib.hid ((Hr.out i hin).below HBi.out)
      have hvi : s.v i = .slice (s.a i) (s.n i) (s.c i) := rfl
      have ci := HBx.out.c i hin
      rw [hvi] at HVi HRi ci
      have hT := HTot.out (i + 1) (by omega)
      have hcs : cat f (i + 1) = cat f i ++ f i := rfl
      rw [hcs, sumI_append, ← Hp.out] at hT
      have HCs := Lib.hid (show sumI (cat f (i + 1)) = p + sumI (f i) by rw [hcs, sumI_append, Hp.out])
      rw [hL] at HVi HRi ci
      generalize s.a i = sa at *
      generalize s.c i = sc at *
      have HNi := Lib.hid (HNo.out i hin)
      have HY := Lib.hid (fun h1 h2 => okS_yes (M := ⟨f, L, G⟩) (i := i) h1 h2)
      have HN1 := Lib.hid (fun h => HNi.out (okS_no1 (M := ⟨f, L, G⟩) (i := i) h))
      have HN2 := Lib.hid (fun j h1 h2 => HNi.out (okS_no2 (M := ⟨f, L, G⟩) (i := i) (j := j) h1 h2))
      have HVs := Lib.hid (fun h => vld_size (l := f i) h)
      have HSi := HSz.out i hin
      dsimp only at HY HN1 HN2
      have HCi := Lib.hid ci
      generalize f i = l at *
      clear hL hvi hcs HNi ci
      by_cases hv : vldB l = true
      · rw [hv] at HVi
        have HBb := Lib.hid (fun a n c W (h : RdT W (.slice a n c) l) => rbytesI_any (.slice a n c) l W h (HVs.out hv) (by omega))
        generalize hn : l.length = n at *
        clear hn
        have c1 := Below.keeps HB.out _ _ HCi.out
        go_wp2_with fail
        refine HVi.out.mono ?_; rintro e w2 ⟨rfl, hb2⟩
        have HB2 := Lib.hid (bstep HB.out hb2)
        have HR2 := Lib.hid (HRi.out.below hb2)
        clear hb2 HVi HB HRi c1
        go_wp2_with fail
        go_loopw [5] (fun jv W => ∃ j : Nat, jv = .int .i64 (j : Int) ∧ j ≤ n ∧ Hid (∀ r, r < j → strp (iat l r).key = i) ∧ Hid (Below w2.heap.size w2 W)) (fun jv _ => n - (intOf jv).toNat)
        case atStart => exact ⟨0, rfl, Nat.zero_le _, Lib.hid (fun j hj => by omega), Lib.hid (Below.refl _ _)⟩
        case round =>
          obtain ⟨j, rfl, hj, Hks, HBj⟩ := hrel
          have c1 := Below.keeps (bstep HB2.out HBj.out) _ _ HCi.out
          by_cases hjn : j < n
          · obtain ⟨pb, poff, rfl, e0, e1, e2, e3⟩ := (HR2.out.below HBj.out).at hjn
            have i2 : (j : Int) < (n : Int) := by omega
            have HN2j := Lib.hid (HN2.out j hjn)
            have HK := Lib.hid (fun (hk : strp (iat l j).key = i) r (hr : r < j + 1) => show strp (iat l r).key = i from by
              by_cases e : r = j
              · rw [e]; exact hk
              · exact Hks.out r (by omega))
            generalize iat l j = x at *
            have HS := Lib.hid (fun W => rstripe_any x.key W)
            generalize hk : strp x.key = k at *
            have hk8 : k < 8 := by rw [← hk]; exact strp_lt _
            obtain ⟨x0, x1, x2, x3⟩ := x
            dsimp only at *
            clear hk
            by_cases hki : k = i
            · have g1 : ((k : Int) != (i : Int)) = false := by rw [bne_eq_false_iff_eq]; omega
              have HK2 := Lib.hid (HK.out hki)
              clear hki HN2j HK
              go_wp2_with fail
              refine (HS.out _).mono ?_; rintro e w3 ⟨rfl, rfl⟩
              go_wp2_with fail
              exact ⟨⟨j + 1, by go_num, by omega, HK2, HBj⟩, by simp [intOf]; omega⟩
            · have g1 : ((k : Int) != (i : Int)) = true := bne_iff_ne.2 (by omega)
              have HF := Lib.hid (HN2j.out hki)
              have HBz := Lib.hid (show Below w.heap.size w wr from bstep HB0.out (bstep HB2.out HBj.out))
              clear hki HN2j HK
              go_wp2_with fail
              refine (HS.out _).mono ?_; rintro e w3 ⟨rfl, rfl⟩
              go_wp2_with fail
              go_ret
              exact ⟨ret_bool HF.out.symm, HBz.out⟩
          · obtain rfl : j = n := by omega
            have HOk2 := Lib.hid (show ∀ r, r < i + 1 → okS ⟨f, L, G⟩ r = true from fun r hr => by
              by_cases e : r = i
              · rw [e]; exact HY.out hv Hks.out
              · exact Hok.out r (by omega))
            have HBy := Lib.hid (HBb.out _ _ _ wr (HR2.out.below HBj.out))
            generalize sumI l = q at *
            have hw : IntKind.i64.wrap ((p : Int) + (q : Int)) = ((p + q : Nat) : Int) := (IntWalk.i64_in _ (by omega)).trans (by omega)
            go_wp2_with fail
            refine HBy.out.mono ?_; rintro e w3 ⟨rfl, hb3⟩
            have HBz := Lib.hid (bstep (bstep HB2.out HBj.out) hb3)
            clear hb3
            go_wp2_with fail
            exact ⟨⟨i + 1, p + q, by go_num, rfl, by omega, HOk2, Lib.hid HCs.out.symm, HBz⟩, by simp [intOf]; omega⟩
      · have hv' : vldB l = false := by simpa using hv
        have HF := Lib.hid (HN1.out hv')
        rw [hv'] at HVi
        generalize l.length = n at *
        have c1 := Below.keeps HB.out _ _ HCi.out
        go_wp2_with fail
        refine HVi.out.mono ?_; rintro e w2 ⟨rfl, hb2⟩
        have HB2 := Lib.hid (bstep HBi.out hb2)
        clear hb2
        go_wp2_with fail
        go_ret
        exact ⟨ret_bool HF.out.symm, HB2.out⟩
    · obtain rfl : i = 8 := by omega
      have hall := HAll.out Hok.out
      rw [HA.out] at hall
      rw [← Hp.out] at hall
      have HF := Lib.hid hall
      have e8 := Below.keeps HB.out _ _ HBx.out.cl
      have e9 := Below.keeps HB.out _ _ HBx.out.cg
      have HBz := HBi
      clear hall
      by_cases g1 : L = (p : Int)
      · have q1 : (L == (p : Int)) = true := beq_iff_eq.2 g1
        rw [q1] at HF
        by_cases g2 : 0 ≤ G
        · have q2 : decide (0 ≤ G) = true := by simpa using g2
          rw [q2] at HF
          clear g1
          go_wp2_with fail
          go_ret
          exact ⟨ret_bool (by rw [HF.out]; simp), HBz.out⟩
        · have q2 : decide (0 ≤ G) = false := by simpa using g2
          rw [q2] at HF
          clear g1
          go_wp2_with fail
          go_ret
          exact ⟨ret_bool (by rw [HF.out]; simp), HBz.out⟩
      · have q1 : (L == (p : Int)) = false := beq_eq_false_iff_ne.2 g1
        rw [q1] at HF
        go_wp2_with fail
        go_ret
        exact ⟨ret_bool (by rw [HF.out]; simp), HBz.out⟩
end Go.Proofs.YtenkeodfijladaaGreatDoor

namespace Go.Proofs.YtenkeodfijladaaGreatDoor
open Go.RowKit

/-- A whole map stored. -/
def putM (W : World) (b : Nat) (s : Sl) (l g : Int) : World :=
  (((((((((W.setCell ⟨b, 0, none⟩ (.slice (s.a 0) (s.n 0) (s.c 0))).setCell ⟨b, 1, none⟩ (.slice (s.a 1) (s.n 1) (s.c 1))).setCell ⟨b, 2, none⟩ (.slice (s.a 2) (s.n 2) (s.c 2))).setCell ⟨b, 3, none⟩ (.slice (s.a 3) (s.n 3) (s.c 3))).setCell ⟨b, 4, none⟩ (.slice (s.a 4) (s.n 4) (s.c 4))).setCell ⟨b, 5, none⟩ (.slice (s.a 5) (s.n 5) (s.c 5))).setCell ⟨b, 6, none⟩ (.slice (s.a 6) (s.n 6) (s.c 6))).setCell ⟨b, 7, none⟩ (.slice (s.a 7) (s.n 7) (s.c 7))).setCell ⟨b, 8, none⟩ (.int .i64 l)).setCell ⟨b, 9, none⟩ (.int .i64 g)
theorem BoxM.all {W : World} {b : Nat} {s : Sl} {l g : Int} (h : BoxM W b s l g) (s' : Sl) (l' g' : Int) : BoxM (putM W b s' l' g') b s' l' g' := by
  have c0 := h.c 0 (by decide)
  have c1 := h.c 1 (by decide)
  have c2 := h.c 2 (by decide)
  have c3 := h.c 3 (by decide)
  have c4 := h.c 4 (by decide)
  have c5 := h.c 5 (by decide)
  have c6 := h.c 6 (by decide)
  have c7 := h.c 7 (by decide)
  have c8 := h.cl
  have c9 := h.cg
  refine ⟨fun j hj => ?_, ?_, ?_, fun i => by simp [putM, h.f]⟩
  · rcases lt8 hj with e | e | e | e | e | e | e | e <;> subst e <;> simp [putM, go_sem, c0, c1, c2, c3, c4, c5, c6, c7, Sl.v]
  · simp [putM, go_sem, c8]
  · simp [putM, go_sem, c9]
theorem putM_below {B b : Nat} {w0 W : World} (h : Below B w0 W) (hb : B ≤ b) (s : Sl) (l g : Int) : Below B w0 (putM W b s l g) :=
  (((((((((h.setCell hb _).setCell hb _).setCell hb _).setCell hb _).setCell hb _).setCell hb _).setCell hb _).setCell hb _).setCell hb _).setCell hb _
theorem BoxM.set_ne {W : World} {b : Nat} {s : Sl} {l g : Int} (h : BoxM W b s l g) {p : Addr} (hp : p.block ≠ b) (u : Value) : BoxM (W.setCell p u) b s l g := by
  have ne : ∀ i, p ≠ ⟨b, i, none⟩ := fun i e => hp (by rw [e])
  exact ⟨fun j hj => (World.cell?_setCell_other (h := ne j) ..).trans (h.c j hj), (World.cell?_setCell_other (h := ne 8) ..).trans h.cl, (World.cell?_setCell_other (h := ne 9) ..).trans h.cg, fun i => by simp [h.f]⟩
theorem BoxM.putM_ne {W : World} {b c : Nat} {s : Sl} {l g : Int} (h : BoxM W b s l g) (hp : c ≠ b) (s' : Sl) (l' g' : Int) : BoxM (putM W c s' l' g') b s l g :=
  (((((((((h.set_ne (p := ⟨c, 0, none⟩) hp _).set_ne (p := ⟨c, 1, none⟩) hp _).set_ne (p := ⟨c, 2, none⟩) hp _).set_ne (p := ⟨c, 3, none⟩) hp _).set_ne (p := ⟨c, 4, none⟩) hp _).set_ne (p := ⟨c, 5, none⟩) hp _).set_ne (p := ⟨c, 6, none⟩) hp _).set_ne (p := ⟨c, 7, none⟩) hp _).set_ne (p := ⟨c, 8, none⟩) hp _).set_ne (p := ⟨c, 9, none⟩) hp _
theorem own_set_lo {W : World} {B : Nat} {e : TypeId} {sz n : Nat} {v : Value} {xs : List Value} (h : W.ownsRow B e sz v n xs) {p : Addr} (hp : p.block < B) (u : Value) : (W.setCell p u).ownsRow B e sz v n xs :=
  own_set_ne h (fun e => by have := (World.ownsRow.lt h _ e).1; omega) u
theorem own_putM {W : World} {B b : Nat} {e : TypeId} {sz n : Nat} {v : Value} {xs : List Value} (h : W.ownsRow B e sz v n xs) (hp : b < B) (s : Sl) (l g : Int) : (putM W b s l g).ownsRow B e sz v n xs :=
  own_set_lo (p := ⟨b, 9, none⟩) (own_set_lo (p := ⟨b, 8, none⟩) (own_set_lo (p := ⟨b, 7, none⟩) (own_set_lo (p := ⟨b, 6, none⟩) (own_set_lo (p := ⟨b, 5, none⟩) (own_set_lo (p := ⟨b, 4, none⟩) (own_set_lo (p := ⟨b, 3, none⟩) (own_set_lo (p := ⟨b, 2, none⟩) (own_set_lo (p := ⟨b, 1, none⟩) (own_set_lo (p := ⟨b, 0, none⟩) h hp _) hp _) hp _) hp _) hp _) hp _) hp _) hp _) hp _) hp _
/-- The stripes, of the call's own. -/
def OwnM (w : World) (B : Nat) (s : Sl) (f : Nat → List It) : Prop := ∀ i, i < 8 → OwnT w B (s.v i) (f i)
theorem OwnM.rd {w : World} {B : Nat} {s : Sl} {f : Nat → List It} (h : OwnM w B s f) : RdM w s f := fun i hi => (h i hi).rd
theorem OwnM.keep {w w' : World} {B : Nat} {s : Sl} {f : Nat → List It} (h : OwnM w B s f) (hb : Below w.heap.size w w') : OwnM w' B s f := fun i hi => own_keep (h i hi) hb
theorem OwnM.mono {w : World} {B B' : Nat} {s : Sl} {f : Nat → List It} (h : OwnM w B s f) (hb : B' ≤ B) : OwnM w B' s f := fun i hi => World.ownsRow.mono (h i hi) hb
theorem OwnM.putM {w : World} {B b : Nat} {s : Sl} {f : Nat → List It} (h : OwnM w B s f) (hb : b < B) (s' : Sl) (l g : Int) : OwnM (putM w b s' l g) B s f := fun i hi => own_putM (h i hi) hb s' l g
theorem OwnM.nil (w : World) (B : Nat) : OwnM w B Sl.nil (fun _ => []) := fun _ _ => World.ownsRow_nil _ _ _ _
theorem OwnM.set {w : World} {B : Nat} {s : Sl} {f : Nat → List It} (h : OwnM w B s f) {k : Nat} {a : Option Addr} {n c : Nat} {l : List It} (hl : OwnT w B (.slice a n c) l) : OwnM w B (s.set k a n c) (fun i => if i = k then l else f i) := fun i hi => by
  show OwnT w B ((s.set k a n c).v i) (if i = k then l else f i)
  rw [Sl.set_v]
  by_cases e : i = k
  · rw [if_pos e, if_pos e]; exact hl
  · rw [if_neg e, if_neg e]; exact h i hi
section
variable {W : World} {b : Nat} {s : Sl} {l g : Int} (h : BoxM W b s l g)
include h
theorem BoxM.c0 : W.cell? ⟨b, 0, none⟩ = some (.slice (s.a 0) (s.n 0) (s.c 0)) := h.c 0 (by decide)
theorem BoxM.c1 : W.cell? ⟨b, 1, none⟩ = some (.slice (s.a 1) (s.n 1) (s.c 1)) := h.c 1 (by decide)
theorem BoxM.c2 : W.cell? ⟨b, 2, none⟩ = some (.slice (s.a 2) (s.n 2) (s.c 2)) := h.c 2 (by decide)
theorem BoxM.c3 : W.cell? ⟨b, 3, none⟩ = some (.slice (s.a 3) (s.n 3) (s.c 3)) := h.c 3 (by decide)
theorem BoxM.c4 : W.cell? ⟨b, 4, none⟩ = some (.slice (s.a 4) (s.n 4) (s.c 4)) := h.c 4 (by decide)
theorem BoxM.c5 : W.cell? ⟨b, 5, none⟩ = some (.slice (s.a 5) (s.n 5) (s.c 5)) := h.c 5 (by decide)
theorem BoxM.c6 : W.cell? ⟨b, 6, none⟩ = some (.slice (s.a 6) (s.n 6) (s.c 6)) := h.c 6 (by decide)
theorem BoxM.c7 : W.cell? ⟨b, 7, none⟩ = some (.slice (s.a 7) (s.n 7) (s.c 7)) := h.c 7 (by decide)
end
set_option maxRecDepth 100000 in
set_option maxHeartbeats 8000000 in
theorem cloneM_any (s : Sl) (L G : Int) (f : Nat → List It) (w : World) (h : RdM w s f) (hs : ∀ i, i < 8 → (f i).length ≤ 100000) :
    Calls Tryz.prog 55 #[mapV s L G] w fun e w' => (∃ s', e = .returned (mapV s' L G) ∧ OwnM w' w.heap.size s' f) ∧ Below w.heap.size w w' := by
  have Hr := Lib.hid h
  have HC := Lib.hid (fun i (hi : i < 8) W (hb : Below w.heap.size w W) => clone_any (s.v i) (f i) W ((h i hi).below hb) (Nat.le_trans (hs i hi) (by decide)))
  have HI := Lib.hid (fun i (hi : i < 8) => run_idx8 s hi)
  have HL := Lib.hid (fun i (hi : i < 8) => h.n hi)
  clear h hs
  have HBx := Lib.hid ((BoxM.new w s L G 41).below (below_map (w.alloc (.cells (mapC s L G) 41)) Sl.nil 0 0 41))
  have HBy := Lib.hid (BoxM.new (w.alloc (.cells (mapC s L G) 41)) Sl.nil 0 0 41)
  have HB0 := Lib.hid (bstep (below_map w s L G 41) (below_map (w.alloc (.cells (mapC s L G) 41)) Sl.nil 0 0 41))
  rw [show (w.alloc (.cells (mapC s L G) 41)).heap.size = w.heap.size + 1 by simp] at HBy
  go_enter Tryz.func55, Tryz.ntmps55
  go_wp2_with fail
  obtain ⟨W0, hW0⟩ : ∃ W0, (w.alloc (.cells (mapC s L G) 41)).alloc (.cells #[.slice none 0 0, .slice none 0 0, .slice none 0 0, .slice none 0 0, .slice none 0 0, .slice none 0 0, .slice none 0 0, .slice none 0 0, .int .i64 0, .int .i64 0] 41) = W0 := ⟨_, rfl⟩
  have hW1 : (w.alloc (.cells (mapC s L G) 41)).alloc (.cells (mapC Sl.nil 0 0) 41) = W0 := hW0
  rw [hW1] at HBx HBy HB0
  try rw [hW0]
  clear hW0 hW1
  have hs0 : w.heap.size + 2 ≤ W0.heap.size := HBy.out.lt
  have HS0 := Lib.hid hs0
  clear hs0
  go_loopw [7] (fun iv W => ∃ (i : Nat) (q : Sl), iv = .int .i64 (i : Int) ∧ i ≤ 8 ∧ Hid (∀ j, j < i → W.ownsRow (w.heap.size + 2) 77 4 (q.v j) (f j).length (itsC (f j))) ∧ Hid (∀ j, i ≤ j → q.v j = s.v j) ∧ Hid (BoxM W w.heap.size q L G) ∧ Hid (BoxM W (w.heap.size + 1) Sl.nil 0 0) ∧ Hid (Below w.heap.size w W)) (fun iv _ => 8 - (intOf iv).toNat)
  case atStart => exact ⟨0, s, rfl, Nat.zero_le _, Lib.hid (fun j hj => by omega), Lib.hid (fun j _ => rfl), HBx, HBy, HB0⟩
  case round =>
    obtain ⟨i, q, rfl, hi, Hq1, Hq2, HX, HY, HB⟩ := hrel
    by_cases hin : i < 8
    · have i1 : (i : Int) < 8 := by omega
      have hI := HI.out i hin
      have hL := HL.out i hin
      have HCi := Lib.hid (HC.out i hin wr HB.out)
      have hvi : s.v i = .slice (s.a i) (s.n i) (s.c i) := rfl
      rw [hvi] at HCi hI
      rw [hL] at HCi hI
      generalize s.a i = sa at *
      generalize s.c i = sc at *
      clear hvi hL
      go_wp2_with fail
      refine HCi.out.mono ?_; rintro e w2 ⟨v2, rfl, hown2, hb2⟩
      have HB2 := Lib.hid (bstep HB.out hb2)
      have HX2 := Lib.hid (HX.out.below hb2)
      have HY2 := Lib.hid (HY.out.below hb2)
      have HQ2 := Lib.hid (fun j hj => own_keep (Hq1.out j hj) hb2)
      have hlow : w.heap.size + 2 ≤ wr.heap.size := HY.out.lt
      have HO2 := Lib.hid (hown2.mono hlow)
      obtain ⟨oa, oc, hov, _⟩ := own_form hown2
      subst hov
      clear hown2 hb2 hlow HCi
      have ci := HX2.out.c i hin
      have fi := HX2.out.f i
      have hqi : q.v i = .slice (q.a i) (q.n i) (q.c i) := rfl
      rw [hqi] at ci
      clear hqi
      go_wp2_with fail
      have HX3 := Lib.hid (HX2.out.setS hin oa (f i).length oc)
      have HY3 := Lib.hid (HY2.out.set_ne (p := ⟨w.heap.size, i, none⟩) (show w.heap.size ≠ w.heap.size + 1 by omega) (.slice oa (f i).length oc))
      have HB3 := Lib.hid (HB2.out.setCell (p := ⟨w.heap.size, i, none⟩) (Nat.le_refl _) (.slice oa (f i).length oc))
      refine ⟨⟨i + 1, q.set i oa (f i).length oc, by go_num, by omega, Lib.hid (fun j hj => ?_), Lib.hid (fun j hj => ?_), HX3, HY3, HB3⟩, by simp [intOf]; omega⟩
      · rw [Sl.set_v]
        by_cases e : j = i
        · subst e; rw [if_pos rfl]; exact own_set_lo HO2.out (show w.heap.size < w.heap.size + 2 by omega) _
        · rw [if_neg e]; exact own_set_lo (HQ2.out j (by omega)) (show w.heap.size < w.heap.size + 2 by omega) _
      · rw [Sl.set_v, if_neg (by omega)]; exact Hq2.out j (by omega)
    · obtain rfl : i = 8 := by omega
      have c0 := HX.out.c0
      have c1 := HX.out.c1
      have c2 := HX.out.c2
      have c3 := HX.out.c3
      have c4 := HX.out.c4
      have c5 := HX.out.c5
      have c6 := HX.out.c6
      have c7 := HX.out.c7
      have c8 := HX.out.cl
      have c9 := HX.out.cg
      have d0 := HY.out.c0
      have d1 := HY.out.c1
      have d2 := HY.out.c2
      have d3 := HY.out.c3
      have d4 := HY.out.c4
      have d5 := HY.out.c5
      have d6 := HY.out.c6
      have d7 := HY.out.c7
      have d8 := HY.out.cl
      have d9 := HY.out.cg
      have F := HY.out.f
      go_wp2_with fail
      change bodyPost _ _ _ _ _ (putM wr (w.heap.size + 1) q L G)
      have hby := HY.out.all q L G
      have HRq := Lib.hid (show OwnM (putM wr (w.heap.size + 1) q L G) w.heap.size q f from fun j hj => World.ownsRow.mono (own_putM (Hq1.out j hj) (show w.heap.size + 1 < w.heap.size + 2 by omega) q L G) (by omega))
      have HBz := Lib.hid (putM_below HB.out (Nat.le_succ _) q L G)
      generalize putM wr (w.heap.size + 1) q L G = V at *
      exact bodyPost_ret (v := mapV q L G) (by simp [results, Tryz.results55, go_sem, hby.c0, hby.c1, hby.c2, hby.c3, hby.c4, hby.c5, hby.c6, hby.c7, hby.cl, hby.cg]) rfl ⟨⟨q, rfl, HRq.out⟩, HBz.out⟩
end Go.Proofs.YtenkeodfijladaaGreatDoor

namespace Go.Proofs.YtenkeodfijladaaGreatDoor
open Go.RowKit

theorem grow_zeros (w : World) (n : Nat) (h0 : 0 < n) (hn : n ≤ 1000000) :
    ∃ w' c, (∀ ty, (Builtin.append_ #[22, 3] ty #[.slice none 0 0, .int .i64 (n : Int)]).run Tryz.prog w = .ok (.slice (some ⟨w.heap.size, 0, none⟩) n c) w') ∧
      w'.ownsRow w.heap.size 77 4 (.slice (some ⟨w.heap.size, 0, none⟩) 0 c) 0 [] ∧ Below w.heap.size w w' ∧ n ≤ c ∧ c ≤ maxLen := by
  obtain ⟨x, hx⟩ : ∃ x, Tryz.prog.info? 77 = some x := by
    cases hq : Tryz.prog.info? 77 with
    | none => have := infoT; rw [hq] at this; cases this
    | some x => exact ⟨x, rfl⟩
  have hI := infoT
  rw [hx] at hI
  injection hI with hI
  injection hI with hz hI
  injection hI with hs4 hb32
  have hz : x.zero = some (itV it0) := hz
  have hr : ∀ ty, _ := fun ty => Lib.run_append_nil_zeros (P := Tryz.prog) w 22 3 ty 77 x (itV it0) .i64 .i64 Tryz.underlying22 Tryz.underlying3 hx hz n h0 (by rw [hs4]; decide) (by omega) (by rw [hb32]; omega)
  have hge := grownCap_ge w n 0 77
  have hcm : grownCap w n 0 77 ≤ maxLen := grownCap_le_maxLen w n 0 _ (by unfold maxLen; omega)
  refine ⟨_, _, hr, ⟨rfl, .inr ⟨w.heap.size, _, _, rfl, Nat.le_refl _, heap_alloc_new w.drew _, Nat.zero_le _, hcm, ?_, by simp⟩⟩, (Below.drew (Below.refl _ _)).alloc (Nat.le_refl _) _, hge, hcm⟩
  have z4 : (itV it0).cells.size = 4 := rfl
  simp only [Array.size_append, size_zeroCells, z4, ← Nat.add_mul]
  rw [show n + (grownCap w n 0 77 - n) = grownCap w n 0 77 from by omega]
set_option maxRecDepth 100000 in
theorem grow_any (n : Nat) (hn : n ≤ 1000000) (w : World) :
    Calls Tryz.prog 115 #[.slice none 0 0, .int .i64 (n : Int)] w fun e w' => ∃ v', e = .returned v' ∧ OwnT w' w.heap.size v' [] ∧ Below w.heap.size w w' := by
  have hneg : decide ((n : Int) < 0) = false := by simp
  by_cases h0 : n = 0
  · subst h0
    go_enter Tryz.func115, Tryz.ntmps115
    go_wp2_with fail
    go_ret
    exact ⟨_, rfl, World.ownsRow_nil _ _ _ _, Below.refl _ _⟩
  · have hp : decide ((0 : Int) < (n : Int)) = true := by simp; omega
    obtain ⟨w1, c, hrun, hown, hb, hnc, hcm⟩ := grow_zeros w n (by omega) hn
    have h1 := slice_to (P := Tryz.prog) elemT (a := some ⟨w.heap.size, 0, none⟩) (n := n) (cap := c) (fun x hx => ⟨w.heap.size, 0, (Option.some.inj hx).symm⟩) 0 (Nat.zero_le _)
    have h2 : ∀ W kh, (Instr.slice 22 (.slice none 0 0) none (some (.int kh ((0 : Nat) : Int))) none).run Tryz.prog W = .ok (.slice none 0 0) W := slice_to (P := Tryz.prog) elemT (a := none) (n := 0) (cap := 0) (fun x hx => by cases hx) 0 (Nat.le_refl _)
    rw [show ((0 : Nat) : Int) = 0 from rfl] at h1 h2
    have HO := Lib.hid hown
    have HB := Lib.hid hb
    have j1 : IntKind.i64.wrap ((n : Int) - 0) = (n : Int) := (IntWalk.i64_in _ (by omega)).trans (by omega)
    clear hown hb
    go_enter Tryz.func115, Tryz.ntmps115
    go_wp2_with (at_builtin; refine Lib.wpList_append_run _ rfl (.tmp 20) (.tmp 21) _ _ rfl _ _ rfl rfl _ _ (hrun _) ?_)
    go_ret
    exact ⟨_, rfl, HO.out, HB.out⟩
theorem cat_len (f : Nat → List It) (n : Nat) : (cat f (n + 1)).length = (cat f n).length + (f n).length := by
  show (cat f n ++ f n).length = _
  rw [List.length_append]
theorem cat_mono (f : Nat → List It) : ∀ d n, (cat f n).length ≤ (cat f (n + d)).length
  | 0, _ => Nat.le_refl _
  | d + 1, n => by
    have := cat_mono f d n
    rw [show n + (d + 1) = (n + d) + 1 by omega, cat_len]
    omega
set_option maxRecDepth 100000 in
set_option maxHeartbeats 4000000 in
theorem concat_any (b : Nat) (s : Sl) (L G : Int) (f : Nat → List It) (w : World) (hx : BoxM w b s L G) (h : RdM w s f) (hs : (cat f 8).length ≤ 1000000) :
    Calls Tryz.prog 86 #[.slice (some ⟨b, 0, none⟩) 8 8] w fun e w' => ∃ v', e = .returned v' ∧ OwnT w' w.heap.size v' (cat f 8) ∧ Below w.heap.size w w' := by
  have HX := Lib.hid hx
  have HR := Lib.hid h
  have HL := Lib.hid (fun i (hi : i < 8) => h.n hi)
  have HC := Lib.hid (fun n => cat_len f n)
  have HM := Lib.hid (fun n (hn : n ≤ 8) => show (cat f n).length ≤ 1000000 from by
    have := cat_mono f (8 - n) n
    rw [show n + (8 - n) = 8 by omega] at this
    omega)
  have HG := Lib.hid (fun n hn W => grow_any n hn W)
  have HE := Lib.hid (fun i => show cat f (i + 1) = cat f i ++ f i from rfl)
  clear hx h hs
  go_enter Tryz.func86, Tryz.ntmps86
  go_wp2_with fail
  go_loopw [3, 11] (fun lv iv W => ∃ i : Nat, iv = .int .i64 (i : Int) ∧ i ≤ 8 ∧ lv = .int .i64 ((cat f i).length : Int) ∧ w = W) (fun _ iv _ => 8 - (intOf iv).toNat)
  case atStart => exact ⟨0, rfl, Nat.zero_le _, rfl, rfl⟩
  case round =>
    obtain ⟨i, rfl, hi, rfl, rfl⟩ := hrel
    by_cases hin : i < 8
    · have i1 : (i : Int) < 8 := by omega
      have ci := HX.out.c i hin
      have hvi : s.v i = .slice (s.a i) (s.n i) (s.c i) := rfl
      rw [hvi, HL.out i hin] at ci
      have hm := HM.out (i + 1) (by omega)
      have hc := HC.out i
      rw [hc] at hm
      have HCi := Lib.hid hc
      generalize (cat f i).length = p at *
      generalize (f i).length = q at *
      have hw : IntKind.i64.wrap ((p : Int) + (q : Int)) = ((p + q : Nat) : Int) := (IntWalk.i64_in _ (by omega)).trans (by omega)
      have hneg : decide (((p + q : Nat) : Int) < 0) = false := by simp; omega
      clear hvi hc
      go_wp2_with fail
      exact ⟨⟨i + 1, by go_num, by omega, by rw [HCi.out, Int.natCast_add], trivial⟩, by simp [intOf]; omega⟩
    · obtain rfl : i = 8 := by omega
      have HGr := Lib.hid (HG.out (cat f 8).length (HM.out 8 (Nat.le_refl _)) w)
      generalize (cat f 8).length = tot at *
      go_wp2_with fail
      refine HGr.out.mono ?_; rintro e w1 ⟨v1, rfl, hown1, hb1⟩
      have HO1 := Lib.hid hown1
      have HB1 := Lib.hid hb1
      clear hown1 hb1 HGr
      go_wp2_with fail
      go_loopw [6, 27] (fun ov iv W => ∃ i : Nat, iv = .int .i64 (i : Int) ∧ i ≤ 8 ∧ Hid (W.ownsRow w.heap.size 77 4 ov (cat f i).length (itsC (cat f i))) ∧ Hid (Below w.heap.size w W)) (fun _ iv _ => 8 - (intOf iv).toNat)
      case atStart => exact ⟨0, rfl, Nat.zero_le _, HO1, HB1⟩
      case round =>
        obtain ⟨i, rfl, hi, HO, HB⟩ := hrel
        by_cases hin : i < 8
        · have i1 : (i : Int) < 8 := by omega
          have ci := Below.keeps HB.out _ _ (HX.out.c i hin)
          have HRi := Lib.hid ((HR.out i hin).below HB.out)
          have hvi : s.v i = .slice (s.a i) (s.n i) (s.c i) := rfl
          rw [hvi, HL.out i hin] at ci HRi
          have hm := HM.out (i + 1) (by omega)
          rw [HC.out i] at hm
          have HEi := Lib.hid (HE.out i)
          have hone := itsC_one' (f i)
          have HOne := Lib.hid hone
          have hsz := HB.out.size
          have HRr := Lib.hid (show Rd wr 4 (.slice (s.a i) (f i).length (s.c i)) (f i).length (itsC (f i)) from rdT_rd HRi.out)
          clear hvi hone
          go_wp2_with (at_builtin; refine wpList_app (n := (cat f i).length) (m := (f i).length) rfl (.tmp 31) (.tmp 32) 22 rfl elemT w.heap.size rfl HO.out rfl HRr.out HOne.out (by unfold maxLen; omega) (by omega) hsz ?_; intro v4 w4 hown4 hgr4 hv4; clear hv4; have HO4 := Lib.hid (show OwnT w4 w.heap.size v4 (cat f (i + 1)) from ownT_of hown4 (by rw [HEi.out, itsC_append])); have HB4 := Lib.hid (own_below HB.out HO.out hsz hgr4); clear hown4 hgr4)
          exact ⟨⟨i + 1, by go_num, by omega, HO4, HB4⟩, by simp [intOf]; omega⟩
        · obtain rfl : i = 8 := by omega
          go_wp2_with fail
          go_ret
          exact ⟨_, rfl, HO.out, HB.out⟩
end Go.Proofs.YtenkeodfijladaaGreatDoor

namespace Go.Proofs.YtenkeodfijladaaGreatDoor
open Go.RowKit

def itemsM (M : Mp) : List It := if vldM M = true then srt (allM M) else []
def getM (M : Mp) (key : Int) : Option It := if vldM M = true then fnd (M.st (strp key)) key else none
theorem itemsM_asc (M : Mp) : Asc (itemsM M) := by
  unfold itemsM
  split
  · exact srt_asc _
  · exact fun j h => by simp at h
theorem fnd_itemsM (M : Mp) (key : Int) : fnd (srt (itemsM M)) key = getM M key := by
  rw [srt_of_asc (itemsM_asc M)]
  unfold itemsM getM
  split
  · rename_i h; exact ((vldM_iff M).1 h).fnd key
  · rfl
theorem allM_len {M : Mp} (h : ∀ i, i < 8 → (M.st i).length ≤ 10000) : (allM M).length ≤ 80000 := cat_le (M := M) (B := 10000) h 8 (Nat.le_refl _)
theorem itemsM_len {M : Mp} (h : ∀ i, i < 8 → (M.st i).length ≤ 10000) : (itemsM M).length ≤ 80000 := by
  unfold itemsM
  split
  · exact Nat.le_trans (srt_length _) (allM_len h)
  · simp
theorem merge_nil (v : Value) (l : List It) (w : World) (h : RdT w v l) (hs : l.length ≤ 80000) :
    Calls Tryz.prog 85 #[.slice none 0 0, v, .slice none 0 0] w fun e w' => ∃ v', e = .returned v' ∧ OwnT w' w.heap.size v' (srt l) ∧ Below w.heap.size w w' := by
  have := merge_any (.slice none 0 0) v (.slice none 0 0) [] l [] w (rd_rdT (own_rd (World.ownsRow_nil w 0 77 4))) h (own_rdl (World.ownsRow_nil w 0 32 1)) (sorted_all _ (by simp)) (sorted_all _ (by omega)) (sorted_all _ (by have := srt_length l; rw [List.length_append]; have h0 := kept_length [] (srt []); rw [srt_nil] at h0 ⊢; simp at h0; simp [h0]; omega)) (by simp) (by omega)
  rwa [mrg_nil] at this
set_option maxRecDepth 100000 in
set_option maxHeartbeats 4000000 in
theorem itemsM_any (s : Sl) (M : Mp) (w : World) (h : RdM w s M.st) (hs : ∀ i, i < 8 → (M.st i).length ≤ 10000) :
    Calls Tryz.prog 53 #[mapV s M.live M.garb] w fun e w' => ∃ v', e = .returned v' ∧ OwnT w' w.heap.size v' (itemsM M) ∧ Below w.heap.size w w' := by
  have HV := Lib.hid (fun W h => validM_any s M W h (fun i hi => Nat.le_trans (hs i hi) (by decide)))
  have HBx := Lib.hid (BoxM.new w s M.live M.garb 41)
  have HB0 := Lib.hid (below_map w s M.live M.garb 41)
  have Hr := Lib.hid h
  have HC := Lib.hid (fun b W hx h => concat_any b s M.live M.garb M.st W hx h (Nat.le_trans (allM_len hs) (by decide)))
  have HM := Lib.hid (fun v W h => merge_nil v (allM M) W h (allM_len hs))
  have HI := Lib.hid (show itemsM M = if vldM M = true then srt (allM M) else [] from rfl)
  rw [show cat M.st 8 = allM M from rfl] at HC
  clear h hs
  generalize vldM M = vb at *
  generalize allM M = A at *
  generalize itemsM M = I at *
  obtain ⟨f, L, G⟩ := M
  dsimp only at *
  go_enter Tryz.func53, Tryz.ntmps53
  go_wp2_with fail
  refine (HV.out _ (Hr.out.below HB0.out)).mono ?_; rintro e w1 ⟨rfl, hb1⟩
  have HB1 := Lib.hid (bstep HB0.out hb1)
  have HX1 := Lib.hid (HBx.out.below hb1)
  have HR1 := Lib.hid (Hr.out.below HB1.out)
  clear hb1 HV HBx HB0
  cases vb
  · go_wp2_with fail
    go_ret
    exact ⟨_, rfl, by rw [HI.out, if_neg (by decide)]; exact World.ownsRow_nil _ _ _ _, HB1.out⟩
  · rw [if_pos rfl] at HI
    go_wp2_with fail
    refine (HC.out _ _ HX1.out HR1.out).mono ?_; rintro e w2 ⟨v2, rfl, hown2, hb2⟩
    have HB2 := Lib.hid (bstep HB1.out hb2)
    have HR2 := Lib.hid hown2.rd
    have HMg := Lib.hid (HM.out v2 w2 hown2.rd)
    clear hown2 hb2
    go_wp2_with fail
    refine HMg.out.mono ?_; rintro e w3 ⟨v3, rfl, hown3, hb3⟩
    have HO3 := Lib.hid (hown3.mono HB2.out.size)
    have HB3 := Lib.hid (bstep HB2.out hb3)
    clear hown3 hb3
    go_wp2_with fail
    go_ret
    exact ⟨_, rfl, by rw [HI.out]; exact HO3.out, HB3.out⟩
/-- An item in a block of its own. -/
structure BoxI (W : World) (b : Nat) (x : It) : Prop where
  t : BoxT W b x
  f : ∀ i, W.frozen? ⟨b, i, none⟩ = false
theorem BoxI.new (w : World) (x : It) : BoxI (w.alloc (boxC x)) w.heap.size x := ⟨BoxT.new w x, fun i => by simp⟩
theorem BoxI.lt {W : World} {b : Nat} {x : It} (h : BoxI W b x) : b < W.heap.size := World.block_lt_of_cell? _ ⟨b, 0, none⟩ h.t.c0
theorem BoxI.below {W W' : World} {b : Nat} {x : It} (h : BoxI W b x) (hb : Below W.heap.size W W') : BoxI W' b x := ⟨h.t.below hb, fun i => (hb.frozen (p := ⟨b, i, none⟩) h.lt).trans (h.f i)⟩
theorem BoxI.set_ne {W : World} {b : Nat} {x : It} (h : BoxI W b x) {p : Addr} (hp : p.block ≠ b) (u : Value) : BoxI (W.setCell p u) b x := by
  have ne : ∀ i, p ≠ ⟨b, i, none⟩ := fun i e => hp (by rw [e])
  exact ⟨⟨(World.cell?_setCell_other (h := ne 0) ..).trans h.t.c0, (World.cell?_setCell_other (h := ne 1) ..).trans h.t.c1, (World.cell?_setCell_other (h := ne 2) ..).trans h.t.c2, (World.cell?_setCell_other (h := ne 3) ..).trans h.t.c3⟩, fun i => by simp [h.f]⟩
theorem BoxI.putM_ne {W : World} {b c : Nat} {x : It} (h : BoxI W b x) (hp : c ≠ b) (s' : Sl) (l' g' : Int) : BoxI (putM W c s' l' g') b x :=
  (((((((((h.set_ne (p := ⟨c, 0, none⟩) hp _).set_ne (p := ⟨c, 1, none⟩) hp _).set_ne (p := ⟨c, 2, none⟩) hp _).set_ne (p := ⟨c, 3, none⟩) hp _).set_ne (p := ⟨c, 4, none⟩) hp _).set_ne (p := ⟨c, 5, none⟩) hp _).set_ne (p := ⟨c, 6, none⟩) hp _).set_ne (p := ⟨c, 7, none⟩) hp _).set_ne (p := ⟨c, 8, none⟩) hp _).set_ne (p := ⟨c, 9, none⟩) hp _
def putI (W : World) (b : Nat) (y : It) : World := (((W.setCell ⟨b, 0, none⟩ (.int .u64 y.key)).setCell ⟨b, 1, none⟩ (.int .u32 y.ck)).setCell ⟨b, 2, none⟩ (.int .i64 y.off)).setCell ⟨b, 3, none⟩ (.int .i64 y.size)
theorem BoxI.put {W : World} {b : Nat} {x : It} (h : BoxI W b x) (y : It) : BoxI (putI W b y) b y := ⟨h.t.set y, fun i => by simp [putI, h.f]⟩
theorem putI_below {B b : Nat} {w0 W : World} (h : Below B w0 W) (hb : B ≤ b) (y : It) : Below B w0 (putI W b y) := (((h.setCell hb _).setCell hb _).setCell hb _).setCell hb _
set_option maxRecDepth 100000 in
set_option maxHeartbeats 4000000 in
theorem getM_any (s : Sl) (M : Mp) (key : Int) (w : World) (h : RdM w s M.st) (hs : ∀ i, i < 8 → (M.st i).length ≤ 10000) :
    Calls Tryz.prog 59 #[mapV s M.live M.garb, .int .u64 key] w fun e w' => e = .returned (.tuple #[itV ((getM M key).getD it0), .bool (getM M key).isSome]) ∧ Below w.heap.size w w' := by
  have HV := Lib.hid (fun W h => validM_any s M W h (fun i hi => Nat.le_trans (hs i hi) (by decide)))
  have HBx := Lib.hid ((BoxM.new w s M.live M.garb 41).below (below_box (w.alloc (.cells (mapC s M.live M.garb) 41)) it0))
  have HBt := Lib.hid (BoxI.new (w.alloc (.cells (mapC s M.live M.garb) 41)) it0)
  rw [show (w.alloc (.cells (mapC s M.live M.garb) 41)).heap.size = w.heap.size + 1 by simp] at HBt
  have HB0 := Lib.hid (bstep (below_map w s M.live M.garb 41) (below_box (w.alloc (.cells (mapC s M.live M.garb) 41)) it0))
  have Hr := Lib.hid h
  have hk8 := strp_lt key
  have HF := Lib.hid (fun W h => find_any (s.v (strp key)) (M.st (strp key)) key W h (sorted_all _ (Nat.le_trans (hs _ hk8) (by decide))) (Nat.le_trans (hs _ hk8) (by decide)))
  have HS := Lib.hid (fun W => stripe_any key W)
  have HI := Lib.hid (show getM M key = if vldM M = true then fnd (M.st (strp key)) key else none from rfl)
  have HA := Lib.hid (fun h : vldM M = true => srt_of_asc (vld_asc (((vldM_iff M).1 h).ok _ hk8)))
  have HRk := Lib.hid (fun W (hb : Below w.heap.size w W) => (h (strp key) hk8).below hb)
  clear h hs
  generalize getM M key = o at *
  generalize vldM M = vb at *
  generalize strp key = k at *
  obtain ⟨f, L, G⟩ := M
  dsimp only at *
  go_enter Tryz.func59, Tryz.ntmps59
  go_wp2_with fail
  refine (HV.out _ (Hr.out.below HB0.out)).mono ?_; rintro e w1 ⟨rfl, hb1⟩
  have HB1 := Lib.hid (bstep HB0.out hb1)
  have HX1 := Lib.hid (HBx.out.below hb1)
  have HT1 := Lib.hid (HBt.out.below hb1)
  clear hb1 HV HBx HB0 HBt
  have d0 := HT1.out.t.c0
  have d1 := HT1.out.t.c1
  have d2 := HT1.out.t.c2
  have d3 := HT1.out.t.c3
  have F1 := HT1.out.f
  cases vb
  · have HI2 := Lib.hid (HI.out.trans (if_neg (by decide)))
    go_wp2_with fail
    change bodyPost _ _ _ _ _ (putI w1 (w.heap.size + 1) it0)
    have hby := HT1.out.put it0
    have HBz := Lib.hid (putI_below HB1.out (Nat.le_succ _) it0)
    generalize putI w1 (w.heap.size + 1) it0 = V at *
    have y0 := hby.t.c0
    have y1 := hby.t.c1
    have y2 := hby.t.c2
    have y3 := hby.t.c3
    exact bodyPost_ret (v := .tuple #[itV it0, .bool false]) (by simp [results, Tryz.results59, go_sem, y0, y1, y2, y3]) rfl ⟨by rw [HI2.out]; rfl, HBz.out⟩
  · have HI2 := Lib.hid (HI.out.trans (if_pos rfl))
    have hvk : s.v k = .slice (s.a k) (s.n k) (s.c k) := rfl
    have ck := HX1.out.c k hk8
    have HFk := Lib.hid (HF.out w1 (HRk.out w1 HB1.out))
    rw [HA.out rfl, ← HI2.out] at HFk
    rw [hvk] at ck HFk
    generalize s.a k = sa at *
    generalize s.n k = sn at *
    generalize s.c k = sc at *
    clear hvk HF HRk HA
    go_wp2_with fail
    refine (HS.out _).mono ?_; rintro e w2 ⟨rfl, rfl⟩
    go_wp2_with fail
    refine HFk.out.mono ?_; rintro e w3 ⟨rfl, hb3⟩
    have HT3 := Lib.hid (HT1.out.below hb3)
    have HB3 := Lib.hid (bstep HB1.out hb3)
    clear hb3 d0 d1 d2 d3 F1
    have d0 := HT3.out.t.c0
    have d1 := HT3.out.t.c1
    have d2 := HT3.out.t.c2
    have d3 := HT3.out.t.c3
    have F1 := HT3.out.f
    obtain ⟨y, hy⟩ : ∃ y, o.getD it0 = y := ⟨_, rfl⟩
    have Hy := Lib.hid hy
    rw [hy]
    clear hy
    go_wp2_with fail
    change bodyPost _ _ _ _ _ (putI w3 (w.heap.size + 1) y)
    have hby := HT3.out.put y
    have HBz := Lib.hid (putI_below HB3.out (Nat.le_succ _) y)
    generalize putI w3 (w.heap.size + 1) y = V at *
    have y0 := hby.t.c0
    have y1 := hby.t.c1
    have y2 := hby.t.c2
    have y3 := hby.t.c3
    exact bodyPost_ret (v := .tuple #[itV y, .bool o.isSome]) (by simp [results, Tryz.results59, go_sem, y0, y1, y2, y3]) rfl ⟨by rw [Hy.out], HBz.out⟩
end Go.Proofs.YtenkeodfijladaaGreatDoor
