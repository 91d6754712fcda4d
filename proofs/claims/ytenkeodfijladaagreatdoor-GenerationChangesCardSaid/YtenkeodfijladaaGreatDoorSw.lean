/- The comparison and the exchanges of slices.SortStableFunc at items: the walks. -/
import Derived.Test.YtenkeodfijladaaGreatDoorDf
import Derived.Test.YtenkeodfijladaaGreatDoorPt
import Derived.StillTailTactics
namespace Go.Proofs.YtenkeodfijladaaGreatDoor
open Go.RowKit

def cmpI (x y : Int) : Int := if x < y then -1 else if y < x then 1 else 0
theorem cmpI_lt (x y : Int) : (decide (cmpI x y < 0)) = decide (x < y) := by
  unfold cmpI
  by_cases h : x < y
  · rw [if_pos h]; simp [h]
  · rw [if_neg h]
    by_cases h2 : y < x
    · rw [if_pos h2]; simp [h]
    · rw [if_neg h2]; simp [h]
theorem isnan_any (x : Int) (w : World) : Calls Tryz.prog 146 #[.int .u64 x] w fun e w' => e = .returned (.bool false) ∧ Below w.heap.size w w' := by
  go_enter Tryz.func146, Tryz.ntmps146
  have hx : (x != x) = false := by simp
  go_wp2_with fail
  go_ret
  exact ⟨rfl, Below.refl _ _⟩
theorem compare_any (x y : Int) (w : World) : Calls Tryz.prog 118 #[.int .u64 x, .int .u64 y] w fun e w' => e = .returned (.int .i64 (cmpI x y)) ∧ Below w.heap.size w w' := by
  unfold cmpI
  by_cases h : x < y
  · rw [if_pos h]
    go_enter Tryz.func118, Tryz.ntmps118
    go_wp2_with fail
    refine (isnan_any _ _).mono ?_; rintro e w1 ⟨rfl, hb1⟩
    have HB1 := Lib.hid hb1
    clear hb1
    go_wp2_with fail
    refine (isnan_any _ _).mono ?_; rintro e w2 ⟨rfl, hb2⟩
    have HB2 := Lib.hid (bstep HB1.out hb2)
    clear hb2
    go_wp2_with fail
    go_ret
    exact ⟨rfl, HB2.out⟩
  · rw [if_neg h]
    by_cases h2 : y < x
    · rw [if_pos h2]
      go_enter Tryz.func118, Tryz.ntmps118
      go_wp2_with fail
      refine (isnan_any _ _).mono ?_; rintro e w1 ⟨rfl, hb1⟩
      have HB1 := Lib.hid hb1
      clear hb1
      go_wp2_with fail
      refine (isnan_any _ _).mono ?_; rintro e w2 ⟨rfl, hb2⟩
      have HB2 := Lib.hid (bstep HB1.out hb2)
      clear hb2
      go_wp2_with fail
      go_ret
      exact ⟨rfl, HB2.out⟩
    · rw [if_neg h2]
      go_enter Tryz.func118, Tryz.ntmps118
      go_wp2_with fail
      refine (isnan_any _ _).mono ?_; rintro e w1 ⟨rfl, hb1⟩
      have HB1 := Lib.hid hb1
      clear hb1
      go_wp2_with fail
      refine (isnan_any _ _).mono ?_; rintro e w2 ⟨rfl, hb2⟩
      have HB2 := Lib.hid (bstep HB1.out hb2)
      clear hb2
      go_wp2_with fail
      go_ret
      exact ⟨rfl, HB2.out⟩
theorem cmpf_any (x y : It) (w : World) : Calls Tryz.prog 117 #[itV x, itV y] w fun e w' => e = .returned (.int .i64 (cmpI x.key y.key)) ∧ Below w.heap.size w w' := by
  have HW := Lib.hid (show Below w.heap.size w ((w.alloc (.cells #[.int .u64 x.key, .int .u32 x.ck, .int .i64 x.off, .int .i64 x.size] 77)).alloc (.cells #[.int .u64 y.key, .int .u32 y.ck, .int .i64 y.off, .int .i64 y.size] 77)) from ((Below.refl _ _).alloc (Nat.le_refl _) _).alloc (by simp) _)
  go_enter Tryz.func117, Tryz.ntmps117
  go_wp2_with fail
  refine (compare_any _ _ _).mono ?_; rintro e w1 ⟨rfl, hb1⟩
  have HB1 := Lib.hid (bstep HW.out hb1)
  clear hb1
  go_wp2_with fail
  go_ret
  exact ⟨rfl, HB1.out⟩
/-- The row with two items changed for each other. -/
def swp2 (d : List It) (i j : Nat) : List It := (d.set i (iat d j)).set j (iat d i)
/-- The n items from a on and those from b on, changed for each other. -/
def swpN (d : List It) (a b : Nat) : Nat → List It
  | 0 => d
  | i + 1 => swp2 (swpN d a b i) (a + i) (b + i)
theorem swp2_length (d : List It) (i j : Nat) : (swp2 d i j).length = d.length := by unfold swp2; rw [List.length_set, List.length_set]
theorem swpN_length (d : List It) (a b : Nat) : ∀ i, (swpN d a b i).length = d.length
  | 0 => rfl
  | i + 1 => by show (swp2 _ _ _).length = _; rw [swp2_length, swpN_length]
/-- The cells of an item stored into a row. -/
def put4 (w : World) (g k : Nat) (y : It) : World := (((w.setCell ⟨g, k * 4, none⟩ (.int .u64 y.key)).setCell ⟨g, k * 4 + 1, none⟩ (.int .u32 y.ck)).setCell ⟨g, k * 4 + 2, none⟩ (.int .i64 y.off)).setCell ⟨g, k * 4 + 3, none⟩ (.int .i64 y.size)
theorem grown_tr {a b c : World} {r : Option Nat} (a1 : a.grownBy b r) (a2 : b.grownBy c r) : a.grownBy c r :=
  ⟨a2.os.trans a1.os, a2.tape.trans a1.tape, a2.output.trans a1.output, Nat.le_trans a1.size a2.size, fun k hk hne => (a2.block k (Nat.lt_of_lt_of_le hk a1.size) hne).trans (a1.block k hk hne)⟩
theorem grown_drew (a : World) (r : Option Nat) : a.grownBy a.drew r := ⟨rfl, rfl, rfl, Nat.le_refl _, fun _ _ _ => rfl⟩
theorem own_put4 {w : World} {B g n cap : Nat} {q : List It} (h : w.ownsRow B 77 4 (.slice (some ⟨g, 0, none⟩) n cap) n (itsC q)) (k : Nat) (hk : k < q.length) (y : It) :
    (put4 w g k y).ownsRow B 77 4 (.slice (some ⟨g, 0, none⟩) n cap) n (itsC (q.set k y)) ∧ w.grownBy (put4 w g k y) (some g) := by
  have s1 := h.stored (k * 4) (.int .u64 y.key)
  have s2 := s1.1.stored (k * 4 + 1) (.int .u32 y.ck)
  have s3 := s2.1.stored (k * 4 + 2) (.int .i64 y.off)
  have s4 := s3.1.stored (k * 4 + 3) (.int .i64 y.size)
  exact ⟨own_set4 h k hk y, grown_tr (grown_tr (grown_tr s1.2 s2.2) s3.2) s4.2⟩
theorem own_swp {w : World} {B g n cap : Nat} {q : List It} (h : w.ownsRow B 77 4 (.slice (some ⟨g, 0, none⟩) n cap) n (itsC q)) (hq : q.length = n) {i j : Nat} (hi : i < n) (hj : j < n) {x y : It} (hx : iat q i = x) (hy : iat q j = y) :
    (put4 (put4 w g i y) g j x).drew.ownsRow B 77 4 (.slice (some ⟨g, 0, none⟩) n cap) n (itsC (swp2 q i j)) ∧ w.grownBy (put4 (put4 w g i y) g j x).drew (some g) := by
  obtain ⟨h1, g1⟩ := own_put4 h i (by omega) y
  obtain ⟨h2, g2⟩ := own_put4 h1 j (by rw [List.length_set]; omega) x
  unfold swp2
  rw [hx, hy]
  exact ⟨h2.drew, grown_tr (grown_tr g1 g2) (grown_drew _ _)⟩
set_option maxHeartbeats 1000000 in
theorem swprange_any (g n cap a b k B : Nat) (d : List It) (fv : Value) (w : World) (hown : w.ownsRow B 77 4 (.slice (some ⟨g, 0, none⟩) n cap) n (itsC d)) (hn : d.length = n) (hs : n ≤ 1000000) (hab : a + k ≤ b) (hb : b + k ≤ n) :
    Calls Tryz.prog 170 #[.slice (some ⟨g, 0, none⟩) n cap, .int .i64 (a : Int), .int .i64 (b : Int), .int .i64 (k : Int), fv] w fun e w' => e = .returned (.tuple #[]) ∧ w'.ownsRow B 77 4 (.slice (some ⟨g, 0, none⟩) n cap) n (itsC (swpN d a b k)) ∧ w.grownBy w' (some g) := by
  have HO := Lib.hid hown
  have HL := Lib.hid (fun i => (swpN_length d a b i).trans hn)
  have HS := Lib.hid (fun i => show swpN d a b (i + 1) = swp2 (swpN d a b i) (a + i) (b + i) from rfl)
  have hgr : w.grownBy w (some g) := ⟨rfl, rfl, rfl, Nat.le_refl _, fun _ _ _ => rfl⟩
  have HG := Lib.hid hgr
  have H0 := Lib.hid (show swpN d a b 0 = d from rfl)
  clear hown hn hgr
  go_enter Tryz.func170, Tryz.ntmps170
  go_wp2_with fail
  go_loopw [10] (fun iv wr => ∃ i : Nat, iv = .int .i64 (i : Int) ∧ i ≤ k ∧ wr.ownsRow B 77 4 (.slice (some ⟨g, 0, none⟩) n cap) n (itsC (swpN d a b i)) ∧ w.grownBy wr (some g)) (fun iv _ => k - (intOf iv).toNat)
  case atStart => exact ⟨0, rfl, by omega, by rw [H0.out]; exact HO.out, HG.out⟩
  case round =>
    obtain ⟨i, rfl, hi, hown, hgr⟩ := hrel
    have Ho := Lib.hid hown
    have Hg := Lib.hid hgr
    clear hown hgr
    by_cases hlt : i < k
    · have HL1 := Lib.hid (HL.out i)
      have HS1 := Lib.hid (HS.out i)
      generalize swpN d a b i = q at *
      obtain ⟨_, _, e, c0, c1, c2, c3⟩ := (rd_rdT (own_rd Ho.out)).at (show a + i < n by omega)
      injection e with e; injection e with e1 e2; subst e1 e2
      obtain ⟨_, _, e, d0, d1, d2, d3⟩ := (rd_rdT (own_rd Ho.out)).at (show b + i < n by omega)
      injection e with e; injection e with e1 e2; subst e1 e2
      simp only [Nat.zero_add] at c0 c1 c2 c3 d0 d1 d2 d3
      have j1 : IntKind.i64.wrap ((a : Int) + (i : Int)) = (a : Int) + (i : Int) := IntWalk.i64_in _ (by omega)
      have j2 : IntKind.i64.wrap ((b : Int) + (i : Int)) = (b : Int) + (i : Int) := IntWalk.i64_in _ (by omega)
      have j3 : ((a : Int) + (i : Int)).toNat = a + i := by omega
      have j4 : ((b : Int) + (i : Int)).toNat = b + i := by omega
      go_wp2_with fail
      have j5 : (0 : Int) ≤ (a : Int) + (i : Int) := by omega
      have j6 : (0 : Int) ≤ (b : Int) + (i : Int) := by omega
      have j7 : (a : Int) + (i : Int) < (n : Int) := by omega
      have j8 : (b : Int) + (i : Int) < (n : Int) := by omega
      have fz := fun k => Ho.out.frozenAt k
      have f0 := fz ((a + i) * 4)
      have f1 := fz ((a + i) * 4 + 1)
      have f2 := fz ((a + i) * 4 + 2)
      have f3 := fz ((a + i) * 4 + 3)
      have f4 := fz ((b + i) * 4)
      have f5 := fz ((b + i) * 4 + 1)
      have f6 := fz ((b + i) * 4 + 2)
      have f7 := fz ((b + i) * 4 + 3)
      clear fz
      generalize hx : iat q (a + i) = x at *
      generalize hy : iat q (b + i) = y at *
      have HXY := Lib.hid (And.intro hx hy)
      clear hx hy
      have HF := Lib.hid (own_swp Ho.out HL1.out (i := a + i) (j := b + i) (by omega) (by omega) HXY.out.1 HXY.out.2)
      go_region_with (fail)
      all_goals go_wp2_with fail
      all_goals exact ⟨⟨i + 1, by go_num, by omega, by rw [HS1.out]; exact HF.out.1, grown_tr Hg.out HF.out.2⟩, by simp [intOf]; omega⟩
    · obtain rfl : i = k := by omega
      go_wp2_with fail
      go_end0
      exact ⟨rfl, Ho.out, Hg.out⟩
end Go.Proofs.YtenkeodfijladaaGreatDoor
