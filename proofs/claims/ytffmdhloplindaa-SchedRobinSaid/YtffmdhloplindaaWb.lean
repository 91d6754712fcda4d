/- The walks over sched.Pick, sched.Next, slices.BinarySearch and the reference's Pick and Next. -/
import Derived.Test.YtffmdhloplindaaWa
namespace Go.Proofs.Ytffmdhloplindaa
open Go.RowKit

def okP (l : List Int) (n : Int) : Prop := 0 < l.length ∧ Pl.ascB l = true ∧ 0 ≤ n
def okN (l : List Int) : Prop := 0 < l.length ∧ Pl.ascB l = true
open Classical in
noncomputable def pickV (l : List Int) (n : Int) : Int := if okP l n then Pl.at0 l (n.toNat % l.length) else 0
open Classical in
noncomputable def pickE (l : List Int) (n : Int) : Int := if okP l n then 0 else 1
open Classical in
noncomputable def nextW (l : List Int) (n : Int) : Int := if okN l then Pl.nextV l n else 0
open Classical in
noncomputable def nextE (l : List Int) : Int := if okN l then 0 else 1
theorem pick_no {l : List Int} {n : Int} (h : ¬ okP l n) : pickV l n = 0 ∧ pickE l n = 1 := ⟨if_neg h, if_neg h⟩
theorem pick_yes {l : List Int} {n : Int} (h : okP l n) : pickV l n = Pl.at0 l (n.toNat % l.length) ∧ pickE l n = 0 := ⟨if_pos h, if_pos h⟩
theorem next_no {l : List Int} {n : Int} (h : ¬ okN l) : nextW l n = 0 ∧ nextE l = 1 := ⟨if_neg h, if_neg h⟩
theorem next_yes {l : List Int} {n : Int} (h : okN l) : nextW l n = Pl.nextV l n ∧ nextE l = 0 := ⟨if_pos h, if_pos h⟩

/-- The place that the binary search finds. -/
def Found (l : List Int) (t : Int) (e : Ending) : Prop := ∃ i : Nat, i ≤ l.length ∧ (∀ j, j < i → Pl.at0 l j < t) ∧ (∀ j, i ≤ j → j < l.length → t ≤ Pl.at0 l j) ∧
  ∃ f : Bool, e = .returned (.tuple #[.int .i64 (i : Int), .bool f]) ∧ (f = true ↔ i < l.length ∧ Pl.at0 l i = t)
def bsRel (l : List Int) (t : Int) (n : Nat) (iv jv : Value) : Prop := ∃ i j : Nat, iv = .int .i64 (i : Int) ∧ jv = .int .i64 (j : Int) ∧ i ≤ j ∧ j ≤ n ∧ (∀ k, k < i → Pl.at0 l k < t) ∧ (∀ k, j ≤ k → k < n → t ≤ Pl.at0 l k)
set_option maxHeartbeats 1000000 in
theorem bsearch_any (v : Value) (l : List Int) (t : Int) (w : World) (h : RdI w v l) (hm : l.length ≤ 4611686018427387903) (hasc : Pl.Asc l) :
    Calls Try.prog 26 #[v, .int .i64 t] w fun e w' => Found l t e ∧ w = w' := by
  have HM := Lib.hid (show ∀ i j, i < j → j < l.length → Pl.at0 l i < Pl.at0 l j from fun i j h1 h2 => hasc.mono h1 h2)
  obtain ⟨a, cap, rfl, h1, h2, h3, h4⟩ := h.shape0
  have HF := Lib.hid (show Found l t = _ from rfl)
  unfold Found at HF
  generalize hn : l.length = n at *
  have HN := Lib.hid hn
  clear hn h hasc
  go_enter Try.func26, Try.ntmps26
  go_wp2_with fail
  go_loop [7, 8] (fun i j => bsRel l t n i j) (fun i j => (intOf j).toNat - (intOf i).toNat)
  case atStart => exact ⟨0, n, rfl, rfl, Nat.zero_le _, Nat.le_refl _, fun k hk => absurd hk (by omega), fun k hk hk2 => absurd hk (by omega)⟩
  case round =>
    obtain ⟨i, j, rfl, rfl, hij, hjn, hlo, hhi⟩ := hrel
    have Hlo := Lib.hid hlo
    have Hhi := Lib.hid hhi
    clear hlo hhi
    by_cases hlt : i < j
    · obtain ⟨b, off, rfl, hc⟩ := h4 (by omega)
      have c1 := hc ((i + j) / 2) (by omega)
      generalize e1 : Pl.at0 l ((i + j) / 2) = y at *
      have E := Lib.hid e1
      clear hc h4 e1
      by_cases hy : y < t
      · have hd : decide (y < t) = true := decide_eq_true hy
        go_wp2_with (go_at_call 30; refine (less_any _ _ _).mono ?_; rintro e w1 ⟨rfl, rfl⟩)
        refine ⟨⟨(i + j) / 2 + 1, j, by go_num, rfl, by omega, hjn, fun k hk => ?_, Hhi.out⟩, by simp [intOf]; omega⟩
        by_cases e : k = (i + j) / 2
        · rw [e, E.out]; exact hy
        · have := HM.out k ((i + j) / 2) (by omega) (by omega)
          rw [E.out] at this; omega
      · have hd : decide (y < t) = false := decide_eq_false hy
        go_wp2_with (go_at_call 30; refine (less_any _ _ _).mono ?_; rintro e w1 ⟨rfl, rfl⟩)
        refine ⟨⟨i, (i + j) / 2, rfl, by go_num, by omega, by omega, Hlo.out, fun k hk hk2 => ?_⟩, by simp [intOf]; omega⟩
        by_cases e : k = (i + j) / 2
        · rw [e, E.out]; omega
        · have := HM.out ((i + j) / 2) k (by omega) hk2
          rw [E.out] at this; omega
    · obtain rfl : i = j := by omega
      by_cases hin : i < n
      · obtain ⟨b, off, rfl, hc⟩ := h4 (by omega)
        have c1 := hc i hin
        generalize e1 : Pl.at0 l i = y at *
        have E := Lib.hid e1
        clear hc h4 e1
        by_cases hy : y = t
        · have hb : (y == t) = true := beq_iff_eq.2 hy
          have HY := Lib.hid hy
          clear hy
          go_wp2_with fail
          go_ret2
          exact ⟨⟨i, by rw [HN.out]; omega, Hlo.out, by rw [HN.out]; exact Hhi.out, true, rfl, by simp; rw [E.out, HN.out]; exact ⟨hin, HY.out⟩⟩, rfl⟩
        · have hb : (y == t) = false := beq_eq_false_iff_ne.2 hy
          have HY := Lib.hid hy
          clear hy
          go_wp2_with (go_at_call 31; refine (nan_any _ _).mono ?_; rintro e w1 ⟨rfl, rfl⟩)
          go_ret2
          exact ⟨⟨i, by rw [HN.out]; omega, Hlo.out, by rw [HN.out]; exact Hhi.out, false, rfl, by simp; rw [E.out]; exact fun _ => HY.out⟩, rfl⟩
      · go_wp2_with fail
        go_ret2
        exact ⟨⟨i, by rw [HN.out]; omega, Hlo.out, by rw [HN.out]; exact Hhi.out, false, rfl, by simp; rw [HN.out]; exact fun h => absurd h hin⟩, rfl⟩

theorem pick_nil (a : Option Addr) (cap : Nat) (n : Int) (w : World) : Calls Try.prog 8 #[.slice a 0 cap, .int .i64 n] w fun e w' => e = .returned (.tuple #[.int .i64 0, .int .i64 1]) ∧ w = w' := by
  go_enter Try.func8, Try.ntmps8
  go_wp2_with fail
  go_ret2
  exact ⟨rfl, rfl⟩
theorem pick_bad (a : Option Addr) (k cap : Nat) (l : List Int) (n : Int) (w : World) (h : RdI w (.slice a k cap) l) (hk : 0 < k) (hm : k ≤ 4611686018427387903) (hb : Pl.ascB l = false ∨ Pl.ascB l = true ∧ n < 0) :
    Calls Try.prog 8 #[.slice a k cap, .int .i64 n] w fun e w' => e = .returned (.tuple #[.int .i64 0, .int .i64 1]) ∧ w = w' := by
  have H := Lib.hid (asc_any _ l w h (by rw [h.bounds.1]; omega))
  have h0 : ((k : Int) == 0) = false := by simp; omega
  clear h
  rcases hb with hb | ⟨hb, hneg⟩
  all_goals
    rw [hb] at H
    clear hb
    go_enter Try.func8, Try.ntmps8
    go_wp2_with fail
    refine H.out.mono ?_; rintro e w1 ⟨rfl, rfl⟩
    go_wp2_with fail
    go_ret2
    exact ⟨rfl, rfl⟩
theorem pick_ok (a : Option Addr) (k cap : Nat) (l : List Int) (n : Int) (w : World) (h : RdI w (.slice a k cap) l) (hk : 0 < k) (hm : k ≤ 4611686018427387903) (hasc : Pl.ascB l = true) (hn : 0 ≤ n) (_hn2 : n ≤ 9223372036854775807) :
    Calls Try.prog 8 #[.slice a k cap, .int .i64 n] w fun e w' => e = .returned (.tuple #[.int .i64 (Pl.at0 l (n.toNat % k)), .int .i64 0]) ∧ w = w' := by
  have H := Lib.hid (asc_any _ l w h (by rw [h.bounds.1]; omega))
  rw [hasc] at H
  have h0 : ((k : Int) == 0) = false := by simp; omega
  obtain ⟨_, _, e0, _, _, _, h4⟩ := h.shape0
  injection e0 with e1 e2 e3
  subst e1 e2 e3
  obtain ⟨b, off, rfl, hc⟩ := h4 hk
  obtain ⟨m, rfl⟩ := Int.eq_ofNat_of_zero_le hn
  rw [Int.toNat_natCast]
  generalize hl : l.length = k at *
  have hlt := Nat.mod_lt m hk
  have c1 := hc (m % k) hlt
  have h0 : ((k : Int) == 0) = false := by simp; omega
  generalize Pl.at0 l (m % k) = y at *
  clear hc h4 h hl hasc
  have j2 : ((m : Int) % (k : Int)).toNat = m % k := by rw [← Int.natCast_emod]; omega
  have j3 : (m : Int) % (k : Int) < (k : Int) := Int.emod_lt_of_pos _ (by omega)
  have j4 : 0 ≤ (m : Int) % (k : Int) := Int.emod_nonneg _ (by omega)
  go_enter Try.func8, Try.ntmps8
  go_wp2_with fail
  refine H.out.mono ?_; rintro e w1 ⟨rfl, rfl⟩
  have c2 := c1
  clear c1
  go_wp2_with fail
  go_ret2
  exact ⟨rfl, rfl⟩
theorem pick_any (v : Value) (l : List Int) (n : Int) (w : World) (h : RdI w v l) (hm : l.length ≤ 4611686018427387903) (hn : n ≤ 9223372036854775807) :
    Calls Try.prog 8 #[v, .int .i64 n] w fun e w' => e = .returned (.tuple #[.int .i64 (pickV l n), .int .i64 (pickE l n)]) ∧ w = w' := by
  obtain ⟨a, cap, rfl, _⟩ := h.shape0
  by_cases hk : 0 < l.length
  · cases hasc : Pl.ascB l with
    | false =>
      have := pick_no (l := l) (n := n) (fun h => absurd (h.2.1.symm.trans hasc) (by decide))
      rw [this.1, this.2]
      exact pick_bad a _ cap l n w h hk hm (.inl hasc)
    | true =>
      by_cases h0 : 0 ≤ n
      · have := pick_yes (l := l) (n := n) ⟨hk, hasc, h0⟩
        rw [this.1, this.2]
        exact pick_ok a _ cap l n w h hk hm hasc h0 hn
      · have := pick_no (l := l) (n := n) (fun h => h0 h.2.2)
        rw [this.1, this.2]
        exact pick_bad a _ cap l n w h hk hm (.inr ⟨hasc, by omega⟩)
  · have e : l.length = 0 := by omega
    have := pick_no (l := l) (n := n) (fun h => hk h.1)
    rw [this.1, this.2, e]
    exact pick_nil a cap n w

theorem rpick_nil (a : Option Addr) (cap : Nat) (n : Int) (w : World) : Calls Try.prog 9 #[.slice a 0 cap, .int .i64 n] w fun e w' => e = .returned (.tuple #[.int .i64 0, .int .i64 1]) ∧ Below w.heap.size w w' := by
  go_enter Try.func9, Try.ntmps9
  go_wp2_with fail
  go_ret2
  exact ⟨rfl, Below.refl _ _⟩
theorem rpick_bad (a : Option Addr) (k cap : Nat) (l : List Int) (n : Int) (w : World) (h : RdI w (.slice a k cap) l) (hk : 0 < k) (hm : k ≤ 4611686018427387903) (hb : Pl.ascB l = false ∨ Pl.ascB l = true ∧ n < 0) :
    Calls Try.prog 9 #[.slice a k cap, .int .i64 n] w fun e w' => e = .returned (.tuple #[.int .i64 0, .int .i64 1]) ∧ Below w.heap.size w w' := by
  have H := Lib.hid (rasc_any _ l w h (by rw [h.bounds.1]; omega))
  have h0 : ((k : Int) == 0) = false := by simp; omega
  clear h
  rcases hb with hb | ⟨hb, hneg⟩
  all_goals
    rw [hb] at H
    clear hb
    go_enter Try.func9, Try.ntmps9
    go_wp2_with fail
    refine H.out.mono ?_; rintro e w1 ⟨rfl, hb⟩
    go_wp2_with fail
    go_ret2
    exact ⟨rfl, hb⟩
theorem rpick_ok (a : Option Addr) (k cap : Nat) (l : List Int) (n : Int) (w : World) (h : RdI w (.slice a k cap) l) (hk : 0 < k) (hm : k ≤ 4611686018427387903) (hasc : Pl.ascB l = true) (hn : 0 ≤ n) (_hn2 : n ≤ 9223372036854775807) :
    Calls Try.prog 9 #[.slice a k cap, .int .i64 n] w fun e w' => e = .returned (.tuple #[.int .i64 (Pl.at0 l (n.toNat % k)), .int .i64 0]) ∧ Below w.heap.size w w' := by
  have H := Lib.hid (rasc_any _ l w h (by rw [h.bounds.1]; omega))
  rw [hasc] at H
  have h0 : ((k : Int) == 0) = false := by simp; omega
  obtain ⟨_, _, e0, _, _, _, h4⟩ := h.shape0
  injection e0 with e1 e2 e3
  subst e1 e2 e3
  obtain ⟨b, off, rfl, hc⟩ := h4 hk
  obtain ⟨m, rfl⟩ := Int.eq_ofNat_of_zero_le hn
  rw [Int.toNat_natCast]
  generalize hl : l.length = k at *
  have hlt := Nat.mod_lt m hk
  have c1 := hc (m % k) hlt
  have h0 : ((k : Int) == 0) = false := by simp; omega
  generalize Pl.at0 l (m % k) = y at *
  clear hc h4 h hl hasc
  have j2 : ((m : Int) % (k : Int)).toNat = m % k := by rw [← Int.natCast_emod]; omega
  have j3 : (m : Int) % (k : Int) < (k : Int) := Int.emod_lt_of_pos _ (by omega)
  have j4 : 0 ≤ (m : Int) % (k : Int) := Int.emod_nonneg _ (by omega)
  go_enter Try.func9, Try.ntmps9
  go_wp2_with fail
  refine H.out.mono ?_; rintro e w1 ⟨rfl, hb⟩
  have c2 := Below.keeps hb _ _ c1
  clear c1
  go_wp2_with fail
  go_ret2
  exact ⟨rfl, hb⟩
theorem rpick_any (v : Value) (l : List Int) (n : Int) (w : World) (h : RdI w v l) (hm : l.length ≤ 4611686018427387903) (hn : n ≤ 9223372036854775807) :
    Calls Try.prog 9 #[v, .int .i64 n] w fun e w' => e = .returned (.tuple #[.int .i64 (pickV l n), .int .i64 (pickE l n)]) ∧ Below w.heap.size w w' := by
  obtain ⟨a, cap, rfl, _⟩ := h.shape0
  by_cases hk : 0 < l.length
  · cases hasc : Pl.ascB l with
    | false =>
      have := pick_no (l := l) (n := n) (fun h => absurd (h.2.1.symm.trans hasc) (by decide))
      rw [this.1, this.2]
      exact rpick_bad a _ cap l n w h hk hm (.inl hasc)
    | true =>
      by_cases h0 : 0 ≤ n
      · have := pick_yes (l := l) (n := n) ⟨hk, hasc, h0⟩
        rw [this.1, this.2]
        exact rpick_ok a _ cap l n w h hk hm hasc h0 hn
      · have := pick_no (l := l) (n := n) (fun h => h0 h.2.2)
        rw [this.1, this.2]
        exact rpick_bad a _ cap l n w h hk hm (.inr ⟨hasc, by omega⟩)
  · have e : l.length = 0 := by omega
    have := pick_no (l := l) (n := n) (fun h => hk h.1)
    rw [this.1, this.2, e]
    exact rpick_nil a cap n w

theorem next_nil (a : Option Addr) (cap : Nat) (n : Int) (w : World) : Calls Try.prog 10 #[.slice a 0 cap, .int .i64 n] w fun e w' => e = .returned (.tuple #[.int .i64 0, .int .i64 1]) ∧ w = w' := by
  go_enter Try.func10, Try.ntmps10
  go_wp2_with fail
  go_ret2
  exact ⟨rfl, rfl⟩
theorem next_bad (a : Option Addr) (k cap : Nat) (l : List Int) (n : Int) (w : World) (h : RdI w (.slice a k cap) l) (hk : 0 < k) (hm : k ≤ 4611686018427387903) (hb : Pl.ascB l = false) :
    Calls Try.prog 10 #[.slice a k cap, .int .i64 n] w fun e w' => e = .returned (.tuple #[.int .i64 0, .int .i64 1]) ∧ w = w' := by
  have H := Lib.hid (asc_any _ l w h (by rw [h.bounds.1]; omega))
  have h0 : ((k : Int) == 0) = false := by simp; omega
  rw [hb] at H
  clear hb h
  go_enter Try.func10, Try.ntmps10
  go_wp2_with fail
  refine H.out.mono ?_; rintro e w1 ⟨rfl, rfl⟩
  go_wp2_with fail
  go_ret2
  exact ⟨rfl, rfl⟩
set_option maxHeartbeats 1000000 in
theorem next_ok (a : Option Addr) (k cap : Nat) (l : List Int) (n : Int) (w : World) (h : RdI w (.slice a k cap) l) (hk : 0 < k) (hm : k ≤ 4611686018427387903) (hasc : Pl.ascB l = true) :
    Calls Try.prog 10 #[.slice a k cap, .int .i64 n] w fun e w' => e = .returned (.tuple #[.int .i64 (Pl.nextV l n), .int .i64 0]) ∧ w = w' := by
  have H := Lib.hid (asc_any _ l w h (by rw [h.bounds.1]; omega))
  have HB := Lib.hid (bsearch_any _ l n w h (by rw [h.bounds.1]; omega) ((Pl.asc_iff l).1 hasc))
  have HV := Lib.hid (show ∀ i, _ from fun i => Pl.next_of_search ((Pl.asc_iff l).1 hasc) n i)
  rw [hasc] at H
  have h0 : ((k : Int) == 0) = false := by simp; omega
  obtain ⟨_, _, e0, _, _, _, h4⟩ := h.shape0
  injection e0 with e1 e2 e3
  subst e1 e2 e3
  obtain ⟨b, off, rfl, hc⟩ := h4 hk
  unfold Found at HB
  generalize hl : l.length = k at *
  clear h4 h hasc hl
  go_enter Try.func10, Try.ntmps10
  go_wp2_with fail
  refine H.out.mono ?_; rintro e w1 ⟨rfl, rfl⟩
  go_wp2_with fail
  refine HB.out.mono ?_
  rintro e w1 ⟨⟨i, hi, hlo, hhi, f, rfl, hf⟩, rfl⟩
  have hv := HV.out i hi hlo hhi
  clear hlo hhi
  cases f with
  | true =>
    obtain ⟨h1, h2⟩ := hf.1 rfl
    have HR := Lib.hid (hv.1 h1 h2)
    have c1 := hc ((i + 1) % k) (Nat.mod_lt _ hk)
    have j2 : (((i : Int) + 1) % (k : Int)).toNat = (i + 1) % k := by rw [show (i : Int) + 1 = ((i + 1 : Nat) : Int) by omega, ← Int.natCast_emod]; omega
    have j3 : ((i : Int) + 1) % (k : Int) < (k : Int) := Int.emod_lt_of_pos _ (by omega)
    have j4 : 0 ≤ ((i : Int) + 1) % (k : Int) := Int.emod_nonneg _ (by omega)
    generalize Pl.at0 l ((i + 1) % k) = y at *
    clear hc hv hf h2
    go_wp2_with fail
    go_ret2
    exact ⟨by first | rfl | (rw [HR.out]; rfl), rfl⟩
  | false =>
    have h1 : i < k → Pl.at0 l i ≠ n := fun h1 h2 => absurd (hf.2 ⟨h1, h2⟩) (by decide)
    have HR := Lib.hid (hv.2 h1)
    have c1 := hc (i % k) (Nat.mod_lt _ hk)
    have j2 : ((i : Int) % (k : Int)).toNat = i % k := by rw [← Int.natCast_emod]; omega
    have j3 : (i : Int) % (k : Int) < (k : Int) := Int.emod_lt_of_pos _ (by omega)
    have j4 : 0 ≤ (i : Int) % (k : Int) := Int.emod_nonneg _ (by omega)
    generalize Pl.at0 l (i % k) = y at *
    clear hc hv hf h1
    go_wp2_with fail
    go_ret2
    exact ⟨by first | rfl | (rw [HR.out]; rfl), rfl⟩
theorem next_any (v : Value) (l : List Int) (n : Int) (w : World) (h : RdI w v l) (hm : l.length ≤ 4611686018427387903) :
    Calls Try.prog 10 #[v, .int .i64 n] w fun e w' => e = .returned (.tuple #[.int .i64 (nextW l n), .int .i64 (nextE l)]) ∧ w = w' := by
  obtain ⟨a, cap, rfl, _⟩ := h.shape0
  by_cases hk : 0 < l.length
  · cases hasc : Pl.ascB l with
    | false =>
      have := next_no (l := l) (n := n) (fun h => absurd (h.2.symm.trans hasc) (by decide))
      rw [this.1, this.2]
      exact next_bad a _ cap l n w h hk hm hasc
    | true =>
      have := next_yes (l := l) (n := n) ⟨hk, hasc⟩
      rw [this.1, this.2]
      exact next_ok a _ cap l n w h hk hm hasc
  · have e : l.length = 0 := by omega
    have := next_no (l := l) (n := n) (fun h => hk h.1)
    rw [this.1, this.2, e]
    exact next_nil a cap n w

theorem rnext_nil (a : Option Addr) (cap : Nat) (n : Int) (w : World) : Calls Try.prog 11 #[.slice a 0 cap, .int .i64 n] w fun e w' => e = .returned (.tuple #[.int .i64 0, .int .i64 1]) ∧ Below w.heap.size w w' := by
  go_enter Try.func11, Try.ntmps11
  go_wp2_with fail
  go_ret2
  exact ⟨rfl, Below.refl _ _⟩
theorem rnext_bad (a : Option Addr) (k cap : Nat) (l : List Int) (n : Int) (w : World) (h : RdI w (.slice a k cap) l) (hk : 0 < k) (hm : k ≤ 4611686018427387903) (hb : Pl.ascB l = false) :
    Calls Try.prog 11 #[.slice a k cap, .int .i64 n] w fun e w' => e = .returned (.tuple #[.int .i64 0, .int .i64 1]) ∧ Below w.heap.size w w' := by
  have H := Lib.hid (rasc_any _ l w h (by rw [h.bounds.1]; omega))
  have h0 : ((k : Int) == 0) = false := by simp; omega
  rw [hb] at H
  clear hb h
  go_enter Try.func11, Try.ntmps11
  go_wp2_with fail
  refine H.out.mono ?_; rintro e w1 ⟨rfl, hb⟩
  go_wp2_with fail
  go_ret2
  exact ⟨rfl, hb⟩
set_option maxHeartbeats 1000000 in
theorem rnext_ok (a : Option Addr) (k cap : Nat) (l : List Int) (n : Int) (w : World) (h : RdI w (.slice a k cap) l) (hk : 0 < k) (hm : k ≤ 4611686018427387903) (hasc : Pl.ascB l = true) :
    Calls Try.prog 11 #[.slice a k cap, .int .i64 n] w fun e w' => e = .returned (.tuple #[.int .i64 (Pl.nextV l n), .int .i64 0]) ∧ Below w.heap.size w w' := by
  have H := Lib.hid (rasc_any _ l w h (by rw [h.bounds.1]; omega))
  have HV := Lib.hid (show ∀ i, i < l.length → _ from fun i hi => Pl.next_at (l := l) (last := n) hi)
  have HV0 := Lib.hid (Pl.next_no (l := l) (last := n))
  rw [hasc] at H
  have h0 : ((k : Int) == 0) = false := by simp; omega
  obtain ⟨_, _, e0, _, _, _, h4⟩ := h.shape0
  injection e0 with e1 e2 e3
  subst e1 e2 e3
  obtain ⟨b, off, rfl, hc⟩ := h4 hk
  generalize hl : l.length = k at *
  clear h4 h hasc hl
  go_enter Try.func11, Try.ntmps11
  go_wp2_with fail
  refine H.out.mono ?_; rintro e w1 ⟨rfl, hb⟩
  have hc1 := Lib.hid (fun j hj => Below.keeps hb _ _ (hc j hj))
  clear hc
  go_wp2_with fail
  go_loop [6] (fun i => ∃ j : Nat, i = .int .i64 (j : Int) ∧ j ≤ k ∧ ∀ m, m < j → Pl.at0 l m ≤ n) (fun i => k - (intOf i).toNat)
  case atStart => exact ⟨0, rfl, Nat.zero_le _, fun m hm => absurd hm (by omega)⟩
  case round =>
    obtain ⟨j, rfl, hj, hlo⟩ := hrel
    have Hlo := Lib.hid hlo
    clear hlo
    by_cases hlt : j < k
    · have c1 := hc1.out j hlt
      generalize e1 : Pl.at0 l j = y at *
      have E := Lib.hid e1
      clear e1
      go_wp2_with fail
      · have hy : n < y := by assumption
        go_ret2
        exact ⟨by rw [HV.out j hlt (by rw [E.out]; exact hy) Hlo.out, E.out]; rfl, hb⟩
      · have hy : y ≤ n := by assumption
        refine ⟨⟨j + 1, by go_num, by omega, fun m hm => ?_⟩, by simp [intOf]; omega⟩
        by_cases e : m = j
        · rw [e, E.out]; exact hy
        · exact Hlo.out m (by omega)
    · obtain rfl : j = k := by omega
      have c1 := hc1.out 0 hk
      rw [Nat.add_zero] at c1
      have HR := Lib.hid (HV0.out Hlo.out)
      generalize Pl.at0 l 0 = y at *
      go_wp2_with fail
      go_ret2
      exact ⟨by rw [HR.out]; rfl, hb⟩
theorem rnext_any (v : Value) (l : List Int) (n : Int) (w : World) (h : RdI w v l) (hm : l.length ≤ 4611686018427387903) :
    Calls Try.prog 11 #[v, .int .i64 n] w fun e w' => e = .returned (.tuple #[.int .i64 (nextW l n), .int .i64 (nextE l)]) ∧ Below w.heap.size w w' := by
  obtain ⟨a, cap, rfl, _⟩ := h.shape0
  by_cases hk : 0 < l.length
  · cases hasc : Pl.ascB l with
    | false =>
      have := next_no (l := l) (n := n) (fun h => absurd (h.2.symm.trans hasc) (by decide))
      rw [this.1, this.2]
      exact rnext_bad a _ cap l n w h hk hm hasc
    | true =>
      have := next_yes (l := l) (n := n) ⟨hk, hasc⟩
      rw [this.1, this.2]
      exact rnext_ok a _ cap l n w h hk hm hasc
  · have e : l.length = 0 := by omega
    have := next_no (l := l) (n := n) (fun h => hk h.1)
    rw [this.1, this.2, e]
    exact rnext_nil a cap n w
end Go.Proofs.Ytffmdhloplindaa
