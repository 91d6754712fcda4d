/- ValidName of the reference and of the program: the walks. -/
import Derived.Test.YtkabcpmnbjllcaaDoorZl
import Derived.Test.YtkabcpmnbjllcaaDoorZt
namespace Go.Proofs.YtkabcpmnbjllcaaDoor
open Go.RowKit

theorem all_take_snoc (l : List UInt8) (k : Nat) (h : k < l.length) (p : UInt8 → Bool) : (l.take (k + 1)).all p = ((l.take k).all p && p l[k]) := by
  rw [List.take_succ_eq_append_getElem h, List.all_append]; simp
theorem all_take_no (l : List UInt8) (k : Nat) (p : UInt8 → Bool) (h : (l.take k).all p = false) : l.all p = false := by
  cases e : l.all p
  · rfl
  · rw [List.all_eq_true] at e
    have : (l.take k).all p = true := List.all_eq_true.2 fun x hx => e x (List.mem_of_mem_take hx)
    rw [this] at h; cases h
theorem letB_eq (c : UInt8) : letB c = true ↔ (97 ≤ c.toNat ∧ c.toNat ≤ 122) ∨ (48 ≤ c.toNat ∧ c.toNat ≤ 57) ∨ c.toNat = 46 ∨ c.toNat = 45 := by
  unfold letB
  have e1 : (c == 46) = decide (c.toNat = 46) := by
    rw [Bool.eq_iff_iff]; simp [← UInt8.toNat_inj]
  have e2 : (c == 45) = decide (c.toNat = 45) := by
    rw [Bool.eq_iff_iff]; simp [← UInt8.toNat_inj]
  rw [e1, e2]
  simp [or_assoc]
set_option maxHeartbeats 1600000 in
theorem rvname_any (s : ByteArray) (w : World) (hs : s.size ≤ 9223372036854775807) : Calls Tryd.prog 24 #[.string s] w fun e w' => e = .returned (.bool (nameB s.data.toList)) ∧ w = w' := by
  have hl : s.data.toList.length = s.size := by rw [Array.length_toList]; rfl
  have HS := Lib.hid (show ∀ k (h : k < s.size), (s.data.toList.take (k + 1)).all letB = ((s.data.toList.take k).all letB && letB s[k]) from fun k h => all_take_snoc _ k (by rw [hl]; exact h) letB)
  have HN := Lib.hid (show ∀ k, (s.data.toList.take k).all letB = false → s.data.toList.all letB = false from fun k h => all_take_no _ k _ h)
  have HE := Lib.hid (show (s.data.toList.take s.size).all letB = s.data.toList.all letB by rw [← hl, List.take_length])
  have HR := Lib.hid (show nameB s.data.toList = (s.data.toList.all letB && decide (1 ≤ s.size) && decide (s.size ≤ 40)) by rw [← hl]; rfl)
  have H0 := Lib.hid (show (s.data.toList.take 0).all letB = true from rfl)
  generalize nameB s.data.toList = R at *
  generalize s.data.toList.all letB = A at *
  clear hl
  go_enter Tryd.func24, Tryd.ntmps24
  go_wp2_with fail
  go_loop [3] (fun iv => ∃ k : Nat, k ≤ s.size ∧ iv = .int .i64 (k : Int) ∧ Hid ((s.data.toList.take k).all letB = true)) (fun iv => s.size - (intOf iv).toNat)
  case atStart => exact ⟨0, Nat.zero_le _, rfl, H0⟩
  case round =>
    obtain ⟨k, hk, rfl, HA⟩ := hrel
    by_cases hlt : k < s.size
    · have HSk := Lib.hid (HS.out k hlt)
      have HL := Lib.hid (letB_eq s[k])
      have hb : (s[k].toNat : Int) < 256 := by have := s[k].toNat_lt; omega
      by_cases hlet : (97 ≤ s[k].toNat ∧ s[k].toNat ≤ 122) ∨ (48 ≤ s[k].toNat ∧ s[k].toNat ≤ 57) ∨ s[k].toNat = 46 ∨ s[k].toNat = 45
      · have HX := Lib.hid (show (s.data.toList.take (k + 1)).all letB = true by rw [HSk.out, HA.out, HL.out.2 hlet]; rfl)
        clear HSk HL
        rcases hlet with ⟨a, b⟩ | ⟨a, b⟩ | a | a
        · have q1 : 97 ≤ (s[k].toNat : Int) := by omega
          have q2 : (s[k].toNat : Int) ≤ 122 := by omega
          go_wp2_with fail
          go_round
          case rel => exact ⟨k + 1, by omega, by go_num, HX⟩
          case measure => simp [intOf]; omega
        · have q1 : ¬ 97 ≤ (s[k].toNat : Int) := by omega
          have q2 : 48 ≤ (s[k].toNat : Int) := by omega
          have q5 : (s[k].toNat : Int) ≤ 57 := by omega
          go_wp2_with fail
          go_round
          case rel => exact ⟨k + 1, by omega, by go_num, HX⟩
          case measure => simp [intOf]; omega
        · have q1 : ¬ 97 ≤ (s[k].toNat : Int) := by omega
          have q2 : ¬ 48 ≤ (s[k].toNat : Int) := by omega
          have q3 : ((s[k].toNat : Int) == 46) = true := beq_iff_eq.2 (by omega)
          go_wp2_with fail
          go_round
          case rel => exact ⟨k + 1, by omega, by go_num, HX⟩
          case measure => simp [intOf]; omega
        · have q1 : ¬ 97 ≤ (s[k].toNat : Int) := by omega
          have q2 : ¬ 48 ≤ (s[k].toNat : Int) := by omega
          have q3 : ((s[k].toNat : Int) == 46) = false := beq_eq_false_iff_ne.2 (by omega)
          have q4 : ((s[k].toNat : Int) == 45) = true := beq_iff_eq.2 (by omega)
          go_wp2_with fail
          go_round
          case rel => exact ⟨k + 1, by omega, by go_num, HX⟩
          case measure => simp [intOf]; omega
      · have HX := Lib.hid (show false = R by
          rw [HR.out, HN.out (k + 1) (by rw [HSk.out]; cases e : letB s[k]; rw [Bool.and_false]; exact absurd (HL.out.1 e) hlet)]
          rfl)
        by_cases h1 : 97 ≤ s[k].toNat
        · have q1 : 97 ≤ (s[k].toNat : Int) := by omega
          have q2 : ¬ (s[k].toNat : Int) ≤ 122 := by omega
          have q5 : 48 ≤ (s[k].toNat : Int) := by omega
          have q6 : ¬ (s[k].toNat : Int) ≤ 57 := by omega
          have q3 : ((s[k].toNat : Int) == 46) = false := beq_eq_false_iff_ne.2 (by omega)
          have q4 : ((s[k].toNat : Int) == 45) = false := beq_eq_false_iff_ne.2 (by omega)
          go_wp2_with fail
          go_ret
          exact ⟨ret_bool HX.out, rfl⟩
        · by_cases h2 : 48 ≤ s[k].toNat
          · have q1 : ¬ 97 ≤ (s[k].toNat : Int) := by omega
            have q5 : 48 ≤ (s[k].toNat : Int) := by omega
            have q6 : ¬ (s[k].toNat : Int) ≤ 57 := by omega
            have q3 : ((s[k].toNat : Int) == 46) = false := beq_eq_false_iff_ne.2 (by omega)
            have q4 : ((s[k].toNat : Int) == 45) = false := beq_eq_false_iff_ne.2 (by omega)
            go_wp2_with fail
            go_ret
            exact ⟨ret_bool HX.out, rfl⟩
          · have q1 : ¬ 97 ≤ (s[k].toNat : Int) := by omega
            have q5 : ¬ 48 ≤ (s[k].toNat : Int) := by omega
            have q3 : ((s[k].toNat : Int) == 46) = false := beq_eq_false_iff_ne.2 (by omega)
            have q4 : ((s[k].toNat : Int) == 45) = false := beq_eq_false_iff_ne.2 (by omega)
            go_wp2_with fail
            go_ret
            exact ⟨ret_bool HX.out, rfl⟩
    · obtain rfl : k = s.size := by omega
      have HX := Lib.hid (show R = (decide (1 ≤ s.size) && decide (s.size ≤ 40)) by rw [HR.out, ← HE.out, HA.out, Bool.true_and])
      by_cases h1 : 1 ≤ s.size
      · by_cases h2 : s.size ≤ 40
        · have HY := Lib.hid (show true = R by rw [HX.out, decide_eq_true h1, decide_eq_true h2]; rfl)
          have i1 : (s.size : Int) ≤ 40 := by omega
          have i2 : (1 : Int) ≤ (s.size : Int) := by omega
          go_wp2_with fail
          go_ret
          exact ⟨ret_bool HY.out, rfl⟩
        · have HY := Lib.hid (show false = R by rw [HX.out, decide_eq_true h1, decide_eq_false h2]; rfl)
          have i1 : ¬ (s.size : Int) ≤ 40 := by omega
          have i2 : (1 : Int) ≤ (s.size : Int) := by omega
          go_wp2_with fail
          go_ret
          exact ⟨ret_bool HY.out, rfl⟩
      · have HY := Lib.hid (show false = R by rw [HX.out, decide_eq_false h1]; rfl)
        have i2 : ¬ (1 : Int) ≤ (s.size : Int) := by omega
        go_wp2_with fail
        go_ret
        exact ⟨ret_bool HY.out, rfl⟩
theorem drop_nil (p : UInt8 → Bool) : ∀ l : List UInt8, l.dropWhile p = [] ↔ l.all p = true
  | [] => by simp
  | x :: r => by
    rw [List.dropWhile_cons]
    cases h : p x
    · simp [h]
    · simp [h, drop_nil p r]
theorem drop_all (p : UInt8 → Bool) : ∀ l : List UInt8, (l.dropWhile p).all p = true → l.all p = true
  | [], _ => by simp
  | x :: r, h => by
    rw [List.dropWhile_cons] at h
    cases e : p x
    · rw [e] at h
      simp [e] at h
    · rw [e] at h
      simp [e]
      have := drop_all p r (by simpa using h)
      simpa using this
theorem trim_nil (l cs : List UInt8) : Lib.trimS l cs = [] ↔ l.all (cs.contains ·) = true := by
  unfold Lib.trimS Lib.trimLeftS Lib.trimRightS
  rw [drop_nil, List.all_reverse]
  constructor
  · intro h
    have := drop_all _ _ h
    rwa [List.all_reverse] at this
  · intro h
    have h' : l.reverse.all (cs.contains ·) = true := by rw [List.all_reverse]; exact h
    rw [(drop_nil _ _).2 h']; rfl
theorem cut_letB (c : UInt8) : cutSet.data.toList.contains c = letB c := by
  have h : ((List.range 256).all fun n => cutSet.data.toList.contains (UInt8.ofNat n) == letB (UInt8.ofNat n)) = true := by decide +kernel
  have := List.all_eq_true.1 h c.toNat (List.mem_range.2 c.toNat_lt)
  rw [UInt8.ofNat_toNat] at this
  exact beq_iff_eq.1 this
theorem trim_letB (l : List UInt8) : (Lib.trimS l cutSet.data.toList).isEmpty = l.all letB := by
  rw [Bool.eq_iff_iff, List.isEmpty_iff, trim_nil]
  have : (fun c => cutSet.data.toList.contains c) = letB := funext cut_letB
  rw [this]
set_option maxHeartbeats 1600000 in
theorem vname_any (s : ByteArray) (w : World) (hs : s.size ≤ 9223372036854775807) : Calls Tryd.prog 23 #[.string s] w fun e w' => e = .returned (.bool (nameB s.data.toList)) ∧ Below w.heap.size w w' := by
  have hl : s.data.toList.length = s.size := by rw [Array.length_toList]; rfl
  have HR := Lib.hid (show nameB s.data.toList = (s.data.toList.all letB && decide (1 ≤ s.size) && decide (s.size ≤ 40)) by rw [← hl]; rfl)
  have HT0 := Lib.hid (fun h => trim_any s w h)
  have HI := Lib.hid (trim_letB s.data.toList)
  have HL := Lib.hid (Lib.toList_data s)
  have HrL := Lib.hid (Lib.toList_data ⟨(Lib.trimS s.data.toList cutSet.data.toList).toArray⟩)
  generalize nameB s.data.toList = R at *
  generalize s.data.toList.all letB = A at *
  generalize hr : (⟨(Lib.trimS s.data.toList cutSet.data.toList).toArray⟩ : ByteArray) = r at *
  have HE := Lib.hid (show r.toList.isEmpty = A by rw [HrL.out, ← hr]; simpa using HI.out)
  clear hr HrL HI
  by_cases h1 : 1 ≤ s.size
  · have hne : s.toList.isEmpty = false := by
      rw [HL.out]
      cases h : s.data.toList with
      | nil => rw [h] at hl; simp at hl; omega
      | cons _ _ => rfl
    have hne2 : s.toList ≠ [] := by intro h; rw [h] at hne; cases hne
    by_cases h2 : s.size ≤ 40
    · have i1 : (s.size : Int) ≤ 40 := by omega
      have HX := Lib.hid (show A = R by rw [HR.out, decide_eq_true h1, decide_eq_true h2, Bool.and_true, Bool.and_true])
      have HT := Lib.hid (HT0.out (by omega))
      clear hl HR h1 h2 HL HT0
      cases A
      · have e1 := HE.out
        have e2 : r.toList ≠ [] := by intro h; rw [h] at e1; cases e1
        go_enter Tryd.func23, Tryd.ntmps23
        go_wp2_with fail
        refine HT.out.mono ?_
        rintro e w1 ⟨rfl, hb⟩
        have HB := Lib.hid hb
        clear hb
        go_wp2_with fail
        go_ret
        exact ⟨ret_bool HX.out, HB.out⟩
      · have e1 := HE.out
        have e2 : r.toList = [] := List.isEmpty_iff.1 e1
        go_enter Tryd.func23, Tryd.ntmps23
        go_wp2_with fail
        refine HT.out.mono ?_
        rintro e w1 ⟨rfl, hb⟩
        have HB := Lib.hid hb
        clear hb
        go_wp2_with fail
        go_ret
        exact ⟨ret_bool HX.out, HB.out⟩
    · have i1 : ¬ (s.size : Int) ≤ 40 := by omega
      have HX := Lib.hid (show false = R by rw [HR.out, decide_eq_false h2, Bool.and_false])
      clear hl HR h1 h2 HL HT0 HE
      go_enter Tryd.func23, Tryd.ntmps23
      go_wp2_with fail
      go_ret
      exact ⟨ret_bool HX.out, Below.refl _ _⟩
  · have he : s.toList = [] := by rw [HL.out]; exact List.length_eq_zero_iff.1 (by omega)
    have he2 : s.toList.isEmpty = true := by rw [he]; rfl
    have HX := Lib.hid (show false = R by rw [HR.out, decide_eq_false h1, Bool.and_false, Bool.false_and])
    clear hl HR HT0 HE HL
    go_enter Tryd.func23, Tryd.ntmps23
    go_wp2_with fail
    go_ret
    exact ⟨ret_bool HX.out, Below.refl _ _⟩
end Go.Proofs.YtkabcpmnbjllcaaDoor
