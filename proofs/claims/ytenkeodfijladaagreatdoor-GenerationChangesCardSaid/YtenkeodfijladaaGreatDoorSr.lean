/- slices.rotateCmpFunc at items: the walk. -/
import Derived.Test.YtenkeodfijladaaGreatDoorPq
namespace Go.Proofs.YtenkeodfijladaaGreatDoor
open Go.RowKit

/-- The rotation under way: i and j items are still to be changed around m. -/
structure RotC (T q : List It) (m i j : Nat) : Prop where
  ex : ∃ P U V Q : List It, q = P ++ (U ++ (V ++ Q)) ∧ T = P ++ (V ++ (U ++ Q)) ∧ U.length = i ∧ V.length = j ∧ P.length + i = m
  hi : 0 < i
  hj : 0 < j
theorem RotC.gt {T q : List It} {m i j : Nat} (h : RotC T q m i j) (hij : j < i) : RotC T (swpN q (m - i) m j) m (i - j) j := by
  obtain ⟨⟨P, U, V, Q, rfl, rfl, hu, hv, hm⟩, h1, h2⟩ := h
  refine ⟨⟨P ++ V, U.drop j, U.take j, Q, ?_, ?_, by rw [List.length_drop]; omega, by rw [List.length_take]; omega, by rw [List.length_append]; omega⟩, by omega, h2⟩
  · have hx : (U.take j).length = V.length := by rw [List.length_take]; omega
    have hb := swpN_blocks (P := P) (X := U.take j) (Y := U.drop j) (Z := V) (Q := Q) hx
    have hlen : P.length + (U.take j).length + (U.drop j).length = m := by rw [List.length_take, List.length_drop]; omega
    rw [hlen, hx, hv, show P.length = m - i by omega, ← List.append_assoc (U.take j), List.take_append_drop] at hb
    rw [hb]; simp
  · simp only [List.append_assoc]
    rw [← List.append_assoc (U.take j), List.take_append_drop]
theorem RotC.lt {T q : List It} {m i j : Nat} (h : RotC T q m i j) (hij : i < j) : RotC T (swpN q (m - i) (m + j - i) i) m i (j - i) := by
  obtain ⟨⟨P, U, V, Q, rfl, rfl, hu, hv, hm⟩, h1, h2⟩ := h
  refine ⟨⟨P, V.drop (j - i), V.take (j - i), U ++ Q, ?_, ?_, by rw [List.length_drop]; omega, by rw [List.length_take]; omega, hm⟩, h1, by omega⟩
  · have hx : U.length = (V.drop (j - i)).length := by rw [List.length_drop]; omega
    have hb := swpN_blocks (P := P) (X := U) (Y := V.take (j - i)) (Z := V.drop (j - i)) (Q := Q) hx
    have hlen : P.length + U.length + (V.take (j - i)).length = m + j - i := by rw [List.length_take]; omega
    rw [hlen, hu, show P.length = m - i by omega, ← List.append_assoc (V.take (j - i)), List.take_append_drop] at hb
    rw [hb]
  · rw [← List.append_assoc (V.take (j - i)), List.take_append_drop]
theorem RotC.eq {T q : List It} {m i : Nat} (h : RotC T q m i i) : swpN q (m - i) m i = T := by
  obtain ⟨⟨P, U, V, Q, rfl, rfl, hu, hv, hm⟩, h1, h2⟩ := h
  have hb := swpN_blocks (P := P) (X := U) (Y := []) (Z := V) (Q := Q) (by omega)
  rw [hu, show P.length = m - i by omega] at hb
  simp only [List.length_nil, List.nil_append, Nat.add_zero] at hb
  rw [show m - i + i = m by omega] at hb
  exact hb
theorem RotC.len {T q : List It} {m i j : Nat} (h : RotC T q m i j) : i ≤ m ∧ m + j ≤ q.length := by
  obtain ⟨⟨P, U, V, Q, rfl, rfl, hu, hv, hm⟩, h1, h2⟩ := h
  simp only [List.length_append]; omega
theorem rotC_start {d : List It} {a m b : Nat} (h1 : a < m) (h2 : m < b) (h3 : b ≤ d.length) : RotC (rot d a m b) d m (m - a) (b - m) := by
  refine ⟨⟨d.take a, seg d a m, seg d m b, d.drop b, ?_, ?_, seg_length (by omega), seg_length h3, by rw [List.length_take]; omega⟩, by omega, by omega⟩
  · have := parts (d := d) (a := a) (b := b) (by omega)
    rw [seg_app (Nat.le_of_lt h1) (Nat.le_of_lt h2)] at this
    simpa using this
  · unfold rot; simp
set_option maxHeartbeats 1000000 in
theorem rotate_any (g n cap a m b B : Nat) (d : List It) (fv : Value) (w : World) (hown : w.ownsRow B 77 4 (.slice (some ⟨g, 0, none⟩) n cap) n (itsC d)) (hn : d.length = n) (hs : n ≤ 1000000) (h1 : a < m) (h2 : m < b) (h3 : b ≤ n) :
    Calls Tryz.prog 169 #[.slice (some ⟨g, 0, none⟩) n cap, .int .i64 (a : Int), .int .i64 (m : Int), .int .i64 (b : Int), fv] w fun e w' => e = .returned (.tuple #[]) ∧ w'.ownsRow B 77 4 (.slice (some ⟨g, 0, none⟩) n cap) n (itsC (rot d a m b)) ∧ w.grownBy w' (some g) := by
  have HO := Lib.hid hown
  have HR := Lib.hid (rotC_start h1 h2 (by omega) : RotC (rot d a m b) d m (m - a) (b - m))
  have hgr : w.grownBy w (some g) := ⟨rfl, rfl, rfl, Nat.le_refl _, fun _ _ _ => rfl⟩
  have HG := Lib.hid hgr
  have HN := Lib.hid hn
  generalize rot d a m b = T at *
  clear hown hgr hn
  go_enter Tryz.func169, Tryz.ntmps169
  go_wp2_with fail
  go_loopw [10, 11] (fun iv jv wr => ∃ (i j : Nat) (q : List It), iv = .int .i64 (i : Int) ∧ jv = .int .i64 (j : Int) ∧ RotC T q m i j ∧ q.length = n ∧ wr.ownsRow B 77 4 (.slice (some ⟨g, 0, none⟩) n cap) n (itsC q) ∧ w.grownBy wr (some g)) (fun iv jv _ => (intOf iv).toNat + (intOf jv).toNat)
  case atStart => exact ⟨m - a, b - m, d, by go_num, by go_num, HR.out, HN.out, HO.out, HG.out⟩
  case round =>
    obtain ⟨i, j, q, rfl, rfl, hr, hq, ho, hg⟩ := hrel
    have hl := hr.len
    have hip := hr.hi
    have hjp := hr.hj
    rw [hq] at hl
    have Ho := Lib.hid ho
    have Hg := Lib.hid hg
    have Hr := Lib.hid hr
    have Hq := Lib.hid hq
    clear ho hg hr hq
    rcases Nat.lt_trichotomy i j with hij | hij | hij
    · have HC := Lib.hid (swprange_any g n cap (m - i) (m + j - i) i B q fv wr Ho.out Hq.out hs (by omega) (by omega))
      have e1 : ((m - i : Nat) : Int) = (m : Int) - (i : Int) := by omega
      have e2 : ((m + j - i : Nat) : Int) = (m : Int) + (j : Int) - (i : Int) := by omega
      rw [e1, e2] at HC
      have HR2 := Lib.hid (Hr.out.lt hij)
      have HL2 := Lib.hid ((swpN_length q (m - i) (m + j - i) i).trans Hq.out)
      generalize swpN q (m - i) (m + j - i) i = q2 at *
      clear e1 e2
      have hne : ((i : Int) != (j : Int)) = true := by rw [bne_iff_ne]; omega
      go_wp2_with fail
      refine HC.out.mono ?_; rintro e w2 ⟨rfl, hown2, hgr2⟩
      have HO2 := Lib.hid hown2
      have HG2 := Lib.hid (grown_tr Hg.out hgr2)
      clear hown2 hgr2
      go_wp2_with fail
      exact ⟨⟨i, j - i, q2, rfl, by go_num, HR2.out, HL2.out, HO2.out, HG2.out⟩, by simp [intOf]; omega⟩
    · subst hij
      have HC := Lib.hid (swprange_any g n cap (m - i) m i B q fv wr Ho.out Hq.out hs (by omega) (by omega))
      have e1 : ((m - i : Nat) : Int) = (m : Int) - (i : Int) := by omega
      rw [e1, Hr.out.eq] at HC
      clear e1
      have hne : ((i : Int) != (i : Int)) = false := by simp
      go_wp2_with fail
      refine HC.out.mono ?_; rintro e w2 ⟨rfl, hown2, hgr2⟩
      have HO2 := Lib.hid hown2
      have HG2 := Lib.hid (grown_tr Hg.out hgr2)
      clear hown2 hgr2
      go_wp2_with fail
      go_end0
      exact ⟨rfl, HO2.out, HG2.out⟩
    · have HC := Lib.hid (swprange_any g n cap (m - i) m j B q fv wr Ho.out Hq.out hs (by omega) (by omega))
      have e1 : ((m - i : Nat) : Int) = (m : Int) - (i : Int) := by omega
      rw [e1] at HC
      have HR2 := Lib.hid (Hr.out.gt hij)
      have HL2 := Lib.hid ((swpN_length q (m - i) m j).trans Hq.out)
      generalize swpN q (m - i) m j = q2 at *
      clear e1
      have hne : ((i : Int) != (j : Int)) = true := by rw [bne_iff_ne]; omega
      go_wp2_with fail
      refine HC.out.mono ?_; rintro e w2 ⟨rfl, hown2, hgr2⟩
      have HO2 := Lib.hid hown2
      have HG2 := Lib.hid (grown_tr Hg.out hgr2)
      clear hown2 hgr2
      go_wp2_with fail
      exact ⟨⟨i - j, j, q2, by go_num, rfl, HR2.out, HL2.out, HO2.out, HG2.out⟩, by simp [intOf]; omega⟩
end Go.Proofs.YtenkeodfijladaaGreatDoor
