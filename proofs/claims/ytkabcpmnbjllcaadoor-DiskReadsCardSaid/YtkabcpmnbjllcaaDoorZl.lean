/- Where a file is: nameOf, cmp.Compare of strings, the search, find. The walks. -/
import Derived.Test.YtkabcpmnbjllcaaDoorZj
namespace Go.Proofs.YtkabcpmnbjllcaaDoor
open Go.RowKit

def cmpS (a b : List UInt8) : Int := if a < b then -1 else if b < a then 1 else 0
theorem cmpS_neg (a b : List UInt8) : decide (cmpS a b < 0) = decide (a < b) := by
  unfold cmpS
  by_cases h : a < b
  · simp [h]
  · rw [if_neg h]
    split <;> simp [h]
theorem cmpS_zero (a b : List UInt8) : (cmpS a b == 0) = (a == b) := by
  unfold cmpS
  by_cases h : a < b
  · have : a ≠ b := fun e => lex_irrefl b (e ▸ h)
    simp [h, this]
  · rw [if_neg h]
    by_cases h' : b < a
    · have : a ≠ b := fun e => lex_irrefl b (e ▸ h')
      simp [h', this]
    · have : a = b := by
        rcases lex_tri a b with e | e | e
        · exact absurd e h
        · exact e
        · exact absurd e h'
      simp [h', this]
set_option maxHeartbeats 400000 in
theorem isnan_any (s : ByteArray) (w : World) : Calls Tryd.prog 111 #[.string s] w fun e w' => e = .returned (.bool false) ∧ w = w' := by
  go_enter Tryd.func111, Tryd.ntmps111
  go_wp2_with fail
  go_ret
  exact ⟨rfl, rfl⟩
set_option maxHeartbeats 400000 in
theorem compare_any (a b : List UInt8) (w : World) : Calls Tryd.prog 105 #[.string (strB a), .string (strB b)] w fun e w' => e = .returned (.int .i64 (cmpS a b)) ∧ w = w' := by
  have H := Lib.hid (show cmpS a b = if a < b then -1 else if b < a then 1 else 0 from rfl)
  have e1 : Op.bytesLess (strB a).toList (strB b).toList = decide (a < b) := by rw [strB_toList, strB_toList, less_eq]
  have e2 := same_str a b
  generalize strB a = s at *
  generalize strB b = t at *
  generalize cmpS a b = c at *
  by_cases h1 : a < b
  · have HC := Lib.hid (show c = -1 by rw [H.out, if_pos h1])
    rw [decide_eq_true h1] at e1
    clear H h1 e2
    go_enter Tryd.func105, Tryd.ntmps105
    go_wp2_with (go_at_call 111; (with_reducible refine (isnan_any _ _).mono ?_); rintro e w' ⟨rfl, rfl⟩)
    go_ret
    exact ⟨ret_int HC.out.symm, rfl⟩
  · rw [decide_eq_false h1] at e1
    by_cases h2 : b < a
    · have HC := Lib.hid (show c = 1 by rw [H.out, if_neg h1, if_pos h2])
      rw [beq_eq_false_iff_ne.2 (show a ≠ b from fun e => lex_irrefl b (e ▸ h2))] at e2
      clear H h1 h2
      go_enter Tryd.func105, Tryd.ntmps105
      go_wp2_with (go_at_call 111; (with_reducible refine (isnan_any _ _).mono ?_); rintro e w' ⟨rfl, rfl⟩)
      go_ret
      exact ⟨ret_int HC.out.symm, rfl⟩
    · have HC := Lib.hid (show c = 0 by rw [H.out, if_neg h1, if_neg h2])
      rw [beq_iff_eq.2 (show a = b by rcases lex_tri a b with e | e | e; exact absurd e h1; exact e; exact absurd e h2)] at e2
      clear H h1 h2
      go_enter Tryd.func105, Tryd.ntmps105
      go_wp2_with (go_at_call 111; (with_reducible refine (isnan_any _ _).mono ?_); rintro e w' ⟨rfl, rfl⟩)
      go_ret
      exact ⟨ret_int HC.out.symm, rfl⟩
set_option maxHeartbeats 400000 in
theorem nameof_any (nm : ByteArray) (bv pv : Value) (w : World) : Calls Tryd.prog 92 #[.agg #[.string nm, bv, pv]] w fun e w' => e = .returned (.string nm) ∧ Below w.heap.size w w' := by
  go_enter Tryd.func92, Tryd.ntmps92
  go_wp2_with fail
  go_ret
  exact ⟨rfl, (Below.refl _ _).alloc (Nat.le_refl _) _⟩
/-- What place's closure has captured. -/
def PlCtx (w : World) (b : Nat) : Prop := w.cell? ⟨b, 0, none⟩ = some (.func (.func 92) #[] #[])
set_option maxHeartbeats 400000 in
theorem pl1_any (nm s : List UInt8) (bv pv : Value) (b : Nat) (w : World) (h : PlCtx w b) : Calls Tryd.prog 104 #[filVal nm bv pv, .string (strB s), .pointer (some ⟨b, 0, none⟩)] w fun e w' => e = .returned (.int .i64 (cmpS nm s)) ∧ Below w.heap.size w w' := by
  have hb : b < w.heap.size := World.block_lt_of_cell? w _ h
  unfold PlCtx at h
  have hc1 : (w.alloc (.cells #[.string (strB nm), bv, pv] 69)).cell? ⟨b, 0, none⟩ = some (.func (.func 92) #[] #[]) := Below.keeps ((Below.refl _ _).alloc (Nat.le_refl _) _) _ _ h
  go_enter Tryd.func104, Tryd.ntmps104
  go_wp2_with fail
  refine (nameof_any _ _ _ _).mono ?_
  rintro e w1 ⟨rfl, hb1⟩
  go_wp2_with fail
  refine (compare_any _ _ _).mono ?_
  rintro e w2 ⟨rfl, rfl⟩
  have HB := Lib.hid (bstep ((Below.refl _ _).alloc (Nat.le_refl _) _) hb1)
  go_wp2_with fail
  go_ret
  exact ⟨rfl, HB.out⟩
/-- Where the search ends. -/
theorem lowN_of {l : List Fil} {s : List UInt8} {i : Nat} (hi : i ≤ l.length) (h1 : ∀ k, i = k + 1 → (atN l k).name < s) (h2 : i < l.length → ¬ (atN l i).name < s) (ha : l.Pairwise (fun a b => a.name < b.name)) : lowN l s = i := by
  have a1 : ¬ i < lowN l s := fun hc => h2 (Nat.lt_of_lt_of_le hc (lowN_le l s)) (lowN_below l s i hc)
  have a2 : ¬ lowN l s < i := fun hc => by
    obtain ⟨k, rfl⟩ : ∃ k, i = k + 1 := ⟨i - 1, by omega⟩
    have h3 := h1 k rfl
    exact lowN_up ha (s := s) (i := k) (by omega) (by omega) h3
  omega
theorem atN_at {l : List Fil} {i : Nat} (h : i < l.length) : l[i]? = some (atN l i) := by
  unfold atN; rw [List.getD_eq_getElem?_getD, List.getElem?_eq_getElem h]; rfl
set_option maxHeartbeats 800000 in
theorem bsearch_any (v : Value) (l : List Fil) (s : List UInt8) (b : Nat) (w : World) (h : RdF w v l) (hc : PlCtx w b) (ha : l.Pairwise (fun a b => a.name < b.name)) (hs : l.length ≤ 1000000) :
    Calls Tryd.prog 103 #[v, .string (strB s), .func (.func 104) #[] #[.pointer (some ⟨b, 0, none⟩)]] w fun e w' =>
      e = .returned (.tuple #[.int .i64 (lowN l s : Int), .bool (decide (lowN l s < l.length) && (atN l (lowN l s)).name == s)]) ∧ Below w.heap.size w w' := by
  obtain ⟨a, cap, rfl, h1, h2, h3⟩ := h.shape
  have HR := Lib.hid h
  have HC := Lib.hid (fun W (hW : Below w.heap.size w W) nm bv pv => pl1_any nm s bv pv b W (Below.keeps hW _ _ hc))
  have HL := Lib.hid (fun i hi x y => lowN_of (l := l) (s := s) (i := i) hi x y ha)
  have HLo := Lib.hid (lowN_le l s)
  clear h hc h3 ha
  generalize hn : l.length = n at *
  have HN := Lib.hid hn
  clear hn h1 h2
  go_enter Tryd.func103, Tryd.ntmps103
  go_wp2_with fail
  go_loopw [9, 10] (fun iv jv W => ∃ i j : Nat, iv = .int .i64 (i : Int) ∧ jv = .int .i64 (j : Int) ∧ i ≤ j ∧ j ≤ n ∧ Hid (∀ k, i = k + 1 → (atN l k).name < s) ∧ Hid (j < n → ¬ (atN l j).name < s) ∧ Hid (Below w.heap.size w W)) (fun iv jv _ => (intOf jv - intOf iv).toNat)
  case atStart => exact ⟨0, n, rfl, rfl, Nat.zero_le _, Nat.le_refl _, Lib.hid (fun k hk => by omega), Lib.hid (fun h => absurd h (by omega)), Lib.hid (Below.refl _ _)⟩
  case round =>
    obtain ⟨i, j, rfl, rfl, hij, hj, HLw, HHi, HB⟩ := hrel
    by_cases hlt : i < j
    · obtain ⟨m, hm, hm1, hm2⟩ : ∃ m : Nat, (i + j) / 2 = m ∧ i ≤ m ∧ m < j := ⟨(i + j) / 2, rfl, by omega, by omega⟩
      have hmi : ((i : Int) + (j : Int)) / 2 = (m : Int) := by omega
      have i1 : (i : Int) < (j : Int) := by omega
      obtain ⟨bb, off, bv, pv, rfl, hb, hp, c0, c1, c2⟩ := (HR.out.below HB.out).at (show m < n by omega)
      obtain ⟨ba, bc, rfl, _⟩ := hb.shape0
      obtain ⟨pa, pc, rfl, _⟩ := hp.shape
      have HQ := Lib.hid (show decide (cmpS (atN l m).name s < 0) = decide ((atN l m).name < s) from cmpS_neg _ _)
      have HCm := Lib.hid (fun W (hW : Below wr.heap.size wr W) bv pv => HC.out W (bstep HB.out hW) (atN l m).name bv pv)
      clear hb hp hm
      generalize cmpS (atN l m).name s = c at *
      by_cases hneg : c < 0
      · have HX := Lib.hid (show (atN l m).name < s by have := HQ.out; rw [decide_eq_true hneg] at this; exact of_decide_eq_true this.symm)
        go_wp2_with fail
        refine (HCm.out _ (Below.refl _ _) _ _).mono ?_
        rintro e w1 ⟨rfl, hb1⟩
        have HB1 := Lib.hid (bstep HB.out hb1)
        clear hb1
        go_wp2_with fail
        refine ⟨⟨m + 1, j, by go_num, rfl, by omega, hj, Lib.hid (fun k hk => ?_), HHi, HB1⟩, by simp [intOf]; omega⟩
        obtain rfl : m = k := by omega
        exact HX.out
      · have HX := Lib.hid (show ¬ (atN l m).name < s by have := HQ.out; rw [decide_eq_false hneg] at this; exact of_decide_eq_false this.symm)
        go_wp2_with fail
        refine (HCm.out _ (Below.refl _ _) _ _).mono ?_
        rintro e w1 ⟨rfl, hb1⟩
        have HB1 := Lib.hid (bstep HB.out hb1)
        clear hb1
        go_wp2_with fail
        exact ⟨⟨i, m, rfl, rfl, hm1, by omega, HLw, Lib.hid (fun _ => HX.out), HB1⟩, by simp [intOf]; omega⟩
    · obtain rfl : i = j := by omega
      have HE := Lib.hid (HL.out i hj HLw.out HHi.out)
      by_cases hin : i < n
      · have i1 : (i : Int) < (n : Int) := by omega
        obtain ⟨bb, off, bv, pv, rfl, hb, hp, c0, c1, c2⟩ := (HR.out.below HB.out).at hin
        obtain ⟨ba, bc, rfl, _⟩ := hb.shape0
        obtain ⟨pa, pc, rfl, _⟩ := hp.shape
        have HQ := Lib.hid (show (cmpS (atN l i).name s == 0) = ((atN l i).name == s) from cmpS_zero _ _)
        have HCm := Lib.hid (fun W (hW : Below wr.heap.size wr W) bv pv => HC.out W (bstep HB.out hW) (atN l i).name bv pv)
        clear hb hp
        generalize cmpS (atN l i).name s = c at *
        have HF := Lib.hid (show (decide (lowN l s < n) && (atN l (lowN l s)).name == s) = (c == 0) by rw [HE.out, HQ.out, decide_eq_true hin, Bool.true_and])
        go_wp2_with fail
        refine (HCm.out _ (Below.refl _ _) _ _).mono ?_
        rintro e w1 ⟨rfl, hb1⟩
        have HB1 := Lib.hid (bstep HB.out hb1)
        clear hb1
        go_wp2_with fail
        go_ret2
        exact ⟨by rw [HE.out] at HF ⊢; rw [HF.out]; rfl, HB1.out⟩
      · have i1 : ¬ (i : Int) < (n : Int) := by omega
        have HF := Lib.hid (show (decide (lowN l s < n) && (atN l (lowN l s)).name == s) = false by rw [HE.out, decide_eq_false hin, Bool.false_and])
        go_wp2_with fail
        go_ret2
        exact ⟨by rw [HF.out, HE.out]; rfl, HB.out⟩
set_option maxHeartbeats 800000 in
theorem place_any (v : Value) (l : List Fil) (s : List UInt8) (w : World) (h : RdF w v l) (ha : l.Pairwise (fun a b => a.name < b.name)) (hs : l.length ≤ 1000000) :
    Calls Tryd.prog 91 #[v, .string (strB s), .func (.func 92) #[] #[]] w fun e w' =>
      e = .returned (.tuple #[.int .i64 (lowN l s : Int), .bool (decide (lowN l s < l.length) && (atN l (lowN l s)).name == s)]) ∧ Below w.heap.size w w' := by
  have HBx := Lib.hid (show Below w.heap.size w (w.alloc (.cells #[.func (.func 92) #[] #[]] 138)) from (Below.refl _ _).alloc (Nat.le_refl _) _)
  have HC := Lib.hid (bsearch_any v l s w.heap.size (w.alloc (.cells #[.func (.func 92) #[] #[]] 138)) (h.below HBx.out) (by unfold PlCtx; simp) ha hs)
  clear h
  generalize (decide (lowN l s < l.length) && (atN l (lowN l s)).name == s) = q at *
  generalize lowN l s = r at *
  go_enter Tryd.func91, Tryd.ntmps91
  go_wp2_with fail
  refine HC.out.mono ?_
  rintro e w1 ⟨rfl, hb1⟩
  have HB := Lib.hid (bstep HBx.out hb1)
  clear hb1
  go_wp2_with fail
  go_ret2
  exact ⟨rfl, HB.out⟩
/-- The value of a disk. -/
abbrev diskVal (c l : Int) (fv : Value) : Value := .agg #[.int .i64 c, .int .i64 l, fv]
set_option maxHeartbeats 800000 in
theorem find_any (c lf : Int) (v : Value) (l : List Fil) (s : List UInt8) (w : World) (h : RdF w v l) (ha : l.Pairwise (fun a b => a.name < b.name)) (hs : l.length ≤ 1000000) :
    Calls Tryd.prog 64 #[diskVal c lf v, .string (strB s)] w fun e w' =>
      e = .returned (.tuple #[.int .i64 (lowN l s : Int), .bool (hasN l s)]) ∧ Below w.heap.size w w' := by
  obtain ⟨a, cap, rfl, _⟩ := h.shape
  have hq : (decide (lowN l s < l.length) && (atN l (lowN l s)).name == s) = hasN l s := by
    rw [Bool.eq_iff_iff, hasN_iff ha]; simp
  have HC := Lib.hid (fun W (hW : Below w.heap.size w W) => place_any _ l s W (h.below hW) ha hs)
  rw [hq] at HC
  clear h hq
  generalize hasN l s = q at *
  generalize lowN l s = r at *
  generalize l.length = n at *
  go_enter Tryd.func64, Tryd.ntmps64
  go_wp2_with fail
  refine (HC.out _ ((Below.refl _ _).alloc (Nat.le_refl _) _)).mono ?_
  rintro e w1 ⟨rfl, hb1⟩
  have HB := Lib.hid (bstep ((Below.refl _ _).alloc (Nat.le_refl _) _) hb1)
  clear hb1
  go_wp2_with fail
  go_ret2
  exact ⟨rfl, HB.out⟩
end Go.Proofs.YtkabcpmnbjllcaaDoor
