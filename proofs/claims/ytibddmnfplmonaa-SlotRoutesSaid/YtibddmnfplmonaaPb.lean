/- Bytes read back, in plain Lean. No program here. -/
import Derived.Test.YtibddmnfplmonaaPd
namespace Go.Proofs.Ytibddmnfplmonaa

theorem be_succ (v n : Nat) : be v (n + 1) = be (v / 256) n ++ [UInt8.ofNat v] := by
  unfold be
  rw [List.range_succ, List.map_append]
  congr 1
  · refine List.map_congr_left fun j hj => ?_
    have hj := List.mem_range.1 hj
    rw [show n + 1 - 1 - j = (n - 1 - j) + 1 by omega, show 8 * ((n - 1 - j) + 1) = 8 + 8 * (n - 1 - j) by omega, Nat.pow_add, ← Nat.div_div_eq_div_mul]
  · simp
theorem val_be : ∀ (n v : Nat), n ≤ 8 → v < 2 ^ (8 * n) → val (be v n) = v
  | 0, v, _, h => by
    have : v = 0 := by simpa using h
    subst this; rfl
  | n + 1, v, hn, h => by
    have h2 : v / 256 < 2 ^ (8 * n) := by
      rw [show 8 * (n + 1) = 8 * n + 8 by omega, Nat.pow_add] at h
      exact Nat.div_lt_of_lt_mul (by rw [Nat.mul_comm]; exact h)
    have h3 : (2 : Nat) ^ (8 * (n + 1)) ≤ 2 ^ 64 := Nat.pow_le_pow_right (by decide) (by omega)
    rw [be_succ, val_snoc, val_be n (v / 256) (by omega) h2, UInt8.toNat_ofNat']
    omega
theorem val_bound (l : List UInt8) : ∀ n, n ≤ 8 → l.length = n → val l < 2 ^ (8 * n) := by
  intro n
  induction n generalizing l with
  | zero => intro _ h; have : l = [] := List.length_eq_zero_iff.1 h; subst this; simp [val]
  | succ n ih =>
    intro hn h
    rcases List.eq_nil_or_concat l with rfl | ⟨r, x, rfl⟩
    · simp at h
    · rw [List.concat_eq_append] at h ⊢
      have hr := ih r (by omega) (by simpa using h)
      have hx := x.toNat_lt
      rw [val_snoc]
      have e : (2 : Nat) ^ (8 * (n + 1)) = 2 ^ (8 * n) * 256 := by rw [show 8 * (n + 1) = 8 * n + 8 by omega, Nat.pow_add]
      have := Nat.mod_le (val r * 256 + x.toNat) 18446744073709551616
      omega
theorem be_val : ∀ (n : Nat) (l : List UInt8), n ≤ 8 → l.length = n → be (val l) n = l
  | 0, l, _, h => by
    have : l = [] := List.length_eq_zero_iff.1 h
    subst this; rfl
  | n + 1, l, hn, h => by
    rcases List.eq_nil_or_concat l with rfl | ⟨r, x, rfl⟩
    · simp at h
    · rw [List.concat_eq_append] at h ⊢
      have hl : r.length = n := by simpa using h
      have hb := val_bound r n (by omega) hl
      have h3 : (2 : Nat) ^ (8 * n) ≤ 2 ^ 56 := Nat.pow_le_pow_right (by decide) (by omega)
      have hx := x.toNat_lt
      have hv : val (r ++ [x]) = val r * 256 + x.toNat := by rw [val_snoc]; omega
      rw [be_succ, hv, show (val r * 256 + x.toNat) / 256 = val r by omega, be_val n r (by omega) hl]
      congr 2
      apply UInt8.toNat_inj.1
      rw [UInt8.toNat_ofNat']; omega
/-- An item that can be written: its numbers fit their places. -/
def Fits (x : It) : Prop := 0 ≤ x.key ∧ x.key < 18446744073709551616 ∧ 0 ≤ x.ck ∧ x.ck < 4294967296 ∧ 0 ≤ x.off ∧ x.off < 4294967296 ∧ 0 ≤ x.size ∧ x.size < 4294967296
theorem fits_of {x : It} (h1 : x.Kwf) (h2 : okP x) : Fits x := by
  obtain ⟨a, b, c, d⟩ := h1
  obtain ⟨e, f, _, g, i⟩ := h2
  exact ⟨a, b, c, d, by omega, by omega, g, by omega⟩
theorem dec1_ent (x : It) (h : Fits x) (r : List UInt8) : dec1 (ent20 x ++ r) = x := by
  obtain ⟨k1, k2, c1, c2, o1, o2, s1, s2⟩ := h
  obtain ⟨k, c, o, s⟩ := x
  simp only [] at k1 k2 c1 c2 o1 o2 s1 s2
  obtain ⟨k, rfl⟩ := Int.eq_ofNat_of_zero_le k1
  obtain ⟨c, rfl⟩ := Int.eq_ofNat_of_zero_le c1
  obtain ⟨o, rfl⟩ := Int.eq_ofNat_of_zero_le o1
  obtain ⟨s, rfl⟩ := Int.eq_ofNat_of_zero_le s1
  unfold dec1 ent20
  simp only [Int.toNat_natCast]
  have e1 : (be k 8 ++ be c 4 ++ be o 4 ++ be s 4 ++ r).take 8 = be k 8 := by
    rw [List.append_assoc, List.append_assoc, List.append_assoc]; exact List.take_left' (be_length _ _)
  have d1 : (be k 8 ++ be c 4 ++ be o 4 ++ be s 4 ++ r).drop 8 = be c 4 ++ (be o 4 ++ (be s 4 ++ r)) := by
    rw [List.append_assoc, List.append_assoc, List.append_assoc]; exact List.drop_left' (be_length _ _)
  have d2 : (be k 8 ++ be c 4 ++ be o 4 ++ be s 4 ++ r).drop 12 = be o 4 ++ (be s 4 ++ r) := by
    rw [show (12 : Nat) = 8 + 4 from rfl, ← List.drop_drop, d1]; exact List.drop_left' (be_length _ _)
  have d3 : (be k 8 ++ be c 4 ++ be o 4 ++ be s 4 ++ r).drop 16 = be s 4 ++ r := by
    rw [show (16 : Nat) = 12 + 4 from rfl, ← List.drop_drop, d2]; exact List.drop_left' (be_length _ _)
  rw [e1, d1, d2, d3, List.take_left' (be_length _ _), List.take_left' (be_length _ _), List.take_left' (be_length _ _)]
  rw [val_be 8 k (by decide) (by omega), val_be 4 c (by decide) (by omega), val_be 4 o (by decide) (by omega), val_be 4 s (by decide) (by omega)]
theorem decF_enc : ∀ (l : List It) (n : Nat) (acc : List It), l.length ≤ n → (∀ x ∈ l, Fits x) → decF n (encB l) acc = (0, acc ++ l)
  | [], n, acc, _, _ => by rw [decF_nil n _ acc rfl, List.append_nil]
  | x :: l, 0, acc, h, _ => by simp at h
  | x :: l, n + 1, acc, h, hf => by
    have hx := hf x (by simp)
    have e0 : encB (x :: l) = ent20 x ++ (ck (ent20 x) ++ encB l) := by
      show entB x ++ encB l = _
      unfold entB; rw [List.append_assoc]
    have hlen : (encB (x :: l)).length = 24 * (l.length + 1) := by rw [encB_length]; rfl
    have e1 : (encB (x :: l)).take 20 = ent20 x := by rw [e0]; exact List.take_left' (ent20_length x)
    have e2 : (encB (x :: l)).drop 20 = ck (ent20 x) ++ encB l := by rw [e0]; exact List.drop_left' (ent20_length x)
    have e3 : (encB (x :: l)).drop 24 = encB l := by rw [show (24 : Nat) = 20 + 4 from rfl, ← List.drop_drop, e2]; exact List.drop_left' rfl
    rw [decF_step n _ acc (by rw [hlen]; omega) (by rw [hlen]; omega) (by rw [e1, e2]; exact (List.take_left' rfl).symm), e3, e0, dec1_ent x hx]
    rw [decF_enc l n (acc ++ [x]) (by simpa using h) (fun y hy => hf y (by simp [hy]))]
    simp
/-- A valid list is read back. -/
theorem dec_enc {l : List It} (hv : vldB l = true) (hk : ∀ x ∈ l, x.Kwf) : dec (encB l) = (0, l) := by
  have hf : ∀ x ∈ l, Fits x := fun x hx => fits_of (hk x hx) ((vldB_iff.1 hv).2 x hx)
  have h := decF_enc l (encB l).length [] (by rw [encB_length]; omega) hf
  rw [dec_of h, if_pos rfl, List.nil_append, if_pos hv]
theorem ent20_dec1 {b : List UInt8} (h : ¬ b.length < 24) : ent20 (dec1 b) = b.take 20 := by
  unfold ent20 dec1
  simp only [Int.toNat_natCast]
  have p : ∀ i k, i + k ≤ 20 → ((b.drop i).take k).length = k := fun i k hk => by rw [List.length_take, List.length_drop]; omega
  have p0 : (b.take 8).length = 8 := by rw [List.length_take]; omega
  rw [be_val 8 _ (by decide) p0, be_val 4 _ (by decide) (p 8 4 (by decide)), be_val 4 _ (by decide) (p 12 4 (by decide)), be_val 4 _ (by decide) (p 16 4 (by decide))]
  have s : ∀ i k, b.take i ++ (b.drop i).take k = b.take (i + k) := fun i k => by rw [List.take_add]
  rw [s 8 4, s 12 4, s 16 4]
theorem decF_back : ∀ (n : Nat) (b : List UInt8) (acc l : List It), b.length ≤ n → decF n b acc = (0, l) → ∃ y, l = acc ++ y ∧ encB y = b ∧ ∀ x ∈ y, x.Kwf
  | 0, b, acc, l, h, e => by
    have : b = [] := List.length_eq_zero_iff.1 (by omega)
    subst this
    injection e with _ e
    exact ⟨[], by rw [List.append_nil]; exact e.symm, rfl, fun _ h => by cases h⟩
  | n + 1, b, acc, l, h, e => by
    by_cases h0 : b.length = 0
    · have : b = [] := List.length_eq_zero_iff.1 h0
      subst this
      rw [decF_nil _ _ _ rfl] at e
      injection e with _ e
      exact ⟨[], by rw [List.append_nil]; exact e.symm, rfl, fun _ h => by cases h⟩
    · by_cases h1 : b.length < 24
      · rw [decF_short n b acc h0 h1] at e
        injection e with e; omega
      · by_cases h2 : ck (b.take 20) = (b.drop 20).take 4
        · rw [decF_step n b acc h0 h1 h2] at e
          obtain ⟨y, e1, e2, e3⟩ := decF_back n (b.drop 24) (acc ++ [dec1 b]) l (by rw [List.length_drop]; omega) e
          refine ⟨dec1 b :: y, by rw [e1]; simp, ?_, fun x hx => ?_⟩
          · show entB (dec1 b) ++ encB y = b
            unfold entB
            rw [ent20_dec1 h1, h2, e2, ← List.take_add, List.take_append_drop]
          · rcases List.mem_cons.1 hx with rfl | hx
            · refine ⟨?_, ?_, ?_, ?_⟩
              · exact Int.natCast_nonneg _
              · have := val_lt (b.take 8); show (val (b.take 8) : Int) < _; omega
              · exact Int.natCast_nonneg _
              · have := val4_lt (l := (b.drop 8).take 4) (by rw [List.length_take]; omega); show (val ((b.drop 8).take 4) : Int) < _; omega
            · exact e3 x hx
        · rw [decF_check n b acc h0 h1 h2] at e
          injection e with e; omega
/-- What is accepted is what is written. -/
theorem enc_dec {b : List UInt8} (h : (dec b).1 = 0) : encB (dec b).2 = b ∧ vldB (dec b).2 = true ∧ ∀ x ∈ (dec b).2, x.Kwf := by
  obtain ⟨r, l, e⟩ : ∃ r l, decF b.length b [] = (r, l) := ⟨_, _, rfl⟩
  rw [dec_of e] at h ⊢
  by_cases h0 : r = 0
  · subst h0
    rw [if_pos rfl] at h ⊢
    cases hv : vldB l
    · rw [hv] at h; simp at h
    · obtain ⟨y, e1, e2, e3⟩ := decF_back _ _ _ _ (Nat.le_refl _) e
      rw [List.nil_append] at e1
      subst e1
      simp only [if_true]
      exact ⟨e2, hv, e3⟩
  · rw [if_neg h0] at h
    exact absurd h h0
end Go.Proofs.Ytibddmnfplmonaa
