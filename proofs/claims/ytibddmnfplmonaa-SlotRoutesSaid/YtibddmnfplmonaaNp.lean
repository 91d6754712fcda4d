/- The record of a needle, in plain Lean: written, read, torn. No program here. -/
import Derived.Test.YtibddmnfplmonaaPb
namespace Go.Proofs.Ytibddmnfplmonaa

structure Nd where
  key : Nat
  ck : Nat
  del : Bool
  data : List UInt8
  deriving DecidableEq
def nd0 : Nd := ⟨0, 0, false, []⟩
instance : Inhabited Nd := ⟨nd0⟩
/-- The numbers fit. -/
def Nd.Wf (x : Nd) : Prop := x.key < 18446744073709551616 ∧ x.ck < 4294967296
def Nd.ok (x : Nd) : Prop := x.data.length ≤ 4096 ∧ (x.del = true → x.data = [])
/-- The length of the record of n bytes of data. -/
def nsz (n : Nat) : Nat := (31 + n) / 8 * 8
theorem nsz_bounds (n : Nat) : 24 + n ≤ nsz n ∧ nsz n < 32 + n ∧ nsz n % 8 = 0 := by unfold nsz; omega
def hd20 (x : Nd) : List UInt8 := [78, 165, if x.del then 1 else 0, 0] ++ be x.ck 4 ++ be x.key 8 ++ be x.data.length 4
theorem hd20_length (x : Nd) : (hd20 x).length = 20 := by simp [hd20, be_length]
def nbody (x : Nd) : List UInt8 := hd20 x ++ x.data
theorem nbody_length (x : Nd) : (nbody x).length = 20 + x.data.length := by simp [nbody, hd20_length]
def zeros (n : Nat) : List UInt8 := List.replicate n 0
/-- The record. -/
def nenc (x : Nd) : List UInt8 := nbody x ++ ck (nbody x) ++ zeros (nsz x.data.length - (24 + x.data.length))
theorem ck_length (l : List UInt8) : (ck l).length = 4 := rfl
theorem nenc_length (x : Nd) : (nenc x).length = nsz x.data.length := by
  have := nsz_bounds x.data.length
  simp only [nenc, List.length_append, nbody_length, ck_length, zeros, List.length_replicate]; omega
def nlen (b : List UInt8) : Nat := val ((b.drop 16).take 4)
/-- The form of a header. -/
def hform (b : List UInt8) : Prop := bat b 0 = 78 ∧ bat b 1 = 165 ∧ (bat b 2).toNat ≤ 1 ∧ bat b 3 = 0 ∧ nlen b ≤ 4096 ∧ (bat b 2 = 1 → nlen b = 0)
instance (b : List UInt8) : Decidable (hform b) := by unfold hform; exact inferInstance
def npad (b : List UInt8) : List UInt8 := (b.drop (24 + nlen b)).take (nsz (nlen b) - (24 + nlen b))
def nread (b : List UInt8) : Nd := ⟨val ((b.drop 8).take 8), val ((b.drop 4).take 4), bat b 2 == 1, (b.drop 20).take (nlen b)⟩
/-- What is read: the error, the needle, the length. -/
def ndec (b : List UInt8) : Int × Nd × Nat :=
  if b.length < 20 then (4, nd0, 0)
  else if ¬ hform b then (3, nd0, 0)
  else if b.length < nsz (nlen b) then (4, nd0, 0)
  else if ck (b.take (20 + nlen b)) ≠ (b.drop (20 + nlen b)).take 4 then (5, nd0, 0)
  else if ¬ (npad b).all (· == 0) then (3, nd0, 0)
  else (0, nread b, nsz (nlen b))
/-- The record is read. -/
structure NOk (b : List UInt8) : Prop where
  long : 20 ≤ b.length
  form : hform b
  whole : nsz (nlen b) ≤ b.length
  sum : ck (b.take (20 + nlen b)) = (b.drop (20 + nlen b)).take 4
  pad : (npad b).all (· == 0) = true
theorem ndec_ok {b : List UInt8} (h : NOk b) : ndec b = (0, nread b, nsz (nlen b)) := by
  unfold ndec
  rw [if_neg (by have := h.long; omega), if_neg (fun e => e h.form), if_neg (by have := h.whole; omega), if_neg (fun e => e h.sum), if_neg (fun e => e h.pad)]
theorem ndec_zero {b : List UInt8} (h : (ndec b).1 = 0) : NOk b := by
  unfold ndec at h
  split at h
  · cases h
  · split at h
    · cases h
    · split at h
      · cases h
      · split at h
        · cases h
        · split at h
          · cases h
          · rename_i h1 h2 h3 h4 h5
            exact ⟨by omega, Decidable.not_not.1 h2, by omega, Decidable.not_not.1 h4, by simpa using h5⟩
theorem ndec_bad {b : List UInt8} (h : ¬ NOk b) : (ndec b).1 ≠ 0 ∧ (ndec b).2 = (nd0, 0) := by
  refine ⟨fun e => h (ndec_zero e), ?_⟩
  unfold ndec
  split
  · rfl
  · split
    · rfl
    · split
      · rfl
      · split
        · rfl
        · split
          · rfl
          · rename_i h1 h2 h3 h4 h5
            exact absurd ⟨by omega, Decidable.not_not.1 h2, by omega, Decidable.not_not.1 h4, by simpa using h5⟩ h
theorem ndec_len {b : List UInt8} (h : NOk b) : 24 ≤ nsz (nlen b) ∧ nsz (nlen b) ≤ b.length ∧ nsz (nlen b) ≤ 4127 ∧ nlen b ≤ 4096 := by
  have h1 := nsz_bounds (nlen b)
  have h2 := h.form.2.2.2.2.1
  have h3 := h.whole
  omega
theorem bat_app_l {u v : List UInt8} {i : Nat} (h : i < u.length) : bat (u ++ v) i = bat u i := by
  unfold bat; rw [List.getD_eq_getElem?_getD, List.getD_eq_getElem?_getD, List.getElem?_append_left h]
theorem bat_app_r {u v : List UInt8} {i : Nat} (h : u.length ≤ i) : bat (u ++ v) i = bat v (i - u.length) := by
  unfold bat; rw [List.getD_eq_getElem?_getD, List.getD_eq_getElem?_getD, List.getElem?_append_right h]
theorem bat_take {l : List UInt8} {k i : Nat} (h : i < k) : bat (l.take k) i = bat l i := by
  unfold bat; rw [List.getD_eq_getElem?_getD, List.getElem?_take, if_pos h, ← List.getD_eq_getElem?_getD]
theorem bat_drop (l : List UInt8) (k i : Nat) : bat (l.drop k) i = bat l (k + i) := by
  unfold bat; rw [List.getD_eq_getElem?_getD, List.getElem?_drop, ← List.getD_eq_getElem?_getD]
/-- What a header says depends on the first twenty bytes. -/
theorem nlen_take {b : List UInt8} {k : Nat} (h : 20 ≤ k) : nlen (b.take k) = nlen b := by
  unfold nlen
  rw [List.drop_take, List.take_take, Nat.min_eq_left (by omega)]
theorem hform_take {b : List UInt8} {k : Nat} (h : 20 ≤ k) : hform (b.take k) ↔ hform b := by
  unfold hform
  rw [nlen_take h, bat_take (by omega), bat_take (by omega), bat_take (by omega), bat_take (by omega)]
theorem mid_app {u v : List UInt8} {i n : Nat} (h : i + n ≤ u.length) : ((u ++ v).drop i).take n = (u.drop i).take n := by
  rw [List.drop_append_of_le_length (by omega), List.take_append_of_le_length (by rw [List.length_drop]; omega)]
theorem hd_parts (x : Nd) (t : List UInt8) : (hd20 x ++ t).take 4 = [78, 165, if x.del then 1 else 0, 0] ∧ ((hd20 x ++ t).drop 4).take 4 = be x.ck 4 ∧ ((hd20 x ++ t).drop 8).take 8 = be x.key 8 ∧ ((hd20 x ++ t).drop 16).take 4 = be x.data.length 4 := by
  have l0 : ([78, 165, if x.del then 1 else 0, 0] : List UInt8).length = 4 := rfl
  have l1 := be_length x.ck 4
  have l2 := be_length x.key 8
  have l3 := be_length x.data.length 4
  unfold hd20
  generalize ([78, 165, if x.del then 1 else 0, 0] : List UInt8) = a at *
  generalize be x.ck 4 = b at *
  generalize be x.key 8 = c at *
  generalize be x.data.length 4 = d at *
  simp only [List.append_assoc]
  refine ⟨List.take_left' l0, ?_, ?_, ?_⟩
  · rw [List.drop_left' l0, List.take_left' l1]
  · rw [show 8 = 4 + 4 from rfl, ← List.drop_drop, List.drop_left' l0, List.drop_left' l1]; exact List.take_left' l2
  · rw [show 16 = 4 + (4 + 8) from rfl, ← List.drop_drop, ← List.drop_drop, List.drop_left' l0, List.drop_left' l1, List.drop_left' l2]; exact List.take_left' l3
theorem hd_bat (x : Nd) (t : List UInt8) : bat (hd20 x ++ t) 0 = 78 ∧ bat (hd20 x ++ t) 1 = 165 ∧ bat (hd20 x ++ t) 2 = (if x.del then 1 else 0) ∧ bat (hd20 x ++ t) 3 = 0 := by
  have h := (hd_parts x t).1
  have e : ∀ i, i < 4 → bat (hd20 x ++ t) i = bat [78, 165, if x.del then 1 else 0, 0] i := fun i hi => by rw [← h, bat_take hi]
  exact ⟨e 0 (by omega), e 1 (by omega), e 2 (by omega), e 3 (by omega)⟩
theorem hd_nlen {x : Nd} (h : x.data.length ≤ 4096) (t : List UInt8) : nlen (hd20 x ++ t) = x.data.length := by
  unfold nlen
  rw [(hd_parts x t).2.2.2, val_be 4 _ (by omega) (by omega)]
theorem hd_form {x : Nd} (h : x.ok) (t : List UInt8) : hform (hd20 x ++ t) := by
  obtain ⟨a, b, c, d⟩ := hd_bat x t
  refine ⟨a, b, ?_, d, by rw [hd_nlen h.1]; exact h.1, fun e => ?_⟩
  · rw [c]; split <;> decide
  · rw [hd_nlen h.1]
    rw [c] at e
    cases hd : x.del with
    | true => rw [h.2 hd]; rfl
    | false => rw [hd] at e; exact absurd e (by decide)
theorem all_zeros (n : Nat) : (zeros n).all (· == 0) = true := by
  rw [List.all_eq_true]
  intro x hx
  rw [zeros] at hx
  simp [(List.mem_replicate.1 hx).2]
theorem nenc_split (x : Nd) (t : List UInt8) : nenc x ++ t = hd20 x ++ (x.data ++ (ck (nbody x) ++ (zeros (nsz x.data.length - (24 + x.data.length)) ++ t))) := by simp [nenc, nbody]
/-- What was written is read back, whatever follows. -/
theorem nok_enc {x : Nd} (h : x.ok) (t : List UInt8) : NOk (nenc x ++ t) := by
  have hn : nlen (nenc x ++ t) = x.data.length := by rw [nenc_split]; exact hd_nlen h.1 _
  have hl := nenc_length x
  have hb := nsz_bounds x.data.length
  refine ⟨by rw [List.length_append, hl]; omega, by rw [nenc_split]; exact hd_form h _, by rw [hn, List.length_append, hl]; omega, ?_, ?_⟩
  · rw [hn]
    have e1 : (nenc x ++ t).take (20 + x.data.length) = nbody x := by
      rw [nenc, List.append_assoc, List.append_assoc, List.take_left' (nbody_length x)]
    have e2 : (nenc x ++ t).drop (20 + x.data.length) = ck (nbody x) ++ (zeros (nsz x.data.length - (24 + x.data.length)) ++ t) := by
      rw [nenc, List.append_assoc, List.append_assoc, List.drop_left' (nbody_length x)]
    rw [e1, e2, List.take_left' (ck_length _)]
  · unfold npad
    rw [hn]
    have e2 : (nenc x ++ t).drop (24 + x.data.length) = zeros (nsz x.data.length - (24 + x.data.length)) ++ t := by
      rw [nenc, List.append_assoc, List.drop_left' (by rw [List.length_append, nbody_length, ck_length]; omega)]
    rw [e2, List.take_left' (by simp [zeros])]
    exact all_zeros _
theorem ndec_enc {x : Nd} (h : x.ok) (hw : x.Wf) (t : List UInt8) : ndec (nenc x ++ t) = (0, x, nsz x.data.length) := by
  have hn : nlen (nenc x ++ t) = x.data.length := by rw [nenc_split]; exact hd_nlen h.1 _
  rw [ndec_ok (nok_enc h t), hn]
  congr 2
  unfold nread
  rw [hn, nenc_split]
  obtain ⟨_, p1, p2, _⟩ := hd_parts x (x.data ++ (ck (nbody x) ++ (zeros (nsz x.data.length - (24 + x.data.length)) ++ t)))
  rw [p1, p2, val_be 8 _ (by omega) hw.1, val_be 4 _ (by omega) hw.2, (hd_bat x _).2.2.1, List.drop_left' (hd20_length x), List.take_left' rfl]
  cases x with
  | mk k c d l => cases d <;> rfl
/-- A record of which bytes are missing is not read. -/
theorem ndec_torn {x : Nd} (h : x.ok) {k : Nat} (hk : k < nsz x.data.length) (t : List UInt8) : ¬ NOk ((nenc x ++ t).take k) := fun hn => by
  have h1 := hn.long
  have h2 := hn.whole
  rw [List.length_take] at h1
  have hk20 : 20 ≤ k := by omega
  rw [nlen_take hk20, List.length_take, nenc_split, hd_nlen h.1] at h2
  omega
end Go.Proofs.Ytibddmnfplmonaa
