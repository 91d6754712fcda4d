/- The records of a file, in plain Lean: opened, torn, salvaged; superblocks. No program here. -/
import Derived.Test.YtecflhklpkjhcaaNp
namespace Go.Proofs.Ytecflhklpkjhcaa

structure Rec where
  off : Int
  nd : Nd
  deriving DecidableEq
/-- The records from a place on, and the place behind the last one; f bounds their number. -/
def recs : Nat → List UInt8 → Nat → List Rec × Nat
  | 0, _, p => ([], p)
  | f + 1, b, p => if (ndec (b.drop p)).1 = 0 then (⟨p, (ndec (b.drop p)).2.1⟩ :: (recs f b (p + (ndec (b.drop p)).2.2)).1, (recs f b (p + (ndec (b.drop p)).2.2)).2) else ([], p)
theorem recs_stop {b : List UInt8} {p : Nat} (h : (ndec (b.drop p)).1 ≠ 0) : ∀ f, recs f b p = ([], p)
  | 0 => rfl
  | f + 1 => by unfold recs; rw [if_neg h]
theorem recs_step {b : List UInt8} {p : Nat} (h : (ndec (b.drop p)).1 = 0) (f : Nat) : recs (f + 1) b p = (⟨p, (ndec (b.drop p)).2.1⟩ :: (recs f b (p + (ndec (b.drop p)).2.2)).1, (recs f b (p + (ndec (b.drop p)).2.2)).2) := by
  conv => lhs; unfold recs
  rw [if_pos h]
theorem ndec_size {b : List UInt8} (h : (ndec b).1 = 0) : 24 ≤ (ndec b).2.2 ∧ (ndec b).2.2 ≤ b.length ∧ (ndec b).2.2 ≤ 4127 := by
  have h0 := ndec_zero h
  have h1 := ndec_len h0
  rw [ndec_ok h0]
  exact ⟨h1.1, h1.2.1, h1.2.2.1⟩
/-- The records that can be found from a place on. -/
def salv : Nat → List UInt8 → Nat → List Rec
  | 0, _, _ => []
  | f + 1, b, p => if b.length ≤ p then [] else if (ndec (b.drop p)).1 = 0 then ⟨p, (ndec (b.drop p)).2.1⟩ :: salv f b (p + (ndec (b.drop p)).2.2) else salv f b (p + 8)
theorem salv_end {b : List UInt8} {p : Nat} (h : b.length ≤ p) : ∀ f, salv f b p = []
  | 0 => rfl
  | f + 1 => by unfold salv; rw [if_pos h]
theorem salv_hit {b : List UInt8} {p : Nat} (h0 : p < b.length) (h : (ndec (b.drop p)).1 = 0) (f : Nat) : salv (f + 1) b p = ⟨p, (ndec (b.drop p)).2.1⟩ :: salv f b (p + (ndec (b.drop p)).2.2) := by
  conv => lhs; unfold salv
  rw [if_neg (by omega), if_pos h]
theorem salv_miss {b : List UInt8} {p : Nat} (h0 : p < b.length) (h : (ndec (b.drop p)).1 ≠ 0) (f : Nat) : salv (f + 1) b p = salv f b (p + 8) := by
  conv => lhs; unfold salv
  rw [if_neg (by omega), if_neg h]
/-- The superblock. -/
structure Sup where
  slot : Nat
  gen : Nat
  rev : Nat
  deriving DecidableEq
def sup0 : Sup := ⟨0, 0, 0⟩
def svld (s : Sup) : Prop := s.slot < 4 ∧ 1 ≤ s.gen ∧ s.gen ≤ 8 ∧ s.rev ≤ 4294967295
instance (s : Sup) : Decidable (svld s) := by unfold svld; exact inferInstance
def nvol : List UInt8 := [78, 86, 79, 76]
def sread (b : List UInt8) : Sup := ⟨val ((b.drop 4).take 2), val ((b.drop 6).take 2), val ((b.drop 8).take 4)⟩
def sdec (b : List UInt8) : Int × Sup :=
  if b.length < 16 then (4, sup0) else if b.take 4 ≠ nvol then (3, sup0) else if ck (b.take 12) ≠ (b.drop 12).take 4 then (5, sup0) else if svld (sread b) then (0, sread b) else (3, sup0)
def s12 (s : Sup) : List UInt8 := nvol ++ be s.slot 2 ++ be s.gen 2 ++ be s.rev 4
def senc (s : Sup) : List UInt8 := s12 s ++ ck (s12 s)
theorem s12_length (s : Sup) : (s12 s).length = 12 := by simp [s12, nvol, be_length]
theorem senc_length (s : Sup) : (senc s).length = 16 := by simp [senc, s12_length, ck_length]
theorem sdec_enc {s : Sup} (h : svld s) (t : List UInt8) : sdec (senc s ++ t) = (0, s) := by
  obtain ⟨h1, h2, h3, h4⟩ := h
  have hl := senc_length s
  have l1 := be_length s.slot 2
  have l2 := be_length s.gen 2
  have l3 := be_length s.rev 4
  have e12 : (senc s ++ t).take 12 = s12 s := by rw [senc, List.append_assoc, List.take_left' (s12_length s)]
  have e16 : ((senc s ++ t).drop 12).take 4 = ck (s12 s) := by rw [senc, List.append_assoc, List.drop_left' (s12_length s), List.take_left' (ck_length _)]
  have hr : sread (senc s ++ t) = s := by
    have e : senc s ++ t = nvol ++ (be s.slot 2 ++ (be s.gen 2 ++ (be s.rev 4 ++ (ck (s12 s) ++ t)))) := by simp [senc, s12]
    have l0 : nvol.length = 4 := rfl
    unfold sread
    rw [e]
    have d4 : (nvol ++ (be s.slot 2 ++ (be s.gen 2 ++ (be s.rev 4 ++ (ck (s12 s) ++ t))))).drop 4 = be s.slot 2 ++ (be s.gen 2 ++ (be s.rev 4 ++ (ck (s12 s) ++ t))) := List.drop_left' l0
    rw [show 6 = 4 + 2 from rfl, show 8 = 4 + (2 + 2) from rfl, ← List.drop_drop, ← List.drop_drop, ← List.drop_drop, d4, List.drop_left' l1, List.drop_left' l2, List.take_left' l1, List.take_left' l2, List.take_left' l3,
      val_be 2 _ (by omega) (by omega), val_be 2 _ (by omega) (by omega), val_be 4 _ (by omega) (by omega)]
  unfold sdec
  rw [if_neg (by rw [List.length_append, hl]; omega), if_neg (fun e => e (by
    have : (senc s ++ t).take 4 = ((senc s ++ t).take 12).take 4 := by rw [List.take_take, show min 4 12 = 4 from rfl]
    rw [this, e12, s12, List.append_assoc, List.append_assoc]; rfl)), if_neg (fun e => e (by rw [e12, e16])), if_pos (by rw [hr]; exact ⟨h1, h2, h3, h4⟩), hr]
/-- The records of needles that lie one behind the other. -/
def recsOf : Nat → List Nd → List Rec
  | _, [] => []
  | p, x :: k => ⟨p, x⟩ :: recsOf (p + nsz x.data.length) k
def nsum (k : List Nd) : Nat := (k.map fun x => nsz x.data.length).sum
theorem nsum_cons (x : Nd) (k : List Nd) : nsum (x :: k) = nsz x.data.length + nsum k := by simp [nsum]
def nencs (k : List Nd) : List UInt8 := k.flatMap nenc
theorem nencs_length : ∀ k : List Nd, (nencs k).length = nsum k
  | [] => rfl
  | x :: k => by
    have ih := nencs_length k
    show (nenc x ++ nencs k).length = _
    rw [List.length_append, ih, nenc_length, nsum_cons]
theorem recsOf_nd : ∀ (k : List Nd) (p : Nat), (recsOf p k).map (·.nd) = k
  | [], _ => rfl
  | x :: k, p => by
    show x :: (recsOf (p + nsz x.data.length) k).map (·.nd) = _
    rw [recsOf_nd k]
theorem recsOf_length (k : List Nd) (p : Nat) : (recsOf p k).length = k.length := by
  have := congrArg List.length (recsOf_nd k p)
  rwa [List.length_map] at this
/-- What was written is found, if what follows is no record. -/
theorem recs_enc : ∀ (k : List Nd) (f : Nat) (b pre tail : List UInt8), b = pre ++ (nencs k ++ tail) → k.length ≤ f → (∀ x ∈ k, x.ok ∧ x.Wf) → (ndec tail).1 ≠ 0 → recs f b pre.length = (recsOf pre.length k, pre.length + nsum k)
  | [], f, b, pre, tail, hb, _, _, ht => by
    have e : b.drop pre.length = tail := by rw [hb, List.drop_left' rfl]; rfl
    rw [recs_stop (by rw [e]; exact ht)]; rfl
  | x :: k, 0, _, _, _, _, hf, _, _ => by simp at hf
  | x :: k, f + 1, b, pre, tail, hb, hf, hk, ht => by
    have hx := hk x (by simp)
    have e : b.drop pre.length = nenc x ++ (nencs k ++ tail) := by
      rw [hb, List.drop_left' rfl]; show nenc x ++ nencs k ++ tail = _; rw [List.append_assoc]
    have hd := ndec_enc hx.1 hx.2 (nencs k ++ tail)
    have ih := recs_enc k f b (pre ++ nenc x) tail (by rw [hb]; show pre ++ (nenc x ++ nencs k ++ tail) = _; simp) (by simpa using hf) (fun y hy => hk y (by simp [hy])) ht
    rw [List.length_append, nenc_length] at ih
    rw [recs_step (by rw [e, hd]), e, hd]
    show (_ :: (recs f b (pre.length + nsz x.data.length)).1, (recs f b (pre.length + nsz x.data.length)).2) = _
    rw [ih, nsum_cons]
    show (_, _) = ((_ :: recsOf (pre.length + nsz x.data.length) k), _)
    rw [Nat.add_assoc]
/-- How many records lie whole within m bytes. -/
def whole : List Nd → Nat → Nat
  | [], _ => 0
  | x :: k, m => if m < nsz x.data.length then 0 else whole k (m - nsz x.data.length) + 1
theorem whole_le : ∀ (k : List Nd) (m : Nat), whole k m ≤ k.length
  | [], _ => Nat.le_refl _
  | x :: k, m => by
    unfold whole
    split
    · omega
    · have := whole_le k (m - nsz x.data.length); simp; omega
/-- A file of which bytes are missing has the records that are whole. -/
theorem recs_torn : ∀ (k : List Nd) (f : Nat) (b pre : List UInt8) (m : Nat), b = pre ++ (nencs k).take m → k.length ≤ f → (∀ x ∈ k, x.ok ∧ x.Wf) → recs f b pre.length = (recsOf pre.length (k.take (whole k m)), pre.length + nsum (k.take (whole k m)))
  | [], f, b, pre, m, hb, _, _ => by
    have e : b.drop pre.length = [] := by rw [hb, List.drop_left' rfl]; simp [nencs]
    rw [recs_stop (by rw [e]; decide)]; rfl
  | x :: k, 0, _, _, _, _, hf, _ => by simp at hf
  | x :: k, f + 1, b, pre, m, hb, hf, hk => by
    have hx := hk x (by simp)
    have e0 : b.drop pre.length = (nenc x ++ nencs k).take m := by rw [hb, List.drop_left' rfl]; rfl
    unfold whole
    split
    · rename_i hm
      rw [recs_stop (by rw [e0]; exact fun h => ndec_torn hx.1 hm _ (ndec_zero h))]; rfl
    · rename_i hm
      have e : (nenc x ++ nencs k).take m = nenc x ++ (nencs k).take (m - nsz x.data.length) := by
        rw [List.take_append, nenc_length, List.take_of_length_le (by rw [nenc_length]; omega)]
      rw [e] at e0
      have hd := ndec_enc hx.1 hx.2 ((nencs k).take (m - nsz x.data.length))
      have ih := recs_torn k f b (pre ++ nenc x) (m - nsz x.data.length) (by
        rw [hb]; show pre ++ (nenc x ++ nencs k).take m = _; rw [e]; simp) (by simpa using hf) (fun y hy => hk y (by simp [hy]))
      rw [List.length_append, nenc_length] at ih
      rw [recs_step (by rw [e0, hd]), e0, hd]
      show (_ :: (recs f b (pre.length + nsz x.data.length)).1, (recs f b (pre.length + nsz x.data.length)).2) = _
      rw [ih, List.take_succ_cons, nsum_cons]
      show (_, _) = ((_ :: recsOf (pre.length + nsz x.data.length) _), _)
      rw [Nat.add_assoc]
end Go.Proofs.Ytecflhklpkjhcaa
