/- DiskPrefix in plain Lean: pieces appended one after the other, and what a crash leaves. No program here. -/
import Derived.Test.YtkabcpmnbjllcaaDoorDkb
namespace Go.Proofs.YtkabcpmnbjllcaaDoor

def sF : List UInt8 := [102]
def qD (base : List UInt8) (ws : List Wr) : Dk := ⟨0, -1, [⟨sF, base, ws⟩]⟩
def wsP : Int → List (List UInt8) → List Wr
  | _, [] => []
  | n, p :: r => ⟨n, p, false⟩ :: wsP (n + (p.length : Int)) r
theorem wsP_len : ∀ (ps : List (List UInt8)) (n : Int), (wsP n ps).length = ps.length
  | [], _ => rfl
  | p :: r, n => by show (wsP _ r).length + 1 = _; rw [wsP_len r]; rfl
theorem wsP_snoc : ∀ (ps : List (List UInt8)) (n : Int) (p : List UInt8), wsP n (ps ++ [p]) = wsP n ps ++ [⟨n + (ps.flatten.length : Int), p, false⟩]
  | [], n, p => by simp [wsP]
  | q :: r, n, p => by
    show _ :: wsP _ (r ++ [p]) = _ :: (wsP _ r ++ _)
    rw [wsP_snoc r, List.flatten_cons, List.length_append]
    simp [Int.add_assoc]
theorem wsP_take : ∀ (ps : List (List UInt8)) (n : Int) (k : Nat), (wsP n ps).take k = wsP n (ps.take k)
  | [], _, k => by simp [wsP]
  | p :: r, n, 0 => rfl
  | p :: r, n, k + 1 => by show _ :: (wsP _ r).take k = _ :: wsP _ (r.take k); rw [wsP_take r]
theorem wsP_at : ∀ (ps : List (List UInt8)) (n : Int) (k : Nat) (h : k < ps.length), (wsP n ps)[k]? = some ⟨n + ((ps.take k).flatten.length : Int), ps[k], false⟩
  | p :: r, n, 0, _ => by simp [wsP]
  | p :: r, n, k + 1, h => by
    show (wsP _ r)[k]? = _
    rw [wsP_at r _ k (by simpa using h)]
    simp [Int.add_assoc]
theorem wsP_lenW : ∀ (ps : List (List UInt8)) (n : Int), lenW (wsP n ps) n = n + (ps.flatten.length : Int)
  | [], n => by simp [wsP, lenW]
  | p :: r, n => by
    show lenW (wsP _ r) (grownW ⟨n, p, false⟩ n) = _
    have : grownW ⟨n, p, false⟩ n = n + (p.length : Int) := by unfold grownW; simp; omega
    rw [this, wsP_lenW r, List.flatten_cons, List.length_append]
    omega
theorem wsP_szW : ∀ (ps : List (List UInt8)) (n : Int), 0 ≤ n → n + (ps.flatten.length : Int) ≤ 1048576 → szW (wsP n ps) n = true
  | [], _, _, _ => rfl
  | p :: r, n, h0, h => by
    rw [List.flatten_cons, List.length_append] at h
    show (okW ⟨n, p, false⟩ && decide (grownW ⟨n, p, false⟩ n ≤ 1048576) && szW (wsP _ r) (grownW ⟨n, p, false⟩ n)) = true
    have : grownW ⟨n, p, false⟩ n = n + (p.length : Int) := by unfold grownW; simp; omega
    rw [this, wsP_szW r _ (by omega) (by omega)]
    simp [okW]; omega
theorem putW_end (b d : List UInt8) : putW b b.length d = b ++ d := by
  unfold putW
  rw [Nat.sub_self]
  simp [zer, List.drop_eq_nil_of_le]
theorem wsP_appls : ∀ (ps : List (List UInt8)) (b : List UInt8), appls (wsP (b.length : Int) ps) b = b ++ ps.flatten
  | [], b => by simp [wsP, appls]
  | p :: r, b => by
    show appls (wsP _ r) (appl ⟨(b.length : Int), p, false⟩ b) = _
    have h1 : appl ⟨(b.length : Int), p, false⟩ b = b ++ p := by unfold appl; simp [putW_end]
    have h2 : ((b.length : Int) + (p.length : Int)) = ((b ++ p).length : Int) := by rw [List.length_append]; omega
    rw [h1, h2, wsP_appls r, List.flatten_cons, List.append_assoc]
theorem flat_le (ps : List (List UInt8)) (k : Nat) (h : ∀ p ∈ ps, p.length ≤ k) : ps.flatten.length ≤ ps.length * k := by
  induction ps with
  | nil => simp
  | cons p r ih =>
    rw [List.flatten_cons, List.length_append, List.length_cons, Nat.add_mul]
    have := h p (by simp)
    have := ih fun q hq => h q (by simp [hq])
    omega
/-- The pieces are few and short. -/
structure PiP (base : List UInt8) (ps : List (List UInt8)) : Prop where
  base : base.length ≤ 300
  few : ps.length ≤ 8
  each : ∀ p ∈ ps, p.length ≤ 100
theorem PiP.tot {base : List UInt8} {ps : List (List UInt8)} (h : PiP base ps) : ps.flatten.length ≤ 800 := by
  have := flat_le ps 100 h.each
  have := h.few
  omega
theorem PiP.sized {base : List UInt8} {ps : List (List UInt8)} (h : PiP base ps) (s : List UInt8) : sizedF ⟨s, base, wsP base.length ps⟩ = true := by
  have := h.tot; have := h.base
  unfold sizedF
  rw [wsP_szW _ _ (by omega) (by omega)]
  simp; omega
theorem nF : nameB sF = true := by decide +kernel
theorem ss : ¬ sF < sF := by decide +kernel
theorem PiP.valid {base : List UInt8} {ps : List (List UInt8)} (h : PiP base ps) : validD (qD base (wsP base.length ps)) = true := by
  simp [validD, qD, okF, nF, h.sized, ascN]
theorem PiP.cont {base : List UInt8} {ps : List (List UInt8)} (h : PiP base ps) (s : List UInt8) : contF ⟨s, base, wsP base.length ps⟩ = base ++ ps.flatten := by
  unfold contF; rw [if_pos (h.sized s)]; exact wsP_appls ps base
theorem qD_at {base : List UInt8} {ws : List Wr} (hv : validD (qD base ws) = true) : atE (qD base ws) sF = 0 := atE_of hv nF (by simp [qD]) (by simp [qD, hasN])
theorem qD_low (base : List UInt8) (ws : List Wr) : lowN (qD base ws).files sF = 0 := low1 _ _ _ ss
theorem PiP.append {base : List UInt8} {ps : List (List UInt8)} {p : List UInt8} (h : PiP base (ps ++ [p])) (h' : PiP base ps) : appendD (qD base (wsP base.length ps)) sF p = (qD base (wsP base.length (ps ++ [p])), 0) := by
  have h1 := h.tot
  rw [List.flatten_append, List.length_append] at h1
  have h2 : p.length ≤ 100 := h.each p (by simp)
  have hb := h.base
  have ht := h'.tot
  have hl : lenF ⟨sF, base, wsP base.length ps⟩ = (base.length : Int) + (ps.flatten.length : Int) := wsP_lenW ps _
  rw [append_yes (f := ⟨sF, base, wsP base.length ps⟩) (qD_at h'.valid) rfl (by rw [qD_low]; rfl) (by rw [hl]; omega), qD_low, hl, wsP_snoc]
  rfl
theorem PiP.nil {base : List UInt8} (h : base.length ≤ 300) : PiP base [] := ⟨h, by simp, fun p hp => by cases hp⟩
theorem px_create : createD ⟨0, -1, []⟩ sF = (qD [] [], 0) := by decide +kernel
theorem px_v1 : validD (qD [] []) = true := by decide +kernel
theorem px_append {base : List UInt8} (h : base.length ≤ 300) : appendD (qD [] []) sF base = (qD [] [⟨0, base, false⟩], 0) := by
  rw [append_yes (f := ⟨sF, [], []⟩) (qD_at px_v1) rfl (by decide +kernel) (by simp [lenF, lenW]; omega), qD_low]
  rfl
theorem px_v2 {base : List UInt8} (h : base.length ≤ 300) : validD (qD [] [⟨0, base, false⟩]) = true := by simp [validD, qD, okF, nF, sz2 h, ascN]
theorem px_sync {base : List UInt8} (h : base.length ≤ 300) : syncD (qD [] [⟨0, base, false⟩]) sF = (qD base [], 0) := by
  unfold syncD
  rw [if_neg (by rw [qD_at (px_v2 h)]; simp), qD_low, show atN (qD [] [⟨0, base, false⟩]).files 0 = ⟨sF, [], [⟨0, base, false⟩]⟩ from rfl, cont2 h]
  rfl
theorem PiP.take {base : List UInt8} {ps : List (List UInt8)} (h : PiP base ps) (k : Nat) : PiP base (ps.take k) := ⟨h.base, by rw [List.length_take]; have := h.few; omega, fun p hp => h.each p (List.mem_of_mem_take hp)⟩
theorem flatten_take {ps : List (List UInt8)} {k : Nat} (h : k < ps.length) : ∃ r, ps.flatten = (ps.take k).flatten ++ (ps[k] ++ r) := by
  refine ⟨(ps.drop (k + 1)).flatten, ?_⟩
  rw [← List.flatten_cons, ← List.drop_eq_getElem_cons h, ← List.flatten_append, List.take_append_drop]
theorem PiP.left {base : List UInt8} {ps : List (List UInt8)} (h : PiP base ps) (k : Kp) : base <+: leftF ⟨sF, base, wsP base.length ps⟩ k ∧ leftF ⟨sF, base, wsP base.length ps⟩ k <+: base ++ ps.flatten := by
  unfold leftF
  dsimp only
  rw [wsP_len, wsP_take, (h.take _).cont]
  have hc : cutN k.wri ps.length ≤ ps.length := by unfold cutN; omega
  generalize cutN k.wri ps.length = c at *
  rcases Nat.lt_or_ge c ps.length with hl | hl
  · rw [wsP_at _ _ _ hl]
    obtain ⟨r, hr⟩ := flatten_take hl
    dsimp only
    rw [if_neg (by simp)]
    generalize cutN k.torn _ = t
    have h1 : base ++ (ps.take c).flatten <+: base ++ ps.flatten := by rw [hr, ← List.append_assoc]; exact List.prefix_append _ _
    split
    · exact ⟨List.prefix_append _ _, h1⟩
    · have e : appl ⟨(base.length : Int) + ((ps.take c).flatten.length : Int), ps[c].take t, false⟩ (base ++ (ps.take c).flatten) = base ++ (ps.take c).flatten ++ ps[c].take t := by
        unfold appl
        rw [if_neg (by simp)]
        have : ((base.length : Int) + ((ps.take c).flatten.length : Int)).toNat = (base ++ (ps.take c).flatten).length := by rw [List.length_append]; omega
        dsimp only
        rw [this, putW_end]
      rw [e]
      refine ⟨by rw [List.append_assoc]; exact List.prefix_append _ _, ?_⟩
      rw [hr, ← List.append_assoc]
      refine (List.prefix_append_right_inj _).2 ?_
      exact (List.take_prefix _ _).trans (List.prefix_append _ _)
  · have : c = ps.length := by omega
    subst this
    rw [List.getElem?_eq_none (by rw [wsP_len]; exact Nat.le_refl _), List.take_length]
    exact ⟨List.prefix_append _ _, List.prefix_refl _⟩
/-- The whole of it: what a crash leaves is a part of what was written, and has what was synced. -/
theorem PiP.crash {base : List UInt8} {ps : List (List UInt8)} (h : PiP base ps) (wr torn : Int) : ∃ n : Nat, base.length ≤ n ∧ n ≤ (base ++ ps.flatten).length ∧ crashD (qD base (wsP base.length ps)) [⟨sF, wr, torn⟩] = qD ((base ++ ps.flatten).take n) [] := by
  obtain ⟨h1, h2⟩ := h.left ⟨sF, wr, torn⟩
  refine ⟨_, h1.length_le, h2.length_le, ?_⟩
  unfold crashD
  rw [if_pos h.valid, ← List.prefix_iff_eq_take.1 h2]
  simp [qD, keepOf]
theorem PiP.all {base : List UInt8} {ps : List (List UInt8)} (h : PiP base ps) : (base ++ ps.flatten).length ≤ 1100 := by
  have := h.tot; have := h.base
  rw [List.length_append]; omega
theorem px_v3 {c : List UInt8} (h : c.length ≤ 1100) : validD (qD c []) = true := by
  have : sizedF ⟨sF, c, []⟩ = true := by simp [sizedF, szW]; omega
  simp [validD, qD, okF, nF, this, ascN]
theorem px_size {c : List UInt8} (h : c.length ≤ 1100) : sizeD (qD c []) sF = ((c.length : Int), 0) := by
  unfold sizeD
  rw [if_neg (by rw [qD_at (px_v3 h)]; simp), qD_low]
  rfl
theorem px_read {c : List UInt8} (h : c.length ≤ 1100) : readD (qD c []) sF 0 (c.length : Int) = (c, 0) := by
  have : contF ⟨sF, c, []⟩ = c := by unfold contF; rw [if_pos (by simp [sizedF, szW]; omega)]; rfl
  unfold readD
  rw [if_neg (by rw [qD_at (px_v3 h)]; simp), qD_low, show atN (qD c []).files 0 = ⟨sF, c, []⟩ from rfl, this]
  simp
theorem qD_pend {base : List UInt8} {ws : List Wr} (h : ws.length ≤ 5000) : ∀ f ∈ (qD base ws).files, f.pend.length ≤ 5000 := fun f hf => by
  rw [List.mem_singleton.1 hf]; exact h
end Go.Proofs.YtkabcpmnbjllcaaDoor
