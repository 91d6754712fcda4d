/- Flip of the program: plain facts, the walk. Printed by mkDkf.py. -/
import Derived.Test.YtkabcpmnbjllcaaDoorYu
import Derived.Laws.BitsAllLaws
namespace Go.Proofs.YtkabcpmnbjllcaaDoor
open Go.RowKit

theorem flip_arg {d : Dk} {s : List UInt8} {bit : Int} (h : (validD d && nameB s) = false) : flipD d s bit = (dk0, 1) := by unfold flipD; rw [if_pos (by simp [h])]
theorem flip_none {d : Dk} {s : List UInt8} {bit : Int} (h : (validD d && nameB s) = true) (h1 : hasN d.files s = false) : flipD d s bit = (dk0, 6) := by unfold flipD; rw [if_neg (by simp [h]), if_pos (by simp [h1])]
theorem flip_state {d : Dk} {s : List UInt8} {bit : Int} (h : (validD d && nameB s) = true) (h1 : hasN d.files s = true) (h2 : (atN d.files (lowN d.files s)).pend ≠ []) : flipD d s bit = (dk0, 12) := by
  unfold flipD; rw [if_neg (by simp [h]), if_neg (by simp [h1])]; dsimp only; rw [if_pos h2]
theorem flip_range {d : Dk} {s : List UInt8} {bit : Int} (h : (validD d && nameB s) = true) (h1 : hasN d.files s = true) (h2 : (atN d.files (lowN d.files s)).pend = []) (h3 : bit < 0 ∨ ((atN d.files (lowN d.files s)).base.length : Int) ≤ bit / 8) : flipD d s bit = (dk0, 2) := by
  unfold flipD; rw [if_neg (by simp [h]), if_neg (by simp [h1])]; dsimp only; rw [if_neg (by simpa using h2), if_pos h3]
theorem flip_yes {d : Dk} {s : List UInt8} {bit : Nat} (h : (validD d && nameB s) = true) (h1 : hasN d.files s = true) (h2 : (atN d.files (lowN d.files s)).pend = []) (h3 : bit / 8 < (atN d.files (lowN d.files s)).base.length) :
    flipD d s (bit : Int) = (⟨d.cap, d.left, d.files.set (lowN d.files s) ⟨(atN d.files (lowN d.files s)).name, xorAt (atN d.files (lowN d.files s)).base (bit / 8) (bit % 8), []⟩⟩, 0) := by
  unfold flipD
  rw [if_neg (by simp [h]), if_neg (by simp [h1])]
  dsimp only
  rw [if_neg (by simpa using h2), if_neg (by omega), h2]
  have e1 : ((bit : Int) / 8).toNat = bit / 8 := by omega
  have e2 : ((bit : Int) % 8).toNat = bit % 8 := by omega
  rw [e1, e2]
theorem flip_yes' {d : Dk} {s : List UInt8} {bit : Int} (bt : Nat) (hbt : bit = (bt : Int)) (h : (validD d && nameB s) = true) (h1 : hasN d.files s = true) (h2 : (atN d.files (lowN d.files s)).pend = []) (h3 : bt / 8 < (atN d.files (lowN d.files s)).base.length) :
    flipD d s bit = (⟨d.cap, d.left, d.files.set (lowN d.files s) ⟨(atN d.files (lowN d.files s)).name, xorAt (atN d.files (lowN d.files s)).base (bt / 8) (bt % 8), []⟩⟩, 0) := by
  rw [hbt]; exact flip_yes h h1 h2 h3
theorem RdW.any {w w' : World} {v : Value} (h : RdW w v []) : RdW w' v [] := by
  obtain ⟨es, e, h1, _⟩ := h
  have e2 : es = [] := by simpa using e
  subst e2
  obtain ⟨hf, h0, a, cap, h2, h3, h4, h5, h6⟩ := h1
  exact ⟨[], rfl, ⟨hf, h0, a, cap, h2, h3, h4, h5, fun hp => by simp at hp⟩, fun _ h => by cases h⟩
end Go.Proofs.YtkabcpmnbjllcaaDoor
