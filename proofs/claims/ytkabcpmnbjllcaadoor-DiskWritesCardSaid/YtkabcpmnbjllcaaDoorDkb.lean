/- DiskMoves in plain Lean: the disks on the way. No program here. -/
import Derived.Test.YtkabcpmnbjllcaaDoorKA
namespace Go.Proofs.YtkabcpmnbjllcaaDoor

theorem readyE_of {d : Dk} {s : List UInt8} (hv : validD d = true) (hn : nameB s = true) (hl : d.left ≠ 0) : readyE d s = 0 := by
  unfold readyE; rw [hv, hn, if_neg (by simp), if_neg hl]
theorem atE_of {d : Dk} {s : List UInt8} (hv : validD d = true) (hn : nameB s = true) (hl : d.left ≠ 0) (hh : hasN d.files s = true) : atE d s = 0 := by
  unfold atE; rw [readyE_of hv hn hl, hh]; rfl
def sOld : List UInt8 := [111, 108, 100]
def sFre : List UInt8 := [102, 114, 101, 115, 104]
def m1 : Dk := ⟨0, -1, [⟨sOld, [], []⟩]⟩
def m2 (a : List UInt8) : Dk := ⟨0, -1, [⟨sOld, [], [⟨0, a, false⟩]⟩]⟩
def m3 (a : List UInt8) : Dk := ⟨0, -1, [⟨sOld, a, []⟩]⟩
def m4 (a : List UInt8) : Dk := ⟨0, -1, [⟨sFre, [], []⟩, ⟨sOld, a, []⟩]⟩
def m5 (a b : List UInt8) : Dk := ⟨0, -1, [⟨sFre, [], [⟨0, b, false⟩]⟩, ⟨sOld, a, []⟩]⟩
def m6 (a b : List UInt8) : Dk := ⟨0, -1, [⟨sFre, b, []⟩, ⟨sOld, a, []⟩]⟩
theorem nOld : nameB sOld = true := by decide +kernel
theorem nFre : nameB sFre = true := by decide +kernel
theorem fLow : sFre < sOld := by decide +kernel
theorem ff : ¬ sFre < sFre := by decide +kernel
section
variable {a b : List UInt8} (ha : a.length ≤ 300) (hb : b.length ≤ 300)
include ha
theorem sz1 (s : List UInt8) : sizedF ⟨s, a, []⟩ = true := by simp [sizedF, szW]; omega
theorem sz2 (s : List UInt8) : sizedF ⟨s, [], [⟨0, a, false⟩]⟩ = true := by simp [sizedF, szW, okW, grownW]; omega
theorem v2 : validD (m2 a) = true := by simp [validD, m2, okF, nOld, sz2 ha, ascN]
theorem v3 : validD (m3 a) = true := by simp [validD, m3, okF, nOld, sz1 ha, ascN]
theorem v4 : validD (m4 a) = true := by simp [validD, m4, okF, nOld, nFre, sz1 ha, sz1 (a := []) (by simp), ascN, fLow]
include hb
theorem v5 : validD (m5 a b) = true := by simp [validD, m5, okF, nOld, nFre, sz1 ha, sz2 hb, ascN, fLow]
theorem v6 : validD (m6 a b) = true := by simp [validD, m6, okF, nOld, nFre, sz1 ha, sz1 hb, ascN, fLow]
end
theorem v1 : validD m1 = true := by decide +kernel
section
variable {a b : List UInt8}
end
end Go.Proofs.YtkabcpmnbjllcaaDoor
