/- DiskMoves in plain Lean: the disks on the way. No program here. -/
import Derived.Test.YtkabcpmnbjllcaaDoorKA
namespace Go.Proofs.YtkabcpmnbjllcaaDoor

theorem readyE_of {d : Dk} {s : List UInt8} (hv : validD d = true) (hn : nameB s = true) (hl : d.left ≠ 0) : readyE d s = 0 := by
  unfold readyE; rw [hv, hn, if_neg (by simp), if_neg hl]
theorem atE_of {d : Dk} {s : List UInt8} (hv : validD d = true) (hn : nameB s = true) (hl : d.left ≠ 0) (hh : hasN d.files s = true) : atE d s = 0 := by
  unfold atE; rw [readyE_of hv hn hl, hh]; rfl
theorem append_yes {d : Dk} {s b : List UInt8} {f : Fil} (h : atE d s = 0) (hc : d.cap = 0) (hf : atN d.files (lowN d.files s) = f) (hb : lenF f + (b.length : Int) ≤ 1048576) :
    appendD d s b = (⟨d.cap, nextL d.left, d.files.set (lowN d.files s) ⟨f.name, f.base, f.pend ++ [⟨lenF f, b, false⟩]⟩⟩, 0) := by
  unfold appendD writtenD
  rw [if_neg (by simpa using h), hf, if_neg (by simpa using hb), if_neg (by rw [hc]; simp)]
def sOld : List UInt8 := [111, 108, 100]
def sFre : List UInt8 := [102, 114, 101, 115, 104]
def m1 : Dk := ⟨0, -1, [⟨sOld, [], []⟩]⟩
def m2 (a : List UInt8) : Dk := ⟨0, -1, [⟨sOld, [], [⟨0, a, false⟩]⟩]⟩
def m3 (a : List UInt8) : Dk := ⟨0, -1, [⟨sOld, a, []⟩]⟩
def m4 (a : List UInt8) : Dk := ⟨0, -1, [⟨sFre, [], []⟩, ⟨sOld, a, []⟩]⟩
def m5 (a b : List UInt8) : Dk := ⟨0, -1, [⟨sFre, [], [⟨0, b, false⟩]⟩, ⟨sOld, a, []⟩]⟩
def m6 (a b : List UInt8) : Dk := ⟨0, -1, [⟨sFre, b, []⟩, ⟨sOld, a, []⟩]⟩
theorem nOld : nameB sOld = true := by decide +kernel
theorem nFre : nameB sFre = true := by decide +kernel
theorem fLow : sFre < sOld := by decide +kernel
theorem oLow : ¬ sOld < sFre := by decide +kernel
theorem oo : ¬ sOld < sOld := by decide +kernel
theorem ff : ¬ sFre < sFre := by decide +kernel
theorem neFO : (sFre == sOld) = false := by decide +kernel
theorem neOF : (sOld == sFre) = false := by decide +kernel
section
variable {a b : List UInt8} (ha : a.length ≤ 300) (hb : b.length ≤ 300)
include ha
theorem sz1 (s : List UInt8) : sizedF ⟨s, a, []⟩ = true := by simp [sizedF, szW]; omega
theorem sz2 (s : List UInt8) : sizedF ⟨s, [], [⟨0, a, false⟩]⟩ = true := by simp [sizedF, szW, okW, grownW]; omega
theorem v2 : validD (m2 a) = true := by simp [validD, m2, okF, nOld, sz2 ha, ascN]
theorem v3 : validD (m3 a) = true := by simp [validD, m3, okF, nOld, sz1 ha, ascN]
theorem v4 : validD (m4 a) = true := by simp [validD, m4, okF, nOld, nFre, sz1 ha, sz1 (a := []) (by simp), ascN, fLow]
include hb
theorem v5 : validD (m5 a b) = true := by simp [validD, m5, okF, nOld, nFre, sz1 ha, sz2 hb, ascN, fLow]
theorem v6 : validD (m6 a b) = true := by simp [validD, m6, okF, nOld, nFre, sz1 ha, sz1 hb, ascN, fLow]
end
theorem v1 : validD m1 = true := by decide +kernel
theorem mv_create : createD ⟨0, -1, []⟩ sOld = (m1, 0) := by decide +kernel
section
variable {a b : List UInt8}
theorem mv_append (ha : a.length ≤ 300) : appendD m1 sOld a = (m2 a, 0) := by
  rw [append_yes (f := ⟨sOld, [], []⟩) (atE_of v1 nOld (by decide) (by decide +kernel)) rfl (by decide +kernel) (by simp [lenF, lenW]; omega)]
  rfl
theorem cont2 (ha : a.length ≤ 300) (s : List UInt8) : contF ⟨s, [], [⟨0, a, false⟩]⟩ = a := by
  unfold contF; rw [if_pos (sz2 ha s)]; simp [appls, appl, putW]
theorem cont1 (ha : a.length ≤ 300) (s : List UInt8) : contF ⟨s, a, []⟩ = a := by
  unfold contF; rw [if_pos (sz1 ha s)]; rfl
theorem low1 (x : Fil) (s : List UInt8) (r : List Fil) (h : ¬ x.name < s) : lowN (x :: r) s = 0 := by unfold lowN; rw [List.takeWhile_cons]; simp [h]
theorem mv_sync (ha : a.length ≤ 300) : syncD (m2 a) sOld = (m3 a, 0) := by
  unfold syncD
  rw [if_neg (by rw [atE_of (v2 ha) nOld (by simp [m2]) (by simp [m2, hasN])]; simp), show lowN (m2 a).files sOld = 0 from low1 _ _ _ oo, show atN (m2 a).files 0 = ⟨sOld, [], [⟨0, a, false⟩]⟩ from rfl, cont2 ha]
  rfl
theorem mv_create2 (ha : a.length ≤ 300) : createD (m3 a) sFre = (m4 a, 0) := by
  unfold createD
  rw [readyE_of (v3 ha) nFre (by simp [m3]), if_neg (by simp), if_neg (by simp [m3, hasN, neOF]), if_neg (by simp [m3])]
  simp [addN, m3, m4, low1 ⟨sOld, a, []⟩ sFre [] oLow, nextL]
  decide +kernel
theorem mv_append2 (ha : a.length ≤ 300) (hb : b.length ≤ 300) : appendD (m4 a) sFre b = (m5 a b, 0) := by
  have hl : lowN (m4 a).files sFre = 0 := low1 _ _ _ ff
  rw [append_yes (f := ⟨sFre, [], []⟩) (atE_of (v4 ha) nFre (by simp [m4]) (by simp [m4, hasN])) rfl (by rw [hl]; rfl) (by simp [lenF, lenW]; omega), hl]
  rfl
theorem mv_sync2 (ha : a.length ≤ 300) (hb : b.length ≤ 300) : syncD (m5 a b) sFre = (m6 a b, 0) := by
  have hl : lowN (m5 a b).files sFre = 0 := low1 _ _ _ ff
  unfold syncD
  rw [if_neg (by rw [atE_of (v5 ha hb) nFre (by simp [m5]) (by simp [m5, hasN])]; simp), hl, show atN (m5 a b).files 0 = ⟨sFre, [], [⟨0, b, false⟩]⟩ from rfl, cont2 hb]
  rfl
theorem mv_rename5 (ha : a.length ≤ 300) (hb : b.length ≤ 300) : renameD (m5 a b) sFre sOld = (m2 b, 0) := by
  have hl : lowN (m5 a b).files sFre = 0 := low1 _ _ _ ff
  unfold renameD
  rw [if_neg (by rw [nOld]; simp), if_neg (by rw [atE_of (v5 ha hb) nFre (by simp [m5]) (by simp [m5, hasN])]; simp), hl]
  simp [m5, m2, dropN, addN, low1 ⟨sOld, a, []⟩ sOld [] oo, nextL, atN]
theorem mv_rename6 (ha : a.length ≤ 300) (hb : b.length ≤ 300) : renameD (m6 a b) sFre sOld = (m3 b, 0) := by
  have hl : lowN (m6 a b).files sFre = 0 := low1 _ _ _ ff
  unfold renameD
  rw [if_neg (by rw [nOld]; simp), if_neg (by rw [atE_of (v6 ha hb) nFre (by simp [m6]) (by simp [m6, hasN])]; simp), hl]
  simp [m6, m3, dropN, addN, low1 ⟨sOld, a, []⟩ sOld [] oo, nextL, atN]
theorem mv_crash2 (hb : b.length ≤ 300) : crashD (m2 b) [] = m1 := by
  unfold crashD
  rw [if_pos (v2 hb)]
  have c0 : ∀ m, cutN 0 m = 0 := fun m => by unfold cutN; omega
  simp [m2, m1, leftF, keepOf, kp0, c0, contF, appls]
theorem mv_crash3 (hb : b.length ≤ 300) : crashD (m3 b) [] = m3 b := by
  unfold crashD
  rw [if_pos (v3 hb)]
  have := cont1 hb sOld
  simp [m3, leftF, keepOf, kp0, cutN, this]
theorem mv_read2 (hb : b.length ≤ 300) : readD (m2 b) sOld 0 (b.length : Int) = (b, 0) := by
  unfold readD
  rw [if_neg (by rw [atE_of (v2 hb) nOld (by simp [m2]) (by simp [m2, hasN])]; simp), show lowN (m2 b).files sOld = 0 from low1 _ _ _ oo, show atN (m2 b).files 0 = ⟨sOld, [], [⟨0, b, false⟩]⟩ from rfl, cont2 hb]
  simp
theorem mv_read3 (hb : b.length ≤ 300) : readD (m3 b) sOld 0 (b.length : Int) = (b, 0) := by
  unfold readD
  rw [if_neg (by rw [atE_of (v3 hb) nOld (by simp [m3]) (by simp [m3, hasN])]; simp), show lowN (m3 b).files sOld = 0 from low1 _ _ _ oo, show atN (m3 b).files 0 = ⟨sOld, b, []⟩ from rfl, cont1 hb]
  simp
theorem mv_size1 : sizeD m1 sOld = (0, 0) := by decide +kernel
theorem mv_size3 (hb : b.length ≤ 300) : sizeD (m3 b) sOld = ((b.length : Int), 0) := by
  unfold sizeD
  rw [if_neg (by rw [atE_of (v3 hb) nOld (by simp [m3]) (by simp [m3, hasN])]; simp), show lowN (m3 b).files sOld = 0 from low1 _ _ _ oo]
  rfl
theorem mv_gone1 : sizeD m1 sFre = (0, 6) := by decide +kernel
theorem mv_gone3 (hb : b.length ≤ 300) : sizeD (m3 b) sFre = (0, 6) := by
  have h : atE (m3 b) sFre = 6 := by unfold atE; rw [readyE_of (v3 hb) nFre (by simp [m3])]; simp [m3, hasN, neOF]
  unfold sizeD
  rw [h]; rfl
end
/-- A valid disk of few writes may be walked on. -/
theorem lite_few {d : Dk} (hv : validD d = true) (hp : ∀ f ∈ d.files, f.pend.length ≤ 5000) (hc : d.cap ≤ 9223372036854775807) (hl : d.left ≤ 9223372036854775807) : LiteD d := by
  have h := (validD_iff d).1 hv
  exact h.lite (k := 5000) ⟨⟨by have := h.cap; omega, hc⟩, ⟨by have := h.left; omega, hl⟩, hp⟩ (Nat.le_refl _)
end Go.Proofs.YtkabcpmnbjllcaaDoor
