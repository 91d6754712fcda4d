/- Disks, in plain Lean: writes, contents, lengths, what is valid. No program here. -/
import Derived.Test.YtkabcpmnbjllcaaDoorBase
namespace Go.Proofs.YtkabcpmnbjllcaaDoor

/-- Something written and not synced. -/
structure Wr where
  off : Int
  data : List UInt8
  cut : Bool
  deriving DecidableEq
/-- A file. -/
structure Fil where
  name : List UInt8
  base : List UInt8
  pend : List Wr
  deriving DecidableEq
/-- A disk. -/
structure Dk where
  cap : Int
  left : Int
  files : List Fil
  deriving DecidableEq
def wr0 : Wr := ⟨0, [], false⟩
def fil0 : Fil := ⟨[], [], []⟩
def dk0 : Dk := ⟨0, 0, []⟩
instance : Inhabited Wr := ⟨wr0⟩
instance : Inhabited Fil := ⟨fil0⟩
/-- The length of a content of n bytes after a write. -/
def grownW (w : Wr) (n : Int) : Int := if w.cut then min n w.off else max n (w.off + (w.data.length : Int))
def lenW (ws : List Wr) (n : Int) : Int := ws.foldl (fun n w => grownW w n) n
/-- The numbers of a write are valid. -/
def okW (w : Wr) : Bool := decide (0 ≤ w.off) && decide (w.off ≤ 1048576) && (!w.cut || w.data.isEmpty)
/-- No content on the way is too long. -/
def szW : List Wr → Int → Bool
  | [], _ => true
  | w :: r, n => okW w && decide (grownW w n ≤ 1048576) && szW r (grownW w n)
def sizedF (f : Fil) : Bool := decide ((f.base.length : Int) ≤ 1048576) && szW f.pend f.base.length
def zer (n : Nat) : List UInt8 := List.replicate n 0
/-- A content after a write of d at off. -/
def putW (b : List UInt8) (off : Nat) (d : List UInt8) : List UInt8 := (b ++ zer (off - b.length)).take off ++ d ++ b.drop (off + d.length)
def appl (w : Wr) (b : List UInt8) : List UInt8 := if w.cut then b.take w.off.toNat else putW b w.off.toNat w.data
def appls (ws : List Wr) (b : List UInt8) : List UInt8 := ws.foldl (fun b w => appl w b) b
def contF (f : Fil) : List UInt8 := if sizedF f then appls f.pend f.base else []
theorem zer_length (n : Nat) : (zer n).length = n := List.length_replicate ..
theorem putW_length (b : List UInt8) (off : Nat) (d : List UInt8) : (putW b off d).length = max b.length (off + d.length) := by
  unfold putW
  simp only [List.length_append, List.length_take, List.length_drop, zer_length]
  omega
theorem okW_iff (w : Wr) : okW w = true ↔ 0 ≤ w.off ∧ w.off ≤ 1048576 ∧ (w.cut = true → w.data = []) := by
  unfold okW
  cases h : w.cut
  · simp; 
  · simp [and_assoc]
theorem appl_length (w : Wr) (b : List UInt8) (h : 0 ≤ w.off) : ((appl w b).length : Int) = grownW w b.length := by
  unfold appl grownW
  split
  · rw [List.length_take]; omega
  · rw [putW_length]; omega
theorem appls_length : ∀ (ws : List Wr) (b : List UInt8), szW ws b.length = true → ((appls ws b).length : Int) = lenW ws b.length
  | [], _, _ => rfl
  | w :: r, b, h => by
    simp only [szW, Bool.and_eq_true, decide_eq_true_eq] at h
    obtain ⟨⟨h1, _⟩, h3⟩ := h
    have h1 := (okW_iff w).1 h1
    have hl := appl_length w b h1.1
    show ((appls r (appl w b)).length : Int) = lenW r (grownW w b.length)
    rw [← hl] at h3 ⊢
    exact appls_length r _ h3
theorem szW_app : ∀ (a b : List Wr) (n : Int), szW (a ++ b) n = (szW a n && szW b (lenW a n))
  | [], _, _ => rfl
  | w :: r, b, n => by
    show (okW w && decide (grownW w n ≤ 1048576) && szW (r ++ b) (grownW w n)) = (okW w && decide (grownW w n ≤ 1048576) && szW r (grownW w n) && szW b (lenW r (grownW w n)))
    rw [szW_app r b]
    simp only [Bool.and_assoc]
theorem lenW_app (a b : List Wr) (n : Int) : lenW (a ++ b) n = lenW b (lenW a n) := by unfold lenW; rw [List.foldl_append]
theorem appls_app (a b : List Wr) (l : List UInt8) : appls (a ++ b) l = appls b (appls a l) := by unfold appls; rw [List.foldl_append]
theorem lenW_snoc (a : List Wr) (w : Wr) (n : Int) : lenW (a ++ [w]) n = grownW w (lenW a n) := lenW_app a [w] n
theorem appls_snoc (a : List Wr) (w : Wr) (l : List UInt8) : appls (a ++ [w]) l = appl w (appls a l) := appls_app a [w] l
theorem szW_snoc (a : List Wr) (w : Wr) (n : Int) : szW (a ++ [w]) n = (szW a n && okW w && decide (grownW w (lenW a n) ≤ 1048576)) := by
  rw [szW_app]; simp [szW, Bool.and_assoc]
theorem szW_take (a : List Wr) (n : Int) (k : Nat) (h : szW a n = true) : szW (a.take k) n = true := by
  have e := szW_app (a.take k) (a.drop k) n
  rw [List.take_append_drop, h] at e
  exact (Bool.and_eq_true_iff.1 e.symm).1
theorem lenW_bounds (a : List Wr) (n : Int) (h0 : 0 ≤ n) (h1 : n ≤ 1048576) (h : szW a n = true) : 0 ≤ lenW a n ∧ lenW a n ≤ 1048576 := by
  induction a generalizing n with
  | nil => exact ⟨h0, h1⟩
  | cons w r ih =>
    simp only [szW, Bool.and_eq_true, decide_eq_true_eq] at h
    obtain ⟨⟨h2, h3⟩, h4⟩ := h
    have h2 := (okW_iff w).1 h2
    refine ih (grownW w n) ?_ h3 h4
    unfold grownW
    split <;> omega
theorem sizedF_iff (f : Fil) : sizedF f = true ↔ (f.base.length : Int) ≤ 1048576 ∧ szW f.pend f.base.length = true := by
  unfold sizedF; simp
theorem contF_length {f : Fil} (h : sizedF f = true) : ((contF f).length : Int) = lenW f.pend f.base.length := by
  unfold contF
  rw [if_pos h]
  exact appls_length _ _ ((sizedF_iff f).1 h).2
theorem contF_le (f : Fil) : (contF f).length ≤ 1048576 := by
  by_cases h : sizedF f = true
  · have h1 := contF_length h
    have h2 := (sizedF_iff f).1 h
    have := lenW_bounds f.pend f.base.length (by omega) h2.1 h2.2
    omega
  · unfold contF; rw [if_neg h]; exact Nat.zero_le _
/-- The signs of a name. -/
def letB (c : UInt8) : Bool := (decide (97 ≤ c.toNat) && decide (c.toNat ≤ 122)) || (decide (48 ≤ c.toNat) && decide (c.toNat ≤ 57)) || c == 46 || c == 45
def nameB (s : List UInt8) : Bool := s.all letB && decide (1 ≤ s.length) && decide (s.length ≤ 40)
/-- Names in ascending order. -/
def ascN : List Fil → Bool
  | a :: b :: r => decide (a.name < b.name) && ascN (b :: r)
  | _ => true
def okF (f : Fil) : Bool := nameB f.name && sizedF f
def validD (d : Dk) : Bool := decide (0 ≤ d.cap) && decide (-1 ≤ d.left) && decide (d.files.length ≤ 256) && d.files.all okF && ascN d.files
/-- Where a name is: the first file whose name is not below it. -/
def lowN (l : List Fil) (s : List UInt8) : Nat := (l.takeWhile (fun f => decide (f.name < s))).length
def atN (l : List Fil) (i : Nat) : Fil := l.getD i fil0
def hasN (l : List Fil) (s : List UInt8) : Bool := l.any (fun f => f.name == s)
end Go.Proofs.YtkabcpmnbjllcaaDoor
