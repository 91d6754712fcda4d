/- Several texts in one, each over the last: Disks, in plain Lean: writes, contents, lengths, what is valid. No program here. The operations of a disk, in plain Lean. No program here. Ascending lists of files: where a name is; what stays valid. No program here. The operations of a disk keep it valid. No program here. Bounds on disks: what the walks ask of numbers and lengths. No program here. -/
import Derived.Test.YtkabcpmnbjllcaaDoorBase
namespace Go.Proofs.YtkabcpmnbjllcaaDoor

/-- Something written and not synced. -/
structure Wr where
  off : Int
  data : List UInt8
  cut : Bool
  deriving DecidableEq
/-- A file. -/
structure Fil where
  name : List UInt8
  base : List UInt8
  pend : List Wr
  deriving DecidableEq
/-- A disk. -/
structure Dk where
  cap : Int
  left : Int
  files : List Fil
  deriving DecidableEq
def wr0 : Wr := ⟨0, [], false⟩
def fil0 : Fil := ⟨[], [], []⟩
def dk0 : Dk := ⟨0, 0, []⟩
instance : Inhabited Wr := ⟨wr0⟩
instance : Inhabited Fil := ⟨fil0⟩
/-- The length of a content of n bytes after a write. -/
def grownW (w : Wr) (n : Int) : Int := if w.cut then min n w.off else max n (w.off + (w.data.length : Int))
def lenW (ws : List Wr) (n : Int) : Int := ws.foldl (fun n w => grownW w n) n
/-- The numbers of a write are valid. -/
def okW (w : Wr) : Bool := decide (0 ≤ w.off) && decide (w.off ≤ 1048576) && (!w.cut || w.data.isEmpty)
/-- No content on the way is too long. -/
def szW : List Wr → Int → Bool
  | [], _ => true
  | w :: r, n => okW w && decide (grownW w n ≤ 1048576) && szW r (grownW w n)
def sizedF (f : Fil) : Bool := decide ((f.base.length : Int) ≤ 1048576) && szW f.pend f.base.length
def zer (n : Nat) : List UInt8 := List.replicate n 0
/-- A content after a write of d at off. -/
def putW (b : List UInt8) (off : Nat) (d : List UInt8) : List UInt8 := (b ++ zer (off - b.length)).take off ++ d ++ b.drop (off + d.length)
def appl (w : Wr) (b : List UInt8) : List UInt8 := if w.cut then b.take w.off.toNat else putW b w.off.toNat w.data
def appls (ws : List Wr) (b : List UInt8) : List UInt8 := ws.foldl (fun b w => appl w b) b
def contF (f : Fil) : List UInt8 := if sizedF f then appls f.pend f.base else []
theorem zer_length (n : Nat) : (zer n).length = n := List.length_replicate ..
theorem putW_length (b : List UInt8) (off : Nat) (d : List UInt8) : (putW b off d).length = max b.length (off + d.length) := by
  unfold putW
  simp only [List.length_append, List.length_take, List.length_drop, zer_length]
  omega
theorem okW_iff (w : Wr) : okW w = true ↔ 0 ≤ w.off ∧ w.off ≤ 1048576 ∧ (w.cut = true → w.data = []) := by
  unfold okW
  cases h : w.cut
  · simp; 
  · simp [and_assoc]
theorem appl_length (w : Wr) (b : List UInt8) (h : 0 ≤ w.off) : ((appl w b).length : Int) = grownW w b.length := by
  unfold appl grownW
  split
  · rw [List.length_take]; omega
  · rw [putW_length]; omega
theorem appls_length : ∀ (ws : List Wr) (b : List UInt8), szW ws b.length = true → ((appls ws b).length : Int) = lenW ws b.length
  | [], _, _ => rfl
  | w :: r, b, h => by
    simp only [szW, Bool.and_eq_true, decide_eq_true_eq] at h
    obtain ⟨⟨h1, _⟩, h3⟩ := h
    have h1 := (okW_iff w).1 h1
    have hl := appl_length w b h1.1
    show ((appls r (appl w b)).length : Int) = lenW r (grownW w b.length)
    rw [← hl] at h3 ⊢
    exact appls_length r _ h3
theorem szW_app : ∀ (a b : List Wr) (n : Int), szW (a ++ b) n = (szW a n && szW b (lenW a n))
  | [], _, _ => rfl
  | w :: r, b, n => by
    show (okW w && decide (grownW w n ≤ 1048576) && szW (r ++ b) (grownW w n)) = (okW w && decide (grownW w n ≤ 1048576) && szW r (grownW w n) && szW b (lenW r (grownW w n)))
    rw [szW_app r b]
    simp only [Bool.and_assoc]
theorem lenW_app (a b : List Wr) (n : Int) : lenW (a ++ b) n = lenW b (lenW a n) := by unfold lenW; rw [List.foldl_append]
theorem appls_app (a b : List Wr) (l : List UInt8) : appls (a ++ b) l = appls b (appls a l) := by unfold appls; rw [List.foldl_append]
theorem lenW_snoc (a : List Wr) (w : Wr) (n : Int) : lenW (a ++ [w]) n = grownW w (lenW a n) := lenW_app a [w] n
theorem appls_snoc (a : List Wr) (w : Wr) (l : List UInt8) : appls (a ++ [w]) l = appl w (appls a l) := appls_app a [w] l
theorem szW_snoc (a : List Wr) (w : Wr) (n : Int) : szW (a ++ [w]) n = (szW a n && okW w && decide (grownW w (lenW a n) ≤ 1048576)) := by
  rw [szW_app]; simp [szW, Bool.and_assoc]
theorem szW_take (a : List Wr) (n : Int) (k : Nat) (h : szW a n = true) : szW (a.take k) n = true := by
  have e := szW_app (a.take k) (a.drop k) n
  rw [List.take_append_drop, h] at e
  exact (Bool.and_eq_true_iff.1 e.symm).1
theorem lenW_bounds (a : List Wr) (n : Int) (h0 : 0 ≤ n) (h1 : n ≤ 1048576) (h : szW a n = true) : 0 ≤ lenW a n ∧ lenW a n ≤ 1048576 := by
  induction a generalizing n with
  | nil => exact ⟨h0, h1⟩
  | cons w r ih =>
    simp only [szW, Bool.and_eq_true, decide_eq_true_eq] at h
    obtain ⟨⟨h2, h3⟩, h4⟩ := h
    have h2 := (okW_iff w).1 h2
    refine ih (grownW w n) ?_ h3 h4
    unfold grownW
    split <;> omega
theorem sizedF_iff (f : Fil) : sizedF f = true ↔ (f.base.length : Int) ≤ 1048576 ∧ szW f.pend f.base.length = true := by
  unfold sizedF; simp
theorem contF_length {f : Fil} (h : sizedF f = true) : ((contF f).length : Int) = lenW f.pend f.base.length := by
  unfold contF
  rw [if_pos h]
  exact appls_length _ _ ((sizedF_iff f).1 h).2
theorem contF_le (f : Fil) : (contF f).length ≤ 1048576 := by
  by_cases h : sizedF f = true
  · have h1 := contF_length h
    have h2 := (sizedF_iff f).1 h
    have := lenW_bounds f.pend f.base.length (by omega) h2.1 h2.2
    omega
  · unfold contF; rw [if_neg h]; exact Nat.zero_le _
/-- The signs of a name. -/
def letB (c : UInt8) : Bool := (decide (97 ≤ c.toNat) && decide (c.toNat ≤ 122)) || (decide (48 ≤ c.toNat) && decide (c.toNat ≤ 57)) || c == 46 || c == 45
def nameB (s : List UInt8) : Bool := s.all letB && decide (1 ≤ s.length) && decide (s.length ≤ 40)
/-- Names in ascending order. -/
def ascN : List Fil → Bool
  | a :: b :: r => decide (a.name < b.name) && ascN (b :: r)
  | _ => true
def okF (f : Fil) : Bool := nameB f.name && sizedF f
def validD (d : Dk) : Bool := decide (0 ≤ d.cap) && decide (-1 ≤ d.left) && decide (d.files.length ≤ 256) && d.files.all okF && ascN d.files
/-- Where a name is: the first file whose name is not below it. -/
def lowN (l : List Fil) (s : List UInt8) : Nat := (l.takeWhile (fun f => decide (f.name < s))).length
def atN (l : List Fil) (i : Nat) : Fil := l.getD i fil0
def hasN (l : List Fil) (s : List UInt8) : Bool := l.any (fun f => f.name == s)
end Go.Proofs.YtkabcpmnbjllcaaDoor

namespace Go.Proofs.YtkabcpmnbjllcaaDoor

/-- The first error of an operation on a name. -/
def readyE (d : Dk) (s : List UInt8) : Int := if !(validD d && nameB s) then 1 else if d.left = 0 then 13 else 0
/-- The error of an operation on a file that must be there. -/
def atE (d : Dk) (s : List UInt8) : Int := if readyE d s ≠ 0 then readyE d s else if hasN d.files s then 0 else 6
def nextL (l : Int) : Int := if 0 < l then l - 1 else l
/-- A file at its place. -/
def addN (l : List Fil) (f : Fil) : List Fil := l.take (lowN l f.name) ++ f :: (l.drop (lowN l f.name)).filter (fun x => x.name != f.name)
def createD (d : Dk) (s : List UInt8) : Dk × Int :=
  if readyE d s ≠ 0 then (dk0, readyE d s) else if hasN d.files s then (dk0, 7) else if d.files.length = 256 then (dk0, 9) else (⟨d.cap, nextL d.left, addN d.files ⟨s, [], []⟩⟩, 0)
def lenF (f : Fil) : Int := lenW f.pend f.base.length
def totL (l : List Fil) (n : Int) : Int := l.foldl (fun n f => n + lenF f) n
def totD (d : Dk) : Int := totL d.files 0
/-- A write to file i of a valid disk. -/
def writtenD (d : Dk) (i : Nat) (w : Wr) : Dk × Int :=
  let f := atN d.files i
  let was := lenF f
  let now := grownW w was
  if 1048576 < w.off + (w.data.length : Int) then (dk0, 9) else if 0 < d.cap ∧ was < now ∧ d.cap < totD d + (now - was) then (dk0, 9)
  else (⟨d.cap, nextL d.left, d.files.set i ⟨f.name, f.base, f.pend ++ [w]⟩⟩, 0)
def appendD (d : Dk) (s : List UInt8) (b : List UInt8) : Dk × Int :=
  if atE d s ≠ 0 then (dk0, atE d s) else writtenD d (lowN d.files s) ⟨lenF (atN d.files (lowN d.files s)), b, false⟩
def putD (d : Dk) (s : List UInt8) (off : Int) (b : List UInt8) : Dk × Int :=
  if atE d s ≠ 0 then (dk0, atE d s) else if off < 0 ∨ lenF (atN d.files (lowN d.files s)) < off then (dk0, 2) else writtenD d (lowN d.files s) ⟨off, b, false⟩
def truncD (d : Dk) (s : List UInt8) (n : Int) : Dk × Int :=
  if atE d s ≠ 0 then (dk0, atE d s) else if n < 0 ∨ lenF (atN d.files (lowN d.files s)) < n then (dk0, 2) else writtenD d (lowN d.files s) ⟨n, [], true⟩
def syncD (d : Dk) (s : List UInt8) : Dk × Int :=
  if atE d s ≠ 0 then (dk0, atE d s) else (⟨d.cap, nextL d.left, d.files.set (lowN d.files s) ⟨s, contF (atN d.files (lowN d.files s)), []⟩⟩, 0)
def dropN (l : List Fil) (i : Nat) : List Fil := l.take i ++ l.drop (i + 1)
def removeD (d : Dk) (s : List UInt8) : Dk × Int :=
  if atE d s ≠ 0 then (dk0, atE d s) else (⟨d.cap, nextL d.left, dropN d.files (lowN d.files s)⟩, 0)
def renameD (d : Dk) (s t : List UInt8) : Dk × Int :=
  if !nameB t then (dk0, 1) else if atE d s ≠ 0 then (dk0, atE d s) else
    (⟨d.cap, nextL d.left, addN (dropN d.files (lowN d.files s)) ⟨t, (atN d.files (lowN d.files s)).base, (atN d.files (lowN d.files s)).pend⟩⟩, 0)
/-- What a crash keeps of a file. -/
structure Kp where
  name : List UInt8
  wri : Int
  torn : Int
  deriving DecidableEq
def kp0 : Kp := ⟨[], 0, 0⟩
instance : Inhabited Kp := ⟨kp0⟩
def keepOf (l : List Kp) (s : List UInt8) : Kp := (l.find? (fun k => k.name == s)).getD kp0
def cutN (n : Int) (m : Nat) : Nat := (max 0 (min n (m : Int))).toNat
def leftF (f : Fil) (k : Kp) : List UInt8 :=
  let n := cutN k.wri f.pend.length
  let b := contF ⟨f.name, f.base, f.pend.take n⟩
  match f.pend[n]? with
  | none => b
  | some w => if w.cut then b else
    let d := w.data.take (cutN k.torn w.data.length)
    if d = [] then b else appl ⟨w.off, d, false⟩ b
def crashD (d : Dk) (l : List Kp) : Dk :=
  if validD d then ⟨d.cap, -1, d.files.map fun f => ⟨f.name, leftF f (keepOf l f.name), []⟩⟩ else dk0
def xorAt (b : List UInt8) (i : Nat) (k : Nat) : List UInt8 := b.set i (b.getD i 0 ^^^ UInt8.ofNat (2 ^ k))
def flipD (d : Dk) (s : List UInt8) (bit : Int) : Dk × Int :=
  if !(validD d && nameB s) then (dk0, 1) else if !hasN d.files s then (dk0, 6) else
  let f := atN d.files (lowN d.files s)
  if f.pend ≠ [] then (dk0, 12) else if bit < 0 ∨ (f.base.length : Int) ≤ bit / 8 then (dk0, 2)
  else (⟨d.cap, d.left, d.files.set (lowN d.files s) ⟨f.name, xorAt f.base (bit / 8).toNat (bit % 8).toNat, f.pend⟩⟩, 0)
def newD (limit : Int) : Dk := ⟨max limit 0, -1, []⟩
def armD (d : Dk) (n : Int) : Dk := ⟨d.cap, max n (-1), d.files⟩
def sizeD (d : Dk) (s : List UInt8) : Int × Int := if atE d s ≠ 0 then (0, atE d s) else (lenF (atN d.files (lowN d.files s)), 0)
def readD (d : Dk) (s : List UInt8) (off n : Int) : List UInt8 × Int :=
  if atE d s ≠ 0 then ([], atE d s) else
  let b := contF (atN d.files (lowN d.files s))
  if off < 0 ∨ n < 0 ∨ (b.length : Int) < off ∨ (b.length : Int) - off < n then ([], 2) else ((b.drop off.toNat).take n.toNat, 0)
def namesD (d : Dk) : List (List UInt8) := if validD d then d.files.map (·.name) else []
/-- An operation of the law's. -/
structure Opr where
  kind : Int
  name : List UInt8
  to : List UInt8
  off : Int
  data : List UInt8
  keep : List Kp
def changeD (d : Dk) (o : Opr) : Dk × Int :=
  let k := o.kind % 10
  if k = 0 then createD d o.name else if k = 1 ∨ k = 2 then appendD d o.name o.data else if k = 3 then putD d o.name o.off o.data
  else if k = 4 then truncD d o.name o.off else if k = 5 then syncD d o.name else if k = 6 then renameD d o.name o.to
  else if k = 7 then removeD d o.name else if k = 8 then (crashD d o.keep, 0) else flipD d o.name o.off
def cutO (o : Opr) : Opr := ⟨o.kind, o.name, o.to, o.off, o.data.take 200, o.keep.take 10⟩
def madeL (l : List Opr) (d : Dk) : Dk := l.foldl (fun d o => if (changeD d (cutO o)).2 = 0 then (changeD d (cutO o)).1 else d) d
def madeD (limit left : Int) (l : List Opr) : Dk := madeL (l.take 14) (armD (newD limit) left)
end Go.Proofs.YtkabcpmnbjllcaaDoor

namespace Go.Proofs.YtkabcpmnbjllcaaDoor

theorem lex_irrefl (a : List UInt8) : ¬ a < a := List.lt_irrefl a
theorem lex_trans {a b c : List UInt8} (h : a < b) (h' : b < c) : a < c := List.lt_trans h h'
theorem lex_tri (a b : List UInt8) : a < b ∨ a = b ∨ b < a := by
  rcases Classical.em (a < b) with h | h
  · exact .inl h
  · rcases Classical.em (b < a) with h' | h'
    · exact .inr (.inr h')
    · exact .inr (.inl (List.le_antisymm (List.not_lt.1 h') (List.not_lt.1 h)))
theorem ascN_iff : ∀ (l : List Fil), ascN l = true ↔ l.Pairwise (fun a b => a.name < b.name)
  | [] => by simp [ascN]
  | [a] => by simp [ascN]
  | a :: b :: r => by
    have ih := ascN_iff (b :: r)
    simp only [ascN, Bool.and_eq_true, decide_eq_true_eq, ih, List.pairwise_cons]
    refine ⟨fun ⟨h1, h2, h3⟩ => ⟨?_, h2, h3⟩, fun ⟨h1, h2, h3⟩ => ⟨h1 b (List.mem_cons_self ..), h2, h3⟩⟩
    intro x hx
    rcases List.mem_cons.1 hx with e | e
    · rw [e]; exact h1
    · exact lex_trans h1 (h2 x e)
theorem lowN_le (l : List Fil) (s : List UInt8) : lowN l s ≤ l.length := by
  unfold lowN; exact (List.takeWhile_sublist _).length_le
theorem lowN_cons (f : Fil) (l : List Fil) (s : List UInt8) : lowN (f :: l) s = if f.name < s then lowN l s + 1 else 0 := by
  unfold lowN
  rw [List.takeWhile_cons]
  by_cases h : f.name < s
  · simp [h]
  · simp [h]
theorem atN_cons (f : Fil) (l : List Fil) (i : Nat) : atN (f :: l) (i + 1) = atN l i := rfl
/-- Below the place all names are below; from it on, none (in an ascending list). -/
theorem lowN_below : ∀ (l : List Fil) (s : List UInt8) (i : Nat), i < lowN l s → (atN l i).name < s
  | [], _, i, h => by cases h
  | f :: l, s, i, h => by
    rw [lowN_cons] at h
    by_cases e : f.name < s
    · rw [if_pos e] at h
      cases i with
      | zero => exact e
      | succ i => exact lowN_below l s i (by omega)
    · rw [if_neg e] at h; cases h
theorem lowN_at : ∀ (l : List Fil) (s : List UInt8), lowN l s < l.length → ¬ (atN l (lowN l s)).name < s
  | [], _, h => by cases h
  | f :: l, s, h => by
    rw [lowN_cons] at h ⊢
    by_cases e : f.name < s
    · rw [if_pos e] at h ⊢
      exact lowN_at l s (by simpa using h)
    · rw [if_neg e]; exact e
theorem pairwise_at {l : List Fil} (h : l.Pairwise (fun a b => a.name < b.name)) {i j : Nat} (hij : i < j) (hj : j < l.length) : (atN l i).name < (atN l j).name := by
  have hi : i < l.length := by omega
  unfold atN
  rw [List.getD_eq_getElem?_getD, List.getD_eq_getElem?_getD, List.getElem?_eq_getElem hi, List.getElem?_eq_getElem hj]
  exact List.pairwise_iff_getElem.1 h i j hi hj hij
theorem lowN_up {l : List Fil} (h : l.Pairwise (fun a b => a.name < b.name)) {s : List UInt8} {i : Nat} (hi : lowN l s ≤ i) (hl : i < l.length) : ¬ (atN l i).name < s := by
  have h0 := lowN_at l s (by omega)
  rcases Nat.lt_or_eq_of_le hi with e | e
  · exact fun hc => h0 (lex_trans (pairwise_at h e hl) hc)
  · rw [← e]; exact h0
theorem mem_atN {l : List Fil} {x : Fil} (h : x ∈ l) : ∃ i, i < l.length ∧ atN l i = x := by
  obtain ⟨i, hi, e⟩ := List.getElem_of_mem h
  refine ⟨i, hi, ?_⟩
  unfold atN
  rw [List.getD_eq_getElem?_getD, List.getElem?_eq_getElem hi]
  exact e
theorem atN_mem {l : List Fil} {i : Nat} (h : i < l.length) : atN l i ∈ l := by
  unfold atN; rw [List.getD_eq_getElem?_getD, List.getElem?_eq_getElem h]; exact List.getElem_mem h
theorem hasN_iff {l : List Fil} (h : l.Pairwise (fun a b => a.name < b.name)) (s : List UInt8) : hasN l s = true ↔ lowN l s < l.length ∧ (atN l (lowN l s)).name = s := by
  unfold hasN
  rw [List.any_eq_true]
  constructor
  · rintro ⟨x, hx, e⟩
    have e : x.name = s := by simpa using e
    obtain ⟨i, hi, rfl⟩ := mem_atN hx
    have h1 : ¬ i < lowN l s := fun hc => lex_irrefl s (by have := lowN_below l s i hc; rwa [e] at this)
    have h2 : ¬ lowN l s < i := fun hc => by
      have h3 := pairwise_at h hc hi
      rw [e] at h3
      exact lowN_at l s (by omega) h3
    have h3 : lowN l s = i := by omega
    rw [h3]
    exact ⟨hi, e⟩
  · rintro ⟨h1, h2⟩
    exact ⟨_, atN_mem h1, by simp [h2]⟩
/-- Any index with the name is the place. -/
theorem lowN_eq {l : List Fil} (h : l.Pairwise (fun a b => a.name < b.name)) {s : List UInt8} {i : Nat} (hi : i < l.length) (e : (atN l i).name = s) : lowN l s = i := by
  have h1 : ¬ i < lowN l s := fun hc => lex_irrefl s (by have := lowN_below l s i hc; rwa [e] at this)
  have h2 : ¬ lowN l s < i := fun hc => by
    have h3 := pairwise_at h hc hi
    rw [e] at h3
    exact lowN_at l s (by omega) h3
  omega
structure VldD (d : Dk) : Prop where
  cap : 0 ≤ d.cap
  left : -1 ≤ d.left
  len : d.files.length ≤ 256
  ok : ∀ f ∈ d.files, nameB f.name = true ∧ sizedF f = true
  asc : d.files.Pairwise (fun a b => a.name < b.name)
theorem validD_iff (d : Dk) : validD d = true ↔ VldD d := by
  unfold validD
  simp only [Bool.and_eq_true, decide_eq_true_eq, List.all_eq_true, okF, ascN_iff]
  exact ⟨fun ⟨⟨⟨⟨h1, h2⟩, h3⟩, h4⟩, h5⟩ => ⟨h1, h2, h3, h4, h5⟩, fun h => ⟨⟨⟨⟨h.cap, h.left⟩, h.len⟩, h.ok⟩, h.asc⟩⟩
theorem readyE_ok {d : Dk} {s : List UInt8} (h : readyE d s = 0) : VldD d ∧ nameB s = true ∧ d.left ≠ 0 := by
  unfold readyE at h
  split at h
  · cases h
  · rename_i hv
    split at h
    · cases h
    · rename_i hl
      simp only [Bool.not_eq_true', Bool.and_eq_false_iff, not_or, Bool.not_eq_false] at hv
      exact ⟨(validD_iff d).1 hv.1, hv.2, hl⟩
theorem atE_ok {d : Dk} {s : List UInt8} (h : atE d s = 0) : VldD d ∧ nameB s = true ∧ d.left ≠ 0 ∧ lowN d.files s < d.files.length ∧ (atN d.files (lowN d.files s)).name = s := by
  unfold atE at h
  split at h
  · rename_i h1; exact absurd h h1
  · rename_i h1
    split at h
    · rename_i h2
      have h1 : readyE d s = 0 := by simpa using h1
      obtain ⟨a, b, c⟩ := readyE_ok h1
      obtain ⟨e, f⟩ := (hasN_iff a.asc s).1 h2
      exact ⟨a, b, c, e, f⟩
    · cases h
theorem nextL_ok {l : Int} (h : -1 ≤ l) : -1 ≤ nextL l := by unfold nextL; split <;> omega
/-- A file in the place of one of the same name. -/
theorem VldD.set {d : Dk} (h : VldD d) {i : Nat} (hi : i < d.files.length) {f : Fil} (hn : f.name = (atN d.files i).name) (hs : sizedF f = true) {l : Int} (hl : -1 ≤ l) : VldD ⟨d.cap, l, d.files.set i f⟩ := by
  have hnb : nameB f.name = true := by rw [hn]; exact (h.ok _ (atN_mem hi)).1
  refine ⟨h.cap, hl, by simpa using h.len, ?_, ?_⟩
  · intro g hg
    rcases List.mem_or_eq_of_mem_set hg with e | e
    · exact h.ok g e
    · rw [e]; exact ⟨hnb, hs⟩
  · rw [List.pairwise_iff_getElem]
    intro a b ha hb hab
    have key : ∀ k (hk : k < (d.files.set i f).length), ((d.files.set i f)[k]).name = (atN d.files k).name := fun k hk => by
      have hk' : k < d.files.length := by simpa using hk
      rw [List.getElem_set]
      split
      · rename_i e; subst e; exact hn
      · unfold atN; rw [List.getD_eq_getElem?_getD, List.getElem?_eq_getElem hk']; rfl
    show ((d.files.set i f)[a]).name < ((d.files.set i f)[b]).name
    rw [key a ha, key b hb]
    exact pairwise_at h.asc hab (by simpa using hb)
theorem VldD.drop {d : Dk} (h : VldD d) (i : Nat) {l : Int} (hl : -1 ≤ l) : VldD ⟨d.cap, l, dropN d.files i⟩ := by
  have hs : (dropN d.files i).Sublist d.files := by
    unfold dropN
    have := List.Sublist.append (List.Sublist.refl (d.files.take i)) (show (d.files.drop (i + 1)).Sublist (d.files.drop i) by
      rw [← List.drop_drop]; exact List.drop_sublist 1 _)
    rwa [List.take_append_drop] at this
  exact ⟨h.cap, hl, Nat.le_trans hs.length_le h.len, fun f hf => h.ok f (hs.subset hf), h.asc.sublist hs⟩
theorem addN_mem {l : List Fil} {f x : Fil} (h : x ∈ addN l f) : x = f ∨ x ∈ l := by
  unfold addN at h
  rcases List.mem_append.1 h with e | e
  · exact .inr (List.mem_of_mem_take e)
  · rcases List.mem_cons.1 e with e | e
    · exact .inl e
    · exact .inr (List.mem_of_mem_drop (List.mem_filter.1 e).1)
theorem addN_asc {l : List Fil} (h : l.Pairwise (fun a b => a.name < b.name)) (f : Fil) : (addN l f).Pairwise (fun a b => a.name < b.name) := by
  unfold addN
  have hlow : ∀ x ∈ l.take (lowN l f.name), x.name < f.name := fun x hx => by
    obtain ⟨i, hi, e⟩ := List.getElem_of_mem hx
    have hi' : i < lowN l f.name ∧ i < l.length := by rw [List.length_take] at hi; omega
    have := lowN_below l f.name i hi'.1
    rw [List.getElem_take] at e
    unfold atN at this
    rw [List.getD_eq_getElem?_getD, List.getElem?_eq_getElem hi'.2] at this
    rw [← e]; exact this
  have hup : ∀ x ∈ (l.drop (lowN l f.name)).filter (fun x => x.name != f.name), f.name < x.name := fun x hx => by
    obtain ⟨hx, hne⟩ := List.mem_filter.1 hx
    have hne : x.name ≠ f.name := by simpa using hne
    obtain ⟨i, hi, e⟩ := List.getElem_of_mem hx
    have hi' : lowN l f.name + i < l.length := by rw [List.length_drop] at hi; omega
    have h1 := lowN_up h (s := f.name) (i := lowN l f.name + i) (by omega) hi'
    rw [List.getElem_drop] at e
    unfold atN at h1
    rw [List.getD_eq_getElem?_getD, List.getElem?_eq_getElem hi'] at h1
    have h1 : ¬ x.name < f.name := by rw [← e]; exact h1
    rcases lex_tri x.name f.name with e | e | e
    · exact absurd e h1
    · exact absurd e hne
    · exact e
  rw [List.pairwise_append]
  refine ⟨h.sublist (List.take_sublist ..), ?_, ?_⟩
  · rw [List.pairwise_cons]
    exact ⟨hup, h.sublist ((List.filter_sublist).trans (List.drop_sublist ..))⟩
  · intro a ha b hb
    rcases List.mem_cons.1 hb with e | e
    · rw [e]; exact hlow a ha
    · exact lex_trans (hlow a ha) (hup b e)
theorem addN_length (l : List Fil) (f : Fil) : (addN l f).length ≤ l.length + 1 := by
  unfold addN
  simp only [List.length_append, List.length_cons, List.length_take]
  have := List.length_filter_le (fun x : Fil => x.name != f.name) (l.drop (lowN l f.name))
  rw [List.length_drop] at this
  omega
/-- If the name is not there, the file is put in. -/
theorem addN_new {l : List Fil} {f : Fil} (h : hasN l f.name = false) : addN l f = l.take (lowN l f.name) ++ f :: l.drop (lowN l f.name) := by
  unfold addN
  congr 2
  rw [List.filter_eq_self]
  intro x hx
  have hx := List.mem_of_mem_drop hx
  unfold hasN at h
  rw [List.any_eq_false] at h
  have := h x hx
  simpa using this
/-- If it is there, the file takes the other's place. -/
theorem addN_old {l : List Fil} (ha : l.Pairwise (fun a b => a.name < b.name)) {f : Fil} (h : hasN l f.name = true) : addN l f = l.set (lowN l f.name) f := by
  obtain ⟨h1, h2⟩ := (hasN_iff ha _).1 h
  unfold addN
  generalize lowN l f.name = k at *
  rw [List.set_eq_take_append_cons_drop, if_pos h1]
  congr 2
  rw [List.drop_eq_getElem_cons h1]
  have hk : (l[k]).name = f.name := by
    unfold atN at h2; rw [List.getD_eq_getElem?_getD, List.getElem?_eq_getElem h1] at h2; exact h2
  rw [List.filter_cons, if_neg (by simp [hk]), List.filter_eq_self]
  intro x hx
  obtain ⟨i, hi, e⟩ := List.getElem_of_mem hx
  rw [List.getElem_drop] at e
  have hi' : k + 1 + i < l.length := by rw [List.length_drop] at hi; omega
  have := List.pairwise_iff_getElem.1 ha k (k + 1 + i) h1 hi' (by omega)
  rw [e, hk] at this
  simp only [bne_iff_ne, ne_eq]
  exact fun hc => lex_irrefl f.name (by rwa [hc] at this)
end Go.Proofs.YtkabcpmnbjllcaaDoor

namespace Go.Proofs.YtkabcpmnbjllcaaDoor

theorem sized_of_vld {d : Dk} (h : VldD d) {i : Nat} (hi : i < d.files.length) : sizedF (atN d.files i) = true := (h.ok _ (atN_mem hi)).2
theorem name_of_vld {d : Dk} (h : VldD d) {i : Nat} (hi : i < d.files.length) : nameB (atN d.files i).name = true := (h.ok _ (atN_mem hi)).1
theorem lenF_bounds {f : Fil} (h : sizedF f = true) : 0 ≤ lenF f ∧ lenF f ≤ 1048576 := by
  have h2 := (sizedF_iff f).1 h
  exact lenW_bounds f.pend f.base.length (by omega) h2.1 h2.2
theorem lenF_cont {f : Fil} (h : sizedF f = true) : lenF f = ((contF f).length : Int) := (contF_length h).symm
theorem sizedF_app {f : Fil} {w : Wr} (h : sizedF f = true) (hw : okW w = true) (hl : grownW w (lenF f) ≤ 1048576) : sizedF ⟨f.name, f.base, f.pend ++ [w]⟩ = true := by
  have h2 := (sizedF_iff f).1 h
  refine (sizedF_iff _).2 ⟨h2.1, ?_⟩
  rw [szW_snoc, h2.2, hw]
  simpa [lenF] using hl
theorem readyE_le (d : Dk) (s : List UInt8) : readyE d s = 0 ∨ readyE d s = 1 ∨ readyE d s = 13 := by
  unfold readyE; split
  · exact .inr (.inl rfl)
  · split <;> simp
theorem VldD.add {d : Dk} (h : VldD d) {f : Fil} (hn : nameB f.name = true) (hs : sizedF f = true) {l : Int} (hl : -1 ≤ l) {fs : List Fil} (hf : fs.Sublist d.files) (hlen : (addN fs f).length ≤ 256) : VldD ⟨d.cap, l, addN fs f⟩ := by
  refine ⟨h.cap, hl, hlen, fun x hx => ?_, addN_asc (h.asc.sublist hf) f⟩
  rcases addN_mem hx with e | e
  · rw [e]; exact ⟨hn, hs⟩
  · exact h.ok x (hf.subset e)
theorem createD_vld {d : Dk} {s : List UInt8} (h : (createD d s).2 = 0) : VldD (createD d s).1 := by
  unfold createD at h ⊢
  by_cases h1 : readyE d s ≠ 0
  · rw [if_pos h1] at h; exact absurd h h1
  · rw [if_neg h1] at h ⊢
    have h1 : readyE d s = 0 := by simpa using h1
    obtain ⟨hv, hn, hl⟩ := readyE_ok h1
    by_cases h2 : hasN d.files s = true
    · rw [if_pos h2] at h; cases h
    · rw [if_neg h2] at h ⊢
      by_cases h3 : d.files.length = 256
      · rw [if_pos h3] at h; cases h
      · rw [if_neg h3]
        have h4 := hv.len
        have h5 := addN_length d.files ⟨s, [], []⟩
        exact hv.add (f := ⟨s, [], []⟩) hn rfl (nextL_ok hv.left) (List.Sublist.refl _) (by omega)
/-- What a write must be. -/
structure FitsW (w : Wr) (f : Fil) : Prop where
  low : 0 ≤ w.off
  high : w.off ≤ lenF f
  cut : w.cut = true → w.data = []
theorem writtenD_vld {d : Dk} (hv : VldD d) {i : Nat} (hi : i < d.files.length) {w : Wr} (hw : FitsW w (atN d.files i)) (h : (writtenD d i w).2 = 0) : VldD (writtenD d i w).1 := by
  have hs := sized_of_vld hv hi
  have hb := lenF_bounds hs
  unfold writtenD at h ⊢
  by_cases h1 : 1048576 < w.off + (w.data.length : Int)
  · simp only [if_pos h1] at h; cases h
  · simp only [if_neg h1] at h ⊢
    split at h
    · cases h
    · rename_i h2
      rw [if_neg h2]
      have h3 := hw.low
      have h4 := hw.high
      refine hv.set hi (f := ⟨(atN d.files i).name, (atN d.files i).base, (atN d.files i).pend ++ [w]⟩) rfl (sizedF_app hs ((okW_iff w).2 ⟨h3, by omega, hw.cut⟩) ?_) (nextL_ok hv.left)
      unfold grownW
      split <;> omega
theorem fitsApp (f : Fil) (b : List UInt8) (hs : sizedF f = true) : FitsW ⟨lenF f, b, false⟩ f := ⟨(lenF_bounds hs).1, Int.le_refl _, fun h => by cases h⟩
theorem appendD_vld {d : Dk} {s b : List UInt8} (h : (appendD d s b).2 = 0) : VldD (appendD d s b).1 := by
  unfold appendD at h ⊢
  by_cases h1 : atE d s ≠ 0
  · rw [if_pos h1] at h; exact absurd h h1
  · rw [if_neg h1] at h ⊢
    obtain ⟨hv, hn, hl, hi, he⟩ := atE_ok (by simpa using h1)
    exact writtenD_vld hv hi (fitsApp _ b (sized_of_vld hv hi)) h
theorem putD_vld {d : Dk} {s b : List UInt8} {off : Int} (h : (putD d s off b).2 = 0) : VldD (putD d s off b).1 := by
  unfold putD at h ⊢
  by_cases h1 : atE d s ≠ 0
  · rw [if_pos h1] at h; exact absurd h h1
  · rw [if_neg h1] at h ⊢
    obtain ⟨hv, hn, hl, hi, he⟩ := atE_ok (by simpa using h1)
    split at h
    · cases h
    · rename_i h2
      rw [if_neg h2]
      exact writtenD_vld hv hi ⟨by dsimp only; omega, by dsimp only; omega, fun h => by cases h⟩ h
theorem truncD_vld {d : Dk} {s : List UInt8} {n : Int} (h : (truncD d s n).2 = 0) : VldD (truncD d s n).1 := by
  unfold truncD at h ⊢
  by_cases h1 : atE d s ≠ 0
  · rw [if_pos h1] at h; exact absurd h h1
  · rw [if_neg h1] at h ⊢
    obtain ⟨hv, hn, hl, hi, he⟩ := atE_ok (by simpa using h1)
    split at h
    · cases h
    · rename_i h2
      rw [if_neg h2]
      exact writtenD_vld hv hi ⟨by dsimp only; omega, by dsimp only; omega, fun _ => rfl⟩ h
theorem syncD_vld {d : Dk} {s : List UInt8} (h : (syncD d s).2 = 0) : VldD (syncD d s).1 := by
  unfold syncD at h ⊢
  by_cases h1 : atE d s ≠ 0
  · rw [if_pos h1] at h; exact absurd h h1
  · rw [if_neg h1]
    obtain ⟨hv, hn, hl, hi, he⟩ := atE_ok (by simpa using h1)
    have := contF_le (atN d.files (lowN d.files s))
    exact hv.set hi (f := ⟨s, contF (atN d.files (lowN d.files s)), []⟩) he.symm ((sizedF_iff _).2 ⟨by dsimp only; omega, rfl⟩) (nextL_ok hv.left)
theorem removeD_vld {d : Dk} {s : List UInt8} (h : (removeD d s).2 = 0) : VldD (removeD d s).1 := by
  unfold removeD at h ⊢
  by_cases h1 : atE d s ≠ 0
  · rw [if_pos h1] at h; exact absurd h h1
  · rw [if_neg h1]
    obtain ⟨hv, hn, hl, hi, he⟩ := atE_ok (by simpa using h1)
    exact hv.drop _ (nextL_ok hv.left)
theorem dropN_sub (l : List Fil) (i : Nat) : (dropN l i).Sublist l := by
  unfold dropN
  have := List.Sublist.append (List.Sublist.refl (l.take i)) (show (l.drop (i + 1)).Sublist (l.drop i) by rw [← List.drop_drop]; exact List.drop_sublist 1 _)
  rwa [List.take_append_drop] at this
theorem dropN_length {l : List Fil} {i : Nat} (h : i < l.length) : (dropN l i).length + 1 = l.length := by
  unfold dropN; rw [List.length_append, List.length_take, List.length_drop]; omega
theorem renameD_vld {d : Dk} {s t : List UInt8} (h : (renameD d s t).2 = 0) : VldD (renameD d s t).1 := by
  unfold renameD at h ⊢
  by_cases h0 : (!nameB t) = true
  · rw [if_pos h0] at h; cases h
  · rw [if_neg h0] at h ⊢
    by_cases h1 : atE d s ≠ 0
    · rw [if_pos h1] at h; exact absurd h h1
    · rw [if_neg h1]
      obtain ⟨hv, hn, hl, hi, he⟩ := atE_ok (by simpa using h1)
      have h2 := dropN_length hi
      have h3 := hv.len
      have h4 := addN_length (dropN d.files (lowN d.files s)) ⟨t, (atN d.files (lowN d.files s)).base, (atN d.files (lowN d.files s)).pend⟩
      exact hv.add (f := ⟨t, (atN d.files (lowN d.files s)).base, (atN d.files (lowN d.files s)).pend⟩) (by simpa using h0) (sized_of_vld hv hi) (nextL_ok hv.left) (dropN_sub _ _) (by omega)
theorem leftF_le {f : Fil} (hs : sizedF f = true) (k : Kp) : (leftF f k).length ≤ 1048576 := by
  have h2 := (sizedF_iff f).1 hs
  have hb := contF_le ⟨f.name, f.base, f.pend.take (cutN k.wri f.pend.length)⟩
  unfold leftF
  dsimp only
  generalize cutN k.wri f.pend.length = n at *
  split
  · exact hb
  · rename_i w hw
    split
    · exact hb
    · rename_i hc
      split
      · exact hb
      · have hlt : n < f.pend.length := (List.getElem?_eq_some_iff.1 hw).1
        have e : f.pend.take (n + 1) = f.pend.take n ++ [w] := by rw [List.take_add_one, hw]; rfl
        have h3 := szW_take f.pend f.base.length (n + 1) h2.2
        rw [e, szW_snoc] at h3
        simp only [Bool.and_eq_true, decide_eq_true_eq] at h3
        obtain ⟨⟨h4, h5⟩, h6⟩ := h3
        have hs' : sizedF ⟨f.name, f.base, f.pend.take n⟩ = true := (sizedF_iff _).2 ⟨h2.1, h4⟩
        have hl := contF_length hs'
        have h7 := (okW_iff w).1 h5
        have ha := appl_length ⟨w.off, w.data.take (cutN k.torn w.data.length), false⟩ (contF ⟨f.name, f.base, f.pend.take n⟩) h7.1
        rw [hl] at ha
        dsimp only at ha
        have hg : grownW ⟨w.off, w.data.take (cutN k.torn w.data.length), false⟩ (lenW (f.pend.take n) f.base.length) ≤ grownW w (lenW (f.pend.take n) f.base.length) := by
          unfold grownW
          rw [if_neg hc, if_neg (by simp)]
          dsimp only
          rw [List.length_take]
          omega
        omega
theorem crashD_vld {d : Dk} (hv : VldD d) (l : List Kp) : VldD (crashD d l) := by
  unfold crashD
  rw [if_pos ((validD_iff d).2 hv)]
  refine ⟨hv.cap, Int.le_refl _, by simpa using hv.len, fun f hf => ?_, ?_⟩
  · obtain ⟨x, hx, rfl⟩ := List.mem_map.1 hf
    have := leftF_le (hv.ok x hx).2 (keepOf l x.name)
    exact ⟨(hv.ok x hx).1, (sizedF_iff _).2 ⟨by dsimp only; omega, rfl⟩⟩
  · rw [List.pairwise_map]; exact hv.asc
theorem xorAt_length (b : List UInt8) (i k : Nat) : (xorAt b i k).length = b.length := by unfold xorAt; rw [List.length_set]
theorem flipD_vld {d : Dk} {s : List UInt8} {bit : Int} (h : (flipD d s bit).2 = 0) : VldD (flipD d s bit).1 := by
  unfold flipD at h ⊢
  by_cases h1 : (!(validD d && nameB s)) = true
  · rw [if_pos h1] at h; cases h
  · rw [if_neg h1] at h ⊢
    simp only [Bool.not_eq_true', Bool.and_eq_false_iff, not_or, Bool.not_eq_false] at h1
    have hv := (validD_iff d).1 h1.1
    by_cases h2 : (!hasN d.files s) = true
    · rw [if_pos h2] at h; cases h
    · rw [if_neg h2] at h ⊢
      have h2 : hasN d.files s = true := by simpa using h2
      obtain ⟨hi, he⟩ := (hasN_iff hv.asc s).1 h2
      dsimp only at h ⊢
      split at h
      · cases h
      · rename_i h3
        rw [if_neg h3]
        split at h
        · cases h
        · rename_i h4
          rw [if_neg h4]
          have hs := sized_of_vld hv hi
          refine hv.set hi (f := ⟨(atN d.files (lowN d.files s)).name, xorAt (atN d.files (lowN d.files s)).base (bit / 8).toNat (bit % 8).toNat, (atN d.files (lowN d.files s)).pend⟩) rfl ?_ hv.left
          have h5 := (sizedF_iff _).1 hs
          refine (sizedF_iff _).2 ⟨?_, ?_⟩
          · dsimp only; rw [xorAt_length]; exact h5.1
          · dsimp only; rw [xorAt_length]; exact h5.2
theorem changeD_vld {d : Dk} (hv : VldD d) (o : Opr) (h : (changeD d o).2 = 0) : VldD (changeD d o).1 := by
  unfold changeD at h ⊢
  dsimp only at h ⊢
  split at h
  · rename_i e; rw [if_pos e]; exact createD_vld h
  · rename_i e0; rw [if_neg e0]
    split at h
    · rename_i e; rw [if_pos e]; exact appendD_vld h
    · rename_i e1; rw [if_neg e1]
      split at h
      · rename_i e; rw [if_pos e]; exact putD_vld h
      · rename_i e2; rw [if_neg e2]
        split at h
        · rename_i e; rw [if_pos e]; exact truncD_vld h
        · rename_i e3; rw [if_neg e3]
          split at h
          · rename_i e; rw [if_pos e]; exact syncD_vld h
          · rename_i e4; rw [if_neg e4]
            split at h
            · rename_i e; rw [if_pos e]; exact renameD_vld h
            · rename_i e5; rw [if_neg e5]
              split at h
              · rename_i e; rw [if_pos e]; exact removeD_vld h
              · rename_i e6; rw [if_neg e6]
                split at h
                · rename_i e; rw [if_pos e]; exact crashD_vld hv o.keep
                · rename_i e7; rw [if_neg e7]; exact flipD_vld h
theorem armD_new (limit left : Int) : VldD (armD (newD limit) left) := ⟨by unfold armD newD; dsimp only; omega, by unfold armD; dsimp only; omega, Nat.zero_le _, fun f hf => (by cases hf), List.Pairwise.nil⟩
theorem madeL_vld : ∀ (l : List Opr) (d : Dk), VldD d → VldD (madeL l d)
  | [], _, h => h
  | o :: l, d, h => by
    show VldD (madeL l (if (changeD d (cutO o)).2 = 0 then (changeD d (cutO o)).1 else d))
    refine madeL_vld l _ ?_
    split
    · rename_i e; exact changeD_vld h _ e
    · exact h
theorem madeD_vld (limit left : Int) (l : List Opr) : VldD (madeD limit left l) := madeL_vld _ _ (armD_new limit left)
end Go.Proofs.YtkabcpmnbjllcaaDoor

namespace Go.Proofs.YtkabcpmnbjllcaaDoor

def I64 (n : Int) : Prop := -9223372036854775808 ≤ n ∧ n ≤ 9223372036854775807
structure LiteW (w : Wr) : Prop where
  off : I64 w.off
  data : w.data.length ≤ 2000000
structure LiteF (f : Fil) : Prop where
  name : f.name.length ≤ 1000
  base : f.base.length ≤ 2000000
  pend : f.pend.length ≤ 5000
  wr : ∀ w ∈ f.pend, LiteW w
structure LiteD (d : Dk) : Prop where
  cap : I64 d.cap
  left : I64 d.left
  len : d.files.length ≤ 1000
  fil : ∀ f ∈ d.files, LiteF f
/-- Numbers that fit; no more than k writes a file. -/
structure SmallD (d : Dk) (k : Nat) : Prop where
  cap : I64 d.cap
  left : I64 d.left
  pend : ∀ f ∈ d.files, f.pend.length ≤ k
theorem szW_lite : ∀ (ws : List Wr) (n : Int), 0 ≤ n → szW ws n = true → ∀ w ∈ ws, LiteW w
  | [], _, _, _ => fun w h => by cases h
  | x :: r, n, h0, h => by
    simp only [szW, Bool.and_eq_true, decide_eq_true_eq] at h
    obtain ⟨⟨h1, h2⟩, h3⟩ := h
    have h1 := (okW_iff x).1 h1
    have hg : 0 ≤ grownW x n := by unfold grownW; split <;> omega
    intro w hw
    rcases List.mem_cons.1 hw with e | e
    · subst e
      refine ⟨⟨by omega, by omega⟩, ?_⟩
      cases hc : w.cut
      · unfold grownW at h2
        rw [hc] at h2
        simp only [Bool.false_eq_true, if_false] at h2
        omega
      · rw [h1.2.2 hc]; exact Nat.zero_le _
    · exact szW_lite r _ hg h3 w e
theorem nameB_len {s : List UInt8} (h : nameB s = true) : 1 ≤ s.length ∧ s.length ≤ 40 := by
  unfold nameB at h
  simp only [Bool.and_eq_true, decide_eq_true_eq] at h
  exact ⟨h.1.2, h.2⟩
theorem VldD.lite {d : Dk} (h : VldD d) {k : Nat} (hs : SmallD d k) (hk : k ≤ 5000) : LiteD d := by
  refine ⟨hs.cap, hs.left, by have := h.len; omega, fun f hf => ?_⟩
  obtain ⟨h1, h2⟩ := h.ok f hf
  have h3 := (sizedF_iff f).1 h2
  have h4 := nameB_len h1
  exact ⟨by omega, by omega, by have := hs.pend f hf; omega, szW_lite _ _ (by omega) h3.2⟩
theorem nextL_i64 {l : Int} (h : I64 l) : I64 (nextL l) := by unfold nextL I64 at *; split <;> omega
theorem small_dk0 (k : Nat) : SmallD dk0 k := ⟨by unfold I64 dk0; simp, by unfold I64 dk0; simp, fun f h => by cases h⟩
theorem SmallD.more {d : Dk} {k m : Nat} (h : SmallD d k) (hk : k ≤ m) : SmallD d m := ⟨h.cap, h.left, fun f hf => Nat.le_trans (h.pend f hf) hk⟩
theorem SmallD.of {d : Dk} {k : Nat} (h : SmallD d k) {l : Int} (hl : I64 l) {fs : List Fil} {m : Nat} (hf : ∀ f ∈ fs, f.pend.length ≤ m) : SmallD ⟨d.cap, l, fs⟩ m := ⟨h.cap, hl, hf⟩
theorem atN_pend {d : Dk} {k : Nat} (h : SmallD d k) (i : Nat) : (atN d.files i).pend.length ≤ k := by
  by_cases hi : i < d.files.length
  · exact h.pend _ (atN_mem hi)
  · unfold atN; rw [List.getD_eq_getElem?_getD, List.getElem?_eq_none (by omega)]; exact Nat.zero_le _
theorem written_small {d : Dk} {k : Nat} (h : SmallD d k) (i : Nat) (w : Wr) : SmallD (writtenD d i w).1 (k + 1) := by
  unfold writtenD
  dsimp only
  split
  · exact small_dk0 _
  · split
    · exact small_dk0 _
    · refine h.of (nextL_i64 h.left) fun f hf => ?_
      rcases List.mem_or_eq_of_mem_set hf with e | e
      · have := h.pend f e; omega
      · rw [e]; dsimp only; rw [List.length_append]; have := atN_pend h i; simp; omega
theorem changeD_small {d : Dk} {k : Nat} (h : SmallD d k) (o : Opr) : SmallD (changeD d o).1 (k + 1) := by
  have h' := h.more (Nat.le_succ k)
  have hn := nextL_i64 h.left
  unfold changeD
  dsimp only
  split
  · unfold createD
    split
    · exact small_dk0 _
    · split
      · exact small_dk0 _
      · split
        · exact small_dk0 _
        · refine h.of hn fun f hf => ?_
          rcases addN_mem hf with e | e
          · rw [e]; exact Nat.zero_le _
          · exact h'.pend f e
  · split
    · unfold appendD
      split
      · exact small_dk0 _
      · exact written_small h _ _
    · split
      · unfold putD
        split
        · exact small_dk0 _
        · split
          · exact small_dk0 _
          · exact written_small h _ _
      · split
        · unfold truncD
          split
          · exact small_dk0 _
          · split
            · exact small_dk0 _
            · exact written_small h _ _
        · split
          · unfold syncD
            split
            · exact small_dk0 _
            · refine h.of hn fun f hf => ?_
              rcases List.mem_or_eq_of_mem_set hf with e | e
              · exact h'.pend f e
              · rw [e]; exact Nat.zero_le _
          · split
            · unfold renameD
              split
              · exact small_dk0 _
              · split
                · exact small_dk0 _
                · refine h.of hn fun f hf => ?_
                  rcases addN_mem hf with e | e
                  · rw [e]; have := atN_pend h' (lowN d.files o.name); exact this
                  · exact h'.pend f ((dropN_sub _ _).subset e)
            · split
              · unfold removeD
                split
                · exact small_dk0 _
                · exact h.of hn fun f hf => h'.pend f ((dropN_sub _ _).subset hf)
              · split
                · unfold crashD
                  split
                  · refine h.of (by unfold I64; omega) fun f hf => ?_
                    obtain ⟨x, _, rfl⟩ := List.mem_map.1 hf
                    exact Nat.zero_le _
                  · exact small_dk0 _
                · unfold flipD
                  split
                  · exact small_dk0 _
                  · split
                    · exact small_dk0 _
                    · dsimp only
                      split
                      · exact small_dk0 _
                      · split
                        · exact small_dk0 _
                        · refine h.of h.left fun f hf => ?_
                          rcases List.mem_or_eq_of_mem_set hf with e | e
                          · exact h'.pend f e
                          · rw [e]; exact atN_pend h' _
theorem madeL_small : ∀ (l : List Opr) (d : Dk) (k : Nat), SmallD d k → SmallD (madeL l d) (k + l.length)
  | [], _, _, h => h
  | o :: l, d, k, h => by
    show SmallD (madeL l (if (changeD d (cutO o)).2 = 0 then (changeD d (cutO o)).1 else d)) _
    have := madeL_small l (if (changeD d (cutO o)).2 = 0 then (changeD d (cutO o)).1 else d) (k + 1) (by
      split
      · exact changeD_small h _
      · exact h.more (Nat.le_succ k))
    rw [List.length_cons, show k + (l.length + 1) = k + 1 + l.length by omega]
    exact this
theorem madeD_small {limit left : Int} (h1 : I64 limit) (h2 : I64 left) (l : List Opr) : SmallD (madeD limit left l) 14 := by
  have h := madeL_small (l.take 14) (armD (newD limit) left) 0 ⟨by unfold I64 armD newD at *; dsimp only; omega, by unfold I64 armD at *; dsimp only; omega, fun f hf => by cases hf⟩
  exact h.more (by rw [List.length_take]; omega)
theorem madeD_lite {limit left : Int} (h1 : I64 limit) (h2 : I64 left) (l : List Opr) : LiteD (madeD limit left l) := (madeD_vld limit left l).lite (madeD_small h1 h2 l) (by decide)
end Go.Proofs.YtkabcpmnbjllcaaDoor
