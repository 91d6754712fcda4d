/- The operations of a disk, in plain Lean. No program here. -/
import Derived.Test.YtkabcpmnbjllcaaDoorZa
namespace Go.Proofs.YtkabcpmnbjllcaaDoor

/-- The first error of an operation on a name. -/
def readyE (d : Dk) (s : List UInt8) : Int := if !(validD d && nameB s) then 1 else if d.left = 0 then 13 else 0
/-- The error of an operation on a file that must be there. -/
def atE (d : Dk) (s : List UInt8) : Int := if readyE d s ≠ 0 then readyE d s else if hasN d.files s then 0 else 6
def nextL (l : Int) : Int := if 0 < l then l - 1 else l
/-- A file at its place. -/
def addN (l : List Fil) (f : Fil) : List Fil := l.take (lowN l f.name) ++ f :: (l.drop (lowN l f.name)).filter (fun x => x.name != f.name)
def createD (d : Dk) (s : List UInt8) : Dk × Int :=
  if readyE d s ≠ 0 then (dk0, readyE d s) else if hasN d.files s then (dk0, 7) else if d.files.length = 256 then (dk0, 9) else (⟨d.cap, nextL d.left, addN d.files ⟨s, [], []⟩⟩, 0)
def lenF (f : Fil) : Int := lenW f.pend f.base.length
def totL (l : List Fil) (n : Int) : Int := l.foldl (fun n f => n + lenF f) n
def totD (d : Dk) : Int := totL d.files 0
/-- A write to file i of a valid disk. -/
def writtenD (d : Dk) (i : Nat) (w : Wr) : Dk × Int :=
  let f := atN d.files i
  let was := lenF f
  let now := grownW w was
  if 1048576 < w.off + (w.data.length : Int) then (dk0, 9) else if 0 < d.cap ∧ was < now ∧ d.cap < totD d + (now - was) then (dk0, 9)
  else (⟨d.cap, nextL d.left, d.files.set i ⟨f.name, f.base, f.pend ++ [w]⟩⟩, 0)
def appendD (d : Dk) (s : List UInt8) (b : List UInt8) : Dk × Int :=
  if atE d s ≠ 0 then (dk0, atE d s) else writtenD d (lowN d.files s) ⟨lenF (atN d.files (lowN d.files s)), b, false⟩
def putD (d : Dk) (s : List UInt8) (off : Int) (b : List UInt8) : Dk × Int :=
  if atE d s ≠ 0 then (dk0, atE d s) else if off < 0 ∨ lenF (atN d.files (lowN d.files s)) < off then (dk0, 2) else writtenD d (lowN d.files s) ⟨off, b, false⟩
def truncD (d : Dk) (s : List UInt8) (n : Int) : Dk × Int :=
  if atE d s ≠ 0 then (dk0, atE d s) else if n < 0 ∨ lenF (atN d.files (lowN d.files s)) < n then (dk0, 2) else writtenD d (lowN d.files s) ⟨n, [], true⟩
def syncD (d : Dk) (s : List UInt8) : Dk × Int :=
  if atE d s ≠ 0 then (dk0, atE d s) else (⟨d.cap, nextL d.left, d.files.set (lowN d.files s) ⟨s, contF (atN d.files (lowN d.files s)), []⟩⟩, 0)
def dropN (l : List Fil) (i : Nat) : List Fil := l.take i ++ l.drop (i + 1)
def removeD (d : Dk) (s : List UInt8) : Dk × Int :=
  if atE d s ≠ 0 then (dk0, atE d s) else (⟨d.cap, nextL d.left, dropN d.files (lowN d.files s)⟩, 0)
def renameD (d : Dk) (s t : List UInt8) : Dk × Int :=
  if !nameB t then (dk0, 1) else if atE d s ≠ 0 then (dk0, atE d s) else
    (⟨d.cap, nextL d.left, addN (dropN d.files (lowN d.files s)) ⟨t, (atN d.files (lowN d.files s)).base, (atN d.files (lowN d.files s)).pend⟩⟩, 0)
/-- What a crash keeps of a file. -/
structure Kp where
  name : List UInt8
  wri : Int
  torn : Int
  deriving DecidableEq
def kp0 : Kp := ⟨[], 0, 0⟩
instance : Inhabited Kp := ⟨kp0⟩
def keepOf (l : List Kp) (s : List UInt8) : Kp := (l.find? (fun k => k.name == s)).getD kp0
def cutN (n : Int) (m : Nat) : Nat := (max 0 (min n (m : Int))).toNat
def leftF (f : Fil) (k : Kp) : List UInt8 :=
  let n := cutN k.wri f.pend.length
  let b := contF ⟨f.name, f.base, f.pend.take n⟩
  match f.pend[n]? with
  | none => b
  | some w => if w.cut then b else
    let d := w.data.take (cutN k.torn w.data.length)
    if d = [] then b else appl ⟨w.off, d, false⟩ b
def crashD (d : Dk) (l : List Kp) : Dk :=
  if validD d then ⟨d.cap, -1, d.files.map fun f => ⟨f.name, leftF f (keepOf l f.name), []⟩⟩ else dk0
def xorAt (b : List UInt8) (i : Nat) (k : Nat) : List UInt8 := b.set i (b.getD i 0 ^^^ UInt8.ofNat (2 ^ k))
def flipD (d : Dk) (s : List UInt8) (bit : Int) : Dk × Int :=
  if !(validD d && nameB s) then (dk0, 1) else if !hasN d.files s then (dk0, 6) else
  let f := atN d.files (lowN d.files s)
  if f.pend ≠ [] then (dk0, 12) else if bit < 0 ∨ (f.base.length : Int) ≤ bit / 8 then (dk0, 2)
  else (⟨d.cap, d.left, d.files.set (lowN d.files s) ⟨f.name, xorAt f.base (bit / 8).toNat (bit % 8).toNat, f.pend⟩⟩, 0)
def newD (limit : Int) : Dk := ⟨max limit 0, -1, []⟩
def armD (d : Dk) (n : Int) : Dk := ⟨d.cap, max n (-1), d.files⟩
def sizeD (d : Dk) (s : List UInt8) : Int × Int := if atE d s ≠ 0 then (0, atE d s) else (lenF (atN d.files (lowN d.files s)), 0)
def readD (d : Dk) (s : List UInt8) (off n : Int) : List UInt8 × Int :=
  if atE d s ≠ 0 then ([], atE d s) else
  let b := contF (atN d.files (lowN d.files s))
  if off < 0 ∨ n < 0 ∨ (b.length : Int) < off ∨ (b.length : Int) - off < n then ([], 2) else ((b.drop off.toNat).take n.toNat, 0)
def namesD (d : Dk) : List (List UInt8) := if validD d then d.files.map (·.name) else []
/-- An operation of the law's. -/
structure Opr where
  kind : Int
  name : List UInt8
  to : List UInt8
  off : Int
  data : List UInt8
  keep : List Kp
def changeD (d : Dk) (o : Opr) : Dk × Int :=
  let k := o.kind % 10
  if k = 0 then createD d o.name else if k = 1 ∨ k = 2 then appendD d o.name o.data else if k = 3 then putD d o.name o.off o.data
  else if k = 4 then truncD d o.name o.off else if k = 5 then syncD d o.name else if k = 6 then renameD d o.name o.to
  else if k = 7 then removeD d o.name else if k = 8 then (crashD d o.keep, 0) else flipD d o.name o.off
def cutO (o : Opr) : Opr := ⟨o.kind, o.name, o.to, o.off, o.data.take 200, o.keep.take 10⟩
def madeL (l : List Opr) (d : Dk) : Dk := l.foldl (fun d o => if (changeD d (cutO o)).2 = 0 then (changeD d (cutO o)).1 else d) d
def madeD (limit left : Int) (l : List Opr) : Dk := madeL (l.take 14) (armD (newD limit) left)
end Go.Proofs.YtkabcpmnbjllcaaDoor
