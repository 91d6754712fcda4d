/- A part of the walk. -/
import Derived.Test.YtcgfilmmokmdjaaGreatRows
import Derived.Test.YtcgfilmmokmdjaaGreatBase
import Derived.BigQuiet
import Derived.Deep.QuietTactic
import Derived.Deep.RegionHeld3
import Derived.Laws.BitsAllLaws
import Derived.Laws.OwnMore
import Derived.Deep.RegionWith
import Derived.Deep.RegionLaw
import Derived.Lib.OwnKind
import Derived.OneCell
import Derived.Laws.EntriesVeiled
import Derived.Laws.Bits128
set_option linter.all false
set_option maxRecDepth 100000
set_option maxHeartbeats 32000000
namespace Go.Proofs.YtcgfilmmokmdjaaGreat
structure It where
 key : Int
 ck : Int
 off : Int
 size : Int
 deriving DecidableEq
def nt (x : It) : Prop := 16 ≤ x.off ∧ x.off ≤ 1048576 ∧ x.off % 8 = 0 ∧ 0 ≤ x.size ∧ x.size ≤ 4096
instance (x : It) : Decidable (nt x) := by unfold nt; exact inferInstance
def okB (x : It) : Bool := decide (nt x)
def fJ : It := ⟨0, 0, 0, 0⟩
instance : Inhabited It := ⟨fJ⟩
def dX (l : List It) (j : Nat) : It := l.getD j fJ
theorem t7 {l : List It} {j : Nat} (h : j < l.length) : dX l j ∈ l := by
 unfold dX;rw [ax, aB h]; exact bI h
theorem vw {l : List It} {x : It} (h : x ∈ l) : ∃ j, j < l.length ∧ dX l j = x := by
 obtain ⟨j, hj, e⟩ := List.mem_iff_getElem.1 h;exact ⟨j, hj, by unfold dX; rw [ax, aB hj, bw, e]⟩
theorem xB {l : List It} {j : Nat} (h : j < l.length) : l.take (j + 1) = l.take j ++ [dX l j] := by
 rw [List.take_succ_eq_append_getElem h]
 congr
 unfold dX;rw [ax, aB h]; rfl
theorem xg (l : List It) (k i : Nat) : dX (l.drop k) i = dX l (k + i) := by
 unfold dX;rw [ax, cM, ← ax]
theorem wX {l : List It} {k i : Nat} (h : i < k) : dX (l.take k) i = dX l i := by
 unfold dX;rw [ax, cL, ag h, ← ax]
theorem uB : ∀ (a : List It) (i : Nat) (x : It), i < a.length → (a.set i x).take (i + 1) = a.take i ++ [x]
 | [], i, x, h => by simp at h
 | y :: r, 0, x, _ => rfl
 | y :: r, i + 1, x, h => by
  have := uB r i x (by simpa using h);simp only [aN, List.take_succ_cons, List.cons_append];rw [this]
def mj (l : List It) (k : Nat) : Prop := ∀ j, j + 1 < k → (dX l j).key < (dX l (j + 1)).key
def jZ (l : List It) : Prop := mj l l.length
def BL : List It → Bool
 | [] => true
 | [_] => true
 | x :: y :: r => decide (x.key < y.key) && BL (y :: r)
theorem uh : ∀ l : List It, BL l = true ↔ jZ l
 | [] => ⟨fun _ _ h => by simp at h, fun _ => rfl⟩
 | [_] => ⟨fun _ _ h => by simp at h, fun _ => rfl⟩
 | x :: y :: r => by
  unfold BL;rw [aM, aT, uh (y :: r)]
  constructor
  ·
   rintro ⟨h1, h2⟩ j hj
   cases j with
   | zero => exact h1
   | succ j => exact h2 j (by simpa using hj)
  intro h;exact ⟨h 0 (by simp), fun j hj => h (j + 1) (by simpa using hj)⟩
theorem Up {l : List It} {j : Nat} (h : j + 1 < l.length) (h' : (dX l (j + 1)).key ≤ (dX l j).key) : BL l = false := by
 cases e : BL l with
 | false => rfl
 | true => exact absurd ((uh l).1 e j h) (by omega)
theorem mj.succ {l : List It} {k : Nat} (h : mj l k) (h' : ∀ j, k = j + 1 → (dX l j).key < (dX l (j + 1)).key) : mj l (k + 1) := fun j hj => by
 by_cases e : k = j + 1
 ·
  exact h' j e
 exact h j (by omega)
theorem jZ.lt {l : List It} (h : jZ l) : ∀ d i, i + d + 1 < l.length → (dX l i).key < (dX l (i + d + 1)).key
 | 0, i, hi => h i hi
 | d + 1, i, hi => by
  have h1 := h.lt d i (by omega);have h2 := h (i + d + 1) (by omega);have e : i + (d + 1) + 1 = i + d + 1 + 1 := by omega
  rw [e]; omega
theorem jZ.mono {l : List It} (h : jZ l) {i j : Nat} (hij : i < j) (hj : j < l.length) : (dX l i).key < (dX l j).key := by
 have := h.lt (j - i - 1) i (by omega)
 rwa [show i + (j - i - 1) + 1 = j by omega] at this
def xp (l : List It) : Bool := BL l && l.all okB
theorem kH {l : List It} {p : It → Bool} (h : ∀ j, j < l.length → p (dX l j) = true) : l.all p = true := by
 rw [dE];intro x hx;obtain ⟨j, hj, rfl⟩ := vw hx;exact h j hj
theorem tu {l : List It} {p : It → Bool} {j : Nat} (h : j < l.length) (h' : p (dX l j) = false) : l.all p = false := by
 cases e : l.all p with
 | false => rfl
 | true => rw [dE] at e; rw [e _ (t7 h)] at h'; cases h'
theorem zHn {l : List It} (h1 : jZ l) (h2 : ∀ j, j < l.length → okB (dX l j) = true) : xp l = true := by
 unfold xp; rw [(uh l).2 h1, kH h2]; rfl
theorem zKg {l : List It} {j : Nat} (h : j < l.length) (h' : okB (dX l j) = false) : xp l = false := by
 unfold xp; rw [tu h h', Bool.and_false]
theorem Uq {l : List It} (h : BL l = false) : xp l = false := by unfold xp; rw [h]; rfl
theorem uP {l : List It} : xp l = true ↔ jZ l ∧ ∀ x ∈ l, nt x := by
 unfold xp;rw [aM, uh, dE];exact ⟨fun ⟨a, b⟩ => ⟨a, fun x hx => aY (b x hx)⟩, fun ⟨a, b⟩ => ⟨a, fun x hx => aF (b x hx)⟩⟩
end Go.Proofs.YtcgfilmmokmdjaaGreat
namespace Go.Proofs.YtcgfilmmokmdjaaGreat
open Go.RowKit
def gZ (x : It) : List Value := [.int .u64 x.key, .int .u32 x.ck, .int .i64 x.off, .int .i64 x.size]
abbrev jB (x : It) : Value := .agg #[.int .u64 x.key, .int .u32 x.ck, .int .i64 x.off, .int .i64 x.size]
abbrev iQ (w : World) (v : Value) (l : List It) : Prop := iy 4 gZ w v l
theorem wY (x : It) : (gZ x).length = 4 := rfl
theorem zHQ (k c o s : Int) (w : World) :
  Calls Tryz.prog 141 #[.agg #[.int .u64 k, .int .u32 c, .int .i64 o, .int .i64 s]] w fun e w' => e = .returned (.bool (okB ⟨k, c, o, s⟩)) ∧ Below w.heap.size w w' := by
 have HT := zh (show nt ⟨k, c, o, s⟩ → okB ⟨k, c, o, s⟩ = true from fun h => aF h);have HF := zh (show ¬ nt ⟨k, c, o, s⟩ → okB ⟨k, c, o, s⟩ = false from fun h => aD h)
 go_enter Tryz.func141, Tryz.ntmps141
 go_wp2_with fail
 ·
  go_ret;refine ⟨zE ?_, (aj _ _).alloc (ai _) _⟩
  by_cases hs : s ≤ 4096
  ·
   rw [HT.out ⟨by assumption, by assumption, by assumption, by assumption, hs⟩]; exact aF hs
  rw [HF.out (fun h => hs h.2.2.2.2)]; exact aD hs
 all_goals
  go_ret;exact ⟨zE (HF.out (fun h => by have h1 := h.1; have h2 := h.2.1; have h3 := h.2.2.1; have h4 := h.2.2.2.1; simp only [] at h1 h2 h3 h4; first | contradiction | omega)).symm, (aj _ _).alloc (ai _) _⟩
theorem Ur (k c o s : Int) (w : World) :
  Calls Tryz.prog 127 #[.agg #[.int .u64 k, .int .u32 c, .int .i64 o, .int .i64 s]] w fun e w' => e = .returned (.bool (okB ⟨k, c, o, s⟩)) ∧ Below w.heap.size w w' := by
 have HT := zh (show nt ⟨k, c, o, s⟩ → okB ⟨k, c, o, s⟩ = true from fun h => aF h);have HF := zh (show ¬ nt ⟨k, c, o, s⟩ → okB ⟨k, c, o, s⟩ = false from fun h => aD h)
 go_enter Tryz.func127, Tryz.ntmps127
 go_wp2_with fail
 ·
  go_ret;refine ⟨zE ?_, (aj _ _).alloc (ai _) _⟩
  by_cases hs : s ≤ 4096
  ·
   rw [HT.out ⟨by assumption, by assumption, by assumption, by assumption, hs⟩]; exact aF hs
  rw [HF.out (fun h => hs h.2.2.2.2)]; exact aD hs
 all_goals
  go_ret;exact ⟨zE (HF.out (fun h => by have h1 := h.1; have h2 := h.2.1; have h3 := h.2.2.1; have h4 := h.2.2.2.1; simp only [] at h1 h2 h3 h4; first | contradiction | omega)).symm, (aj _ _).alloc (ai _) _⟩
theorem zC1 (k c o s : Int) (w : World) :
  Calls Tryz.prog 140 #[.agg #[.int .u64 k, .int .u32 c, .int .i64 o, .int .i64 s]] w fun e w' => e = .returned (.bool (!okB ⟨k, c, o, s⟩)) ∧ Below w.heap.size w w' := by
 have H := zh fun w => zHQ k c o s w
 generalize okB ⟨k, c, o, s⟩ = r at *
 go_enter Tryz.func140, Tryz.ntmps140
 go_wp2_with fail;refine (H.out _).mono ?_; rintro e w1 ⟨rfl, hb⟩;go_wp2_with fail;go_ret;exact ⟨rfl, zA ((aj _ _).alloc (ai _) _) hb⟩
theorem iQ.below {w w' : World} {v : Value} {l : List It} (h : iQ w v l) (hb : Below w.heap.size w w') : iQ w' v l := iy.below h hb
theorem iQ.shape {w : World} {v : Value} {l : List It} (h : iQ w v l) : ∃ a cap, v = .slice a l.length cap ∧ l.length ≤ cap ∧ cap ≤ maxLen := by
 obtain ⟨a, cap, h1, h2, h3, _⟩ := iy.shape h (by decide) fJ;exact ⟨a, cap, h1, h2, h3⟩
theorem iQ.at {w : World} {a : Option Addr} {n cap : Nat} {l : List It} (h : iQ w (.slice a n cap) l) {j : Nat} (hj : j < n) : ∃ b off, a = some ⟨b, off, none⟩ ∧
  w.cell? ⟨b, off + j * 4, none⟩ = some (.int .u64 (dX l j).key) ∧ w.cell? ⟨b, off + j * 4 + 1, none⟩ = some (.int .u32 (dX l j).ck) ∧
  w.cell? ⟨b, off + j * 4 + 2, none⟩ = some (.int .i64 (dX l j).off) ∧ w.cell? ⟨b, off + j * 4 + 3, none⟩ = some (.int .i64 (dX l j).size) := by
 obtain ⟨a', cap', e, h2, h3, _, h5⟩ := iy.shape h (by decide) fJ;injection e with e1 e2 e3;subst e1 e2 e3;obtain ⟨b, off, e, hc⟩ := h5 (by omega);refine ⟨b, off, e, ?_, ?_, ?_, ?_⟩
 ·
  have := hc j hj 0 _ rfl; rwa [bn] at this
 ·
  exact hc j hj 1 _ rfl
 ·
  exact hc j hj 2 _ rfl
 exact hc j hj 3 _ rfl
theorem Gh : (Tryz.prog.info? 49).map (fun i => (i.zero, i.size, i.bytes)) = some (some (.agg #[.int .u64 0, .int .u32 0, .int .i64 0, .int .i64 0]), 4, 32) := by kernel_rfl
theorem yE : xj Tryz.prog 33 49 4 32 := by
 obtain ⟨i, h1, h2, h3, h4⟩ := cn Gh;exact ⟨Tryz.underlying33, by decide, i, _, h1, h2, h3, h4, rfl⟩
def zU (l : List It) : List Value := l.flatMap gZ
theorem xl (l : List It) (k : Nat) : zU (l.take k) = (zU l).take (k * 4) := O2 4 gZ l wY k
theorem uR (l : List It) (k : Nat) : zU (l.drop k) = (zU l).drop (k * 4) := O3 4 gZ l wY k
theorem zu (l m : List It) : zU (l ++ m) = zU l ++ zU m := by simp [zU]
theorem xM (x : It) : zU [x] = gZ x := by simp [zU]
theorem uO (x : It) (l : List It) : zU (x :: l) = gZ x ++ zU l := rfl
theorem yF (l : List It) : (zU l).length = l.length * 4 := yS 4 gZ l (fun x _ => wY x)
theorem zn (l : List It) : ∀ u ∈ zU l, u.oneCell' = true := by
 intro u hu;obtain ⟨x, _, hx⟩ := List.mem_flatMap.1 hu;simp [gZ] at hx;rcases hx with rfl | rfl | rfl | rfl <;> rfl
theorem tK {w : World} {v : Value} {l : List It} (h : iQ w v l) : Rd w 4 v l.length (zU l) := h.2
theorem yj {w : World} {v : Value} {l : List It} {n : Nat} (h : Rd w 4 v n (zU l)) : iQ w v l := by
 have e : l.length = n := by
  have := h.1;rw [yF] at this;omega
 refine ⟨fun x _ => wY x, ?_⟩;rw [e]; exact h
abbrev fg (w : World) (base : Nat) (v : Value) (l : List It) : Prop := w.ownsRow base 49 4 v l.length (zU l)
theorem yI {w : World} {base n : Nat} {v : Value} {l : List It} {xs : List Value} (h : w.ownsRow base 49 4 v n xs) (e : xs = zU l) : fg w base v l := by
 subst e;have : l.length = n := by have := h.1; rw [yF] at this; omega
 unfold fg; rw [this]; exact h
theorem fg.rd {w : World} {base : Nat} {v : Value} {l : List It} (h : fg w base v l) : iQ w v l := yj (zr h)
theorem BM {n cap : Nat} (h : n ≤ cap) (h' : cap ≤ maxLen) : n ≤ 9223372036854775807 := by unfold maxLen at h'; omega
theorem O6 (v : Value) (l : List It) (w : World) (h : iQ w v l) :
  Calls Tryz.prog 138 #[v] w fun e w' => e = .returned (.bool (BL l)) ∧ Below w.heap.size w w' := by
 obtain ⟨a, cap, rfl, h1, h2⟩ := h.shape;have HT := zh (show mj l l.length → BL l = true from fun h => (uh l).2 h);have HF := zh (show ∀ j, j + 1 < l.length → _ from fun j => Up (l := l) (j := j));have hm := BM h1 h2;generalize hn : l.length = n at *;have Hr := zh h;clear h h1 h2 hn
 go_enter Tryz.func138, Tryz.ntmps138
 go_wp2_with fail
 go_loopw [7] (fun i wr => ∃ k : Nat, k ≤ n ∧ i = .int .i64 (k : Int) ∧ mj l k ∧ Below w.heap.size w wr) (fun i _ => n - (intOf i).toNat)
 case atStart => exact ⟨0, au _, rfl, fun j hj => absurd hj (by omega), aj _ _⟩
 obtain ⟨k, hk, rfl, nT, hb⟩ := hrel;have CV := zh nT;have Hb := zh hb;have hB := hb.size;clear nT hb
 by_cases hlt : k < n
 ·
  have hr := Hr.out.below Hb.out;obtain ⟨b, off, rfl, c0, c1, c2, c3⟩ := hr.at hlt
  by_cases h0 : k = 0
  ·
   subst h0;rw [Nat.zero_mul, bn] at c0 c1 c2 c3;clear hr;go_wp2_with fail
   go_quiet (fail)
   go_wp2_with fail;exact ⟨⟨1, by omega, by go_num, fun j hj => absurd hj (by omega), below_drewN (Hb.out.alloc hB _) _⟩, by simp [intOf]; omega⟩
  obtain ⟨j, rfl⟩ : ∃ j, k = j + 1 := ⟨k - 1, by omega⟩
  have hd : decide ((0 : Int) < ((j + 1 : Nat) : Int)) = true := by simp
  obtain ⟨_, _, e, d0, _⟩ := hr.at (show j < n by omega);injection e with e; injection e with e1 e2; subst e1 e2;generalize e1 : (dX l (j + 1)).key = x at *;generalize e2 : (dX l j).key = y at *;generalize (dX l (j + 1)).ck = x1 at *;generalize (dX l (j + 1)).off = x2 at *;generalize (dX l (j + 1)).size = x3 at *;have E := zh (And.intro e1 e2);clear e1 e2 h0 hr;have hne : ∀ o n, ((wr.alloc o).drewN n).cell? ⟨b, off + j * 4, none⟩ = some (.int .u64 y) := fun o n => Below.keeps (below_drewN ((aj _ _).alloc (ai _) o) n) _ _ d0
  have i1 : (j : Int) + 1 < (n : Int) := by omega
  have i2 : (j : Int) < (n : Int) := by omega
  have j1 : IntKind.i64.wrap (j : Int) = (j : Int) := aH _ (by omega);go_wp2_with fail
  go_quiet (fail)
  clear j1 i1 i2;go_wp2_with fail
  ·
   have hle : x ≤ y := by assumption
   go_ret;exact ⟨zE (HF.out j hlt (by rw [E.out.1, E.out.2]; exact hle)).symm, below_drewN (Hb.out.alloc hB _) _⟩
  have hxy : y < x := by assumption
  refine ⟨⟨j + 1 + 1, by omega, by go_num, CV.out.succ (fun i e => ?_), below_drewN (Hb.out.alloc hB _) _⟩, by simp [intOf]; omega⟩;obtain rfl : j = i := by omega
  rw [E.out.1, E.out.2]; exact hxy
 obtain rfl : k = n := by omega
 go_wp2_with fail;go_ret;exact ⟨zE (HT.out CV.out).symm, Hb.out⟩
end Go.Proofs.YtcgfilmmokmdjaaGreat
namespace Go.Proofs.YtcgfilmmokmdjaaGreat.Us
def poly : Nat := 2197175160
def st (r : Nat) : Nat := if r % 2 = 1 then (r / 2) ^^^ poly else r / 2
def Ut : Nat → Nat → Nat
 | 0, r => r
 | k + 1, r => st (Ut k r)
def add (r : Nat) (x : UInt8) : Nat := Ut 8 (r ^^^ x.toNat)
def ext (r : Nat) (l : List UInt8) : Nat := l.foldl add r
def sum (l : List UInt8) : Nat := 4294967295 - ext 4294967295 l
end Go.Proofs.YtcgfilmmokmdjaaGreat.Us
namespace Go.Proofs.YtcgfilmmokmdjaaGreat
def J2 (l : List UInt8) (j : Nat) : UInt8 := l.getD j 0
def be (v n : Nat) : List UInt8 := (List.range n).map fun j => UInt8.ofNat (v / 2 ^ (8 * (n - 1 - j)))
def val (l : List UInt8) : Nat := l.foldl (fun n x => (n * 256 + x.toNat) % 18446744073709551616) 0
def le4 (c : Nat) : List UInt8 := [UInt8.ofNat c, UInt8.ofNat (c / 2 ^ 8), UInt8.ofNat (c / 2 ^ 16), UInt8.ofNat (c / 2 ^ 24)]
end Go.Proofs.YtcgfilmmokmdjaaGreat
namespace Go.Proofs.YtcgfilmmokmdjaaGreat
open Go.RowKit
theorem oH.gw {w : World} {v : Value} {l : List UInt8} (h : oH w v l) : ∃ a cap, v = .slice a l.length cap ∧ l.length ≤ cap ∧ cap ≤ maxLen := by
 obtain ⟨a, cap, h1, h2, h3, _⟩ := iw.shape h 0;exact ⟨a, cap, h1, h2, h3⟩
end Go.Proofs.YtcgfilmmokmdjaaGreat
namespace Go.Proofs.YtcgfilmmokmdjaaGreat
def ck (l : List UInt8) : List UInt8 := le4 (Us.sum l)
end Go.Proofs.YtcgfilmmokmdjaaGreat
namespace Go.Proofs.YtcgfilmmokmdjaaGreat
open Go.RowKit
theorem zLz : (Tryz.prog.info? 5).map (fun i => (i.zero, i.size, i.bytes)) = some (some (.int .u8 0), 1, 1) := by kernel_rfl
theorem M6 : xj Tryz.prog 54 5 1 1 := by
 obtain ⟨i, h1, h2, h3, h4⟩ := cn zLz;exact ⟨Tryz.underlying54, by decide, i, _, h1, h2, h3, h4, rfl⟩
abbrev M7 (w : World) (base : Nat) (v : Value) (l : List UInt8) : Prop := w.ownsRow base 5 1 v l.length (l.map vh)
theorem zKt {w : World} {base n : Nat} {v : Value} {l : List UInt8} {xs : List Value} (h : w.ownsRow base 5 1 v n xs) (e : xs = l.map vh) : M7 w base v l := by
 subst e;have : l.length = n := by have := h.1; rw [aI] at this; omega
 unfold M7; rw [this]; exact h
end Go.Proofs.YtcgfilmmokmdjaaGreat
namespace Go.Proofs.YtcgfilmmokmdjaaGreat
def Fits (x : It) : Prop := 0 ≤ x.key ∧ x.key < 18446744073709551616 ∧ 0 ≤ x.ck ∧ x.ck < 4294967296 ∧ 0 ≤ x.off ∧ x.off < 4294967296 ∧ 0 ≤ x.size ∧ x.size < 4294967296
structure Nd where
 key : Nat
 ck : Nat
 del : Bool
 data : List UInt8
 deriving DecidableEq
def Jf : Nd := ⟨0, 0, false, []⟩
instance : Inhabited Nd := ⟨Jf⟩
def Nd.Wf (x : Nd) : Prop := x.key < 18446744073709551616 ∧ x.ck < 4294967296
def Nd.ok (x : Nd) : Prop := x.data.length ≤ 4096 ∧ (x.del = true → x.data = [])
def oQ (n : Nat) : Nat := (31 + n) / 8 * 8
theorem un (n : Nat) : 24 + n ≤ oQ n ∧ oQ n < 32 + n ∧ oQ n % 8 = 0 := by unfold oQ; omega
def zMC (x : Nd) : List UInt8 := [78, 165, if x.del then 1 else 0, 0] ++ be x.ck 4 ++ be x.key 8 ++ be x.data.length 4
def Uu (x : Nd) : List UInt8 := zMC x ++ x.data
def zL7 (n : Nat) : List UInt8 := List.replicate n 0
def Uv (x : Nd) : List UInt8 := Uu x ++ ck (Uu x) ++ zL7 (oQ x.data.length - (24 + x.data.length))
def Fp (b : List UInt8) : Nat := val ((b.drop 16).take 4)
def O8 (b : List UInt8) : Prop := J2 b 0 = 78 ∧ J2 b 1 = 165 ∧ (J2 b 2).toNat ≤ 1 ∧ J2 b 3 = 0 ∧ Fp b ≤ 4096 ∧ (J2 b 2 = 1 → Fp b = 0)
instance (b : List UInt8) : Decidable (O8 b) := by unfold O8; exact inferInstance
def zMP (b : List UInt8) : List UInt8 := (b.drop (24 + Fp b)).take (oQ (Fp b) - (24 + Fp b))
structure NOk (b : List UInt8) : Prop where
 long : 20 ≤ b.length
 form : O8 b
 whole : oQ (Fp b) ≤ b.length
 sum : ck (b.take (20 + Fp b)) = (b.drop (20 + Fp b)).take 4
 pad : (zMP b).all (· == 0) = true
end Go.Proofs.YtcgfilmmokmdjaaGreat
namespace Go.Proofs.YtcgfilmmokmdjaaGreat
open Go.RowKit
def eM (n : Nat) : Nat := if n ≤ 4096 then oQ n else 0
theorem J4 {n : Nat} (h : n ≤ 4096) : eM n = oQ n := by unfold eM; rw [ag h]
theorem xx (n : Nat) : eM n ≤ 4127 := by
 unfold eM
 split
 ·
  have := un n; omega
 omega
theorem t8 (n : Nat) (w : World) (h : n ≤ 1000000) : Calls Tryz.prog 53 #[.int .i64 (n : Int)] w fun e w' => e = .returned (.int .i64 ((eM n : Nat) : Int)) ∧ w = w' := by
 by_cases hn : n ≤ 4096
 ·
  have HS := zh (show ((eM n : Nat) : Int) = (20 + (n : Int) + 4 + 8 - 1) / 8 * 8 by unfold eM oQ; rw [ag hn]; omega);have hd : decide ((4096 : Int) < (n : Int)) = false := by simp; omega
  have hd2 : decide ((n : Int) < 0) = false := by simp
  go_enter Tryz.func53, Tryz.ntmps53
  go_wp2_with fail;go_ret;exact ⟨wT (by rw [HS.out]), rfl⟩
 have HS := zh (show eM n = 0 by unfold eM; rw [ah hn]);have hd : decide ((4096 : Int) < (n : Int)) = true := by simp; omega
 have hd2 : decide ((n : Int) < 0) = false := by simp
 go_enter Tryz.func53, Tryz.ntmps53
 go_wp2_with fail;go_ret;exact ⟨wT (by rw [HS.out]; rfl), rfl⟩
theorem Uw (n : Nat) (w : World) (h : n ≤ 1000000) : Calls Tryz.prog 28 #[.int .i64 (n : Int)] w fun e w' => e = .returned (.int .i64 ((eM n : Nat) : Int)) ∧ w = w' := by
 by_cases hn : n ≤ 4096
 ·
  have HS := zh (show ((eM n : Nat) : Int) = (20 + (n : Int) + 4 + 8 - 1) / 8 * 8 by unfold eM oQ; rw [ag hn]; omega);have hd : decide ((4096 : Int) < (n : Int)) = false := by simp; omega
  have hd2 : decide ((n : Int) < 0) = false := by simp
  go_enter Tryz.func28, Tryz.ntmps28
  go_wp2_with fail;go_ret;exact ⟨wT (by rw [HS.out]; omega), rfl⟩
 have HS := zh (show eM n = 0 by unfold eM; rw [ah hn]);have hd : decide ((4096 : Int) < (n : Int)) = true := by simp; omega
 have hd2 : decide ((n : Int) < 0) = false := by simp
 go_enter Tryz.func28, Tryz.ntmps28
 go_wp2_with fail;go_ret;exact ⟨wT (by rw [HS.out]; rfl), rfl⟩
theorem uY {w : World} {B : Nat} {e e' : TypeId} {sz n p : Nat} {v : Value} {xs : List Value} {cs : Array Value} (h : w.ownsRow B e sz v n xs) (hp : w.heap[p]? = some (.cells cs e' (0, 0))) (hne : e ≠ e') : v.ownBlock ≠ some p := fun e1 => by
 obtain ⟨c, fz, h1⟩ := Lib.ownsRow_kind h p e1;rw [h1] at hp;injection hp with hp;injection hp with _ hp;exact hne hp
theorem zE0 {w : World} {B : Nat} {e : TypeId} {sz n : Nat} {v : Value} {xs : List Value} (h : w.ownsRow B e sz v n xs) {p : Addr} (hne : v.ownBlock ≠ some p.block) (u : Value) : (w.setCell p u).ownsRow B e sz v n xs := by
 refine ⟨h.1, ?_⟩;rcases h.2 with h0 | ⟨g, cap, cur, rfl, hb, hg, rest⟩
 ·
  exact .inl h0
 refine .inr ⟨g, cap, cur, rfl, hb, ?_, rest⟩;rw [Below.heap_setCell w p u g (fun e => hne (by rw [← e]; rfl))]; exact hg
structure Wri (w : World) (p B : Nat) (l : List UInt8) : Prop where
 h : ∃ v, w.heap[p]? = some (.cells #[v] 203 (0, 0)) ∧ M7 w B v l
def le (v n : Nat) : List UInt8 := (List.range n).map fun j => UInt8.ofNat (v / 2 ^ (8 * j))
theorem zKA (v : Value) (l : List It) (w : World) (h : iQ w v l) :
  Calls Tryz.prog 178 #[v, .func (.func 140) #[] #[]] w fun e w' => (∃ k : Int, e = .returned (.int .i64 k) ∧ decide (0 ≤ k) = !l.all okB) ∧ Below w.heap.size w w' := by
 obtain ⟨a, cap, rfl, h1, h2⟩ := h.shape;have HT := zh (show (∀ j, j < l.length → _) → _ from kH (l := l) (p := okB));have HF := zh (show ∀ j, j < l.length → _ → _ from fun j => tu (l := l) (p := okB) (j := j));have hm := BM h1 h2;generalize hn : l.length = n at *;have Hr := zh h;clear h h1 h2 hn
 go_enter Tryz.func178, Tryz.ntmps178
 go_wp2_with fail
 go_loopw [8] (fun i wr => ∃ k : Nat, k ≤ n ∧ i = .int .i64 (k : Int) ∧ (∀ j, j < k → okB (dX l j) = true) ∧ Below w.heap.size w wr) (fun i _ => n - (intOf i).toNat)
 case atStart => exact ⟨0, au _, rfl, fun j hj => absurd hj (by omega), aj _ _⟩
 obtain ⟨k, hk, rfl, hok, hb⟩ := hrel;have lI := zh hok;have Hb := zh hb;have hB := hb.size;clear hok hb
 by_cases hlt : k < n
 ·
  have hr := Hr.out.below Hb.out;obtain ⟨b, off, rfl, c0, c1, c2, c3⟩ := hr.at hlt;have HV := zh fun w => zC1 (dX l k).key (dX l k).ck (dX l k).off (dX l k).size w
  generalize hx : dX l k = x at *;have EX := zh hx;clear hx;clear hr;go_wp2_with fail;refine (HV.out _).mono ?_; rintro e w1 ⟨rfl, hb1⟩;have lV := zh (zA Hb.out hb1)
  cases hx : okB x
  ·
   have HX := zh hx;clear hb1 hx;go_wp2_with fail;go_ret;refine ⟨⟨k, rfl, ?_⟩, lV.out⟩;rw [HF.out k hlt (by rw [EX.out]; exact HX.out)]; simp
  have HX := zh hx;clear hb1 hx;go_wp2_with fail;refine ⟨⟨k + 1, by omega, by go_num, fun j hj => ?_, lV.out⟩, by simp [intOf]; omega⟩
  by_cases e : j = k
  ·
   rw [e, EX.out]; exact HX.out
  exact lI.out j (by omega)
 obtain rfl : k = n := by omega
 go_wp2_with fail;go_ret;refine ⟨⟨-1, rfl, ?_⟩, Hb.out⟩;rw [HT.out lI.out]; rfl
theorem zIW (v : Value) (l : List It) (w : World) (h : iQ w v l) :
  Calls Tryz.prog 139 #[v, .func (.func 140) #[] #[]] w fun e w' => e = .returned (.bool (!l.all okB)) ∧ Below w.heap.size w w' := by
 have HA := zh (zKA v l w h);obtain ⟨a, cap, rfl, h1, h2⟩ := h.shape;clear h h1 h2
 go_enter Tryz.func139, Tryz.ntmps139
 go_wp2_with fail;refine HA.out.mono ?_; rintro e w1 ⟨⟨k, rfl, hk⟩, hb1⟩;have Hk := zh hk;have lV := zh hb1;clear hk hb1;go_wp2_with fail;go_ret;exact ⟨zE Hk.out, lV.out⟩
theorem Ux (v : Value) (l : List It) (w : World) (h : iQ w v l) :
  Calls Tryz.prog 99 #[v] w fun e w' => e = .returned (.bool (xp l)) ∧ Below w.heap.size w w' := by
 have HA := zh (O6 v l w h);have HC := zh (fun w h => zIW v l w h);have Hr := zh h;obtain ⟨a, cap, rfl, h1, h2⟩ := h.shape;clear h h1 h2
 go_enter Tryz.func99, Tryz.ntmps99
 go_wp2_with fail;refine HA.out.mono ?_; rintro e w1 ⟨rfl, hb1⟩;have lV := zh hb1
 cases hab : BL l
 ·
  have HF := zh (Uq hab);clear hb1 hab;go_wp2_with fail;go_ret;exact ⟨zE HF.out.symm, lV.out⟩
 have HF := zh (show xp l = l.all okB by unfold xp; rw [hab]; rfl);clear hb1 hab;go_wp2_with fail;refine (HC.out w1 (Hr.out.below lV.out)).mono ?_; rintro e w2 ⟨rfl, hb2⟩;have Cl := zh (zA lV.out hb2);clear hb2;go_wp2_with fail;go_ret;exact ⟨zE (HF.out.symm), Cl.out⟩
theorem zIR (v : Value) (l : List It) (w : World) (h : iQ w v l) :
  Calls Tryz.prog 161 #[v] w fun e w' => e = .returned (.bool (xp l)) ∧ Below w.heap.size w w' := by
 obtain ⟨a, cap, rfl, h1, h2⟩ := h.shape;have HT := zh (show mj l l.length → (∀ j, j < l.length → okB (dX l j) = true) → xp l = true from zHn);have O9 := zh (show ∀ j, j + 1 < l.length → (dX l (j + 1)).key ≤ (dX l j).key → xp l = false from fun j h1 h2 => Uq (Up h1 h2));have M9 := zh (show ∀ j, j < l.length → okB (dX l j) = false → xp l = false from fun j => zKg (l := l) (j := j));have hm := BM h1 h2;generalize hn : l.length = n at *;have Hr := zh h;clear h h1 h2 hn
 go_enter Tryz.func161, Tryz.ntmps161
 go_wp2_with fail
 go_loopw [3] (fun i wr => ∃ k : Nat, k ≤ n ∧ i = .int .i64 (k : Int) ∧ mj l k ∧ (∀ j, j < k → okB (dX l j) = true) ∧ Below w.heap.size w wr) (fun i _ => n - (intOf i).toNat)
 case atStart => exact ⟨0, au _, rfl, fun j hj => absurd hj (by omega), fun j hj => absurd hj (by omega), aj _ _⟩
 obtain ⟨k, hk, rfl, nT, hok, hb⟩ := hrel;have CV := zh nT;have lI := zh hok;have Hb := zh hb;have hB := hb.size;clear nT hok hb
 by_cases hlt : k < n
 ·
  have hr := Hr.out.below Hb.out;obtain ⟨b, off, rfl, c0, c1, c2, c3⟩ := hr.at hlt;obtain ⟨r, Es⟩ : ∃ r, okB (dX l k) = r := ⟨_, rfl⟩
  have HV := zh fun w => Ur (dX l k).key (dX l k).ck (dX l k).off (dX l k).size w
  rw [show okB ⟨(dX l k).key, (dX l k).ck, (dX l k).off, (dX l k).size⟩ = r from Es] at HV;have HR := zh Es;clear Es;have f1 := zB c1;have f2 := zB c2;have f3 := zB c3;have i1 : (k : Int) < (n : Int) := by omega
  have fZ := zh (M9.out k hlt);rw [HR.out] at fZ
  cases r
  ·
   have f0 := zB c0;generalize dX l k = x at *;clear c0 c1 c2 c3 hr;go_wp2_with fail;refine zC (by kernel_rfl) (by kernel_rfl) ?_
   repeat (go_big_quiet_step ((exact zG (HV.out _))))
   refine aC ?_;intro _ hw';obtain ⟨q, hw'⟩ := hw';subst hw';go_wp2_with fail;go_ret;exact ⟨zE (fZ.out (by first | trivial | rfl)).symm, zA Hb.out q.h⟩
  have HK := zh (show ∀ j, j < k + 1 → okB (dX l j) = true from fun j hj => by
   by_cases e : j = k
   ·
    rw [e]; exact HR.out
   exact lI.out j (by omega))
  by_cases h0 : k = 0
  ·
   subst h0;rw [Nat.zero_mul, bn] at c0 f1 f2 f3;have f0 := zB c0;clear c0 c1 c2 c3 hr;generalize dX l 0 = x at *;go_wp2_with fail;refine zC (by kernel_rfl) (by kernel_rfl) ?_
   repeat (go_big_quiet_step ((exact zG (HV.out _))))
   refine aC ?_;intro _ hw';obtain ⟨q, hw'⟩ := hw';subst hw';go_wp2_with fail;exact ⟨⟨1, by omega, by go_num, fun j hj => absurd hj (by omega), HK.out, zA Hb.out q.h⟩, by simp [intOf]; omega⟩
  obtain ⟨j, rfl⟩ : ∃ j, k = j + 1 := ⟨k - 1, by omega⟩
  have hd : decide ((0 : Int) < ((j + 1 : Nat) : Int)) = true := by simp
  have f0 := zB c0;obtain ⟨_, _, e, d0, _⟩ := hr.at (show j < n by omega);injection e with e; injection e with e1 e2; subst e1 e2;have g0 := zB d0;have CX := zh (O9.out j hlt)
  have HK3 := zh (show (dX l j).key < (dX l (j + 1)).key → mj l (j + 1 + 1) from fun h => CV.out.succ fun i e => by
   obtain rfl : j = i := by omega
   exact h)
  clear c0 c1 c2 c3 hr d0;generalize dX l (j + 1) = x at *;generalize dX l j = y at *;have i2 : (j : Int) < (n : Int) := by omega
  have i3 : (j : Int) + 1 < (n : Int) := by omega
  have j1 : IntKind.i64.wrap (j : Int) = (j : Int) := aH _ (by omega);go_wp2_with fail;refine zC (by kernel_rfl) (by kernel_rfl) ?_
  repeat (go_big_quiet_step ((exact zG (HV.out _))))
  refine aC ?_;intro _ hw';obtain ⟨q, hw'⟩ := hw';subst hw';clear i2 i3 j1;go_wp2_with fail
  ·
   have hle : x.key ≤ y.key := by assumption
   go_ret;exact ⟨zE (CX.out hle).symm, zA Hb.out q.h⟩
  have hxy : y.key < x.key := by assumption
  exact ⟨⟨j + 1 + 1, by omega, by go_num, HK3.out hxy, HK.out, zA Hb.out q.h⟩, by simp [intOf]; omega⟩
 obtain rfl : k = n := by omega
 go_wp2_with fail;go_ret;exact ⟨zE (HT.out CV.out lI.out).symm, Hb.out⟩
end Go.Proofs.YtcgfilmmokmdjaaGreat
namespace Go.Proofs.YtcgfilmmokmdjaaGreat
def ins : List It → It → List It
 | [], x => [x]
 | y :: r, x => if y.key < x.key then y :: ins r x else if y.key = x.key then x :: r else x :: y :: r
def fC (l : List It) : List It := l.foldl ins []
theorem M_ : ∀ (out : List It) (x : It) (k : Nat), k ≤ out.length → (∀ j, j < k → (dX out j).key < x.key) → (k < out.length → x.key ≤ (dX out k).key) →
  ins out x = out.take k ++ x :: out.drop (if k < out.length ∧ (dX out k).key = x.key then k + 1 else k)
 | [], x, k, hk, _, _ => by
  obtain rfl : k = 0 := by simpa using hk
  simp [ins]
 | y :: r, x, 0, _, _, h2 => by
  have h := h2 (by simp);have e0 : dX (y :: r) 0 = y := rfl;rw [e0] at h;unfold ins;rw [ah (by omega)]
  by_cases e : y.key = x.key
  ·
   rw [ag e, ag ⟨by simp, by rw [e0]; exact e⟩]; simp
  rw [ah e, ah (fun h => e (by rw [e0] at h; exact h.2))]; simp
 | y :: r, x, k + 1, hk, h1, h2 => by
  have e0 : dX (y :: r) 0 = y := rfl;have hs : ∀ j, dX (y :: r) (j + 1) = dX r j := fun j => rfl
  unfold ins;rw [ag (by have := h1 0 (by omega); rwa [e0] at this)];rw [M_ r x k (by simpa using hk) (fun j hj => by have := h1 (j + 1) (by omega); rwa [hs] at this) (fun hj => by have := h2 (by simpa using hj); rwa [hs] at this)];rw [hs]
  by_cases e : k < r.length ∧ (dX r k).key = x.key
  ·
   rw [ag e, ag ⟨by simpa using e.1, e.2⟩]; simp
  rw [ah e, ah (fun h => e ⟨by simpa using h.1, h.2⟩)]; simp
theorem vQ (x : It) : ∀ out : List It, (ins out x).length ≤ out.length + 1
 | [] => by simp [ins]
 | y :: r => by
  have := vQ x r;unfold ins
  split
  ·
   simp; omega
  split <;> simp
theorem Uy : fC [] = [] := rfl
theorem O_ {l : List It} {j : Nat} (h : j < l.length) : fC (l.take (j + 1)) = ins (fC (l.take j)) (dX l j) := by
 unfold fC;rw [xB h, dt]; rfl
theorem vB (l : List It) : ∀ j, j ≤ l.length → (fC (l.take j)).length ≤ j
 | 0, _ => by simp [fC]
 | j + 1, h => by
  rw [O_ (by omega)];have := vQ (dX l j) (fC (l.take j));have := vB l j (by omega);omega
theorem yU (l : List It) : (fC l).length ≤ l.length := by
 have := vB l l.length (ai _)
 rwa [ct] at this
theorem ki {p : It → Prop} (x : It) (hx : p x) : ∀ out : List It, (∀ y ∈ out, p y) → ∀ y ∈ ins out x, p y
 | [], _ => by simp [ins]; exact hx
 | y :: r, h => by
  have hr := ki x hx r (fun z hz => h z (by simp [hz]));intro z hz;unfold ins at hz
  split at hz
  ·
   rcases List.mem_cons.1 hz with rfl | hz
   ·
    exact h _ (by simp)
   exact hr z hz
  split at hz
  ·
   rcases List.mem_cons.1 hz with rfl | hz
   ·
    exact hx
   exact h z (by simp [hz])
  rcases List.mem_cons.1 hz with rfl | hz
  ·
   exact hx
  exact h z hz
theorem Uz {p : It → Prop} : ∀ (l out : List It), (∀ y ∈ l, p y) → (∀ y ∈ out, p y) → ∀ y ∈ l.foldl ins out, p y
 | [], _, _, h => h
 | x :: l, out, hl, h => Uz l (ins out x) (fun y hy => hl y (by simp [hy])) (ki x (hl x (by simp)) out h)
theorem UA {p : It → Prop} {l : List It} (h : ∀ y ∈ l, p y) : ∀ y ∈ fC l, p y := Uz l [] h (fun _ hy => by cases hy)
def lW : List It → Prop
 | [] => True
 | [_] => True
 | x :: y :: r => x.key < y.key ∧ lW (y :: r)
theorem xX : ∀ l : List It, lW l ↔ jZ l
 | [] => ⟨fun _ _ h => by simp at h, fun _ => trivial⟩
 | [_] => ⟨fun _ _ h => by simp at h, fun _ => trivial⟩
 | x :: y :: r => by
  unfold lW;rw [xX (y :: r)]
  constructor
  ·
   rintro ⟨h1, h2⟩ j hj
   cases j with
   | zero => exact h1
   | succ j => exact h2 j (by simpa using hj)
  intro h;exact ⟨h 0 (by simp), fun j hj => h (j + 1) (by simpa using hj)⟩
theorem lW.tail {x : It} {r : List It} (h : lW (x :: r)) : lW r := by
 cases r with
 | nil => trivial
 | cons y r => exact h.2
theorem lW.cons {x : It} {r : List It} (h : lW r) (hx : ∀ y, r.head? = some y → x.key < y.key) : lW (x :: r) := by
 cases r with
 | nil => trivial
 | cons y r => exact ⟨hx y rfl, h⟩
theorem zJD (x y : It) (r : List It) (z : It) (h : (ins r x).head? = some z) (hx : y.key < x.key) (hr : ∀ y', r.head? = some y' → y.key < y'.key) : y.key < z.key := by
 cases r with
 | nil => simp [ins] at h; subst h; exact hx
 | cons u r =>
  unfold ins at h
  split at h
  ·
   simp at h; subst h; exact hr _ rfl
  split at h <;> (simp at h; subst h; exact hx)
theorem qP (x : It) : ∀ out : List It, lW out → lW (ins out x)
 | [], _ => trivial
 | y :: r, h => by
  unfold ins
  split
  ·
   rename_i hlt;refine (qP x r h.tail).cons fun z hz => zJD x y r z hz hlt fun y' Cm => ?_
   cases r with
   | nil => cases Cm
   | cons u r => simp at Cm; subst Cm; exact h.1
  split
  ·
   rename_i h1 h2;refine h.tail.cons fun z hz => ?_
   cases r with
   | nil => cases hz
   | cons u r => simp at hz; subst hz; rw [← h2]; exact h.1
  exact ⟨by omega, h⟩
theorem UB : ∀ (l out : List It), lW out → lW (l.foldl ins out)
 | [], _, h => h
 | x :: l, out, h => UB l (ins out x) (qP x out h)
theorem wi (l : List It) : jZ (fC l) := (xX _).1 (UB l [] trivial)
theorem Pa (x : It) : ∀ out : List It, (∀ y ∈ out, y.key < x.key) → ins out x = out ++ [x]
 | [], _ => rfl
 | y :: r, h => by
  unfold ins;rw [ag (h y (by simp)), Pa x r (fun z hz => h z (by simp [hz]))]; rfl
theorem ko {l : List It} (h : jZ l) : ∀ j, j ≤ l.length → fC (l.take j) = l.take j
 | 0, _ => by simp [fC]
 | j + 1, hj => by
  rw [O_ (by omega), ko h j (by omega), Pa, ← xB (by omega)];intro y hy;obtain ⟨i, hi, rfl⟩ := vw hy;rw [ay] at hi;rw [wX (by omega)];exact h.mono (by omega) (by omega)
theorem yK {l : List It} (h : jZ l) : fC l = l := by
 have := ko h l.length (ai _)
 rwa [ct] at this
def fG (l : List It) (key : Int) : Option It := l.find? fun x => x.key == key
def Place (l : List It) (key : Int) (r : Nat) : Prop := r ≤ l.length ∧ (∀ j, r = j + 1 → (dX l j).key < key) ∧ (r < l.length → key ≤ (dX l r).key)
theorem Place.lt {l : List It} {key : Int} {r : Nat} (h : Place l key r) (ha : jZ l) {j : Nat} (hj : j < r) : (dX l j).key < key := by
 obtain ⟨h1, h2, _⟩ := h;have h3 := h2 (r - 1) (by omega)
 by_cases e : j = r - 1
 ·
  rw [e]; exact h3
 have := ha.mono (show j < r - 1 by omega) (by omega);omega
theorem zLP {l : List It} {key : Int} : ∀ {r : Nat}, r < l.length → (dX l r).key = key → (∀ j, j < r → (dX l j).key ≠ key) → fG l key = some (dX l r) := by
 induction l with
 | nil => intro r h; simp at h
 | cons x l ih =>
  intro r hr hk hn;unfold fG;rw [List.find?_cons]
  cases r with
  | zero =>
   have : x.key = key := hk;rw [show (x.key == key) = true from beq_iff_eq.2 this]; rfl
  | succ r =>
   have h0 : x.key ≠ key := hn 0 (by omega);rw [show (x.key == key) = false from beq_eq_false_iff_ne.2 h0];exact ih (r := r) (by simpa using hr) hk (fun j hj => hn (j + 1) (by omega))
theorem zIP {l : List It} {key : Int} (h : ∀ j, j < l.length → (dX l j).key ≠ key) : fG l key = none := by
 unfold fG;rw [List.find?_eq_none];intro x hx;obtain ⟨j, hj, rfl⟩ := vw hx
 simpa using h j hj
theorem Place.found {l : List It} {key : Int} {r : Nat} (h : Place l key r) (ha : jZ l) (hr : r < l.length) (hk : (dX l r).key = key) : fG l key = some (dX l r) :=
 zLP hr hk fun j hj => by have := h.lt ha hj; omega
theorem Place.not {l : List It} {key : Int} {r : Nat} (h : Place l key r) (ha : jZ l) (hk : r < l.length → (dX l r).key ≠ key) : fG l key = none :=
 zIP fun j hj => by
  by_cases e : j < r
  ·
   have := h.lt ha e; omega
  by_cases e2 : j = r
  ·
   rw [e2]; exact hk (by omega)
  have h1 := h.2.2 (by omega);have h2 := ha.mono (show r < j by omega) hj;omega
end Go.Proofs.YtcgfilmmokmdjaaGreat
namespace Go.Proofs.YtcgfilmmokmdjaaGreat
open Go.RowKit
theorem Pb {wo : World} {base : Nat} {a oa : Option Addr} {oc m : Nat} {xs : List Value} (h : ∀ z, a = some z → wo.heap.size ≤ z.block) (ho : wo.ownsRow base 49 4 (.slice oa m oc) m xs) (k : Nat) :
  ∀ z, a = some z → some z.block ≠ (Value.slice oa k oc).ownBlock := by
 intro z hz e;have h1 := h z hz;have h2 := ho.lt z.block (by rw [e]; cases oa <;> rfl);omega
theorem qA (v : Value) (l : List It) (w : World) (h : iQ w v l) (hs : l.length ≤ 1000000) :
  Calls Tryz.prog 164 #[v] w fun e w' => ∃ v', e = .returned v' ∧ fg w' w.heap.size v' (fC l) ∧ Below w.heap.size w w' := by
 obtain ⟨a, cap, rfl, _, _⟩ := h.shape;have HS := zh (show ∀ j, j < l.length → _ from fun j => O_ (l := l) (j := j));have HL := zh (vB l);have HE := zh (show fC (l.take l.length) = fC l by rw [ct]);generalize hn : l.length = n at *;have Hr := zh h;clear h hn
 go_enter Tryz.func164, Tryz.ntmps164
 go_wp2_with fail
 go_loopw [3, 4] (fun ov iv wr => ∃ j : Nat, iv = .int .i64 (j : Int) ∧ j ≤ n ∧ fg wr w.heap.size ov (fC (l.take j)) ∧ Below w.heap.size w wr) (fun _ iv _ => n - (intOf iv).toNat)
 case atStart => exact ⟨0, rfl, au _, aU _ _ _ _, aj _ _⟩
 obtain ⟨j, rfl, hj, hown, hb⟩ := hrel;have hB := hb.size;obtain ⟨oa, oc, rfl, ho1, ho2, oT⟩ := zO hown;have J5 := zh oT;have Hb := zh hb;have gP := zh (show wr.ownsRow w.heap.size 49 4 _ (fC (l.take j)).length (zU (fC (l.take j))) from hown);clear hown hb oT
 by_cases hlt : j < n
 ·
  have hL := HL.out j hj;have Pc := zh (HS.out j hlt);generalize fC (l.take j) = o at *;generalize hm : o.length = m at *;have HM := zh hm;clear hm;obtain ⟨b, off, rfl, c0, c1, c2, c3⟩ := Hr.out.at hlt;generalize dX l j = x at *;have nz := zh (fun w' (h : Below w.heap.size w w') => And.intro (Below.keeps h _ _ c0) (And.intro (Below.keeps h _ _ c1) (And.intro (Below.keeps h _ _ c2) (Below.keeps h _ _ c3))));have c0 := Below.keeps Hb.out _ _ c0;clear c1 c2 c3;obtain ⟨wo, ewo⟩ : ∃ wo : World, wo = wr := ⟨_, rfl⟩
  subst ewo;go_wp2_with fail
  go_loopw [5] (fun kv w2 => ∃ k : Nat, kv = .int .i64 (k : Int) ∧ k ≤ m ∧ (∀ i, i < k → (dX o i).key < x.key) ∧ Below wo.heap.size wo w2) (fun kv _ => m - (intOf kv).toNat)
  case atStart => exact ⟨0, rfl, au _, fun i hi => absurd hi (by omega), aj _ _⟩
  obtain ⟨k, rfl, hk, hkey, hb2⟩ := hrel;have Gi := zh hkey;have Cl := zh hb2;have d0 := Below.keeps hb2 _ _ c0;clear hkey hb2;have i1 : (j : Int) < (n : Int) := by omega
  by_cases Gj : k < m
  ·
   have ho := (yj (zr gP.out)).below Cl.out;obtain ⟨bo, oo, rfl, e0, _⟩ := ho.at Gj;clear ho;have i2 : (k : Int) < (m : Int) := by omega
   generalize hy : (dX o k).key = y at *;have HY := zh hy;clear hy
   by_cases DU : y < x.key
   ·
    have hyd : decide (y < x.key) = true := aF DU;go_wp2_with fail
    go_quiet (fail)
    clear i1 i2;go_wp2_with fail
    exact ⟨⟨k + 1, by go_num, by omega, fun i hi => by
     by_cases e : i = k
     ·
      rw [e, HY.out]; exact DU
     exact Gi.out i (by omega), below_drewN Cl.out _⟩, by simp [intOf]; omega⟩
   have hyd : decide (y < x.key) = false := aD DU;have Et := zh (M_ o x k (by rw [HM.out]; exact hk) Gi.out (by rw [HY.out]; omega));obtain ⟨sa, sc, hrun, hsl, hsb⟩ := vR yE (tK ((yj (zr gP.out)).below Cl.out)) k hk;rw [← uR] at hsl;obtain ⟨d, hd, oI, hd2⟩ : ∃ d, m - k = d ∧ 0 < d ∧ d ≤ m := ⟨m - k, rfl, by omega, by omega⟩
   rw [hd] at hsl hrun;have HD := zh hd;have Pd := zh hsl;have sB := zh (fun nq => dr (base := wr.heap.size) (e := 49) (size := 4) (wr.drewN nq) #[] 0 (ai _) (by decide) rfl);clear hsl hsb hd;go_wp2_with fail
   go_quiet (fail)
   clear i1 i2;go_wp2_with (at_builtin; go_must (refine zd rfl (.tmp 32) (.tmp 35) 33 rfl yE wr.heap.size rfl (sB.out nq) rfl ((Pd.out.below (below_drewN (aj _ _) nq)).alloc _) (zn _) (by unfold maxLen; omega) (by omega) (by simp) ?_); intro v3 w3 ei eW hv3; clear hv3);rw [aJ, bT] at ei;have hb3 := zM ((below_drewN (aj wr.heap.size wr) nq).alloc (ai _) _) (sB.out nq) (by simp) eW;obtain ⟨ra, rc, rfl, hr1, hr2, hr3⟩ := zO ei;obtain ⟨rb, Pe, rfl, g0, _⟩ := (yj (zr ei)).at oI;have UC := (ei.lt rb rfl).1;simp only [xg, Nat.zero_mul, bn, HY.out] at g0;have k0 := Below.keeps hb3 _ _ d0;have Gk := zh (zr ei);have Gl := zh hb3;have hdd : decide ((0 : Int) < (d : Int)) = true := by simp; omega
   have i1 : (j : Int) < (n : Int) := by omega
   clear ei eW hb3 hr3 hrun
   by_cases BN : y = x.key
   ·
    have Jg : (y == x.key) = true := beq_iff_eq.2 BN;obtain ⟨ta, tc, Fq, J6, Gm⟩ := vR yE Gk.out 1 oI;rw [show ((1 : Nat) : Int) = 1 from rfl] at Fq;have J7 := zh J6;have J8 := zh Gm;clear J6 Gm;go_wp2_with fail
    go_quiet (fail)
    go_wp2_with fail;obtain ⟨w4, hw4⟩ : ∃ w4, w4 = w3.drewN nq := ⟨_, rfl⟩
    rw [← hw4];have Fs := zh (show Below wo.heap.size wo w4 by rw [hw4]; exact below_drewN (zA Cl.out Gl.out) nq)
    have J9 := zh (show Rd w4 4 (.slice ta (d - 1) tc) (d - 1) (zU (o.drop (k + 1))) by
     rw [hw4, show k + 1 = k + 1 from rfl, ← bU, uR]; exact J7.out.below (below_drewN (aj _ _) nq))
    have J_ := zh (show ∀ z, ta = some z → wo.heap.size ≤ z.block from fun z hz => by
     obtain ⟨y', Cm, e⟩ := J8.out z hz
     injection Cm with Cm
     rw [← e, ← Cm]; exact ak Cl.out.size UC)
    have CY := zh (Pb J_.out gP.out k);have Ka := zh (show ins o x = o.take k ++ x :: o.drop (k + 1) by rw [Et.out, ag ⟨by rw [HM.out]; exact Gj, HY.out.trans BN⟩]);have Kb := zh (show d - 1 ≤ m by omega);clear hw4 Gk Gl J7 J8 Fq g0 k0 Jg BN;have Cn := yq (P := Tryz.prog) yE (n := m) J5.out k (ak hk ho1);have pK := zh (zA Hb.out Fs.out);have pM : w.heap.size ≤ w4.heap.size := pK.out.size;have iU := zh (vL (zH gP.out Fs.out) k hk);have HT := zh (zn [x]);have hrl := Kb.out
    go_region_held3 (fun w' => w'.cell? ⟨b, off + j * 4, none⟩ = some (.int .u64 x.key) ∧ w'.cell? ⟨b, off + j * 4 + 1, none⟩ = some (.int .u32 x.ck) ∧ w'.cell? ⟨b, off + j * 4 + 2, none⟩ = some (.int .i64 x.off) ∧ w'.cell? ⟨b, off + j * 4 + 3, none⟩ = some (.int .i64 x.size))
     (first | exact nz.out _ pK.out.drew | exact nz.out _ (pK.out.drew.alloc pM _) | exact nz.out _ (zM (pK.out.drew.alloc pM _) ((iU.out.drew).alloc _) (by simp; omega) gQ) | exact nz.out _ (zM (zM (pK.out.drew.alloc pM _) ((iU.out.drew).alloc _) (by simp; omega) gQ) fF (ak (by simp; omega) gQ.size) nU))
     (first | (refine ww (by rfl) _ _ _ (by rfl) yE w.heap.size (by rfl) ((iU.out.drew).alloc _) (by rfl) (Rd.new _ 4 (gZ x) 49 1 rfl (by decide)) (by simpa [zU] using HT.out) (by unfold maxLen; omega) (by omega) (by simp; omega) ?_; intro v5 w5 fF gQ Kc; clear Kc) | (refine ww (by rfl) _ _ _ (by rfl) yE w.heap.size (by rfl) fF (by rfl) (((J9.out.drew).alloc _).grown gQ CY.out) (zn _) (by unfold maxLen; omega) (by omega) (ak (by simp; omega) gQ.size) ?_; intro v6 w6 jC nU Ke; clear Ke))
    have j_ : zU (o.take k) ++ gZ x ++ zU (o.drop (k + 1)) = zU (fC (l.take (j + 1))) := by rw [Pc.out, Ka.out, zu, uO, bp]
    rw [xl] at j_;have sD := zh j_;have jG := zh (zM (zM (pK.out.drew.alloc pM _) ((iU.out.drew).alloc _) (by simp; omega) gQ) fF (ak (by simp; omega) gQ.size) nU);have mo := zh jC;clear j_ fF jC gQ nU;go_wp2_with fail;exact ⟨⟨j + 1, by go_num, by omega, yI mo.out sD.out, jG.out⟩, by simp [intOf]; omega⟩
   have Jg : (y == x.key) = false := beq_eq_false_iff_ne.2 BN;go_wp2_with fail
   go_quiet (fail)
   go_wp2_with fail;obtain ⟨w4, hw4⟩ : ∃ w4, w4 = w3.drewN nq := ⟨_, rfl⟩
   rw [← hw4];have Fs := zh (show Below wo.heap.size wo w4 by rw [hw4]; exact below_drewN (zA Cl.out Gl.out) nq)
   have J9 := zh (show Rd w4 4 _ d (zU (o.drop k)) by
    rw [hw4]; exact Gk.out.below (below_drewN (aj _ _) nq))
   have J_ := zh (show ∀ z, some (⟨rb, Pe, none⟩ : Addr) = some z → wo.heap.size ≤ z.block from fun z hz => by
    injection hz with hz
    rw [← hz]; exact ak Cl.out.size UC)
   have CY := zh (Pb J_.out gP.out k);have Ka := zh (show ins o x = o.take k ++ x :: o.drop k by rw [Et.out, ah (fun h => BN (HY.out.symm.trans h.2))]);have Kb := zh (show d ≤ m by omega);clear hw4 Gk Gl g0 k0 Jg BN;have Cn := yq (P := Tryz.prog) yE (n := m) J5.out k (ak hk ho1);have pK := zh (zA Hb.out Fs.out);have pM : w.heap.size ≤ w4.heap.size := pK.out.size;have iU := zh (vL (zH gP.out Fs.out) k hk);have HT := zh (zn [x]);have hrl := Kb.out
   go_region_held3 (fun w' => w'.cell? ⟨b, off + j * 4, none⟩ = some (.int .u64 x.key) ∧ w'.cell? ⟨b, off + j * 4 + 1, none⟩ = some (.int .u32 x.ck) ∧ w'.cell? ⟨b, off + j * 4 + 2, none⟩ = some (.int .i64 x.off) ∧ w'.cell? ⟨b, off + j * 4 + 3, none⟩ = some (.int .i64 x.size))
    (first | exact nz.out _ pK.out.drew | exact nz.out _ (pK.out.drew.alloc pM _) | exact nz.out _ (zM (pK.out.drew.alloc pM _) ((iU.out.drew).alloc _) (by simp; omega) gQ) | exact nz.out _ (zM (zM (pK.out.drew.alloc pM _) ((iU.out.drew).alloc _) (by simp; omega) gQ) fF (ak (by simp; omega) gQ.size) nU))
    (first | (refine ww (by rfl) _ _ _ (by rfl) yE w.heap.size (by rfl) ((iU.out.drew).alloc _) (by rfl) (Rd.new _ 4 (gZ x) 49 1 rfl (by decide)) (by simpa [zU] using HT.out) (by unfold maxLen; omega) (by omega) (by simp; omega) ?_; intro v5 w5 fF gQ Kc; clear Kc) | (refine ww (by rfl) _ _ _ (by rfl) yE w.heap.size (by rfl) fF (by rfl) (((J9.out.drew).alloc _).grown gQ CY.out) (zn _) (by unfold maxLen; omega) (by omega) (ak (by simp; omega) gQ.size) ?_; intro v6 w6 jC nU Ke; clear Ke))
   have j_ : zU (o.take k) ++ gZ x ++ zU (o.drop k) = zU (fC (l.take (j + 1))) := by rw [Pc.out, Ka.out, zu, uO, bp]
   rw [xl] at j_;have sD := zh j_;have jG := zh (zM (zM (pK.out.drew.alloc pM _) ((iU.out.drew).alloc _) (by simp; omega) gQ) fF (ak (by simp; omega) gQ.size) nU);have mo := zh jC;clear j_ fF jC gQ nU;go_wp2_with fail;exact ⟨⟨j + 1, by go_num, by omega, yI mo.out sD.out, jG.out⟩, by simp [intOf]; omega⟩
  obtain rfl : k = m := by omega
  have Et := zh (M_ o x k (by rw [HM.out]; exact ai _) Gi.out (by rw [HM.out]; intro h; omega));obtain ⟨sa, sc, hrun, hsl, hsb⟩ := vR yE (zr (zH gP.out Cl.out)) k hk;rw [Nat.sub_self, bQ (by rw [yF, HM.out]; exact ai _)] at hsl;rw [Nat.sub_self] at hrun;have Pd := zh hsl;have sB := zh (fun nq => dr (base := wr.heap.size) (e := 49) (size := 4) (wr.drewN nq) #[] 0 (ai _) (by decide) rfl);clear hsl hsb;go_wp2_with fail
  go_quiet (fail)
  clear i1;go_wp2_with (at_builtin; go_must (refine zd rfl (.tmp 32) (.tmp 35) 33 rfl yE wr.heap.size rfl (sB.out nq) rfl ((Pd.out.below (below_drewN (aj _ _) nq)).alloc _) (fun _ h => by cases h) (by unfold maxLen; omega) (by omega) (by simp) ?_); intro v3 w3 ei eW hv3; clear hv3);rw [aJ, bT] at ei;have hb3 := zM ((below_drewN (aj wr.heap.size wr) nq).alloc (ai _) _) (sB.out nq) (by simp) eW;obtain ⟨ra, rc, rfl, hr1, hr2, hr3⟩ := zO ei;have Gk := zh (zr ei);have Gl := zh hb3
  have J_ := zh (show ∀ z, ra = some z → wo.heap.size ≤ z.block from fun z hz => by
   subst hz
   exact ak Cl.out.size (ei.lt _ rfl).1)
  have CY := zh (Pb J_.out gP.out k);have Ka := zh (show ins o x = o.take k ++ x :: [] by rw [Et.out, ah (fun h => by have := HM.out; omega), bQ (by rw [HM.out]; exact ai _)]);have Kb := zh (show 0 ≤ k from au _);clear ei eW hb3 hr3 hrun;go_wp2_with fail
  go_quiet (fail)
  go_wp2_with fail;obtain ⟨w4, hw4⟩ : ∃ w4, w4 = w3.drewN nq := ⟨_, rfl⟩
  rw [← hw4];have Fs := zh (show Below wo.heap.size wo w4 by rw [hw4]; exact below_drewN (zA Cl.out Gl.out) nq)
  have J9 := zh (show Rd w4 4 _ 0 (zU []) by
   rw [hw4]; exact Gk.out.below (below_drewN (aj _ _) nq))
  clear hw4 Gk Gl;have Cn := yq (P := Tryz.prog) yE (n := k) J5.out k ho1;have pK := zh (zA Hb.out Fs.out);have pM : w.heap.size ≤ w4.heap.size := pK.out.size;have iU := zh (vL (zH gP.out Fs.out) k hk);have HT := zh (zn [x]);have hrl := Kb.out
  go_region_held3 (fun w' => w'.cell? ⟨b, off + j * 4, none⟩ = some (.int .u64 x.key) ∧ w'.cell? ⟨b, off + j * 4 + 1, none⟩ = some (.int .u32 x.ck) ∧ w'.cell? ⟨b, off + j * 4 + 2, none⟩ = some (.int .i64 x.off) ∧ w'.cell? ⟨b, off + j * 4 + 3, none⟩ = some (.int .i64 x.size))
   (first | exact nz.out _ pK.out.drew | exact nz.out _ (pK.out.drew.alloc pM _) | exact nz.out _ (zM (pK.out.drew.alloc pM _) ((iU.out.drew).alloc _) (by simp; omega) gQ) | exact nz.out _ (zM (zM (pK.out.drew.alloc pM _) ((iU.out.drew).alloc _) (by simp; omega) gQ) fF (ak (by simp; omega) gQ.size) nU))
   (first | (refine ww (by rfl) _ _ _ (by rfl) yE w.heap.size (by rfl) ((iU.out.drew).alloc _) (by rfl) (Rd.new _ 4 (gZ x) 49 1 rfl (by decide)) (by simpa [zU] using HT.out) (by unfold maxLen; omega) (by omega) (by simp; omega) ?_; intro v5 w5 fF gQ Kc; clear Kc) | (refine ww (by rfl) _ _ _ (by rfl) yE w.heap.size (by rfl) fF (by rfl) (((J9.out.drew).alloc _).grown gQ CY.out) (zn _) (by unfold maxLen; omega) (by omega) (ak (by simp; omega) gQ.size) ?_; intro v6 w6 jC nU Ke; clear Ke))
  have j_ : zU (o.take k) ++ gZ x ++ zU [] = zU (fC (l.take (j + 1))) := by rw [Pc.out, Ka.out, zu, uO, bp]
  rw [xl] at j_;have sD := zh j_;have jG := zh (zM (zM (pK.out.drew.alloc pM _) ((iU.out.drew).alloc _) (by simp; omega) gQ) fF (ak (by simp; omega) gQ.size) nU);have mo := zh jC;clear j_ fF jC gQ nU;go_wp2_with fail;exact ⟨⟨j + 1, by go_num, by omega, yI mo.out sD.out, jG.out⟩, by simp [intOf]; omega⟩
 obtain rfl : j = n := by omega
 go_wp2_with fail;go_ret;exact ⟨_, rfl, by rw [← HE.out]; exact gP.out, Hb.out⟩
def UD (x : It) : It := ⟨x.key, x.ck, 16 + 8 * (x.off % 4096), x.size % 4096⟩
def mk (l : List It) : List It := (fC (l.take 40)).map UD
def upd (o : List It) (k : Nat) : List It := (o.take k).map UD ++ o.drop k
end Go.Proofs.YtcgfilmmokmdjaaGreat
