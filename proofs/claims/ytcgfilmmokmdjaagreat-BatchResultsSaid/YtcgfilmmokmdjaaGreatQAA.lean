/- A part of the walk. -/
import Derived.Test.YtcgfilmmokmdjaaGreatRows
import Derived.Test.YtcgfilmmokmdjaaGreatBase
import Derived.BigQuiet
import Derived.Deep.QuietTactic
import Derived.Deep.RegionHeld3
import Derived.Laws.BitsAllLaws
import Derived.Laws.OwnMore
import Derived.Deep.RegionWith
import Derived.Deep.RegionLaw
import Derived.Lib.OwnKind
import Derived.OneCell
import Derived.Laws.EntriesVeiled
import Derived.Laws.Bits128
set_option maxRecDepth 100000
set_option maxHeartbeats 32000000
namespace Go.Proofs.YtcgfilmmokmdjaaGreat
structure It where
 key : Int
 ck : Int
 off : Int
 size : Int
 deriving DecidableEq
def nk (x : It) : Prop := 16 ≤ x.off ∧ x.off ≤ 1048576 ∧ x.off % 8 = 0 ∧ 0 ≤ x.size ∧ x.size ≤ 4096
instance (x : It) : Decidable (nk x) := by unfold nk; exact inferInstance
def okB (x : It) : Bool := decide (nk x)
def fF : It := ⟨0, 0, 0, 0⟩
instance : Inhabited It := ⟨fF⟩
def dS (l : List It) (j : Nat) : It := l.getD j fF
theorem t7 {l : List It} {j : Nat} (h : j < l.length) : dS l j ∈ l := by
 unfold dS;rw [ax, aB h]; exact bJ h
theorem vw {l : List It} {x : It} (h : x ∈ l) : ∃ j, j < l.length ∧ dS l j = x := by
 obtain ⟨j, hj, e⟩ := List.mem_iff_getElem.1 h;exact ⟨j, hj, by unfold dS; rw [ax, aB hj, bB, e]⟩
theorem xB {l : List It} {j : Nat} (h : j < l.length) : l.take (j + 1) = l.take j ++ [dS l j] := by
 rw [List.take_succ_eq_append_getElem h]
 congr
 unfold dS;rw [ax, aB h]; rfl
theorem xg (l : List It) (k i : Nat) : dS (l.drop k) i = dS l (k + i) := by
 unfold dS;rw [ax, cL, ← ax]
theorem wX {l : List It} {k i : Nat} (h : i < k) : dS (l.take k) i = dS l i := by
 unfold dS;rw [ax, cI, ag h, ← ax]
theorem uB : ∀ (a : List It) (i : Nat) (x : It), i < a.length → (a.set i x).take (i + 1) = a.take i ++ [x]
 | [], i, x, h => by simp at h
 | y :: r, 0, x, _ => rfl
 | y :: r, i + 1, x, h => by
  have := uB r i x (by simpa using h);simp only [aN, List.take_succ_cons, List.cons_append];rw [this]
def mg (l : List It) (k : Nat) : Prop := ∀ j, j + 1 < k → (dS l j).key < (dS l (j + 1)).key
def jZ (l : List It) : Prop := mg l l.length
def BK : List It → Bool
 | [] => true
 | [_] => true
 | x :: y :: r => decide (x.key < y.key) && BK (y :: r)
theorem uh : ∀ l : List It, BK l = true ↔ jZ l
 | [] => ⟨fun _ _ h => by simp at h, fun _ => rfl⟩
 | [_] => ⟨fun _ _ h => by simp at h, fun _ => rfl⟩
 | x :: y :: r => by
  unfold BK;rw [aM, aU, uh (y :: r)]
  constructor
  ·
   rintro ⟨h1, h2⟩ j hj
   cases j with
   | zero => exact h1
   | succ j => exact h2 j (by simpa using hj)
  intro h;exact ⟨h 0 (by simp), fun j hj => h (j + 1) (by simpa using hj)⟩
theorem UG {l : List It} {j : Nat} (h : j + 1 < l.length) (h' : (dS l (j + 1)).key ≤ (dS l j).key) : BK l = false := by
 cases e : BK l with
 | false => rfl
 | true => exact absurd ((uh l).1 e j h) (by omega)
theorem mg.succ {l : List It} {k : Nat} (h : mg l k) (h' : ∀ j, k = j + 1 → (dS l j).key < (dS l (j + 1)).key) : mg l (k + 1) := fun j hj => by
 by_cases e : k = j + 1
 ·
  exact h' j e
 exact h j (by omega)
theorem jZ.lt {l : List It} (h : jZ l) : ∀ d i, i + d + 1 < l.length → (dS l i).key < (dS l (i + d + 1)).key
 | 0, i, hi => h i hi
 | d + 1, i, hi => by
  have h1 := h.lt d i (by omega);have h2 := h (i + d + 1) (by omega);have e : i + (d + 1) + 1 = i + d + 1 + 1 := by omega
  rw [e]; omega
theorem jZ.mono {l : List It} (h : jZ l) {i j : Nat} (hij : i < j) (hj : j < l.length) : (dS l i).key < (dS l j).key := by
 have := h.lt (j - i - 1) i (by omega)
 rwa [show i + (j - i - 1) + 1 = j by omega] at this
def xp (l : List It) : Bool := BK l && l.all okB
theorem kH {l : List It} {p : It → Bool} (h : ∀ j, j < l.length → p (dS l j) = true) : l.all p = true := by
 rw [dA];intro x hx;obtain ⟨j, hj, rfl⟩ := vw hx;exact h j hj
theorem tu {l : List It} {p : It → Bool} {j : Nat} (h : j < l.length) (h' : p (dS l j) = false) : l.all p = false := by
 cases e : l.all p with
 | false => rfl
 | true => rw [dA] at e; rw [e _ (t7 h)] at h'; cases h'
theorem zHn {l : List It} (h1 : jZ l) (h2 : ∀ j, j < l.length → okB (dS l j) = true) : xp l = true := by
 unfold xp; rw [(uh l).2 h1, kH h2]; rfl
theorem zKg {l : List It} {j : Nat} (h : j < l.length) (h' : okB (dS l j) = false) : xp l = false := by
 unfold xp; rw [tu h h', Bool.and_false]
theorem UH {l : List It} (h : BK l = false) : xp l = false := by unfold xp; rw [h]; rfl
theorem uP {l : List It} : xp l = true ↔ jZ l ∧ ∀ x ∈ l, nk x := by
 unfold xp;rw [aM, uh, dA];exact ⟨fun ⟨a, b⟩ => ⟨a, fun x hx => a_ (b x hx)⟩, fun ⟨a, b⟩ => ⟨a, fun x hx => aF (b x hx)⟩⟩
end Go.Proofs.YtcgfilmmokmdjaaGreat
namespace Go.Proofs.YtcgfilmmokmdjaaGreat
open Go.RowKit
def gW (x : It) : List Value := [.int .u64 x.key, .int .u32 x.ck, .int .i64 x.off, .int .i64 x.size]
abbrev jB (x : It) : Value := .agg #[.int .u64 x.key, .int .u32 x.ck, .int .i64 x.off, .int .i64 x.size]
abbrev iP (w : World) (v : Value) (l : List It) : Prop := iu 4 gW w v l
theorem wY (x : It) : (gW x).length = 4 := rfl
theorem zHQ (k c o s : Int) (w : World) :
  Calls Tryz.prog 141 #[.agg #[.int .u64 k, .int .u32 c, .int .i64 o, .int .i64 s]] w fun e w' => e = .returned (.bool (okB ⟨k, c, o, s⟩)) ∧ Below w.heap.size w w' := by
 have HT := zh (show nk ⟨k, c, o, s⟩ → okB ⟨k, c, o, s⟩ = true from fun h => aF h);have HF := zh (show ¬ nk ⟨k, c, o, s⟩ → okB ⟨k, c, o, s⟩ = false from fun h => aD h)
 go_enter Tryz.func141, Tryz.ntmps141
 go_wp2_with fail
 ·
  go_ret;refine ⟨zE ?_, (aj _ _).alloc (ai _) _⟩
  by_cases hs : s ≤ 4096
  ·
   rw [HT.out ⟨by assumption, by assumption, by assumption, by assumption, hs⟩]; exact aF hs
  rw [HF.out (fun h => hs h.2.2.2.2)]; exact aD hs
 all_goals
  go_ret;exact ⟨zE (HF.out (fun h => by have h1 := h.1; have h2 := h.2.1; have h3 := h.2.2.1; have h4 := h.2.2.2.1; simp only [] at h1 h2 h3 h4; first | contradiction | omega)).symm, (aj _ _).alloc (ai _) _⟩
theorem UI (k c o s : Int) (w : World) :
  Calls Tryz.prog 127 #[.agg #[.int .u64 k, .int .u32 c, .int .i64 o, .int .i64 s]] w fun e w' => e = .returned (.bool (okB ⟨k, c, o, s⟩)) ∧ Below w.heap.size w w' := by
 have HT := zh (show nk ⟨k, c, o, s⟩ → okB ⟨k, c, o, s⟩ = true from fun h => aF h);have HF := zh (show ¬ nk ⟨k, c, o, s⟩ → okB ⟨k, c, o, s⟩ = false from fun h => aD h)
 go_enter Tryz.func127, Tryz.ntmps127
 go_wp2_with fail
 ·
  go_ret;refine ⟨zE ?_, (aj _ _).alloc (ai _) _⟩
  by_cases hs : s ≤ 4096
  ·
   rw [HT.out ⟨by assumption, by assumption, by assumption, by assumption, hs⟩]; exact aF hs
  rw [HF.out (fun h => hs h.2.2.2.2)]; exact aD hs
 all_goals
  go_ret;exact ⟨zE (HF.out (fun h => by have h1 := h.1; have h2 := h.2.1; have h3 := h.2.2.1; have h4 := h.2.2.2.1; simp only [] at h1 h2 h3 h4; first | contradiction | omega)).symm, (aj _ _).alloc (ai _) _⟩
theorem zC1 (k c o s : Int) (w : World) :
  Calls Tryz.prog 140 #[.agg #[.int .u64 k, .int .u32 c, .int .i64 o, .int .i64 s]] w fun e w' => e = .returned (.bool (!okB ⟨k, c, o, s⟩)) ∧ Below w.heap.size w w' := by
 have H := zh fun w => zHQ k c o s w
 generalize okB ⟨k, c, o, s⟩ = r at *
 go_enter Tryz.func140, Tryz.ntmps140
 go_wp2_with fail;refine (H.out _).mono ?_; rintro e w1 ⟨rfl, hb⟩;go_wp2_with fail;go_ret;exact ⟨rfl, zA ((aj _ _).alloc (ai _) _) hb⟩
theorem iP.below {w w' : World} {v : Value} {l : List It} (h : iP w v l) (hb : Below w.heap.size w w') : iP w' v l := iu.below h hb
theorem iP.shape {w : World} {v : Value} {l : List It} (h : iP w v l) : ∃ a cap, v = .slice a l.length cap ∧ l.length ≤ cap ∧ cap ≤ maxLen := by
 obtain ⟨a, cap, h1, h2, h3, _⟩ := iu.shape h (by decide) fF;exact ⟨a, cap, h1, h2, h3⟩
theorem iP.at {w : World} {a : Option Addr} {n cap : Nat} {l : List It} (h : iP w (.slice a n cap) l) {j : Nat} (hj : j < n) : ∃ b off, a = some ⟨b, off, none⟩ ∧
  w.cell? ⟨b, off + j * 4, none⟩ = some (.int .u64 (dS l j).key) ∧ w.cell? ⟨b, off + j * 4 + 1, none⟩ = some (.int .u32 (dS l j).ck) ∧
  w.cell? ⟨b, off + j * 4 + 2, none⟩ = some (.int .i64 (dS l j).off) ∧ w.cell? ⟨b, off + j * 4 + 3, none⟩ = some (.int .i64 (dS l j).size) := by
 obtain ⟨a', cap', e, h2, h3, _, h5⟩ := iu.shape h (by decide) fF;injection e with e1 e2 e3;subst e1 e2 e3;obtain ⟨b, off, e, hc⟩ := h5 (by omega);refine ⟨b, off, e, ?_, ?_, ?_, ?_⟩
 ·
  have := hc j hj 0 _ rfl; rwa [bp] at this
 ·
  exact hc j hj 1 _ rfl
 ·
  exact hc j hj 2 _ rfl
 exact hc j hj 3 _ rfl
theorem Gs : (Tryz.prog.info? 49).map (fun i => (i.zero, i.size, i.bytes)) = some (some (.agg #[.int .u64 0, .int .u32 0, .int .i64 0, .int .i64 0]), 4, 32) := by kernel_rfl
theorem yE : xj Tryz.prog 33 49 4 32 := by
 obtain ⟨i, h1, h2, h3, h4⟩ := cn Gs;exact ⟨de, by decide, i, _, h1, h2, h3, h4, rfl⟩
def zU (l : List It) : List Value := l.flatMap gW
theorem xl (l : List It) (k : Nat) : zU (l.take k) = (zU l).take (k * 4) := Po 4 gW l wY k
theorem uR (l : List It) (k : Nat) : zU (l.drop k) = (zU l).drop (k * 4) := Pp 4 gW l wY k
theorem zu (l m : List It) : zU (l ++ m) = zU l ++ zU m := by simp [zU]
theorem xM (x : It) : zU [x] = gW x := by simp [zU]
theorem uO (x : It) (l : List It) : zU (x :: l) = gW x ++ zU l := rfl
theorem yF (l : List It) : (zU l).length = l.length * 4 := yS 4 gW l (fun x _ => wY x)
theorem zn (l : List It) : ∀ u ∈ zU l, u.oneCell' = true := by
 intro u hu;obtain ⟨x, _, hx⟩ := List.mem_flatMap.1 hu;simp [gW] at hx;rcases hx with rfl | rfl | rfl | rfl <;> rfl
theorem tK {w : World} {v : Value} {l : List It} (h : iP w v l) : Rd w 4 v l.length (zU l) := h.2
theorem yj {w : World} {v : Value} {l : List It} {n : Nat} (h : Rd w 4 v n (zU l)) : iP w v l := by
 have e : l.length = n := by
  have := h.1;rw [yF] at this;omega
 refine ⟨fun x _ => wY x, ?_⟩;rw [e]; exact h
abbrev fc (w : World) (base : Nat) (v : Value) (l : List It) : Prop := w.ownsRow base 49 4 v l.length (zU l)
theorem yI {w : World} {base n : Nat} {v : Value} {l : List It} {xs : List Value} (h : w.ownsRow base 49 4 v n xs) (e : xs = zU l) : fc w base v l := by
 subst e;have : l.length = n := by have := h.1; rw [yF] at this; omega
 unfold fc; rw [this]; exact h
theorem fc.rd {w : World} {base : Nat} {v : Value} {l : List It} (h : fc w base v l) : iP w v l := yj (zr h)
theorem BL {n cap : Nat} (h : n ≤ cap) (h' : cap ≤ maxLen) : n ≤ 9223372036854775807 := by unfold maxLen at h'; omega
theorem Ps (v : Value) (l : List It) (w : World) (h : iP w v l) :
  Calls Tryz.prog 138 #[v] w fun e w' => e = .returned (.bool (BK l)) ∧ Below w.heap.size w w' := by
 obtain ⟨a, cap, rfl, h1, h2⟩ := h.shape;have HT := zh (show mg l l.length → BK l = true from fun h => (uh l).2 h);have HF := zh (show ∀ j, j + 1 < l.length → _ from fun j => UG (l := l) (j := j));have hm := BL h1 h2;generalize hn : l.length = n at *;have Hr := zh h;clear h h1 h2 hn
 go_enter Tryz.func138, Tryz.ntmps138
 go_wp2_with fail
 go_loopw [7] (fun i wr => ∃ k : Nat, k ≤ n ∧ i = .int .i64 (k : Int) ∧ mg l k ∧ Below w.heap.size w wr) (fun i _ => n - (intOf i).toNat)
 case atStart => exact ⟨0, au _, rfl, fun j hj => absurd hj (by omega), aj _ _⟩
 obtain ⟨k, hk, rfl, nR, hb⟩ := eT;have C0 := zh nR;have Hb := zh hb;have hB := hb.size;clear nR hb
 by_cases hlt : k < n
 ·
  have hr := Hr.out.below Hb.out;obtain ⟨b, off, rfl, c0, c1, c2, c3⟩ := hr.at hlt
  by_cases h0 : k = 0
  ·
   subst h0;rw [Nat.zero_mul, bp] at c0 c1 c2 c3;clear hr;go_wp2_with fail
   go_quiet (fail)
   go_wp2_with fail;exact ⟨⟨1, by omega, by go_num, fun j hj => absurd hj (by omega), aR (Hb.out.alloc hB _) _⟩, by simp [intOf]; omega⟩
  obtain ⟨j, rfl⟩ : ∃ j, k = j + 1 := ⟨k - 1, by omega⟩
  have hd : decide ((0 : Int) < ((j + 1 : Nat) : Int)) = true := by simp
  obtain ⟨_, _, e, d0, _⟩ := hr.at (show j < n by omega);injection e with e; injection e with e1 e2; subst e1 e2;generalize e1 : (dS l (j + 1)).key = x at *;generalize e2 : (dS l j).key = y at *;generalize (dS l (j + 1)).ck = x1 at *;generalize (dS l (j + 1)).off = x2 at *;generalize (dS l (j + 1)).size = x3 at *;have E := zh (And.intro e1 e2);clear e1 e2 h0 hr;have hne : ∀ o n, ((wr.alloc o).drewN n).cell? ⟨b, off + j * 4, none⟩ = some (.int .u64 y) := fun o n => Below.keeps (aR ((aj _ _).alloc (ai _) o) n) _ _ d0
  have i1 : (j : Int) + 1 < (n : Int) := by omega
  have i2 : (j : Int) < (n : Int) := by omega
  have j1 : IntKind.i64.wrap (j : Int) = (j : Int) := aH _ (by omega);go_wp2_with fail
  go_quiet (fail)
  clear j1 i1 i2;go_wp2_with fail
  ·
   have hle : x ≤ y := by assumption
   go_ret;exact ⟨zE (HF.out j hlt (by rw [E.out.1, E.out.2]; exact hle)).symm, aR (Hb.out.alloc hB _) _⟩
  have hxy : y < x := by assumption
  refine ⟨⟨j + 1 + 1, by omega, by go_num, C0.out.succ (fun i e => ?_), aR (Hb.out.alloc hB _) _⟩, by simp [intOf]; omega⟩;obtain rfl : j = i := by omega
  rw [E.out.1, E.out.2]; exact hxy
 obtain rfl : k = n := by omega
 go_wp2_with fail;go_ret;exact ⟨zE (HT.out C0.out).symm, Hb.out⟩
end Go.Proofs.YtcgfilmmokmdjaaGreat
namespace Go.Proofs.YtcgfilmmokmdjaaGreat.UJ
def poly : Nat := 2197175160
def st (r : Nat) : Nat := if r % 2 = 1 then (r / 2) ^^^ poly else r / 2
def UK : Nat → Nat → Nat
 | 0, r => r
 | k + 1, r => st (UK k r)
def add (r : Nat) (x : UInt8) : Nat := UK 8 (r ^^^ x.toNat)
def ext (r : Nat) (l : List UInt8) : Nat := l.foldl add r
def sum (l : List UInt8) : Nat := 4294967295 - ext 4294967295 l
end Go.Proofs.YtcgfilmmokmdjaaGreat.UJ
namespace Go.Proofs.YtcgfilmmokmdjaaGreat
def Kn (l : List UInt8) (j : Nat) : UInt8 := l.getD j 0
def be (v n : Nat) : List UInt8 := (List.range n).map fun j => UInt8.ofNat (v / 2 ^ (8 * (n - 1 - j)))
def val (l : List UInt8) : Nat := l.foldl (fun n x => (n * 256 + x.toNat) % 18446744073709551616) 0
def le4 (c : Nat) : List UInt8 := [UInt8.ofNat c, UInt8.ofNat (c / 2 ^ 8), UInt8.ofNat (c / 2 ^ 16), UInt8.ofNat (c / 2 ^ 24)]
end Go.Proofs.YtcgfilmmokmdjaaGreat
namespace Go.Proofs.YtcgfilmmokmdjaaGreat
open Go.RowKit
theorem oD.gq {w : World} {v : Value} {l : List UInt8} (h : oD w v l) : ∃ a cap, v = .slice a l.length cap ∧ l.length ≤ cap ∧ cap ≤ maxLen := by
 obtain ⟨a, cap, h1, h2, h3, _⟩ := ik.shape h 0;exact ⟨a, cap, h1, h2, h3⟩
end Go.Proofs.YtcgfilmmokmdjaaGreat
namespace Go.Proofs.YtcgfilmmokmdjaaGreat
def ck (l : List UInt8) : List UInt8 := le4 (UJ.sum l)
end Go.Proofs.YtcgfilmmokmdjaaGreat
namespace Go.Proofs.YtcgfilmmokmdjaaGreat
open Go.RowKit
theorem zLz : (Tryz.prog.info? 5).map (fun i => (i.zero, i.size, i.bytes)) = some (some (.int .u8 0), 1, 1) := by kernel_rfl
theorem Nt : xj Tryz.prog 54 5 1 1 := by
 obtain ⟨i, h1, h2, h3, h4⟩ := cn zLz;exact ⟨Tryz.underlying54, by decide, i, _, h1, h2, h3, h4, rfl⟩
abbrev Nu (w : World) (base : Nat) (v : Value) (l : List UInt8) : Prop := w.ownsRow base 5 1 v l.length (l.map vh)
theorem zKt {w : World} {base n : Nat} {v : Value} {l : List UInt8} {xs : List Value} (h : w.ownsRow base 5 1 v n xs) (e : xs = l.map vh) : Nu w base v l := by
 subst e;have : l.length = n := by have := h.1; rw [aI] at this; omega
 unfold Nu; rw [this]; exact h
end Go.Proofs.YtcgfilmmokmdjaaGreat
namespace Go.Proofs.YtcgfilmmokmdjaaGreat
def Fits (x : It) : Prop := 0 ≤ x.key ∧ x.key < 18446744073709551616 ∧ 0 ≤ x.ck ∧ x.ck < 4294967296 ∧ 0 ≤ x.off ∧ x.off < 4294967296 ∧ 0 ≤ x.size ∧ x.size < 4294967296
structure Nd where
 key : Nat
 ck : Nat
 del : Bool
 data : List UInt8
 deriving DecidableEq
def Jt : Nd := ⟨0, 0, false, []⟩
instance : Inhabited Nd := ⟨Jt⟩
def Nd.Wf (x : Nd) : Prop := x.key < 18446744073709551616 ∧ x.ck < 4294967296
def Nd.ok (x : Nd) : Prop := x.data.length ≤ 4096 ∧ (x.del = true → x.data = [])
def oO (n : Nat) : Nat := (31 + n) / 8 * 8
theorem un (n : Nat) : 24 + n ≤ oO n ∧ oO n < 32 + n ∧ oO n % 8 = 0 := by unfold oO; omega
def zMC (x : Nd) : List UInt8 := [78, 165, if x.del then 1 else 0, 0] ++ be x.ck 4 ++ be x.key 8 ++ be x.data.length 4
def UL (x : Nd) : List UInt8 := zMC x ++ x.data
def zL7 (n : Nat) : List UInt8 := List.replicate n 0
def UM (x : Nd) : List UInt8 := UL x ++ ck (UL x) ++ zL7 (oO x.data.length - (24 + x.data.length))
def Fz (b : List UInt8) : Nat := val ((b.drop 16).take 4)
def Pu (b : List UInt8) : Prop := Kn b 0 = 78 ∧ Kn b 1 = 165 ∧ (Kn b 2).toNat ≤ 1 ∧ Kn b 3 = 0 ∧ Fz b ≤ 4096 ∧ (Kn b 2 = 1 → Fz b = 0)
instance (b : List UInt8) : Decidable (Pu b) := by unfold Pu; exact inferInstance
def zMP (b : List UInt8) : List UInt8 := (b.drop (24 + Fz b)).take (oO (Fz b) - (24 + Fz b))
structure NOk (b : List UInt8) : Prop where
 long : 20 ≤ b.length
 form : Pu b
 whole : oO (Fz b) ≤ b.length
 sum : ck (b.take (20 + Fz b)) = (b.drop (20 + Fz b)).take 4
 pad : (zMP b).all (· == 0) = true
end Go.Proofs.YtcgfilmmokmdjaaGreat
namespace Go.Proofs.YtcgfilmmokmdjaaGreat
open Go.RowKit
def eG (n : Nat) : Nat := if n ≤ 4096 then oO n else 0
theorem Kq {n : Nat} (h : n ≤ 4096) : eG n = oO n := by unfold eG; rw [ag h]
theorem xx (n : Nat) : eG n ≤ 4127 := by
 unfold eG
 split
 ·
  have := un n; omega
 omega
theorem t8 (n : Nat) (w : World) (h : n ≤ 1000000) : Calls Tryz.prog 53 #[.int .i64 (n : Int)] w fun e w' => e = .returned (.int .i64 ((eG n : Nat) : Int)) ∧ w = w' := by
 by_cases hn : n ≤ 4096
 ·
  have HS := zh (show ((eG n : Nat) : Int) = (20 + (n : Int) + 4 + 8 - 1) / 8 * 8 by unfold eG oO; rw [ag hn]; omega);have hd : decide ((4096 : Int) < (n : Int)) = false := by simp; omega
  have hd2 : decide ((n : Int) < 0) = false := by simp
  go_enter Tryz.func53, Tryz.ntmps53
  go_wp2_with fail;go_ret;exact ⟨wT (by rw [HS.out]), rfl⟩
 have HS := zh (show eG n = 0 by unfold eG; rw [ah hn]);have hd : decide ((4096 : Int) < (n : Int)) = true := by simp; omega
 have hd2 : decide ((n : Int) < 0) = false := by simp
 go_enter Tryz.func53, Tryz.ntmps53
 go_wp2_with fail;go_ret;exact ⟨wT (by rw [HS.out]; rfl), rfl⟩
theorem UN (n : Nat) (w : World) (h : n ≤ 1000000) : Calls Tryz.prog 28 #[.int .i64 (n : Int)] w fun e w' => e = .returned (.int .i64 ((eG n : Nat) : Int)) ∧ w = w' := by
 by_cases hn : n ≤ 4096
 ·
  have HS := zh (show ((eG n : Nat) : Int) = (20 + (n : Int) + 4 + 8 - 1) / 8 * 8 by unfold eG oO; rw [ag hn]; omega);have hd : decide ((4096 : Int) < (n : Int)) = false := by simp; omega
  have hd2 : decide ((n : Int) < 0) = false := by simp
  go_enter Tryz.func28, Tryz.ntmps28
  go_wp2_with fail;go_ret;exact ⟨wT (by rw [HS.out]; omega), rfl⟩
 have HS := zh (show eG n = 0 by unfold eG; rw [ah hn]);have hd : decide ((4096 : Int) < (n : Int)) = true := by simp; omega
 have hd2 : decide ((n : Int) < 0) = false := by simp
 go_enter Tryz.func28, Tryz.ntmps28
 go_wp2_with fail;go_ret;exact ⟨wT (by rw [HS.out]; rfl), rfl⟩
theorem uY {w : World} {B : Nat} {e e' : TypeId} {sz n p : Nat} {v : Value} {xs : List Value} {cs : Array Value} (h : w.ownsRow B e sz v n xs) (hp : w.heap[p]? = some (.cells cs e' (0, 0))) (hne : e ≠ e') : v.ownBlock ≠ some p := fun e1 => by
 obtain ⟨c, fz, h1⟩ := Lib.ownsRow_kind h p e1;rw [h1] at hp;injection hp with hp;injection hp with _ hp;exact hne hp
theorem zE0 {w : World} {B : Nat} {e : TypeId} {sz n : Nat} {v : Value} {xs : List Value} (h : w.ownsRow B e sz v n xs) {p : Addr} (hne : v.ownBlock ≠ some p.block) (u : Value) : (w.setCell p u).ownsRow B e sz v n xs := by
 refine ⟨h.1, ?_⟩;rcases h.2 with h0 | ⟨g, cap, cur, rfl, hb, hg, rest⟩
 ·
  exact .inl h0
 refine .inr ⟨g, cap, cur, rfl, hb, ?_, rest⟩;rw [Below.heap_setCell w p u g (fun e => hne (by rw [← e]; rfl))]; exact hg
structure Wri (w : World) (p B : Nat) (l : List UInt8) : Prop where
 h : ∃ v, w.heap[p]? = some (.cells #[v] 203 (0, 0)) ∧ Nu w B v l
def le (v n : Nat) : List UInt8 := (List.range n).map fun j => UInt8.ofNat (v / 2 ^ (8 * j))
theorem zKA (v : Value) (l : List It) (w : World) (h : iP w v l) :
  Calls Tryz.prog 178 #[v, .func (.func 140) #[] #[]] w fun e w' => (∃ k : Int, e = .returned (.int .i64 k) ∧ decide (0 ≤ k) = !l.all okB) ∧ Below w.heap.size w w' := by
 obtain ⟨a, cap, rfl, h1, h2⟩ := h.shape;have HT := zh (show (∀ j, j < l.length → _) → _ from kH (l := l) (p := okB));have HF := zh (show ∀ j, j < l.length → _ → _ from fun j => tu (l := l) (p := okB) (j := j));have hm := BL h1 h2;generalize hn : l.length = n at *;have Hr := zh h;clear h h1 h2 hn
 go_enter Tryz.func178, Tryz.ntmps178
 go_wp2_with fail
 go_loopw [8] (fun i wr => ∃ k : Nat, k ≤ n ∧ i = .int .i64 (k : Int) ∧ (∀ j, j < k → okB (dS l j) = true) ∧ Below w.heap.size w wr) (fun i _ => n - (intOf i).toNat)
 case atStart => exact ⟨0, au _, rfl, fun j hj => absurd hj (by omega), aj _ _⟩
 obtain ⟨k, hk, rfl, hok, hb⟩ := eT;have lG := zh hok;have Hb := zh hb;have hB := hb.size;clear hok hb
 by_cases hlt : k < n
 ·
  have hr := Hr.out.below Hb.out;obtain ⟨b, off, rfl, c0, c1, c2, c3⟩ := hr.at hlt;have HV := zh fun w => zC1 (dS l k).key (dS l k).ck (dS l k).off (dS l k).size w
  generalize hx : dS l k = x at *;have EX := zh hx;clear hx;clear hr;go_wp2_with fail;refine (HV.out _).mono ?_; rintro e w1 ⟨rfl, dW⟩;have lS := zh (zA Hb.out dW)
  cases hx : okB x
  ·
   have HX := zh hx;clear dW hx;go_wp2_with fail;go_ret;refine ⟨⟨k, rfl, ?_⟩, lS.out⟩;rw [HF.out k hlt (by rw [EX.out]; exact HX.out)]; simp
  have HX := zh hx;clear dW hx;go_wp2_with fail;refine ⟨⟨k + 1, by omega, by go_num, fun j hj => ?_, lS.out⟩, by simp [intOf]; omega⟩
  by_cases e : j = k
  ·
   rw [e, EX.out]; exact HX.out
  exact lG.out j (by omega)
 obtain rfl : k = n := by omega
 go_wp2_with fail;go_ret;refine ⟨⟨-1, rfl, ?_⟩, Hb.out⟩;rw [HT.out lG.out]; rfl
theorem zIW (v : Value) (l : List It) (w : World) (h : iP w v l) :
  Calls Tryz.prog 139 #[v, .func (.func 140) #[] #[]] w fun e w' => e = .returned (.bool (!l.all okB)) ∧ Below w.heap.size w w' := by
 have HA := zh (zKA v l w h);obtain ⟨a, cap, rfl, h1, h2⟩ := h.shape;clear h h1 h2
 go_enter Tryz.func139, Tryz.ntmps139
 go_wp2_with fail;refine HA.out.mono ?_; rintro e w1 ⟨⟨k, rfl, hk⟩, dW⟩;have Hk := zh hk;have lS := zh dW;clear hk dW;go_wp2_with fail;go_ret;exact ⟨zE Hk.out, lS.out⟩
theorem UO (v : Value) (l : List It) (w : World) (h : iP w v l) :
  Calls Tryz.prog 99 #[v] w fun e w' => e = .returned (.bool (xp l)) ∧ Below w.heap.size w w' := by
 have HA := zh (Ps v l w h);have HC := zh (fun w h => zIW v l w h);have Hr := zh h;obtain ⟨a, cap, rfl, h1, h2⟩ := h.shape;clear h h1 h2
 go_enter Tryz.func99, Tryz.ntmps99
 go_wp2_with fail;refine HA.out.mono ?_; rintro e w1 ⟨rfl, dW⟩;have lS := zh dW
 cases hab : BK l
 ·
  have HF := zh (UH hab);clear dW hab;go_wp2_with fail;go_ret;exact ⟨zE HF.out.symm, lS.out⟩
 have HF := zh (show xp l = l.all okB by unfold xp; rw [hab]; rfl);clear dW hab;go_wp2_with fail;refine (HC.out w1 (Hr.out.below lS.out)).mono ?_; rintro e w2 ⟨rfl, ez⟩;have Cn := zh (zA lS.out ez);clear ez;go_wp2_with fail;go_ret;exact ⟨zE (HF.out.symm), Cn.out⟩
theorem zIR (v : Value) (l : List It) (w : World) (h : iP w v l) :
  Calls Tryz.prog 161 #[v] w fun e w' => e = .returned (.bool (xp l)) ∧ Below w.heap.size w w' := by
 obtain ⟨a, cap, rfl, h1, h2⟩ := h.shape;have HT := zh (show mg l l.length → (∀ j, j < l.length → okB (dS l j) = true) → xp l = true from zHn);have Pv := zh (show ∀ j, j + 1 < l.length → (dS l (j + 1)).key ≤ (dS l j).key → xp l = false from fun j h1 h2 => UH (UG h1 h2));have Nw := zh (show ∀ j, j < l.length → okB (dS l j) = false → xp l = false from fun j => zKg (l := l) (j := j));have hm := BL h1 h2;generalize hn : l.length = n at *;have Hr := zh h;clear h h1 h2 hn
 go_enter Tryz.func161, Tryz.ntmps161
 go_wp2_with fail
 go_loopw [3] (fun i wr => ∃ k : Nat, k ≤ n ∧ i = .int .i64 (k : Int) ∧ mg l k ∧ (∀ j, j < k → okB (dS l j) = true) ∧ Below w.heap.size w wr) (fun i _ => n - (intOf i).toNat)
 case atStart => exact ⟨0, au _, rfl, fun j hj => absurd hj (by omega), fun j hj => absurd hj (by omega), aj _ _⟩
 obtain ⟨k, hk, rfl, nR, hok, hb⟩ := eT;have C0 := zh nR;have lG := zh hok;have Hb := zh hb;have hB := hb.size;clear nR hok hb
 by_cases hlt : k < n
 ·
  have hr := Hr.out.below Hb.out;obtain ⟨b, off, rfl, c0, c1, c2, c3⟩ := hr.at hlt;obtain ⟨r, Ex⟩ : ∃ r, okB (dS l k) = r := ⟨_, rfl⟩
  have HV := zh fun w => UI (dS l k).key (dS l k).ck (dS l k).off (dS l k).size w
  rw [show okB ⟨(dS l k).key, (dS l k).ck, (dS l k).off, (dS l k).size⟩ = r from Ex] at HV;have HR := zh Ex;clear Ex;have f1 := zB c1;have f2 := zB c2;have f3 := zB c3;have i1 : (k : Int) < (n : Int) := by omega
  have fU := zh (Nw.out k hlt);rw [HR.out] at fU
  cases r
  ·
   have f0 := zB c0;generalize dS l k = x at *;clear c0 c1 c2 c3 hr;go_wp2_with fail;refine zC (by kernel_rfl) (by kernel_rfl) ?_
   repeat (go_big_quiet_step ((exact zG (HV.out _))))
   refine aC ?_;intro _ dY;obtain ⟨q, dY⟩ := dY;subst dY;go_wp2_with fail;go_ret;exact ⟨zE (fU.out (by first | trivial | rfl)).symm, zA Hb.out q.h⟩
  have HK := zh (show ∀ j, j < k + 1 → okB (dS l j) = true from fun j hj => by
   by_cases e : j = k
   ·
    rw [e]; exact HR.out
   exact lG.out j (by omega))
  by_cases h0 : k = 0
  ·
   subst h0;rw [Nat.zero_mul, bp] at c0 f1 f2 f3;have f0 := zB c0;clear c0 c1 c2 c3 hr;generalize dS l 0 = x at *;go_wp2_with fail;refine zC (by kernel_rfl) (by kernel_rfl) ?_
   repeat (go_big_quiet_step ((exact zG (HV.out _))))
   refine aC ?_;intro _ dY;obtain ⟨q, dY⟩ := dY;subst dY;go_wp2_with fail;exact ⟨⟨1, by omega, by go_num, fun j hj => absurd hj (by omega), HK.out, zA Hb.out q.h⟩, by simp [intOf]; omega⟩
  obtain ⟨j, rfl⟩ : ∃ j, k = j + 1 := ⟨k - 1, by omega⟩
  have hd : decide ((0 : Int) < ((j + 1 : Nat) : Int)) = true := by simp
  have f0 := zB c0;obtain ⟨_, _, e, d0, _⟩ := hr.at (show j < n by omega);injection e with e; injection e with e1 e2; subst e1 e2;have g0 := zB d0;have C2 := zh (Pv.out j hlt)
  have HK3 := zh (show (dS l j).key < (dS l (j + 1)).key → mg l (j + 1 + 1) from fun h => C0.out.succ fun i e => by
   obtain rfl : j = i := by omega
   exact h)
  clear c0 c1 c2 c3 hr d0;generalize dS l (j + 1) = x at *;generalize dS l j = y at *;have i2 : (j : Int) < (n : Int) := by omega
  have i3 : (j : Int) + 1 < (n : Int) := by omega
  have j1 : IntKind.i64.wrap (j : Int) = (j : Int) := aH _ (by omega);go_wp2_with fail;refine zC (by kernel_rfl) (by kernel_rfl) ?_
  repeat (go_big_quiet_step ((exact zG (HV.out _))))
  refine aC ?_;intro _ dY;obtain ⟨q, dY⟩ := dY;subst dY;clear i2 i3 j1;go_wp2_with fail
  ·
   have hle : x.key ≤ y.key := by assumption
   go_ret;exact ⟨zE (C2.out hle).symm, zA Hb.out q.h⟩
  have hxy : y.key < x.key := by assumption
  exact ⟨⟨j + 1 + 1, by omega, by go_num, HK3.out hxy, HK.out, zA Hb.out q.h⟩, by simp [intOf]; omega⟩
 obtain rfl : k = n := by omega
 go_wp2_with fail;go_ret;exact ⟨zE (HT.out C0.out lG.out).symm, Hb.out⟩
end Go.Proofs.YtcgfilmmokmdjaaGreat
namespace Go.Proofs.YtcgfilmmokmdjaaGreat
def ins : List It → It → List It
 | [], x => [x]
 | y :: r, x => if y.key < x.key then y :: ins r x else if y.key = x.key then x :: r else x :: y :: r
def fw (l : List It) : List It := l.foldl ins []
theorem Nx : ∀ (out : List It) (x : It) (k : Nat), k ≤ out.length → (∀ j, j < k → (dS out j).key < x.key) → (k < out.length → x.key ≤ (dS out k).key) →
  ins out x = out.take k ++ x :: out.drop (if k < out.length ∧ (dS out k).key = x.key then k + 1 else k)
 | [], x, k, hk, _, _ => by
  obtain rfl : k = 0 := by simpa using hk
  simp [ins]
 | y :: r, x, 0, _, _, h2 => by
  have h := h2 (by simp);have e0 : dS (y :: r) 0 = y := rfl;rw [e0] at h;unfold ins;rw [ah (by omega)]
  by_cases e : y.key = x.key
  ·
   rw [ag e, ag ⟨by simp, by rw [e0]; exact e⟩]; simp
  rw [ah e, ah (fun h => e (by rw [e0] at h; exact h.2))]; simp
 | y :: r, x, k + 1, hk, h1, h2 => by
  have e0 : dS (y :: r) 0 = y := rfl;have hs : ∀ j, dS (y :: r) (j + 1) = dS r j := fun j => rfl
  unfold ins;rw [ag (by have := h1 0 (by omega); rwa [e0] at this)];rw [Nx r x k (by simpa using hk) (fun j hj => by have := h1 (j + 1) (by omega); rwa [hs] at this) (fun hj => by have := h2 (by simpa using hj); rwa [hs] at this)];rw [hs]
  by_cases e : k < r.length ∧ (dS r k).key = x.key
  ·
   rw [ag e, ag ⟨by simpa using e.1, e.2⟩]; simp
  rw [ah e, ah (fun h => e ⟨by simpa using h.1, h.2⟩)]; simp
theorem vQ (x : It) : ∀ out : List It, (ins out x).length ≤ out.length + 1
 | [] => by simp [ins]
 | y :: r => by
  have := vQ x r;unfold ins
  split
  ·
   simp; omega
  split <;> simp
theorem UP : fw [] = [] := rfl
theorem Pw {l : List It} {j : Nat} (h : j < l.length) : fw (l.take (j + 1)) = ins (fw (l.take j)) (dS l j) := by
 unfold fw;rw [xB h, dg]; rfl
theorem vB (l : List It) : ∀ j, j ≤ l.length → (fw (l.take j)).length ≤ j
 | 0, _ => by simp [fw]
 | j + 1, h => by
  rw [Pw (by omega)];have := vQ (dS l j) (fw (l.take j));have := vB l j (by omega);omega
theorem yU (l : List It) : (fw l).length ≤ l.length := by
 have := vB l l.length (ai _)
 rwa [ct] at this
theorem ki {p : It → Prop} (x : It) (hx : p x) : ∀ out : List It, (∀ y ∈ out, p y) → ∀ y ∈ ins out x, p y
 | [], _ => by simp [ins]; exact hx
 | y :: r, h => by
  have hr := ki x hx r (fun z hz => h z (by simp [hz]));intro z hz;unfold ins at hz
  split at hz
  ·
   rcases List.mem_cons.1 hz with rfl | hz
   ·
    exact h _ (by simp)
   exact hr z hz
  split at hz
  ·
   rcases List.mem_cons.1 hz with rfl | hz
   ·
    exact hx
   exact h z (by simp [hz])
  rcases List.mem_cons.1 hz with rfl | hz
  ·
   exact hx
  exact h z hz
theorem UQ {p : It → Prop} : ∀ (l out : List It), (∀ y ∈ l, p y) → (∀ y ∈ out, p y) → ∀ y ∈ l.foldl ins out, p y
 | [], _, _, h => h
 | x :: l, out, hl, h => UQ l (ins out x) (fun y hy => hl y (by simp [hy])) (ki x (hl x (by simp)) out h)
theorem UR {p : It → Prop} {l : List It} (h : ∀ y ∈ l, p y) : ∀ y ∈ fw l, p y := UQ l [] h (fun _ hy => by cases hy)
def lT : List It → Prop
 | [] => True
 | [_] => True
 | x :: y :: r => x.key < y.key ∧ lT (y :: r)
theorem xX : ∀ l : List It, lT l ↔ jZ l
 | [] => ⟨fun _ _ h => by simp at h, fun _ => trivial⟩
 | [_] => ⟨fun _ _ h => by simp at h, fun _ => trivial⟩
 | x :: y :: r => by
  unfold lT;rw [xX (y :: r)]
  constructor
  ·
   rintro ⟨h1, h2⟩ j hj
   cases j with
   | zero => exact h1
   | succ j => exact h2 j (by simpa using hj)
  intro h;exact ⟨h 0 (by simp), fun j hj => h (j + 1) (by simpa using hj)⟩
theorem lT.tail {x : It} {r : List It} (h : lT (x :: r)) : lT r := by
 cases r with
 | nil => trivial
 | cons y r => exact h.2
theorem lT.cons {x : It} {r : List It} (h : lT r) (hx : ∀ y, r.head? = some y → x.key < y.key) : lT (x :: r) := by
 cases r with
 | nil => trivial
 | cons y r => exact ⟨hx y rfl, h⟩
theorem zJD (x y : It) (r : List It) (z : It) (h : (ins r x).head? = some z) (hx : y.key < x.key) (hr : ∀ y', r.head? = some y' → y.key < y'.key) : y.key < z.key := by
 cases r with
 | nil => simp [ins] at h; subst h; exact hx
 | cons u r =>
  unfold ins at h
  split at h
  ·
   simp at h; subst h; exact hr _ rfl
  split at h <;> (simp at h; subst h; exact hx)
theorem qP (x : It) : ∀ out : List It, lT out → lT (ins out x)
 | [], _ => trivial
 | y :: r, h => by
  unfold ins
  split
  ·
   rename_i hlt;refine (qP x r h.tail).cons fun z hz => zJD x y r z hz hlt fun y' Co => ?_
   cases r with
   | nil => cases Co
   | cons u r => simp at Co; subst Co; exact h.1
  split
  ·
   rename_i h1 h2;refine h.tail.cons fun z hz => ?_
   cases r with
   | nil => cases hz
   | cons u r => simp at hz; subst hz; rw [← h2]; exact h.1
  exact ⟨by omega, h⟩
theorem US : ∀ (l out : List It), lT out → lT (l.foldl ins out)
 | [], _, h => h
 | x :: l, out, h => US l (ins out x) (qP x out h)
theorem wi (l : List It) : jZ (fw l) := (xX _).1 (US l [] trivial)
theorem Px (x : It) : ∀ out : List It, (∀ y ∈ out, y.key < x.key) → ins out x = out ++ [x]
 | [], _ => rfl
 | y :: r, h => by
  unfold ins;rw [ag (h y (by simp)), Px x r (fun z hz => h z (by simp [hz]))]; rfl
theorem ko {l : List It} (h : jZ l) : ∀ j, j ≤ l.length → fw (l.take j) = l.take j
 | 0, _ => by simp [fw]
 | j + 1, hj => by
  rw [Pw (by omega), ko h j (by omega), Px, ← xB (by omega)];intro y hy;obtain ⟨i, hi, rfl⟩ := vw hy;rw [ay] at hi;rw [wX (by omega)];exact h.mono (by omega) (by omega)
theorem yK {l : List It} (h : jZ l) : fw l = l := by
 have := ko h l.length (ai _)
 rwa [ct] at this
def fD (l : List It) (key : Int) : Option It := l.find? fun x => x.key == key
def Place (l : List It) (key : Int) (r : Nat) : Prop := r ≤ l.length ∧ (∀ j, r = j + 1 → (dS l j).key < key) ∧ (r < l.length → key ≤ (dS l r).key)
theorem Place.lt {l : List It} {key : Int} {r : Nat} (h : Place l key r) (ha : jZ l) {j : Nat} (hj : j < r) : (dS l j).key < key := by
 obtain ⟨h1, h2, _⟩ := h;have h3 := h2 (r - 1) (by omega)
 by_cases e : j = r - 1
 ·
  rw [e]; exact h3
 have := ha.mono (show j < r - 1 by omega) (by omega);omega
theorem zLP {l : List It} {key : Int} : ∀ {r : Nat}, r < l.length → (dS l r).key = key → (∀ j, j < r → (dS l j).key ≠ key) → fD l key = some (dS l r) := by
 induction l with
 | nil => intro r h; simp at h
 | cons x l ih =>
  intro r hr hk hn;unfold fD;rw [List.find?_cons]
  cases r with
  | zero =>
   have : x.key = key := hk;rw [show (x.key == key) = true from beq_iff_eq.2 this]; rfl
  | succ r =>
   have h0 : x.key ≠ key := hn 0 (by omega);rw [show (x.key == key) = false from beq_eq_false_iff_ne.2 h0];exact ih (r := r) (by simpa using hr) hk (fun j hj => hn (j + 1) (by omega))
theorem zIP {l : List It} {key : Int} (h : ∀ j, j < l.length → (dS l j).key ≠ key) : fD l key = none := by
 unfold fD;rw [List.find?_eq_none];intro x hx;obtain ⟨j, hj, rfl⟩ := vw hx
 simpa using h j hj
theorem Place.found {l : List It} {key : Int} {r : Nat} (h : Place l key r) (ha : jZ l) (hr : r < l.length) (hk : (dS l r).key = key) : fD l key = some (dS l r) :=
 zLP hr hk fun j hj => by have := h.lt ha hj; omega
theorem Place.not {l : List It} {key : Int} {r : Nat} (h : Place l key r) (ha : jZ l) (hk : r < l.length → (dS l r).key ≠ key) : fD l key = none :=
 zIP fun j hj => by
  by_cases e : j < r
  ·
   have := h.lt ha e; omega
  by_cases e2 : j = r
  ·
   rw [e2]; exact hk (by omega)
  have h1 := h.2.2 (by omega);have h2 := ha.mono (show r < j by omega) hj;omega
end Go.Proofs.YtcgfilmmokmdjaaGreat
namespace Go.Proofs.YtcgfilmmokmdjaaGreat
open Go.RowKit
theorem Py {wo : World} {base : Nat} {a oa : Option Addr} {oc m : Nat} {xs : List Value} (h : ∀ z, a = some z → wo.heap.size ≤ z.block) (ho : wo.ownsRow base 49 4 (.slice oa m oc) m xs) (k : Nat) :
  ∀ z, a = some z → some z.block ≠ (Value.slice oa k oc).ownBlock := by
 intro z hz e;have h1 := h z hz;have h2 := ho.lt z.block (by rw [e]; cases oa <;> rfl);omega
theorem qA (v : Value) (l : List It) (w : World) (h : iP w v l) (hs : l.length ≤ 1000000) :
  Calls Tryz.prog 164 #[v] w fun e w' => ∃ v', e = .returned v' ∧ fc w' w.heap.size v' (fw l) ∧ Below w.heap.size w w' := by
 obtain ⟨a, cap, rfl, _, _⟩ := h.shape;have HS := zh (show ∀ j, j < l.length → _ from fun j => Pw (l := l) (j := j));have HL := zh (vB l);have HE := zh (show fw (l.take l.length) = fw l by rw [ct]);generalize hn : l.length = n at *;have Hr := zh h;clear h hn
 go_enter Tryz.func164, Tryz.ntmps164
 go_wp2_with fail
 go_loopw [3, 4] (fun ov iv wr => ∃ j : Nat, iv = .int .i64 (j : Int) ∧ j ≤ n ∧ fc wr w.heap.size ov (fw (l.take j)) ∧ Below w.heap.size w wr) (fun _ iv _ => n - (intOf iv).toNat)
 case atStart => exact ⟨0, rfl, au _, aV _ _ _ _, aj _ _⟩
 obtain ⟨j, rfl, hj, hown, hb⟩ := eT;have hB := hb.size;obtain ⟨oa, oc, rfl, Ap, Cp, oP⟩ := zO hown;have Kr := zh oP;have Hb := zh hb;have gK := zh (show wr.ownsRow w.heap.size 49 4 _ (fw (l.take j)).length (zU (fw (l.take j))) from hown);clear hown hb oP
 by_cases hlt : j < n
 ·
  have hL := HL.out j hj;have Pz := zh (HS.out j hlt);generalize fw (l.take j) = o at *;generalize hm : o.length = m at *;have HM := zh hm;clear hm;obtain ⟨b, off, rfl, c0, c1, c2, c3⟩ := Hr.out.at hlt;generalize dS l j = x at *;have nw := zh (fun w' (h : Below w.heap.size w w') => And.intro (Below.keeps h _ _ c0) (And.intro (Below.keeps h _ _ c1) (And.intro (Below.keeps h _ _ c2) (Below.keeps h _ _ c3))));have c0 := Below.keeps Hb.out _ _ c0;clear c1 c2 c3;obtain ⟨wo, ewo⟩ : ∃ wo : World, wo = wr := ⟨_, rfl⟩
  subst ewo;go_wp2_with fail
  go_loopw [5] (fun kv w2 => ∃ k : Nat, kv = .int .i64 (k : Int) ∧ k ≤ m ∧ (∀ i, i < k → (dS o i).key < x.key) ∧ Below wo.heap.size wo w2) (fun kv _ => m - (intOf kv).toNat)
  case atStart => exact ⟨0, rfl, au _, fun i hi => absurd hi (by omega), aj _ _⟩
  obtain ⟨k, rfl, hk, hkey, ez⟩ := eT;have Gt := zh hkey;have Cn := zh ez;have d0 := Below.keeps ez _ _ c0;clear hkey ez;have i1 : (j : Int) < (n : Int) := by omega
  by_cases Gu : k < m
  ·
   have ho := (yj (zr gK.out)).below Cn.out;obtain ⟨bo, oo, rfl, e0, _⟩ := ho.at Gu;clear ho;have i2 : (k : Int) < (m : Int) := by omega
   generalize hy : (dS o k).key = y at *;have HY := zh hy;clear hy
   by_cases DX : y < x.key
   ·
    have hyd : decide (y < x.key) = true := aF DX;go_wp2_with fail
    go_quiet (fail)
    clear i1 i2;go_wp2_with fail
    exact ⟨⟨k + 1, by go_num, by omega, fun i hi => by
     by_cases e : i = k
     ·
      rw [e, HY.out]; exact DX
     exact Gt.out i (by omega), aR Cn.out _⟩, by simp [intOf]; omega⟩
   have hyd : decide (y < x.key) = false := aD DX;have Ey := zh (Nx o x k (by rw [HM.out]; exact hk) Gt.out (by rw [HY.out]; omega));obtain ⟨sa, sc, hrun, hsl, hsb⟩ := vR yE (tK ((yj (zr gK.out)).below Cn.out)) k hk;rw [← uR] at hsl;obtain ⟨d, hd, oE, hd2⟩ : ∃ d, m - k = d ∧ 0 < d ∧ d ≤ m := ⟨m - k, rfl, by omega, by omega⟩
   rw [hd] at hsl hrun;have HD := zh hd;have PA := zh hsl;have sD := zh (fun nq => db (base := wr.heap.size) (e := 49) (size := 4) (wr.drewN nq) #[] 0 (ai _) (by decide) rfl);clear hsl hsb hd;go_wp2_with fail
   go_quiet (fail)
   clear i1 i2;go_wp2_with (at_builtin; go_must (refine zd rfl (.tmp 32) (.tmp 35) 33 rfl yE wr.heap.size rfl (sD.out nq) rfl ((PA.out.below (aR (aj _ _) nq)).alloc _) (zn _) (by unfold maxLen; omega) (by omega) (by simp) ?_); intro v3 w3 d_ eW mH; clear mH);rw [aJ, bU] at d_;have eU := zM ((aR (aj wr.heap.size wr) nq).alloc (ai _) _) (sD.out nq) (by simp) eW;obtain ⟨ra, rc, rfl, PB, rV, Ju⟩ := zO d_;obtain ⟨rb, PD, rfl, g0, _⟩ := (yj (zr d_)).at oE;have UT := (d_.lt rb rfl).1;simp only [xg, Nat.zero_mul, bp, HY.out] at g0;have k0 := Below.keeps eU _ _ d0;have Gv := zh (zr d_);have Gw := zh eU;have A_ : decide ((0 : Int) < (d : Int)) = true := by simp; omega
   have i1 : (j : Int) < (n : Int) := by omega
   clear d_ eW eU Ju hrun
   by_cases BM : y = x.key
   ·
    have Jv : (y == x.key) = true := beq_iff_eq.2 BM;obtain ⟨ta, tc, FA, Ks, Gx⟩ := vR yE Gv.out 1 oE;rw [show ((1 : Nat) : Int) = 1 from rfl] at FA;have Kt := zh Ks;have Ku := zh Gx;clear Ks Gx;go_wp2_with fail
    go_quiet (fail)
    go_wp2_with fail;obtain ⟨w4, iD⟩ : ∃ w4, w4 = w3.drewN nq := ⟨_, rfl⟩
    rw [← iD];have FB := zh (show Below wo.heap.size wo w4 by rw [iD]; exact aR (zA Cn.out Gw.out) nq)
    have Kv := zh (show Rd w4 4 (.slice ta (d - 1) tc) (d - 1) (zU (o.drop (k + 1))) by
     rw [iD, show k + 1 = k + 1 from rfl, ← bV, uR]; exact Kt.out.below (aR (aj _ _) nq))
    have Kw := zh (show ∀ z, ta = some z → wo.heap.size ≤ z.block from fun z hz => by
     obtain ⟨y', Co, e⟩ := Ku.out z hz
     injection Co with Co
     rw [← e, ← Co]; exact ak Cn.out.size UT)
    have C4 := zh (Py Kw.out gK.out k);have Kx := zh (show ins o x = o.take k ++ x :: o.drop (k + 1) by rw [Ey.out, ag ⟨by rw [HM.out]; exact Gu, HY.out.trans BM⟩]);have Ky := zh (show d - 1 ≤ m by omega);clear iD Gv Gw Kt Ku FA g0 k0 Jv BM;have Cq := yq (P := Tryz.prog) yE (n := m) Kr.out k (ak hk Ap);have pE := zh (zA Hb.out FB.out);have pF : w.heap.size ≤ w4.heap.size := pE.out.size;have iT := zh (vL (zH gK.out FB.out) k hk);have HT := zh (zn [x]);have hrl := Ky.out
    go_region_held3 (fun w' => w'.cell? ⟨b, off + j * 4, none⟩ = some (.int .u64 x.key) ∧ w'.cell? ⟨b, off + j * 4 + 1, none⟩ = some (.int .u32 x.ck) ∧ w'.cell? ⟨b, off + j * 4 + 2, none⟩ = some (.int .i64 x.off) ∧ w'.cell? ⟨b, off + j * 4 + 3, none⟩ = some (.int .i64 x.size))
     (first | exact nw.out _ pE.out.drew | exact nw.out _ (pE.out.drew.alloc pF _) | exact nw.out _ (zM (pE.out.drew.alloc pF _) ((iT.out.drew).alloc _) (by simp; omega) gM) | exact nw.out _ (zM (zM (pE.out.drew.alloc pF _) ((iT.out.drew).alloc _) (by simp; omega) gM) fC (ak (by simp; omega) gM.size) nS))
     (first | (refine ww (by rfl) _ _ _ (by rfl) yE w.heap.size (by rfl) ((iT.out.drew).alloc _) (by rfl) (Rd.new _ 4 (gW x) 49 1 rfl (by decide)) (by simpa [zU] using HT.out) (by unfold maxLen; omega) (by omega) (by simp; omega) ?_; intro v5 w5 fC gM Kz; clear Kz) | (refine ww (by rfl) _ _ _ (by rfl) yE w.heap.size (by rfl) fC (by rfl) (((Kv.out.drew).alloc _).grown gM C4.out) (zn _) (by unfold maxLen; omega) (by omega) (ak (by simp; omega) gM.size) ?_; intro v6 w6 jC nS KA; clear KA))
    have j_ : zU (o.take k) ++ gW x ++ zU (o.drop (k + 1)) = zU (fw (l.take (j + 1))) := by rw [Pz.out, Kx.out, zu, uO, bt]
    rw [xl] at j_;have sE := zh j_;have jG := zh (zM (zM (pE.out.drew.alloc pF _) ((iT.out.drew).alloc _) (by simp; omega) gM) fC (ak (by simp; omega) gM.size) nS);have mh := zh jC;clear j_ fC jC gM nS;go_wp2_with fail;exact ⟨⟨j + 1, by go_num, by omega, yI mh.out sE.out, jG.out⟩, by simp [intOf]; omega⟩
   have Jv : (y == x.key) = false := beq_eq_false_iff_ne.2 BM;go_wp2_with fail
   go_quiet (fail)
   go_wp2_with fail;obtain ⟨w4, iD⟩ : ∃ w4, w4 = w3.drewN nq := ⟨_, rfl⟩
   rw [← iD];have FB := zh (show Below wo.heap.size wo w4 by rw [iD]; exact aR (zA Cn.out Gw.out) nq)
   have Kv := zh (show Rd w4 4 _ d (zU (o.drop k)) by
    rw [iD]; exact Gv.out.below (aR (aj _ _) nq))
   have Kw := zh (show ∀ z, some (⟨rb, PD, none⟩ : Addr) = some z → wo.heap.size ≤ z.block from fun z hz => by
    injection hz with hz
    rw [← hz]; exact ak Cn.out.size UT)
   have C4 := zh (Py Kw.out gK.out k);have Kx := zh (show ins o x = o.take k ++ x :: o.drop k by rw [Ey.out, ah (fun h => BM (HY.out.symm.trans h.2))]);have Ky := zh (show d ≤ m by omega);clear iD Gv Gw g0 k0 Jv BM;have Cq := yq (P := Tryz.prog) yE (n := m) Kr.out k (ak hk Ap);have pE := zh (zA Hb.out FB.out);have pF : w.heap.size ≤ w4.heap.size := pE.out.size;have iT := zh (vL (zH gK.out FB.out) k hk);have HT := zh (zn [x]);have hrl := Ky.out
   go_region_held3 (fun w' => w'.cell? ⟨b, off + j * 4, none⟩ = some (.int .u64 x.key) ∧ w'.cell? ⟨b, off + j * 4 + 1, none⟩ = some (.int .u32 x.ck) ∧ w'.cell? ⟨b, off + j * 4 + 2, none⟩ = some (.int .i64 x.off) ∧ w'.cell? ⟨b, off + j * 4 + 3, none⟩ = some (.int .i64 x.size))
    (first | exact nw.out _ pE.out.drew | exact nw.out _ (pE.out.drew.alloc pF _) | exact nw.out _ (zM (pE.out.drew.alloc pF _) ((iT.out.drew).alloc _) (by simp; omega) gM) | exact nw.out _ (zM (zM (pE.out.drew.alloc pF _) ((iT.out.drew).alloc _) (by simp; omega) gM) fC (ak (by simp; omega) gM.size) nS))
    (first | (refine ww (by rfl) _ _ _ (by rfl) yE w.heap.size (by rfl) ((iT.out.drew).alloc _) (by rfl) (Rd.new _ 4 (gW x) 49 1 rfl (by decide)) (by simpa [zU] using HT.out) (by unfold maxLen; omega) (by omega) (by simp; omega) ?_; intro v5 w5 fC gM Kz; clear Kz) | (refine ww (by rfl) _ _ _ (by rfl) yE w.heap.size (by rfl) fC (by rfl) (((Kv.out.drew).alloc _).grown gM C4.out) (zn _) (by unfold maxLen; omega) (by omega) (ak (by simp; omega) gM.size) ?_; intro v6 w6 jC nS KA; clear KA))
   have j_ : zU (o.take k) ++ gW x ++ zU (o.drop k) = zU (fw (l.take (j + 1))) := by rw [Pz.out, Kx.out, zu, uO, bt]
   rw [xl] at j_;have sE := zh j_;have jG := zh (zM (zM (pE.out.drew.alloc pF _) ((iT.out.drew).alloc _) (by simp; omega) gM) fC (ak (by simp; omega) gM.size) nS);have mh := zh jC;clear j_ fC jC gM nS;go_wp2_with fail;exact ⟨⟨j + 1, by go_num, by omega, yI mh.out sE.out, jG.out⟩, by simp [intOf]; omega⟩
  obtain rfl : k = m := by omega
  have Ey := zh (Nx o x k (by rw [HM.out]; exact ai _) Gt.out (by rw [HM.out]; intro h; omega));obtain ⟨sa, sc, hrun, hsl, hsb⟩ := vR yE (zr (zH gK.out Cn.out)) k hk;rw [Nat.sub_self, bT (by rw [yF, HM.out]; exact ai _)] at hsl;rw [Nat.sub_self] at hrun;have PA := zh hsl;have sD := zh (fun nq => db (base := wr.heap.size) (e := 49) (size := 4) (wr.drewN nq) #[] 0 (ai _) (by decide) rfl);clear hsl hsb;go_wp2_with fail
  go_quiet (fail)
  clear i1;go_wp2_with (at_builtin; go_must (refine zd rfl (.tmp 32) (.tmp 35) 33 rfl yE wr.heap.size rfl (sD.out nq) rfl ((PA.out.below (aR (aj _ _) nq)).alloc _) (fun _ h => by cases h) (by unfold maxLen; omega) (by omega) (by simp) ?_); intro v3 w3 d_ eW mH; clear mH);rw [aJ, bU] at d_;have eU := zM ((aR (aj wr.heap.size wr) nq).alloc (ai _) _) (sD.out nq) (by simp) eW;obtain ⟨ra, rc, rfl, PB, rV, Ju⟩ := zO d_;have Gv := zh (zr d_);have Gw := zh eU
  have Kw := zh (show ∀ z, ra = some z → wo.heap.size ≤ z.block from fun z hz => by
   subst hz
   exact ak Cn.out.size (d_.lt _ rfl).1)
  have C4 := zh (Py Kw.out gK.out k);have Kx := zh (show ins o x = o.take k ++ x :: [] by rw [Ey.out, ah (fun h => by have := HM.out; omega), bT (by rw [HM.out]; exact ai _)]);have Ky := zh (show 0 ≤ k from au _);clear d_ eW eU Ju hrun;go_wp2_with fail
  go_quiet (fail)
  go_wp2_with fail;obtain ⟨w4, iD⟩ : ∃ w4, w4 = w3.drewN nq := ⟨_, rfl⟩
  rw [← iD];have FB := zh (show Below wo.heap.size wo w4 by rw [iD]; exact aR (zA Cn.out Gw.out) nq)
  have Kv := zh (show Rd w4 4 _ 0 (zU []) by
   rw [iD]; exact Gv.out.below (aR (aj _ _) nq))
  clear iD Gv Gw;have Cq := yq (P := Tryz.prog) yE (n := k) Kr.out k Ap;have pE := zh (zA Hb.out FB.out);have pF : w.heap.size ≤ w4.heap.size := pE.out.size;have iT := zh (vL (zH gK.out FB.out) k hk);have HT := zh (zn [x]);have hrl := Ky.out
  go_region_held3 (fun w' => w'.cell? ⟨b, off + j * 4, none⟩ = some (.int .u64 x.key) ∧ w'.cell? ⟨b, off + j * 4 + 1, none⟩ = some (.int .u32 x.ck) ∧ w'.cell? ⟨b, off + j * 4 + 2, none⟩ = some (.int .i64 x.off) ∧ w'.cell? ⟨b, off + j * 4 + 3, none⟩ = some (.int .i64 x.size))
   (first | exact nw.out _ pE.out.drew | exact nw.out _ (pE.out.drew.alloc pF _) | exact nw.out _ (zM (pE.out.drew.alloc pF _) ((iT.out.drew).alloc _) (by simp; omega) gM) | exact nw.out _ (zM (zM (pE.out.drew.alloc pF _) ((iT.out.drew).alloc _) (by simp; omega) gM) fC (ak (by simp; omega) gM.size) nS))
   (first | (refine ww (by rfl) _ _ _ (by rfl) yE w.heap.size (by rfl) ((iT.out.drew).alloc _) (by rfl) (Rd.new _ 4 (gW x) 49 1 rfl (by decide)) (by simpa [zU] using HT.out) (by unfold maxLen; omega) (by omega) (by simp; omega) ?_; intro v5 w5 fC gM Kz; clear Kz) | (refine ww (by rfl) _ _ _ (by rfl) yE w.heap.size (by rfl) fC (by rfl) (((Kv.out.drew).alloc _).grown gM C4.out) (zn _) (by unfold maxLen; omega) (by omega) (ak (by simp; omega) gM.size) ?_; intro v6 w6 jC nS KA; clear KA))
  have j_ : zU (o.take k) ++ gW x ++ zU [] = zU (fw (l.take (j + 1))) := by rw [Pz.out, Kx.out, zu, uO, bt]
  rw [xl] at j_;have sE := zh j_;have jG := zh (zM (zM (pE.out.drew.alloc pF _) ((iT.out.drew).alloc _) (by simp; omega) gM) fC (ak (by simp; omega) gM.size) nS);have mh := zh jC;clear j_ fC jC gM nS;go_wp2_with fail;exact ⟨⟨j + 1, by go_num, by omega, yI mh.out sE.out, jG.out⟩, by simp [intOf]; omega⟩
 obtain rfl : j = n := by omega
 go_wp2_with fail;go_ret;exact ⟨_, rfl, by rw [← HE.out]; exact gK.out, Hb.out⟩
def UU (x : It) : It := ⟨x.key, x.ck, 16 + 8 * (x.off % 4096), x.size % 4096⟩
def mk (l : List It) : List It := (fw (l.take 40)).map UU
def PE (o : List It) (k : Nat) : List It := (o.take k).map UU ++ o.drop k
end Go.Proofs.YtcgfilmmokmdjaaGreat
