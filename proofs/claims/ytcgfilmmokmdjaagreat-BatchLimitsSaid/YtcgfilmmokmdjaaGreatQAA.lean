/- A part of the walk. -/
import Derived.Test.YtcgfilmmokmdjaaGreatRows
import Derived.Test.YtcgfilmmokmdjaaGreatBase
import Derived.BigQuiet
import Derived.Deep.QuietTactic
import Derived.Deep.RegionHeld3
import Derived.Laws.BitsAllLaws
import Derived.Laws.OwnMore
import Derived.Deep.RegionWith
import Derived.Deep.RegionLaw
import Derived.Lib.OwnKind
import Derived.OneCell
import Derived.Laws.EntriesVeiled
set_option linter.all false
set_option maxRecDepth 100000
set_option maxHeartbeats 32000000
namespace Go.Proofs.YtcgfilmmokmdjaaGreat
structure It where
 key : Int
 ck : Int
 off : Int
 size : Int
 deriving DecidableEq
def okP (x : It) : Prop := 16 ≤ x.off ∧ x.off ≤ 1048576 ∧ x.off % 8 = 0 ∧ 0 ≤ x.size ∧ x.size ≤ 4096
instance (x : It) : Decidable (okP x) := by unfold okP; exact inferInstance
def okB (x : It) : Bool := decide (okP x)
def it0 : It := ⟨0, 0, 0, 0⟩
instance : Inhabited It := ⟨it0⟩
def iat (l : List It) (j : Nat) : It := l.getD j it0
theorem tQ {l : List It} {j : Nat} (h : j < l.length) : iat l j ∈ l := by
 unfold iat;rw [List.getD_eq_getElem?_getD, List.getElem?_eq_getElem h]; exact List.getElem_mem h
theorem vd {l : List It} {x : It} (h : x ∈ l) : ∃ j, j < l.length ∧ iat l j = x := by
 obtain ⟨j, hj, e⟩ := List.mem_iff_getElem.1 h;exact ⟨j, hj, by unfold iat; rw [List.getD_eq_getElem?_getD, List.getElem?_eq_getElem hj, Option.getD_some, e]⟩
theorem yj {l : List It} {j : Nat} (h : j < l.length) : l.take (j + 1) = l.take j ++ [iat l j] := by
 rw [List.take_succ_eq_append_getElem h]
 congr
 unfold iat;rw [List.getD_eq_getElem?_getD, List.getElem?_eq_getElem h]; rfl
theorem xS (l : List It) (k i : Nat) : iat (l.drop k) i = iat l (k + i) := by
 unfold iat;rw [List.getD_eq_getElem?_getD, List.getElem?_drop, ← List.getD_eq_getElem?_getD]
theorem wK {l : List It} {k i : Nat} (h : i < k) : iat (l.take k) i = iat l i := by
 unfold iat;rw [List.getD_eq_getElem?_getD, List.getElem?_take, if_pos h, ← List.getD_eq_getElem?_getD]
theorem vm : ∀ (a : List It) (i : Nat) (x : It), i < a.length → (a.set i x).take (i + 1) = a.take i ++ [x]
 | [], i, x, h => by simp at h
 | y :: r, 0, x, _ => rfl
 | y :: r, i + 1, x, h => by
  have := vm r i x (by simpa using h);simp only [List.set_cons_succ, List.take_succ_cons, List.cons_append];rw [this]
def AscTo (l : List It) (k : Nat) : Prop := ∀ j, j + 1 < k → (iat l j).key < (iat l (j + 1)).key
def Asc (l : List It) : Prop := AscTo l l.length
def kP : List It → Bool
 | [] => true
 | [_] => true
 | x :: y :: r => decide (x.key < y.key) && kP (y :: r)
theorem uO : ∀ l : List It, kP l = true ↔ Asc l
 | [] => ⟨fun _ _ h => by simp at h, fun _ => rfl⟩
 | [_] => ⟨fun _ _ h => by simp at h, fun _ => rfl⟩
 | x :: y :: r => by
  unfold kP;rw [Bool.and_eq_true, decide_eq_true_eq, uO (y :: r)]
  constructor
  ·
   rintro ⟨h1, h2⟩ j hj
   cases j with
   | zero => exact h1
   | succ j => exact h2 j (by simpa using hj)
  intro h;exact ⟨h 0 (by simp), fun j hj => h (j + 1) (by simpa using hj)⟩
theorem zAf {l : List It} {j : Nat} (h : j + 1 < l.length) (h' : (iat l (j + 1)).key ≤ (iat l j).key) : kP l = false := by
 cases e : kP l with
 | false => rfl
 | true => exact absurd ((uO l).1 e j h) (by omega)
theorem AscTo.succ {l : List It} {k : Nat} (h : AscTo l k) (h' : ∀ j, k = j + 1 → (iat l j).key < (iat l (j + 1)).key) : AscTo l (k + 1) := fun j hj => by
 by_cases e : k = j + 1
 ·
  exact h' j e
 exact h j (by omega)
theorem Asc.lt {l : List It} (h : Asc l) : ∀ d i, i + d + 1 < l.length → (iat l i).key < (iat l (i + d + 1)).key
 | 0, i, hi => h i hi
 | d + 1, i, hi => by
  have h1 := h.lt d i (by omega);have h2 := h (i + d + 1) (by omega);have e : i + (d + 1) + 1 = i + d + 1 + 1 := by omega
  rw [e]; omega
theorem Asc.mono {l : List It} (h : Asc l) {i j : Nat} (hij : i < j) (hj : j < l.length) : (iat l i).key < (iat l j).key := by
 have := h.lt (j - i - 1) i (by omega)
 rwa [show i + (j - i - 1) + 1 = j by omega] at this
def xY (l : List It) : Bool := kP l && l.all okB
theorem qX {l : List It} {p : It → Bool} (h : ∀ j, j < l.length → p (iat l j) = true) : l.all p = true := by
 rw [List.all_eq_true];intro x hx;obtain ⟨j, hj, rfl⟩ := vd hx;exact h j hj
theorem tM {l : List It} {p : It → Bool} {j : Nat} (h : j < l.length) (h' : p (iat l j) = false) : l.all p = false := by
 cases e : l.all p with
 | false => rfl
 | true => rw [List.all_eq_true] at e; rw [e _ (tQ h)] at h'; cases h'
theorem zHG {l : List It} (h1 : Asc l) (h2 : ∀ j, j < l.length → okB (iat l j) = true) : xY l = true := by
 unfold xY; rw [(uO l).2 h1, qX h2]; rfl
theorem zJ9 {l : List It} {j : Nat} (h : j < l.length) (h' : okB (iat l j) = false) : xY l = false := by
 unfold xY; rw [tM h h', Bool.and_false]
theorem zDd {l : List It} (h : kP l = false) : xY l = false := by unfold xY; rw [h]; rfl
theorem uC {l : List It} : xY l = true ↔ Asc l ∧ ∀ x ∈ l, okP x := by
 unfold xY;rw [Bool.and_eq_true, uO, List.all_eq_true];exact ⟨fun ⟨a, b⟩ => ⟨a, fun x hx => of_decide_eq_true (b x hx)⟩, fun ⟨a, b⟩ => ⟨a, fun x hx => decide_eq_true (b x hx)⟩⟩
end Go.Proofs.YtcgfilmmokmdjaaGreat
namespace Go.Proofs.YtcgfilmmokmdjaaGreat
open Go.RowKit
def itC (x : It) : List Value := [.int .u64 x.key, .int .u32 x.ck, .int .i64 x.off, .int .i64 x.size]
abbrev itV (x : It) : Value := .agg #[.int .u64 x.key, .int .u32 x.ck, .int .i64 x.off, .int .i64 x.size]
abbrev RdT (w : World) (v : Value) (l : List It) : Prop := RdS 4 itC w v l
theorem wM (x : It) : (itC x).length = 4 := rfl
theorem zGm (k c o s : Int) (w : World) :
  Calls Tryz.prog 141 #[.agg #[.int .u64 k, .int .u32 c, .int .i64 o, .int .i64 s]] w fun e w' => e = .returned (.bool (okB ⟨k, c, o, s⟩)) ∧ Below w.heap.size w w' := by
 have HT := zh (show okP ⟨k, c, o, s⟩ → okB ⟨k, c, o, s⟩ = true from fun h => decide_eq_true h);have HF := zh (show ¬ okP ⟨k, c, o, s⟩ → okB ⟨k, c, o, s⟩ = false from fun h => decide_eq_false h)
 go_enter Tryz.func141, Tryz.ntmps141
 go_wp2_with fail
 ·
  go_ret;refine ⟨zE ?_, (Below.refl _ _).alloc (Nat.le_refl _) _⟩
  by_cases hs : s ≤ 4096
  ·
   rw [HT.out ⟨by assumption, by assumption, by assumption, by assumption, hs⟩]; exact decide_eq_true hs
  rw [HF.out (fun h => hs h.2.2.2.2)]; exact decide_eq_false hs
 all_goals
  go_ret;exact ⟨zE (HF.out (fun h => by have h1 := h.1; have h2 := h.2.1; have h3 := h.2.2.1; have h4 := h.2.2.2.1; simp only [] at h1 h2 h3 h4; first | contradiction | omega)).symm, (Below.refl _ _).alloc (Nat.le_refl _) _⟩
theorem ke (k c o s : Int) (w : World) :
  Calls Tryz.prog 127 #[.agg #[.int .u64 k, .int .u32 c, .int .i64 o, .int .i64 s]] w fun e w' => e = .returned (.bool (okB ⟨k, c, o, s⟩)) ∧ Below w.heap.size w w' := by
 have HT := zh (show okP ⟨k, c, o, s⟩ → okB ⟨k, c, o, s⟩ = true from fun h => decide_eq_true h);have HF := zh (show ¬ okP ⟨k, c, o, s⟩ → okB ⟨k, c, o, s⟩ = false from fun h => decide_eq_false h)
 go_enter Tryz.func127, Tryz.ntmps127
 go_wp2_with fail
 ·
  go_ret;refine ⟨zE ?_, (Below.refl _ _).alloc (Nat.le_refl _) _⟩
  by_cases hs : s ≤ 4096
  ·
   rw [HT.out ⟨by assumption, by assumption, by assumption, by assumption, hs⟩]; exact decide_eq_true hs
  rw [HF.out (fun h => hs h.2.2.2.2)]; exact decide_eq_false hs
 all_goals
  go_ret;exact ⟨zE (HF.out (fun h => by have h1 := h.1; have h2 := h.2.1; have h3 := h.2.2.1; have h4 := h.2.2.2.1; simp only [] at h1 h2 h3 h4; first | contradiction | omega)).symm, (Below.refl _ _).alloc (Nat.le_refl _) _⟩
theorem zCR (k c o s : Int) (w : World) :
  Calls Tryz.prog 140 #[.agg #[.int .u64 k, .int .u32 c, .int .i64 o, .int .i64 s]] w fun e w' => e = .returned (.bool (!okB ⟨k, c, o, s⟩)) ∧ Below w.heap.size w w' := by
 have H := zh fun w => zGm k c o s w
 generalize okB ⟨k, c, o, s⟩ = r at *
 go_enter Tryz.func140, Tryz.ntmps140
 go_wp2_with fail;refine (H.out _).mono ?_; rintro e w1 ⟨rfl, hb⟩;go_wp2_with fail;go_ret;exact ⟨rfl, zA ((Below.refl _ _).alloc (Nat.le_refl _) _) hb⟩
theorem RdT.below {w w' : World} {v : Value} {l : List It} (h : RdT w v l) (hb : Below w.heap.size w w') : RdT w' v l := RdS.below h hb
theorem RdT.shape {w : World} {v : Value} {l : List It} (h : RdT w v l) : ∃ a cap, v = .slice a l.length cap ∧ l.length ≤ cap ∧ cap ≤ maxLen := by
 obtain ⟨a, cap, h1, h2, h3, _⟩ := RdS.shape h (by decide) it0;exact ⟨a, cap, h1, h2, h3⟩
theorem RdT.at {w : World} {a : Option Addr} {n cap : Nat} {l : List It} (h : RdT w (.slice a n cap) l) {j : Nat} (hj : j < n) : ∃ b off, a = some ⟨b, off, none⟩ ∧
  w.cell? ⟨b, off + j * 4, none⟩ = some (.int .u64 (iat l j).key) ∧ w.cell? ⟨b, off + j * 4 + 1, none⟩ = some (.int .u32 (iat l j).ck) ∧
  w.cell? ⟨b, off + j * 4 + 2, none⟩ = some (.int .i64 (iat l j).off) ∧ w.cell? ⟨b, off + j * 4 + 3, none⟩ = some (.int .i64 (iat l j).size) := by
 obtain ⟨a', cap', e, h2, h3, _, h5⟩ := RdS.shape h (by decide) it0;injection e with e1 e2 e3;subst e1 e2 e3;obtain ⟨b, off, e, hc⟩ := h5 (by omega);refine ⟨b, off, e, ?_, ?_, ?_, ?_⟩
 ·
  have := hc j hj 0 _ rfl; rwa [Nat.add_zero] at this
 ·
  exact hc j hj 1 _ rfl
 ·
  exact hc j hj 2 _ rfl
 exact hc j hj 3 _ rfl
theorem zA4 : (Tryz.prog.info? 49).map (fun i => (i.zero, i.size, i.bytes)) = some (some (.agg #[.int .u64 0, .int .u32 0, .int .i64 0, .int .i64 0]), 4, 32) := by kernel_rfl
theorem yA : xe Tryz.prog 33 49 4 32 := by
 obtain ⟨i, h1, h2, h3, h4⟩ := info_parts zA4;exact ⟨Tryz.underlying33, by decide, i, _, h1, h2, h3, h4, rfl⟩
def zL (l : List It) : List Value := l.flatMap itC
theorem xX (l : List It) (k : Nat) : zL (l.take k) = (zL l).take (k * 4) := zB7 4 itC l wM k
theorem uE (l : List It) (k : Nat) : zL (l.drop k) = (zL l).drop (k * 4) := zCE 4 itC l wM k
theorem zp (l m : List It) : zL (l ++ m) = zL l ++ zL m := by simp [zL]
theorem yy (x : It) : zL [x] = itC x := by simp [zL]
theorem uA (x : It) (l : List It) : zL (x :: l) = itC x ++ zL l := rfl
theorem yB (l : List It) : (zL l).length = l.length * 4 := yK 4 itC l (fun x _ => wM x)
theorem zl (l : List It) : ∀ u ∈ zL l, u.oneCell' = true := by
 intro u hu;obtain ⟨x, _, hx⟩ := List.mem_flatMap.1 hu;simp [itC] at hx;rcases hx with rfl | rfl | rfl | rfl <;> rfl
theorem uo {w : World} {v : Value} {l : List It} (h : RdT w v l) : Rd w 4 v l.length (zL l) := h.2
theorem yS {w : World} {v : Value} {l : List It} {n : Nat} (h : Rd w 4 v n (zL l)) : RdT w v l := by
 have e : l.length = n := by
  have := h.1;rw [yB] at this;omega
 refine ⟨fun x _ => wM x, ?_⟩;rw [e]; exact h
abbrev OwnT (w : World) (base : Nat) (v : Value) (l : List It) : Prop := w.ownsRow base 49 4 v l.length (zL l)
theorem yE {w : World} {base n : Nat} {v : Value} {l : List It} {xs : List Value} (h : w.ownsRow base 49 4 v n xs) (e : xs = zL l) : OwnT w base v l := by
 subst e;have : l.length = n := by have := h.1; rw [yB] at this; omega
 unfold OwnT; rw [this]; exact h
theorem OwnT.rd {w : World} {base : Nat} {v : Value} {l : List It} (h : OwnT w base v l) : RdT w v l := yS (zv h)
theorem kC {n cap : Nat} (h : n ≤ cap) (h' : cap ≤ maxLen) : n ≤ 9223372036854775807 := by unfold maxLen at h'; omega
theorem zCP (v : Value) (l : List It) (w : World) (h : RdT w v l) :
  Calls Tryz.prog 138 #[v] w fun e w' => e = .returned (.bool (kP l)) ∧ Below w.heap.size w w' := by
 obtain ⟨a, cap, rfl, h1, h2⟩ := h.shape;have HT := zh (show AscTo l l.length → kP l = true from fun h => (uO l).2 h);have HF := zh (show ∀ j, j + 1 < l.length → _ from fun j => zAf (l := l) (j := j));have hm := kC h1 h2;generalize hn : l.length = n at *;have Hr := zh h;clear h h1 h2 hn
 go_enter Tryz.func138, Tryz.ntmps138
 go_wp2_with fail
 go_loopw [7] (fun i wr => ∃ k : Nat, k ≤ n ∧ i = .int .i64 (k : Int) ∧ AscTo l k ∧ Below w.heap.size w wr) (fun i _ => n - (intOf i).toNat)
 case atStart => exact ⟨0, Nat.zero_le _, rfl, fun j hj => absurd hj (by omega), Below.refl _ _⟩
 obtain ⟨k, hk, rfl, hasc, hb⟩ := hrel;have Hasc := zh hasc;have Hb := zh hb;have hB := hb.size;clear hasc hb
 by_cases hlt : k < n
 ·
  have hr := Hr.out.below Hb.out;obtain ⟨b, off, rfl, c0, c1, c2, c3⟩ := hr.at hlt
  by_cases h0 : k = 0
  ·
   subst h0;rw [Nat.zero_mul, Nat.add_zero] at c0 c1 c2 c3;clear hr;go_wp2_with fail
   go_quiet (fail)
   go_wp2_with fail;exact ⟨⟨1, by omega, by go_num, fun j hj => absurd hj (by omega), below_drewN (Hb.out.alloc hB _) _⟩, by simp [intOf]; omega⟩
  obtain ⟨j, rfl⟩ : ∃ j, k = j + 1 := ⟨k - 1, by omega⟩
  have hd : decide ((0 : Int) < ((j + 1 : Nat) : Int)) = true := by simp
  obtain ⟨_, _, e, d0, _⟩ := hr.at (show j < n by omega);injection e with e; injection e with e1 e2; subst e1 e2;generalize e1 : (iat l (j + 1)).key = x at *;generalize e2 : (iat l j).key = y at *;generalize (iat l (j + 1)).ck = x1 at *;generalize (iat l (j + 1)).off = x2 at *;generalize (iat l (j + 1)).size = x3 at *;have E := zh (And.intro e1 e2);clear e1 e2 h0 hr;have hne : ∀ o n, ((wr.alloc o).drewN n).cell? ⟨b, off + j * 4, none⟩ = some (.int .u64 y) := fun o n => Below.keeps (below_drewN ((Below.refl _ _).alloc (Nat.le_refl _) o) n) _ _ d0
  have i1 : (j : Int) + 1 < (n : Int) := by omega
  have i2 : (j : Int) < (n : Int) := by omega
  have j1 : IntKind.i64.wrap (j : Int) = (j : Int) := IntWalk.i64_in _ (by omega);go_wp2_with fail
  go_quiet (fail)
  clear j1 i1 i2;go_wp2_with fail
  ·
   have hle : x ≤ y := by assumption
   go_ret;exact ⟨zE (HF.out j hlt (by rw [E.out.1, E.out.2]; exact hle)).symm, below_drewN (Hb.out.alloc hB _) _⟩
  have hxy : y < x := by assumption
  refine ⟨⟨j + 1 + 1, by omega, by go_num, Hasc.out.succ (fun i e => ?_), below_drewN (Hb.out.alloc hB _) _⟩, by simp [intOf]; omega⟩;obtain rfl : j = i := by omega
  rw [E.out.1, E.out.2]; exact hxy
 obtain rfl : k = n := by omega
 go_wp2_with fail;go_ret;exact ⟨zE (HT.out Hasc.out).symm, Hb.out⟩
end Go.Proofs.YtcgfilmmokmdjaaGreat
namespace Go.Proofs.YtcgfilmmokmdjaaGreat.Crc
def poly : Nat := 2197175160
def st (r : Nat) : Nat := if r % 2 = 1 then (r / 2) ^^^ poly else r / 2
theorem st_lt {r : Nat} (h : r < 4294967296) : st r < 4294967296 := by
 unfold st
 split
 ·
  exact Nat.xor_lt_two_pow (n := 32) (by omega) (by unfold poly; omega)
 omega
def stk : Nat → Nat → Nat
 | 0, r => r
 | k + 1, r => st (stk k r)
theorem stk_lt {r : Nat} (h : r < 4294967296) : ∀ k, stk k r < 4294967296
 | 0 => h
 | k + 1 => st_lt (stk_lt h k)
def add (r : Nat) (x : UInt8) : Nat := stk 8 (r ^^^ x.toNat)
theorem xor_lt {r s : Nat} (h : r < 4294967296) (hs : s < 4294967296) : r ^^^ s < 4294967296 := Nat.xor_lt_two_pow (n := 32) h hs
theorem add_lt {r : Nat} (h : r < 4294967296) (x : UInt8) : add r x < 4294967296 := stk_lt (xor_lt h (by have := x.toNat_lt; omega)) 8
def ext (r : Nat) (l : List UInt8) : Nat := l.foldl add r
theorem ext_lt : ∀ (l : List UInt8) {r : Nat}, r < 4294967296 → ext r l < 4294967296
 | [], _, h => h
 | x :: l, _, h => ext_lt l (add_lt h x)
theorem ext_snoc (r : Nat) (l : List UInt8) (x : UInt8) : ext r (l ++ [x]) = add (ext r l) x := by simp [ext]
def sum (l : List UInt8) : Nat := 4294967295 - ext 4294967295 l
theorem sum_lt (l : List UInt8) : sum l < 4294967296 := by unfold sum; omega
end Go.Proofs.YtcgfilmmokmdjaaGreat.Crc
namespace Go.Proofs.YtcgfilmmokmdjaaGreat
def bat (l : List UInt8) (j : Nat) : UInt8 := l.getD j 0
theorem uW {l : List UInt8} {j : Nat} (h : j < l.length) : l.take (j + 1) = l.take j ++ [bat l j] := by
 rw [List.take_succ_eq_append_getElem h]
 congr
 unfold bat;rw [List.getD_eq_getElem?_getD, List.getElem?_eq_getElem h]; rfl
def be (v n : Nat) : List UInt8 := (List.range n).map fun j => UInt8.ofNat (v / 2 ^ (8 * (n - 1 - j)))
theorem xW (v n : Nat) : (be v n).length = n := by simp [be]
theorem zLE {v n j : Nat} (h : j < n) : bat (be v n) j = UInt8.ofNat (v / 2 ^ (8 * (n - 1 - j))) := by
 unfold bat be;rw [List.getD_eq_getElem?_getD, List.getElem?_map, List.getElem?_range h]; rfl
def val (l : List UInt8) : Nat := l.foldl (fun n x => (n * 256 + x.toNat) % 18446744073709551616) 0
def le4 (c : Nat) : List UInt8 := [UInt8.ofNat c, UInt8.ofNat (c / 2 ^ 8), UInt8.ofNat (c / 2 ^ 16), UInt8.ofNat (c / 2 ^ 24)]
end Go.Proofs.YtcgfilmmokmdjaaGreat
namespace Go.Proofs.YtcgfilmmokmdjaaGreat
open Go.RowKit
theorem zF6 (r : Nat) (h : r < 4294967296) : bits .and .u32 (r : Int) 1 = ((r % 2 : Nat) : Int) := by
 have := u32_and_nat r 1 h (by decide);rw [show ((1 : Nat) : Int) = 1 from rfl] at this;rw [this, Nat.and_one_is_mod]
theorem zDy (r : Nat) (h : r < 4294967296) : bits .xor .u32 (r : Int) 2197175160 = ((r ^^^ Crc.poly : Nat) : Int) := by
 have := u32_xor_nat r 2197175160 h (by decide)
 rwa [show ((2197175160 : Nat) : Int) = 2197175160 from rfl] at this
theorem zEm (r : Nat) (w : World) (h : r < 4294967296) :
  Calls Tryz.prog 203 #[.int .u32 (r : Int)] w fun e w' => e = .returned (.int .u32 (Crc.stk 8 r : Int)) ∧ w = w' := by
 go_enter Tryz.func203, Tryz.ntmps203
 go_wp2_with fail
 go_loop [0, 3] (fun rv kv => ∃ k : Nat, k ≤ 8 ∧ kv = .int .i64 (k : Int) ∧ rv = .int .u32 (Crc.stk k r : Int)) (fun _ kv => 8 - (intOf kv).toNat)
 case atStart => exact ⟨0, by omega, rfl, rfl⟩
 obtain ⟨k, hk, rfl, rfl⟩ := hrel;have hl := Crc.stk_lt h k;have HS := zh (show Crc.stk (k + 1) r = Crc.st (Crc.stk k r) from rfl);have HE := zh (show ∀ j, j = 8 → Crc.stk j r = Crc.stk 8 r from fun j e => by rw [e]);have HK := zh (show ∃ q, Crc.stk k r = q from ⟨_, rfl⟩);generalize hq : Crc.stk k r = q at *;have HQ := zh hq;clear HK hq;have b1 := zF6 q hl;have b2 := zDy (q / 2) (by omega);rw [show ((q / 2 : Nat) : Int) = (q : Int) / 2 from rfl] at b2
 by_cases hlt : k < 8
 ·
  rcases Nat.mod_two_eq_zero_or_one q with h0 | h1
  ·
   rw [h0] at b1;have b3 : (((0 : Nat) : Int) == 1) = false := by decide
   go_wp2_with fail;refine ⟨⟨k + 1, by omega, by go_num, ?_⟩, by simp [intOf]; omega⟩;rw [HS.out, Crc.st, if_neg (by omega)]; go_num
  rw [h1] at b1;go_wp2_with fail;refine ⟨⟨k + 1, by omega, by go_num, ?_⟩, by simp [intOf]; omega⟩;rw [HS.out, Crc.st, if_pos h1]
 obtain rfl : k = 8 := by omega
 go_wp2_with fail;go_ret;exact ⟨xE (congrArg Nat.cast HQ.out.symm), rfl⟩
theorem RdB.shape0 {w : World} {v : Value} {l : List UInt8} (h : RdB w v l) : ∃ a cap, v = .slice a l.length cap ∧ l.length ≤ cap ∧ cap ≤ maxLen := by
 obtain ⟨a, cap, h1, h2, h3, _⟩ := RdL.shape h 0;exact ⟨a, cap, h1, h2, h3⟩
theorem RdB.at {w : World} {a : Option Addr} {n cap : Nat} {l : List UInt8} (h : RdB w (.slice a n cap) l) {j : Nat} (hj : j < n) : ∃ b off, a = some ⟨b, off, none⟩ ∧ w.cell? ⟨b, off + j, none⟩ = some (.int .u8 ((bat l j).toNat : Int)) := by
 obtain ⟨a', cap', e, h2, h3, _, h5⟩ := RdL.shape h 0;injection e with e1 e2 e3;subst e1 e2 e3;obtain ⟨b, off, e, hc⟩ := h5 (by omega);exact ⟨b, off, e, hc j hj⟩
theorem zDg (r : Nat) (x : UInt8) (h : r < 4294967296) : bits .xor .u32 (r : Int) (x.toNat : Int) = ((r ^^^ x.toNat : Nat) : Int) := u32_xor_nat r x.toNat h (by have := x.toNat_lt; omega)
theorem zJW (c : Nat) (h : c < 4294967296) : 4294967295 ^^^ c = 4294967295 - c := by
 have h1 : (BitVec.allOnes 32 ^^^ BitVec.ofNat 32 c).toNat = (~~~(BitVec.ofNat 32 c)).toNat := by rw [BitVec.allOnes_xor]
 rw [BitVec.toNat_xor, BitVec.toNat_not, BitVec.toNat_ofNat, Nat.mod_eq_of_lt (show c < 2 ^ 32 by omega), BitVec.toNat_allOnes] at h1;exact h1
theorem zAL (c : Nat) (h : c < 4294967296) : bits .xor .u32 IntKind.u32.max (c : Int) = ((4294967295 - c : Nat) : Int) := by
 have := u32_xor_nat 4294967295 c (by decide) h;rw [zJW c h] at this;exact this
theorem zLV (c : Nat) (v : Value) (l : List UInt8) (w : World) (hc : c < 4294967296) (h : RdB w v l) :
  Calls Tryz.prog 185 #[.int .u32 (c : Int), v] w fun e w' => e = .returned (.int .u32 ((4294967295 - Crc.ext (4294967295 - c) l : Nat) : Int)) ∧ w = w' := by
 obtain ⟨a, cap, rfl, h1, h2⟩ := h.shape0;have hm := kC h1 h2;have HS := zh (show ∀ k, k < l.length → Crc.ext (4294967295 - c) (l.take (k + 1)) = Crc.add (Crc.ext (4294967295 - c) (l.take k)) (bat l k) from fun k hk => by rw [uW hk, Crc.ext_snoc]);have HE := zh (show l.take l.length = l from List.take_length);generalize hn : l.length = n at *;have Hr := zh h;clear h hn h1 h2;have n1 := zAL c hc
 go_enter Tryz.func185, Tryz.ntmps185
 go_wp2_with fail;clear n1
 go_loop [5, 6] (fun rv kv => ∃ k : Nat, k ≤ n ∧ kv = .int .i64 (k : Int) ∧ rv = .int .u32 (Crc.ext (4294967295 - c) (l.take k) : Int)) (fun _ kv => n - (intOf kv).toNat)
 case atStart => exact ⟨0, by omega, rfl, by simp [Crc.ext]⟩
 obtain ⟨k, hk, rfl, rfl⟩ := hrel;have hl := Crc.ext_lt (l.take k) (r := 4294967295 - c) (by omega)
 by_cases hlt : k < n
 ·
  obtain ⟨b, off, rfl, c0⟩ := Hr.out.at hlt;have HK := zh (HS.out k hlt);generalize Crc.ext (4294967295 - c) (l.take k) = q at *;generalize bat l k = x at *;have b1 := zDg q x hl;have b3 := x.toNat_lt;have HR := zh (fun w => zEm (q ^^^ x.toNat) w (Crc.xor_lt hl (by omega)));have HA := zh (show Crc.add q x = Crc.stk 8 (q ^^^ x.toNat) from rfl);generalize (q ^^^ x.toNat : Nat) = y at *;go_wp2_with fail;refine (HR.out _).mono ?_; rintro e w1 ⟨rfl, rfl⟩;go_wp2_with fail;exact ⟨⟨k + 1, by omega, by go_num, by rw [HK.out, HA.out]⟩, by simp [intOf]; omega⟩
 obtain rfl : k = n := by omega
 have HF := zh (show Crc.ext (4294967295 - c) (l.take k) = Crc.ext (4294967295 - c) l by rw [HE.out]);generalize Crc.ext (4294967295 - c) (l.take k) = q at *;have n1 := zAL q hl;go_wp2_with fail;go_ret;exact ⟨xE (by rw [← HF.out]), rfl⟩
theorem zJh (c : Nat) (v : Value) (l : List UInt8) (w : World) (hc : c < 4294967296) (h : RdB w v l) :
  Calls Tryz.prog 159 #[.int .u32 (c : Int), v] w fun e w' => e = .returned (.int .u32 ((4294967295 - Crc.ext (4294967295 - c) l : Nat) : Int)) ∧ w = w' := by
 obtain ⟨a, cap, rfl, h1, h2⟩ := h.shape0;have hm := kC h1 h2;have HS := zh (show ∀ k, k < l.length → Crc.ext (4294967295 - c) (l.take (k + 1)) = Crc.add (Crc.ext (4294967295 - c) (l.take k)) (bat l k) from fun k hk => by rw [uW hk, Crc.ext_snoc]);have HE := zh (show l.take l.length = l from List.take_length);generalize hn : l.length = n at *;have Hr := zh h;clear h hn h1 h2;have n1 := zAL c hc
 go_enter Tryz.func159, Tryz.ntmps159
 go_wp2_with fail;clear n1
 go_loop [5, 13] (fun rv kv => ∃ k : Nat, k ≤ n ∧ kv = .int .i64 (k : Int) ∧ rv = .int .u32 (Crc.ext (4294967295 - c) (l.take k) : Int)) (fun _ kv => n - (intOf kv).toNat)
 case atStart => exact ⟨0, by omega, rfl, by simp [Crc.ext]⟩
 obtain ⟨k, hk, rfl, rfl⟩ := hrel;have hl := Crc.ext_lt (l.take k) (r := 4294967295 - c) (by omega)
 by_cases hlt : k < n
 ·
  obtain ⟨b, off, rfl, c0⟩ := Hr.out.at hlt;have HK := zh (HS.out k hlt);generalize Crc.ext (4294967295 - c) (l.take k) = q at *;generalize bat l k = x at *;have b1 := zDg q x hl;have b3 := x.toNat_lt;have HA := zh (show Crc.add q x = Crc.stk 8 (q ^^^ x.toNat) from rfl);have hy := Crc.xor_lt hl (show x.toNat < 4294967296 by omega);generalize (q ^^^ x.toNat : Nat) = y at *;go_wp2_with fail
  go_loop [5, 21] (fun rv iv => ∃ i : Nat, i ≤ 8 ∧ iv = .int .i64 (i : Int) ∧ rv = .int .u32 (Crc.stk i y : Int)) (fun _ iv => 8 - (intOf iv).toNat)
  case atStart => exact ⟨0, by omega, rfl, rfl⟩
  obtain ⟨i, hi, rfl, rfl⟩ := hrel;have hz := Crc.stk_lt hy i;have HSt := zh (show Crc.stk (i + 1) y = Crc.st (Crc.stk i y) from rfl);have HQ := zh (show ∀ j, j = 8 → Crc.stk j y = Crc.stk 8 y from fun j e => by rw [e]);generalize hq : Crc.stk i y = z at *;have HZ := zh hq;clear hq;have e1 := zF6 z hz;have e2 := zDy (z / 2) (by omega);rw [show ((z / 2 : Nat) : Int) = (z : Int) / 2 from rfl] at e2
  by_cases hi8 : i < 8
  ·
   rcases Nat.mod_two_eq_zero_or_one z with h0 | h1
   ·
    rw [h0] at e1;have e3 : (((0 : Nat) : Int) == 1) = false := by decide
    go_wp2_with fail;refine ⟨⟨i + 1, by omega, by go_num, ?_⟩, by simp [intOf]; omega⟩;rw [HSt.out, Crc.st, if_neg (by omega)]; go_num
   rw [h1] at e1;go_wp2_with fail;refine ⟨⟨i + 1, by omega, by go_num, ?_⟩, by simp [intOf]; omega⟩;rw [HSt.out, Crc.st, if_pos h1]
  obtain rfl : i = 8 := by omega
  go_wp2_with fail;exact ⟨⟨k + 1, by omega, by go_num, by rw [HK.out, HA.out, HZ.out]⟩, by simp [intOf]; omega⟩
 obtain rfl : k = n := by omega
 have HF := zh (show Crc.ext (4294967295 - c) (l.take k) = Crc.ext (4294967295 - c) l by rw [HE.out]);generalize Crc.ext (4294967295 - c) (l.take k) = q at *;have n1 := zAL q hl;go_wp2_with fail;go_ret;exact ⟨xE (by rw [← HF.out]), rfl⟩
theorem zKL (v : Value) (l : List UInt8) (w : World) (h : RdB w v l) :
  Calls Tryz.prog 117 #[v] w fun e w' => e = .returned (.int .u32 (Crc.sum l : Int)) ∧ w = w' := by
 have HX := zh (zJh 0 v l w (by decide) h);have HS := zh (show Crc.sum l = 4294967295 - Crc.ext (4294967295 - 0) l from rfl);generalize (4294967295 - Crc.ext (4294967295 - 0) l : Nat) = r at *
 go_enter Tryz.func117, Tryz.ntmps117
 go_wp2_with fail;refine HX.out.mono ?_; rintro e w1 ⟨rfl, rfl⟩;go_wp2_with fail;go_ret;exact ⟨xE (congrArg Nat.cast HS.out.symm), rfl⟩
end Go.Proofs.YtcgfilmmokmdjaaGreat
namespace Go.Proofs.YtcgfilmmokmdjaaGreat
def ck (l : List UInt8) : List UInt8 := le4 (Crc.sum l)
end Go.Proofs.YtcgfilmmokmdjaaGreat
namespace Go.Proofs.YtcgfilmmokmdjaaGreat
open Go.RowKit
theorem zLR : (Tryz.prog.info? 5).map (fun i => (i.zero, i.size, i.bytes)) = some (some (.int .u8 0), 1, 1) := by kernel_rfl
theorem ku : xe Tryz.prog 54 5 1 1 := by
 obtain ⟨i, h1, h2, h3, h4⟩ := info_parts zLR;exact ⟨Tryz.underlying54, by decide, i, _, h1, h2, h3, h4, rfl⟩
abbrev OwnB (w : World) (base : Nat) (v : Value) (l : List UInt8) : Prop := w.ownsRow base 5 1 v l.length (l.map xh)
theorem td {w : World} {base n : Nat} {v : Value} {l : List UInt8} {xs : List Value} (h : w.ownsRow base 5 1 v n xs) (e : xs = l.map xh) : OwnB w base v l := by
 subst e;have : l.length = n := by have := h.1; rw [List.length_map] at this; omega
 unfold OwnB; rw [this]; exact h
theorem OwnB.rd {w : World} {base : Nat} {v : Value} {l : List UInt8} (h : OwnB w base v l) : RdB w v l := qZ h
theorem zFj (w : World) (x : UInt8) (e : TypeId) : Rd (w.alloc (.cells #[.int .u8 (x.toNat : Int)] e)) 1 (.slice (some ⟨w.heap.size, 0, none⟩) 1 1) 1 ([x].map xh) := Rd.new w 1 _ e 1 rfl (by decide)
theorem zFr (v m : Nat) : ((v : Int) / 2 ^ m % 256) = ((UInt8.ofNat (v / 2 ^ m)).toNat : Int) := by
 rw [UInt8.toNat_ofNat', Int.natCast_emod, Int.natCast_ediv, Int.natCast_pow]; rfl
end Go.Proofs.YtcgfilmmokmdjaaGreat
namespace Go.Proofs.YtcgfilmmokmdjaaGreat
def Fits (x : It) : Prop := 0 ≤ x.key ∧ x.key < 18446744073709551616 ∧ 0 ≤ x.ck ∧ x.ck < 4294967296 ∧ 0 ≤ x.off ∧ x.off < 4294967296 ∧ 0 ≤ x.size ∧ x.size < 4294967296
structure Nd where
 key : Nat
 ck : Nat
 del : Bool
 data : List UInt8
 deriving DecidableEq
def nd0 : Nd := ⟨0, 0, false, []⟩
instance : Inhabited Nd := ⟨nd0⟩
def Nd.Wf (x : Nd) : Prop := x.key < 18446744073709551616 ∧ x.ck < 4294967296
def Nd.ok (x : Nd) : Prop := x.data.length ≤ 4096 ∧ (x.del = true → x.data = [])
def nsz (n : Nat) : Nat := (31 + n) / 8 * 8
theorem xT (n : Nat) : 24 + n ≤ nsz n ∧ nsz n < 32 + n ∧ nsz n % 8 = 0 := by unfold nsz; omega
def zKj (x : Nd) : List UInt8 := [78, 165, if x.del then 1 else 0, 0] ++ be x.ck 4 ++ be x.key 8 ++ be x.data.length 4
theorem zC7 (x : Nd) : (zKj x).length = 20 := by simp [zKj, xW]
def zFq (x : Nd) : List UInt8 := zKj x ++ x.data
theorem zCw (x : Nd) : (zFq x).length = 20 + x.data.length := by simp [zFq, zC7]
def vO (n : Nat) : List UInt8 := List.replicate n 0
def zBT (x : Nd) : List UInt8 := zFq x ++ ck (zFq x) ++ vO (nsz x.data.length - (24 + x.data.length))
theorem zBg (l : List UInt8) : (ck l).length = 4 := rfl
theorem ki (x : Nd) : (zBT x).length = nsz x.data.length := by
 have := xT x.data.length;simp only [zBT, List.length_append, zCw, zBg, vO, List.length_replicate]; omega
def zDM (b : List UInt8) : Nat := val ((b.drop 16).take 4)
def zIn (b : List UInt8) : Prop := bat b 0 = 78 ∧ bat b 1 = 165 ∧ (bat b 2).toNat ≤ 1 ∧ bat b 3 = 0 ∧ zDM b ≤ 4096 ∧ (bat b 2 = 1 → zDM b = 0)
instance (b : List UInt8) : Decidable (zIn b) := by unfold zIn; exact inferInstance
def zLv (b : List UInt8) : List UInt8 := (b.drop (24 + zDM b)).take (nsz (zDM b) - (24 + zDM b))
structure NOk (b : List UInt8) : Prop where
 long : 20 ≤ b.length
 form : zIn b
 whole : nsz (zDM b) ≤ b.length
 sum : ck (b.take (20 + zDM b)) = (b.drop (20 + zDM b)).take 4
 pad : (zLv b).all (· == 0) = true
end Go.Proofs.YtcgfilmmokmdjaaGreat
namespace Go.Proofs.YtcgfilmmokmdjaaGreat
open Go.RowKit
def szN (n : Nat) : Nat := if n ≤ 4096 then nsz n else 0
theorem kQ {n : Nat} (h : n ≤ 4096) : szN n = nsz n := by unfold szN; rw [if_pos h]
theorem xg (n : Nat) : szN n ≤ 4127 := by
 unfold szN
 split
 ·
  have := xT n; omega
 omega
theorem tR (n : Nat) (w : World) (h : n ≤ 1000000) : Calls Tryz.prog 53 #[.int .i64 (n : Int)] w fun e w' => e = .returned (.int .i64 ((szN n : Nat) : Int)) ∧ w = w' := by
 by_cases hn : n ≤ 4096
 ·
  have HS := zh (show ((szN n : Nat) : Int) = (20 + (n : Int) + 4 + 8 - 1) / 8 * 8 by unfold szN nsz; rw [if_pos hn]; omega);have hd : decide ((4096 : Int) < (n : Int)) = false := by simp; omega
  have hd2 : decide ((n : Int) < 0) = false := by simp
  go_enter Tryz.func53, Tryz.ntmps53
  go_wp2_with fail;go_ret;exact ⟨xE (by rw [HS.out]), rfl⟩
 have HS := zh (show szN n = 0 by unfold szN; rw [if_neg hn]);have hd : decide ((4096 : Int) < (n : Int)) = true := by simp; omega
 have hd2 : decide ((n : Int) < 0) = false := by simp
 go_enter Tryz.func53, Tryz.ntmps53
 go_wp2_with fail;go_ret;exact ⟨xE (by rw [HS.out]; rfl), rfl⟩
theorem zBd (n : Nat) (w : World) (h : n ≤ 1000000) : Calls Tryz.prog 28 #[.int .i64 (n : Int)] w fun e w' => e = .returned (.int .i64 ((szN n : Nat) : Int)) ∧ w = w' := by
 by_cases hn : n ≤ 4096
 ·
  have HS := zh (show ((szN n : Nat) : Int) = (20 + (n : Int) + 4 + 8 - 1) / 8 * 8 by unfold szN nsz; rw [if_pos hn]; omega);have hd : decide ((4096 : Int) < (n : Int)) = false := by simp; omega
  have hd2 : decide ((n : Int) < 0) = false := by simp
  go_enter Tryz.func28, Tryz.ntmps28
  go_wp2_with fail;go_ret;exact ⟨xE (by rw [HS.out]; omega), rfl⟩
 have HS := zh (show szN n = 0 by unfold szN; rw [if_neg hn]);have hd : decide ((4096 : Int) < (n : Int)) = true := by simp; omega
 have hd2 : decide ((n : Int) < 0) = false := by simp
 go_enter Tryz.func28, Tryz.ntmps28
 go_wp2_with fail;go_ret;exact ⟨xE (by rw [HS.out]; rfl), rfl⟩
theorem wP {w : World} {B : Nat} {e e' : TypeId} {sz n p : Nat} {v : Value} {xs : List Value} {cs : Array Value} (h : w.ownsRow B e sz v n xs) (hp : w.heap[p]? = some (.cells cs e' (0, 0))) (hne : e ≠ e') : v.ownBlock ≠ some p := fun e1 => by
 obtain ⟨c, fz, h1⟩ := Lib.ownsRow_kind h p e1;rw [h1] at hp;injection hp with hp;injection hp with _ hp;exact hne hp
theorem uG {w : World} {B : Nat} {e : TypeId} {sz n : Nat} {v : Value} {xs : List Value} (h : w.ownsRow B e sz v n xs) {p : Addr} (hne : v.ownBlock ≠ some p.block) (u : Value) : (w.setCell p u).ownsRow B e sz v n xs := by
 refine ⟨h.1, ?_⟩;rcases h.2 with h0 | ⟨g, cap, cur, rfl, hb, hg, rest⟩
 ·
  exact .inl h0
 refine .inr ⟨g, cap, cur, rfl, hb, ?_, rest⟩;rw [Below.heap_setCell w p u g (fun e => hne (by rw [← e]; rfl))]; exact hg
structure Wri (w : World) (p B : Nat) (l : List UInt8) : Prop where
 h : ∃ v, w.heap[p]? = some (.cells #[v] 203 (0, 0)) ∧ OwnB w B v l
def le (v n : Nat) : List UInt8 := (List.range n).map fun j => UInt8.ofNat (v / 2 ^ (8 * j))
theorem uB (v n : Nat) : (le v n).length = n := by simp [le]
theorem zLZ {v n j : Nat} (h : j < n) : bat (le v n) j = UInt8.ofNat (v / 2 ^ (8 * j)) := by
 unfold bat le;rw [List.getD_eq_getElem?_getD, List.getElem?_map, List.getElem?_range h]; rfl
theorem zLr (v : Nat) : le v 4 = le4 v := by
 unfold le le4;simp [List.range_succ]
theorem zIQ (p c n B : Nat) (l0 : List UInt8) (w : World) (hp : B ≤ p) (hw : Wri w p B l0) (hB : B ≤ w.heap.size) (hn : n ≤ 8) (_hc : c < 18446744073709551616) (h0 : l0.length ≤ 1000000) :
  Calls Tryz.prog 115 #[.pointer (some ⟨p, 0, none⟩), .int .u64 (c : Int), .int .i64 (n : Int)] w fun e w' => e = .returned (.tuple #[]) ∧ Wri w' p B (l0 ++ be c n) ∧ Below B w w' := by
 obtain ⟨v0, hpt, hown0⟩ := hw.h;have HS := zh (show ∀ k, k < (be c n).length → _ from fun k => uW (l := be c n) (j := k));have HE := zh (show (be c n).take (be c n).length = be c n from List.take_length);have HA := zh (show ∀ k, k < n → _ from fun k => zLE (v := c) (n := n) (j := k));have hl := xW c n;generalize be c n = l at *;have HL := zh hl;have HP := zh hpt;have HO0 := zh hown0;clear hpt hl hown0 hw
 go_enter Tryz.func115, Tryz.ntmps115
 go_wp2_with fail
 go_loopw [6] (fun iv wr => ∃ (k : Nat) (v : Value), iv = .int .i64 ((n : Int) - 1 - (k : Int)) ∧ k ≤ n ∧ wr.heap[p]? = some (.cells #[v] 203 (0, 0)) ∧ wr.ownsRow B 5 1 v (l0.length + k) ((l0 ++ l.take k).map xh) ∧ Below B w wr) (fun iv _ => (intOf iv + 1).toNat)
 case atStart => exact ⟨0, v0, by simp, by omega, HP.out, by simpa using HO0.out, Below.refl _ _⟩
 obtain ⟨k, v, rfl, hk, hpv, hown, hb⟩ := hrel;have HPv := zh hpv;have HO := zh hown;have Hb := zh hb;have hB2 : B ≤ wr.heap.size := Nat.le_trans hB hb.size;have c0 := cell_of_one hpv;have f0 := free_of_one hpv;clear hpv hown hb
 by_cases hlt : k < n
 ·
  have HSk := zh (HS.out k (by rw [HL.out]; exact hlt));have hbyte : IntKind.u8.wrap ((c : Int) / 2 ^ (8 * (n - 1 - k))) = ((bat l k).toNat : Int) := by rw [HA.out k hlt, ← zFr c _]; simp [IntKind.wrap, IntKind.signed, IntKind.bits]
  generalize bat l k = x at *;have j0 : decide ((0 : Int) ≤ (n : Int) - 1 - (k : Int)) = true := by simp; omega
  have j1 : IntKind.i64.wrap (8 * ((n : Int) - 1 - (k : Int))) = 8 * ((n : Int) - 1 - (k : Int)) := IntWalk.i64_in _ (by omega);have j2 : (0 : Int) ≤ 8 * ((n : Int) - 1 - (k : Int)) := by omega
  have j3 : (8 * ((n : Int) - 1 - (k : Int))).toNat = 8 * (n - 1 - k) := by omega
  have j4 : 8 * ((n : Int) - 1 - (k : Int)) < 64 := by omega
  have hpw : p < wr.heap.size := World.block_lt_of_cell? _ _ c0
  have HCP := zh (fun o W (h : ((wr.alloc o).drew).grownBy W v.ownBlock) => show W.heap[p]? = some (.cells #[v] 203 (0, 0)) from by
   rw [h.block p (by simp; omega) (fun e => wP HO.out HPv.out (by decide) e.symm)]
   exact (Below.heap_alloc wr o p hpw).trans HPv.out)
  go_wp2_with fail
  go_region_law ((refine xV (by rfl) (.tmp 17) (.tmp 23) 54 (by rfl) ku B (by rfl) ((HO.out.alloc _).drew) (by rfl) (Rd.drew (zFj wr x _)) (vE [x]) (by unfold maxLen; omega) (by omega) (by simp; omega) ?_; intro v2 w2 hown2 hgr2 hv2; clear hv2; obtain ⟨oa2, oc2, hv2, _, _, _⟩ := zJ hown2; subst hv2; have hp2 := HCP.out _ _ hgr2; have c2 := cell_of_one hp2; have f2 := free_of_one hp2))
  all_goals
   have HP3 := one_setCell (u := .slice oa2 (l0.length + k + 1) oc2) hp2;have HO3 := uG hown2 (p := ⟨p, 0, none⟩) (wP hown2 hp2 (by decide)) (.slice oa2 (l0.length + k + 1) oc2);have HB3 := (zK (zi (Hb.out.alloc hB2 _)) ((HO.out.alloc _).drew) (by simp; omega) hgr2).setCell (p := ⟨p, 0, none⟩) hp (.slice oa2 (l0.length + k + 1) oc2);clear hgr2 hp2 c2 f2 hbyte j1 j2 j3 j4 hown2;go_wp2_with fail;exact ⟨⟨k + 1, _, by go_num, by omega, HP3, by rw [HSk.out, ← List.append_assoc, List.map_append]; exact HO3, HB3⟩, by simp [intOf]; omega⟩
 obtain rfl : n = k := by omega
 have hd : decide ((0 : Int) ≤ (n : Int) - 1 - (n : Int)) = false := by simp; omega
 have HF := zh (td HO.out (by rw [← HL.out, HE.out]));go_wp2_with fail;go_end0;exact ⟨rfl, ⟨v, HPv.out, HF.out⟩, Hb.out⟩
theorem zDV (p c n B : Nat) (l0 : List UInt8) (w : World) (hp : B ≤ p) (hw : Wri w p B l0) (hB : B ≤ w.heap.size) (hn : n ≤ 8) (_hc : c < 18446744073709551616) (h0 : l0.length ≤ 1000000) :
  Calls Tryz.prog 116 #[.pointer (some ⟨p, 0, none⟩), .int .u64 (c : Int), .int .i64 (n : Int)] w fun e w' => e = .returned (.tuple #[]) ∧ Wri w' p B (l0 ++ le c n) ∧ Below B w w' := by
 obtain ⟨v0, hpt, hown0⟩ := hw.h;have HS := zh (show ∀ k, k < (le c n).length → _ from fun k => uW (l := le c n) (j := k));have HE := zh (show (le c n).take (le c n).length = le c n from List.take_length);have HA := zh (show ∀ k, k < n → _ from fun k => zLZ (v := c) (n := n) (j := k));have hl := uB c n;generalize le c n = l at *;have HL := zh hl;have HP := zh hpt;have HO0 := zh hown0;clear hpt hl hown0 hw
 go_enter Tryz.func116, Tryz.ntmps116
 go_wp2_with fail
 go_loopw [8] (fun iv wr => ∃ (k : Nat) (v : Value), iv = .int .i64 (k : Int) ∧ k ≤ n ∧ wr.heap[p]? = some (.cells #[v] 203 (0, 0)) ∧ wr.ownsRow B 5 1 v (l0.length + k) ((l0 ++ l.take k).map xh) ∧ Below B w wr) (fun iv _ => n - (intOf iv).toNat)
 case atStart => exact ⟨0, v0, by go_num, by omega, HP.out, by simpa using HO0.out, Below.refl _ _⟩
 obtain ⟨k, v, rfl, hk, hpv, hown, hb⟩ := hrel;have HPv := zh hpv;have HO := zh hown;have Hb := zh hb;have hB2 : B ≤ wr.heap.size := Nat.le_trans hB hb.size;have c0 := cell_of_one hpv;have f0 := free_of_one hpv;clear hpv hown hb
 by_cases hlt : k < n
 ·
  have i1 : (k : Int) < (n : Int) := by omega
  have HSk := zh (HS.out k (by rw [HL.out]; exact hlt));have hbyte : IntKind.u8.wrap ((c : Int) / 2 ^ (8 * k)) = ((bat l k).toNat : Int) := by rw [HA.out k hlt, ← zFr c _]; simp [IntKind.wrap, IntKind.signed, IntKind.bits]
  generalize bat l k = x at *;have j1 : IntKind.i64.wrap (8 * (k : Int)) = 8 * (k : Int) := IntWalk.i64_in _ (by omega);have j2 : (0 : Int) ≤ 8 * (k : Int) := by omega
  have j3 : (8 * (k : Int)).toNat = 8 * k := by omega
  have j4 : 8 * (k : Int) < 64 := by omega
  have hpw : p < wr.heap.size := World.block_lt_of_cell? _ _ c0
  have HCP := zh (fun o W (h : ((wr.alloc o).drew).grownBy W v.ownBlock) => show W.heap[p]? = some (.cells #[v] 203 (0, 0)) from by
   rw [h.block p (by simp; omega) (fun e => wP HO.out HPv.out (by decide) e.symm)]
   exact (Below.heap_alloc wr o p hpw).trans HPv.out)
  go_wp2_with fail
  go_region_law ((refine xV (by rfl) (.tmp 15) (.tmp 21) 54 (by rfl) ku B (by rfl) ((HO.out.alloc _).drew) (by rfl) (Rd.drew (zFj wr x _)) (vE [x]) (by unfold maxLen; omega) (by omega) (by simp; omega) ?_; intro v2 w2 hown2 hgr2 hv2; clear hv2; obtain ⟨oa2, oc2, hv2, _, _, _⟩ := zJ hown2; subst hv2; have hp2 := HCP.out _ _ hgr2; have c2 := cell_of_one hp2; have f2 := free_of_one hp2))
  all_goals
   have HP3 := one_setCell (u := .slice oa2 (l0.length + k + 1) oc2) hp2;have HO3 := uG hown2 (p := ⟨p, 0, none⟩) (wP hown2 hp2 (by decide)) (.slice oa2 (l0.length + k + 1) oc2);have HB3 := (zK (zi (Hb.out.alloc hB2 _)) ((HO.out.alloc _).drew) (by simp; omega) hgr2).setCell (p := ⟨p, 0, none⟩) hp (.slice oa2 (l0.length + k + 1) oc2);clear hgr2 hp2 c2 f2 hbyte j1 j2 j3 j4 hown2;go_wp2_with fail;exact ⟨⟨k + 1, _, by go_num, by omega, HP3, by rw [HSk.out, ← List.append_assoc, List.map_append]; exact HO3, HB3⟩, by simp [intOf]; omega⟩
 obtain rfl : n = k := by omega
 have i1 : ¬ (n : Int) < (n : Int) := by omega
 have HF := zh (td HO.out (by rw [← HL.out, HE.out]));go_wp2_with fail;go_end0;exact ⟨rfl, ⟨v, HPv.out, HF.out⟩, Hb.out⟩
theorem zJZ (v : Value) (l : List It) (w : World) (h : RdT w v l) :
  Calls Tryz.prog 178 #[v, .func (.func 140) #[] #[]] w fun e w' => (∃ k : Int, e = .returned (.int .i64 k) ∧ decide (0 ≤ k) = !l.all okB) ∧ Below w.heap.size w w' := by
 obtain ⟨a, cap, rfl, h1, h2⟩ := h.shape;have HT := zh (show (∀ j, j < l.length → _) → _ from qX (l := l) (p := okB));have HF := zh (show ∀ j, j < l.length → _ → _ from fun j => tM (l := l) (p := okB) (j := j));have hm := kC h1 h2;generalize hn : l.length = n at *;have Hr := zh h;clear h h1 h2 hn
 go_enter Tryz.func178, Tryz.ntmps178
 go_wp2_with fail
 go_loopw [8] (fun i wr => ∃ k : Nat, k ≤ n ∧ i = .int .i64 (k : Int) ∧ (∀ j, j < k → okB (iat l j) = true) ∧ Below w.heap.size w wr) (fun i _ => n - (intOf i).toNat)
 case atStart => exact ⟨0, Nat.zero_le _, rfl, fun j hj => absurd hj (by omega), Below.refl _ _⟩
 obtain ⟨k, hk, rfl, hok, hb⟩ := hrel;have Hok := zh hok;have Hb := zh hb;have hB := hb.size;clear hok hb
 by_cases hlt : k < n
 ·
  have hr := Hr.out.below Hb.out;obtain ⟨b, off, rfl, c0, c1, c2, c3⟩ := hr.at hlt;have HV := zh fun w => zCR (iat l k).key (iat l k).ck (iat l k).off (iat l k).size w
  generalize hx : iat l k = x at *;have EX := zh hx;clear hx;clear hr;go_wp2_with fail;refine (HV.out _).mono ?_; rintro e w1 ⟨rfl, hb1⟩;have Hb1 := zh (zA Hb.out hb1)
  cases hx : okB x
  ·
   have HX := zh hx;clear hb1 hx;go_wp2_with fail;go_ret;refine ⟨⟨k, rfl, ?_⟩, Hb1.out⟩;rw [HF.out k hlt (by rw [EX.out]; exact HX.out)]; simp
  have HX := zh hx;clear hb1 hx;go_wp2_with fail;refine ⟨⟨k + 1, by omega, by go_num, fun j hj => ?_, Hb1.out⟩, by simp [intOf]; omega⟩
  by_cases e : j = k
  ·
   rw [e, EX.out]; exact HX.out
  exact Hok.out j (by omega)
 obtain rfl : k = n := by omega
 go_wp2_with fail;go_ret;refine ⟨⟨-1, rfl, ?_⟩, Hb.out⟩;rw [HT.out Hok.out]; rfl
theorem zH0 (v : Value) (l : List It) (w : World) (h : RdT w v l) :
  Calls Tryz.prog 139 #[v, .func (.func 140) #[] #[]] w fun e w' => e = .returned (.bool (!l.all okB)) ∧ Below w.heap.size w w' := by
 have HA := zh (zJZ v l w h);obtain ⟨a, cap, rfl, h1, h2⟩ := h.shape;clear h h1 h2
 go_enter Tryz.func139, Tryz.ntmps139
 go_wp2_with fail;refine HA.out.mono ?_; rintro e w1 ⟨⟨k, rfl, hk⟩, hb1⟩;have Hk := zh hk;have Hb1 := zh hb1;clear hk hb1;go_wp2_with fail;go_ret;exact ⟨zE Hk.out, Hb1.out⟩
theorem zFY (v : Value) (l : List It) (w : World) (h : RdT w v l) :
  Calls Tryz.prog 99 #[v] w fun e w' => e = .returned (.bool (xY l)) ∧ Below w.heap.size w w' := by
 have HA := zh (zCP v l w h);have HC := zh (fun w h => zH0 v l w h);have Hr := zh h;obtain ⟨a, cap, rfl, h1, h2⟩ := h.shape;clear h h1 h2
 go_enter Tryz.func99, Tryz.ntmps99
 go_wp2_with fail;refine HA.out.mono ?_; rintro e w1 ⟨rfl, hb1⟩;have Hb1 := zh hb1
 cases hab : kP l
 ·
  have HF := zh (zDd hab);clear hb1 hab;go_wp2_with fail;go_ret;exact ⟨zE HF.out.symm, Hb1.out⟩
 have HF := zh (show xY l = l.all okB by unfold xY; rw [hab]; rfl);clear hb1 hab;go_wp2_with fail;refine (HC.out w1 (Hr.out.below Hb1.out)).mono ?_; rintro e w2 ⟨rfl, hb2⟩;have Hb2 := zh (zA Hb1.out hb2);clear hb2;go_wp2_with fail;go_ret;exact ⟨zE (HF.out.symm), Hb2.out⟩
theorem zHu (v : Value) (l : List It) (w : World) (h : RdT w v l) :
  Calls Tryz.prog 161 #[v] w fun e w' => e = .returned (.bool (xY l)) ∧ Below w.heap.size w w' := by
 obtain ⟨a, cap, rfl, h1, h2⟩ := h.shape;have HT := zh (show AscTo l l.length → (∀ j, j < l.length → okB (iat l j) = true) → xY l = true from zHG);have HF1 := zh (show ∀ j, j + 1 < l.length → (iat l (j + 1)).key ≤ (iat l j).key → xY l = false from fun j h1 h2 => zDd (zAf h1 h2));have HF2 := zh (show ∀ j, j < l.length → okB (iat l j) = false → xY l = false from fun j => zJ9 (l := l) (j := j));have hm := kC h1 h2;generalize hn : l.length = n at *;have Hr := zh h;clear h h1 h2 hn
 go_enter Tryz.func161, Tryz.ntmps161
 go_wp2_with fail
 go_loopw [3] (fun i wr => ∃ k : Nat, k ≤ n ∧ i = .int .i64 (k : Int) ∧ AscTo l k ∧ (∀ j, j < k → okB (iat l j) = true) ∧ Below w.heap.size w wr) (fun i _ => n - (intOf i).toNat)
 case atStart => exact ⟨0, Nat.zero_le _, rfl, fun j hj => absurd hj (by omega), fun j hj => absurd hj (by omega), Below.refl _ _⟩
 obtain ⟨k, hk, rfl, hasc, hok, hb⟩ := hrel;have Hasc := zh hasc;have Hok := zh hok;have Hb := zh hb;have hB := hb.size;clear hasc hok hb
 by_cases hlt : k < n
 ·
  have hr := Hr.out.below Hb.out;obtain ⟨b, off, rfl, c0, c1, c2, c3⟩ := hr.at hlt;obtain ⟨r, hr0⟩ : ∃ r, okB (iat l k) = r := ⟨_, rfl⟩
  have HV := zh fun w => ke (iat l k).key (iat l k).ck (iat l k).off (iat l k).size w
  rw [show okB ⟨(iat l k).key, (iat l k).ck, (iat l k).off, (iat l k).size⟩ = r from hr0] at HV;have HR := zh hr0;clear hr0;have f1 := zC c1;have f2 := zC c2;have f3 := zC c3;have i1 : (k : Int) < (n : Int) := by omega
  have HR2 := zh (HF2.out k hlt);rw [HR.out] at HR2
  cases r
  ·
   have f0 := zC c0;generalize iat l k = x at *;clear c0 c1 c2 c3 hr;go_wp2_with fail;refine zB (by kernel_rfl) (by kernel_rfl) ?_
   repeat (go_big_quiet_step ((exact zI (HV.out _))))
   refine wpQuiet_nil ?_;intro _ hw';obtain ⟨q, hw'⟩ := hw';subst hw';go_wp2_with fail;go_ret;exact ⟨zE (HR2.out (by first | trivial | rfl)).symm, zA Hb.out q.h⟩
  have HK := zh (show ∀ j, j < k + 1 → okB (iat l j) = true from fun j hj => by
   by_cases e : j = k
   ·
    rw [e]; exact HR.out
   exact Hok.out j (by omega))
  by_cases h0 : k = 0
  ·
   subst h0;rw [Nat.zero_mul, Nat.add_zero] at c0 f1 f2 f3;have f0 := zC c0;clear c0 c1 c2 c3 hr;generalize iat l 0 = x at *;go_wp2_with fail;refine zB (by kernel_rfl) (by kernel_rfl) ?_
   repeat (go_big_quiet_step ((exact zI (HV.out _))))
   refine wpQuiet_nil ?_;intro _ hw';obtain ⟨q, hw'⟩ := hw';subst hw';go_wp2_with fail;exact ⟨⟨1, by omega, by go_num, fun j hj => absurd hj (by omega), HK.out, zA Hb.out q.h⟩, by simp [intOf]; omega⟩
  obtain ⟨j, rfl⟩ : ∃ j, k = j + 1 := ⟨k - 1, by omega⟩
  have hd : decide ((0 : Int) < ((j + 1 : Nat) : Int)) = true := by simp
  have f0 := zC c0;obtain ⟨_, _, e, d0, _⟩ := hr.at (show j < n by omega);injection e with e; injection e with e1 e2; subst e1 e2;have g0 := zC d0;have HK2 := zh (HF1.out j hlt)
  have HK3 := zh (show (iat l j).key < (iat l (j + 1)).key → AscTo l (j + 1 + 1) from fun h => Hasc.out.succ fun i e => by
   obtain rfl : j = i := by omega
   exact h)
  clear c0 c1 c2 c3 hr d0;generalize iat l (j + 1) = x at *;generalize iat l j = y at *;have i2 : (j : Int) < (n : Int) := by omega
  have i3 : (j : Int) + 1 < (n : Int) := by omega
  have j1 : IntKind.i64.wrap (j : Int) = (j : Int) := IntWalk.i64_in _ (by omega);go_wp2_with fail;refine zB (by kernel_rfl) (by kernel_rfl) ?_
  repeat (go_big_quiet_step ((exact zI (HV.out _))))
  refine wpQuiet_nil ?_;intro _ hw';obtain ⟨q, hw'⟩ := hw';subst hw';clear i2 i3 j1;go_wp2_with fail
  ·
   have hle : x.key ≤ y.key := by assumption
   go_ret;exact ⟨zE (HK2.out hle).symm, zA Hb.out q.h⟩
  have hxy : y.key < x.key := by assumption
  exact ⟨⟨j + 1 + 1, by omega, by go_num, HK3.out hxy, HK.out, zA Hb.out q.h⟩, by simp [intOf]; omega⟩
 obtain rfl : k = n := by omega
 go_wp2_with fail;go_ret;exact ⟨zE (HT.out Hasc.out Hok.out).symm, Hb.out⟩
end Go.Proofs.YtcgfilmmokmdjaaGreat
