/- A part of the walk. -/
import Derived.Test.YtcgfilmmokmdjaaGreatQAJ
import Derived.Test.YtcgfilmmokmdjaaGreatQAI
import Derived.Test.YtcgfilmmokmdjaaGreatQAA
import Derived.Test.YtcgfilmmokmdjaaGreatGv
import Derived.Test.YtcgfilmmokmdjaaGreatQAG
import Derived.StillTailTactics
import Derived.Deep.Quiet
import Derived.BigQuiet
import Derived.Test.YtcgfilmmokmdjaaGreatBase
set_option linter.all false
set_option maxRecDepth 100000
set_option maxHeartbeats 32000000
namespace Go.Proofs.YtcgfilmmokmdjaaGreat
open Go.RowKit
theorem eU.K8 {w : World} {B : Nat} {s : Sl} {f g : Nat → List It} (h : eU w B s f) (e : ∀ i, i < 8 → g i = f i) : eU w B s g := fun i hi => by rw [e i hi]; exact h i hi
theorem eO.K8 {w' : World} {B : Nat} {s s' : Sl} {f0 f g : Nat → List It} (h : eO w' B s f0 s' f) (e : ∀ i, i < 8 → g i = f i) : eO w' B s f0 s' g := by
 rcases h with ⟨h1, h2⟩ | h
 ·
  exact .inl ⟨h1, fun i hi => (e i hi).trans (h2 i hi)⟩
 exact .inr (h.K8 e)
theorem eO.pts {w : World} {B b : Nat} {s s' : Sl} {f f' : Nat → List It} (h : eO w B s f s' f') (hb : b < B) (vs : List (Nat × Value)) : eO (Go.Proofs.YtcgfilmmokmdjaaGreat.pts w b vs) B s f s' f' := h.imp id fun h => h.pts hb vs
theorem zJN (s : Sl) (M : Mp) (x : It) (w : World) (h : fw w s M.st) (hs : ∀ i, i < 8 → (M.st i).length ≤ 9000) :
  Calls Tryz.prog 83 #[yA s M.live M.dW, jB x] w fun e w' => (∃ s', e = .returned (yA s' (wQ M x).live (wQ M x).dW) ∧ eO w' w.heap.size s M.st s' (wQ M x).st) ∧ Below w.heap.size w w' := by
 have e := zIb M x;refine (zHR s M x w h hs).mono ?_;rintro e' w' ⟨⟨s', rfl, ho⟩, hb⟩;exact ⟨⟨s', by rw [e.l, e.g], ho.K8 e.st⟩, hb⟩
theorem WO (s : Sl) (M : Mp) (key : Int) (w : World) (h : fw w s M.st) (hs : ∀ i, i < 8 → (M.st i).length ≤ 9000) :
  Calls Tryz.prog 82 #[yA s M.live M.dW, .int .u64 key] w fun e w' => (∃ s', e = .returned (yA s' (yJ M key).live (yJ M key).dW) ∧ eO w' w.heap.size s M.st s' (yJ M key).st) ∧ Below w.heap.size w w' := by
 have e := zID M key;refine (zG5 s M key w h hs).mono ?_;rintro e' w' ⟨⟨s', rfl, ho⟩, hb⟩;exact ⟨⟨s', by rw [e.l, e.g], ho.K8 e.st⟩, hb⟩
def K9 (w0 : World) (s : Sl) (f : Nat → List It) (p : Int × Gn) (e : Ending) (w' : World) : Prop := (∃ s', e = .returned (.tuple #[za p.2.num p.2.rev p.2.mode p.2.size s' p.2.m.live p.2.m.dW, .int .i64 p.1]) ∧ eO w' w0.heap.size s f s' p.2.m.st) ∧ Below w0.heap.size w0 w'
/-! ### The d_ ends, plain -/
def Ju (l : List It) (size : Int) : Bool := (List.range l.length).all fun i => decide (vY (dX l i) ≤ size) && (List.range l.length).all fun k => decide (k = i) || !(decide ((dX l i).off ≤ (dX l k).off) && decide ((dX l k).off < vY (dX l i)))
theorem WQ (l : List It) (size : Int) : Ju l size = true ↔ ∀ i, i < l.length → vY (dX l i) ≤ size ∧ ∀ k, k < l.length → k ≠ i → ¬ ((dX l i).off ≤ (dX l k).off ∧ (dX l k).off < vY (dX l i)) := by
 unfold Ju;rw [dE];refine ⟨fun h i hi => ?_, fun h i hi => ?_⟩
 ·
  have h1 := h i (List.mem_range.2 hi);rw [aM, aT, dE] at h1;refine ⟨h1.1, fun k hk hne hc => ?_⟩;have h2 := h1.2 k (List.mem_range.2 hk);rw [aD hne, aF hc.1, aF hc.2] at h2
  cases h2
 obtain ⟨h1, h2⟩ := h i (List.mem_range.1 hi);rw [aM, aT, dE];refine ⟨h1, fun k hk => ?_⟩
 by_cases e : k = i
 ·
  rw [aF e]; rfl
 rw [aD e, Bool.false_or, Bool.not_eq_true', Bool.and_eq_false_iff, decide_eq_false_iff_not, decide_eq_false_iff_not];have := h2 k (List.mem_range.1 hk) e;omega
theorem zJg {l : List It} (hok : ∀ x ∈ l, nt x) (size : Int) : Ju l size = vU l size := by
 refine Bool.eq_iff_iff.2 ((WQ l size).trans (Iff.trans ?_ (decide_eq_true_iff (p := kK l size)).symm));have hm : ∀ i, (h : i < l.length) → dX l i = l[i] := fun i h => by unfold dX; rw [ax, aB h]; rfl
 constructor
 ·
  intro h;refine ⟨List.pairwise_iff_getElem.2 fun i j hi hj hij => ?_, fun x hx => ?_⟩
  ·
   have h1 := (h i hi).2 j hj (by omega);have h2 := (h j hj).2 i hi (by omega);rw [hm i hi, hm j hj] at h1 h2;unfold D7;omega
  obtain ⟨i, hi, rfl⟩ := b8 hx;have := (h i hi).1
  rwa [hm i hi] at this
 rintro ⟨hp, hs⟩ i hi;rw [hm i hi];refine ⟨hs _ (bI hi), fun k hk e => ?_⟩;rw [hm k hk];have gi := tx (hok _ (bI hi));have gk := tx (hok _ (bI hk));rcases Nat.lt_or_gt_of_ne e with hlt | hlt
 ·
  have := List.pairwise_iff_getElem.1 hp k i hk hi hlt;unfold D7 at this;omega
 have := List.pairwise_iff_getElem.1 hp i k hi hk hlt;unfold D7 at this;omega
theorem iQ.K_ {w : World} {b off n cap : Nat} {l : List It} (h : iQ w (.slice (some ⟨b, off, none⟩) n cap) l) {j : Nat} (hj : j < n) : w.cell? ⟨b, off + j * 4 + 2, none⟩ = some (.int .i64 (dX l j).off) := by
 obtain ⟨b', o', e, c0, c1, c2, c3⟩ := h.at hj;injection e with e;injection e with e1 e2;subst e1 e2;exact c2
theorem zGx (v : Value) (l : List It) (size : Int) (w : World) (h : iQ w v l) (hok : ∀ x ∈ l, nt x) (hsm : l.length ≤ 1000000) :
  Calls Tryz.prog 122 #[v, .int .i64 size] w fun e w' => e = .returned (.bool (Ju l size)) ∧ Below w.heap.size w w' := by
 have HE := zh (WQ l size);have pW := zh (fun i (hi : i < l.length) => hok (dX l i) (t7 hi));generalize Ju l size = res at *;clear hok;obtain ⟨a, cap, rfl, h1, h2⟩ := h.shape;have hm := BM h1 h2;have Hr := zh h;clear h;generalize hn : l.length = n at *;clear hn h1 h2
 go_enter Tryz.func122, Tryz.ntmps122
 go_wp2_with fail
 go_loopw [5] (fun iv W => ∃ i : Nat, iv = .int .i64 (i : Int) ∧ i ≤ n ∧ Hid (∀ j, j < i → vY (dX l j) ≤ size ∧ ∀ k, k < n → k ≠ j → ¬ ((dX l j).off ≤ (dX l k).off ∧ (dX l k).off < vY (dX l j))) ∧ Hid (Below w.heap.size w W)) (fun iv _ => n - (intOf iv).toNat)
 case atStart => exact ⟨0, rfl, au _, zh (fun j hj => by omega), zh (aj _ _)⟩
 obtain ⟨i, rfl, hi, HI, HB⟩ := hrel
 by_cases hlt : i < n
 ·
  obtain ⟨b, off, rfl, c0, c1, c2, c3⟩ := (Hr.out.below HB.out).at hlt;have hx := pW.out i hlt;have hsl : eM (dX l i).size.toNat ≤ 4127 := xx _;have hx1 := hx.2.2.1;have hz0 : ((dX l i).size.toNat : Int) = (dX l i).size := Int.toNat_of_nonneg hx.2.2.2.1;have HZ := zh (fun W => Nn (dX l i).size.toNat W);rw [hz0] at HZ;have QW := zh (show vY (dX l i) = (dX l i).off + (eM (dX l i).size.toNat : Int) from rfl);have i1 : (i : Int) < (n : Int) := by omega
  have G7 : 16 ≤ (dX l i).off ∧ (dX l i).off ≤ 1048576 := ⟨hx.1, hx.2.1⟩
  have Ea := zh (fun W => show Calls Tryz.prog 28 #[.int .i64 (dX l i).size] W fun e w' => e = .returned (.int .i64 (eM (dX l i).size.toNat : Int)) ∧ Below W.heap.size W w' from (HZ.out W).mono fun e w' hh => ⟨hh.1, hh.2 ▸ aj _ _⟩);have y2 := zB c2;have y3 := zB c3;clear HZ hx;generalize eM (dX l i).size.toNat = z at *;go_wp2_with fail;refine zC (by kernel_rfl) (by kernel_rfl) ?_
  repeat (go_big_quiet_step (exact zG (Ea.out _)))
  refine aC ?_;intro w2 hw2;obtain ⟨q, hw2⟩ := hw2;subst hw2;have eP := zh (zA HB.out q.h);generalize q.w' = w2 at *;clear q y2 y3 Ea c0 c1 c2 c3;obtain ⟨en, hen⟩ : ∃ en : Int, (dX l i).off + (z : Int) = en := ⟨_, rfl⟩
  have aen : 16 ≤ en ∧ en ≤ 2097152 := by omega
  have Eb := zh (QW.out.trans hen)
  by_cases hsz : size < en
  ·
   have e0 : decide (size < (dX l i).off + (z : Int)) = true := by rw [hen]; exact aF hsz
   go_wp2_with fail;go_ret;refine ⟨zE ?_, eP.out⟩
   symm
   rw [← Bool.not_eq_true, HE.out];intro hh;have := (hh i hlt).1;rw [Eb.out] at this;omega
  have e0 : decide (size < (dX l i).off + (z : Int)) = false := by rw [hen]; exact aD hsz
  rw [hen] at e0;go_wp2_with fail;clear e0;have D3 := Eb
  go_loopw [7] (fun kv W => ∃ k : Nat, kv = .int .i64 (k : Int) ∧ k ≤ n ∧ Hid (∀ j, j < k → j ≠ i → ¬ ((dX l i).off ≤ (dX l j).off ∧ (dX l j).off < vY (dX l i))) ∧ Hid (Below w.heap.size w W)) (fun kv _ => n - (intOf kv).toNat)
  case atStart => exact ⟨0, rfl, au _, zh (fun j hj => by omega), eP⟩
  obtain ⟨k, rfl, hk, HK, fV⟩ := hrel;clear eP
  by_cases hkn : k < n
  ·
   have ci := (Hr.out.below fV.out).K_ hlt;have ck := (Hr.out.below fV.out).K_ hkn;have yi := zB ci;have yk := zB ck;have i2 : (k : Int) < (n : Int) := by omega
   clear ci ck
   by_cases hki : k = i
   ·
    have e1 : ((k : Int) != (i : Int)) = false := by rw [hki]; simp
    have aeo : ¬ k ≠ i := by omega
    have hle : k = i := hki;clear hki;go_wp2_with fail;refine zC (by kernel_rfl) (by kernel_rfl) ?_
    repeat (go_big_quiet_step (fail))
    refine aC ?_;intro w4 hw4;obtain ⟨q, hw4⟩ := hw4;subst hw4;have fQ := zh (zA fV.out q.h);generalize q.w' = w4 at *;clear q yi yk;go_wp2_with fail
    go_roundw
    case rel => exact ⟨k + 1, by go_num, by omega, zh (fun j hj hne hc => by
     by_cases e : j = k
     ·
      subst e
      have h1 := hc.1
      have h2 := hc.2
      rw [Eb.out] at h2
      omega
     exact HK.out j (by omega) hne hc), fQ⟩
    case measure => simp [intOf]; omega
   have e1 : ((k : Int) != (i : Int)) = true := bne_iff_ne.2 (by omega)
   by_cases hge : (dX l i).off ≤ (dX l k).off
   ·
    have e2 : decide ((dX l i).off ≤ (dX l k).off) = true := aF hge
    by_cases hlk : (dX l k).off < en
    ·
     have e3 : decide ((dX l k).off < en) = true := aF hlk;go_wp2_with fail;refine zC (by kernel_rfl) (by kernel_rfl) ?_
     repeat (go_big_quiet_step (fail))
     refine aC ?_;intro w4 hw4;obtain ⟨q, hw4⟩ := hw4;subst hw4;have fQ := zh (zA fV.out q.h);generalize q.w' = w4 at *;clear q yi yk;go_wp2_with fail;go_ret;refine ⟨zE ?_, fQ.out⟩
     symm
     rw [← Bool.not_eq_true, HE.out];intro hh;exact (hh i hlt).2 k hkn hki ⟨hge, by rw [Eb.out]; exact hlk⟩
    have e3 : decide ((dX l k).off < en) = false := aD hlk;go_wp2_with fail;refine zC (by kernel_rfl) (by kernel_rfl) ?_
    repeat (go_big_quiet_step (fail))
    refine aC ?_;intro w4 hw4;obtain ⟨q, hw4⟩ := hw4;subst hw4;have fQ := zh (zA fV.out q.h);generalize q.w' = w4 at *;clear q yi yk;go_wp2_with fail
    go_roundw
    case rel => exact ⟨k + 1, by go_num, by omega, zh (fun j hj hne hc => by
     by_cases e : j = k
     ·
      subst e
      have h1 := hc.1
      have h2 := hc.2
      rw [Eb.out] at h2
      omega
     exact HK.out j (by omega) hne hc), fQ⟩
    case measure => simp [intOf]; omega
   have e2 : decide ((dX l i).off ≤ (dX l k).off) = false := aD hge;go_wp2_with fail;refine zC (by kernel_rfl) (by kernel_rfl) ?_
   repeat (go_big_quiet_step (fail))
   refine aC ?_;intro w4 hw4;obtain ⟨q, hw4⟩ := hw4;subst hw4;have fQ := zh (zA fV.out q.h);generalize q.w' = w4 at *;clear q yi yk;go_wp2_with fail
   go_roundw
   case rel => exact ⟨k + 1, by go_num, by omega, zh (fun j hj hne hc => by
    by_cases e : j = k
    ·
     subst e
     have h1 := hc.1
     have h2 := hc.2
     rw [Eb.out] at h2
     omega
    exact HK.out j (by omega) hne hc), fQ⟩
   case measure => simp [intOf]; omega
  obtain rfl : k = n := by omega
  go_wp2_with fail
  go_roundw
  case rel => exact ⟨i + 1, by go_num, by omega, zh (fun j hj => by
   by_cases e : j = i
   ·
    subst e
    exact ⟨by rw [Eb.out]; omega, fun k hk hne => HK.out k hk hne⟩
   exact HI.out j (by omega)), fV⟩
  case measure => simp [intOf]; omega
 obtain rfl : i = n := by omega
 go_wp2_with fail;go_ret;refine ⟨zE ?_, HB.out⟩
 symm
 rw [HE.out];exact HI.out
end Go.Proofs.YtcgfilmmokmdjaaGreat
namespace Go.Proofs.YtcgfilmmokmdjaaGreat
open Go Go.RowKit
section
variable {P : Program} {ops : Array Oper} {md : Region.Mode}
def zX (ops : Array Oper) (j : Nat) : Option Tmp := (ops[j]?).bind (·.dst)
def fA (ops : Array Oper) (a0 : Act) (f : Nat → Value) : Nat → Act
 | 0 => a0
 | n + 1 => (fA ops a0 f n).put (zX ops n) (f n)
def xH (f : Nat → Value) (i : Nat) (v : Value) : Nat → Value := fun j => if j = i then v else f j
theorem zKQ (a : Act) (d : Option Tmp) (u v : Value) : (a.put d u).put d v = a.put d v := by
 cases d with
 | none => rfl
 | some d => simp [Act.put]
theorem put_comm (a : Act) (d e : Option Tmp) (u v : Value) (h : d = none ∨ d ≠ e) : (a.put d u).put e v = (a.put e v).put d u := by
 cases d with
 | none => rfl
 | some d =>
  cases e with
  | none => rfl
  | some e =>
   have hne : d ≠ e := by
    rcases h with h | h
    ·
     cases h
    exact fun e1 => h (by rw [e1])
   simp only [Act.put];rw [Array.setIfInBounds_comm _ _ hne]
theorem WS (ops : Array Oper) (a0 : Act) (f : Nat → Value) (i : Nat) (v : Value) : ∀ n, n ≤ i → fA ops a0 (xH f i v) n = fA ops a0 f n
 | 0, _ => rfl
 | n + 1, h => by
  show (fA ops a0 (xH f i v) n).put _ (xH f i v n) = _
  rw [WS ops a0 f i v n (by omega)];have : xH f i v n = f n := ah (by omega);rw [this]; rfl
theorem tq (ops : Array Oper) (a0 : Act) (f : Nat → Value) (i : Nat) (v : Value) : ∀ n, i < n → (∀ j, j < n → j ≠ i → zX ops i = none ∨ zX ops i ≠ zX ops j) → (fA ops a0 f n).put (zX ops i) v = fA ops a0 (xH f i v) n
 | 0, h, _ => by omega
 | n + 1, h, hd => by
  show ((fA ops a0 f n).put (zX ops n) (f n)).put (zX ops i) v = (fA ops a0 (xH f i v) n).put (zX ops n) (xH f i v n)
  by_cases e : i = n
  ·
   subst e;rw [zKQ, WS ops a0 f i v i (ai _)];have : xH f i v i = v := ag rfl;rw [this]
  have h1 : zX ops n = none ∨ zX ops n ≠ zX ops i := by
   rcases hd n (by omega) (fun e1 => e e1.symm) with h | h
   ·
    cases hn : zX ops n with
    | none => exact .inl rfl
    | some d => exact .inr (by rw [h]; simp)
   exact .inr (aO h)
  rw [put_comm _ _ _ _ _ h1, tq ops a0 f i v n (by omega) fun j hj hji => hd j (by omega) hji];have : xH f i v n = f n := ah (by omega);rw [this]
theorem Jv (ops : Array Oper) (a0 : Act) : ∀ n, fA ops a0 (fun j => match zX ops j with | some d => a0.tmps.getD d undef | none => undef) n = a0
 | 0 => rfl
 | n + 1 => by
  show (fA ops a0 _ n).put (zX ops n) _ = a0
  rw [Jv ops a0 n]
  cases hd : zX ops n with
  | none => rfl
  | some d =>
   simp only [hd];obtain ⟨t, ds⟩ := a0;simp only [Act.put]
   congr 1
   apply Array.ext_getElem?;intro i
   by_cases e : d = i
   ·
    subst e;rw [Array.getElem?_setIfInBounds_self]
    split
    ·
     rename_i h; simp [h]
    rename_i h; rw [Array.getElem?_eq_none (by omega)]
   rw [Array.getElem?_setIfInBounds_ne e]
def NM (md : Region.Mode) (ops : Array Oper) (n : Nat) : Bool :=
 decide (n < ops.size) && Region.sinkB md ops n && Region.chainB md ops n &&
 ((List.range n).all fun i => ((ops[i]?).map fun o => o.dst.isSome && o.after.all fun e => !Region.binds md e || decide (e.on < i)).getD false) &&
 ((List.range n).all fun i => (List.range n).all fun j => decide (i = j) || decide (zX ops i ≠ zX ops j)) &&
 Region.seqB md ops (ops.size - n) n ((List.range ops.size).map fun j => decide (j < n)).toArray
variable {Q : Exit → Act → World → Prop}
def blk : Value → Nat
 | .pointer (some a) => a.block
 | _ => 0
def tA (B0 : Value → World → Prop) (F : Prop) (ds : List Deferred) (d : Option Tmp) (w : World) (a' : Act) (w' : World) : Prop :=
 a'.defers = ds ∧ Below w.heap.size w w' ∧ ∀ t, d = some t → B0 (a'.tmps.getD t undef) w' ∧ (F → w.heap.size ≤ blk (a'.tmps.getD t undef) ∧ blk (a'.tmps.getD t undef) < w'.heap.size)
theorem kT {o : Oper} {a : Act} {w : World} {R : Act → World → Prop} (h : wpList P ops (Exit.then R Q) [o] a w) {K : Act → World → Prop}
  (hK : ∀ v w', R (a.put o.dst v) w' → K (a.put o.dst v) w') (hD : ∀ d v w', R ({ a with defers := d :: a.defers }.put o.dst v) w' → False) :
  if Region.wanted o (yielded ops a.tmps) then o.wp P a w K Q ∨ (o.asks P a w ∧ LetsOut Q) else K (a.put o.dst undef) w := by
 unfold wpList at h
 split at h
 ·
  rename_i hw;rw [ag hw];rcases h with h | ⟨h1, h2⟩
  ·
   left
   unfold Oper.wp at h ⊢;generalize (execOp a.eval o).run P w = r at *
   cases r with
   | ok nx w' =>
    cases nx with
    | value v => exact hK _ _ h
    | skip => exact hK _ _ h
    | defer d => exact absurd h (hD _ _ _)
    | enter f args =>
     refine Calls.mono h fun e w'' he => ?_
     cases e with
     | returned v => exact hK _ _ he
     | panicked c => exact he
     | outgrown => exact he
    | row r args => exact Rows.mono h fun v w'' he => hK _ _ he
    | _ => exact h
   | halt x w' => cases x <;> first | exact h | exact False.elim h
  exact .inr ⟨h1, h2⟩
 rename_i hw;rw [ah hw];exact hK _ _ h
theorem tV {T : List Nat} (h : T ≠ []) : ∃ m, m ∈ T ∧ ∀ k ∈ T, m ≤ k := by
 induction T with
 | nil => exact absurd rfl h
 | cons x r ih =>
  by_cases hr : r = []
  ·
   subst hr; exact ⟨x, by simp, fun k hk => by simp at hk; omega⟩
  obtain ⟨m, hm, hle⟩ := ih hr
  by_cases hx : x ≤ m
  ·
   exact ⟨x, by simp, fun k hk => by
    rcases List.mem_cons.1 hk with rfl | hk
    ·
     exact ai _
    exact ak hx (hle k hk)⟩
  exact ⟨m, by simp [hm], fun k hk => by
   rcases List.mem_cons.1 hk with rfl | hk
   ·
    omega
   exact hle k hk⟩
theorem uU (ops : Array Oper) (a0 : Act) (f : Nat → Value) : ∀ n, (fA ops a0 f n).tmps.size = a0.tmps.size
 | 0 => rfl
 | n + 1 => by
  show ((fA ops a0 f n).put (zX ops n) (f n)).tmps.size = _
  rw [← uU ops a0 f n]
  cases zX ops n <;> simp [Act.put]
theorem zKf {n : Nat} {a0 : Act} {w0 : World} {Φ : Nat → Value → World → Prop} {F : Nat → Prop} {l : List Oper} (hl : ops = l.toArray) (hB : NM md ops n = true) (hN : ∀ i, i < n → ∀ t, zX ops i = some t → t < a0.tmps.size)
  (mono : ∀ j, j < n → ∀ v w1 w2, Below w1.heap.size w1 w2 → Φ j v w1 → Φ j v w2)
  (head : ∀ i o, i < n → ops[i]? = some o → ∀ f w1, Below w0.heap.size w0 w1 → (∀ e ∈ o.after, Region.binds md e = true → Φ e.on (f e.on) w1) →
   wpList P ops (Exit.then (tA (Φ i) (F i) (fA ops a0 f n).defers o.dst w1) Q) [o] (fA ops a0 f n) w1)
  (tail : ∀ f w1, Below w0.heap.size w0 w1 → (∀ j, j < n → Φ j (f j) w1) → (∀ j k, j < n → k < n → j ≠ k → F j → F k → blk (f j) ≠ blk (f k)) → wpList P ops Q (l.drop n) (fA ops a0 f n) w1) :
  ∀ (fuel : Nat) (T : List Nat) (s : Array Bool) (f : Nat → Value) (w : World), T.Nodup → T.length = fuel → (∀ j, j < n → (s.getD j false = false ↔ j ∈ T)) → (∀ j ∈ T, j < n) → HeadInv md ops n s → Below w0.heap.size w0 w →
   (∀ j, j < n → s.getD j false = true → Φ j (f j) w) → (∀ j, j < n → s.getD j false = true → F j → blk (f j) < w.heap.size) →
   (∀ j k, j < n → k < n → j ≠ k → s.getD j false = true → s.getD k false = true → F j → F k → blk (f j) ≠ blk (f k)) → wpAny P md ops Q (fuel + (ops.size - n)) s (fA ops a0 f n) w := by
 simp only [NM, aM, aT] at hB;obtain ⟨⟨⟨⟨⟨hn, hs⟩, hc⟩, hfw⟩, hdd⟩, EK⟩ := hB;have ou : ∀ i o, i < n → ops[i]? = some o → o.dst.isSome = true ∧ ∀ e ∈ o.after, Region.binds md e = true → e.on < i := fun i o hi ho => by
  have := List.all_eq_true.1 hfw i (List.mem_range.2 hi);rw [ho] at this;simp only [dB, bw, aM] at this;refine ⟨this.1, fun e he hb => ?_⟩;have h2 := Array.all_eq_true_iff_forall_mem.1 this.2 e he;rw [hb] at h2
  simpa using h2
 have rF : ∀ i j, i < n → j < n → i ≠ j → zX ops i ≠ zX ops j := fun i j hi hj hij => by
  have := List.all_eq_true.1 (List.all_eq_true.1 hdd i (List.mem_range.2 hi)) j (List.mem_range.2 hj)
  simpa [hij] using this
 intro fuel
 induction fuel with
 | zero =>
  intro T s f w hT hlen lq o5 inv hb hΦ hF Bk;have EL : T = [] := List.length_eq_zero_iff.1 hlen;subst EL;have hall : ∀ j, j < n → s.getD j false = true := fun j hj => by
   cases h : s.getD j false with
   | true => rfl
   | false => exact absurd ((lq j hj).1 h) (by simp)
  have DW : s = ((List.range ops.size).map fun j => decide (j < n)).toArray := by
   apply Array.ext
   ·
    simp [inv.size]
   intro j h1 h2;have il : j < ops.size := by rw [← inv.size]; exact h1
   simp only [aV, dK, dO]
   by_cases e : j < n
   ·
    have := hall j e;rw [bu, bC h1] at this;simp only [bw] at this;rw [this]; simp [e]
   have := inv.tail j (by omega) il;rw [bu, bC h1] at this;simp only [bw] at this;rw [this]; simp [e]
  rw [aJ];have iz : (l.drop n).length = ops.size - n := by rw [hl]; simp
  have h3 := wpAny_of_seq (P := P) (md := md) (ops := ops) (Q' := Q) (l.drop n) n s (fA ops a0 f n) w (fun j => by rw [hl]; simp [cM]) (by rw [iz, DW]; exact EK) (tail f w hb (fun j hj => hΦ j hj (hall j hj)) fun j k hj hk hjk => Bk j k hj hk hjk (hall j hj) (hall k hk))
  rwa [iz] at h3
 | succ fuel ih =>
  intro T s f w hT hlen lq o5 inv hb hΦ hF Bk;have rG : T ≠ [] := fun e => by rw [e] at hlen; cases hlen
  obtain ⟨m, hm, hle⟩ := tV rG;have hmn := o5 m hm;have hun : s.getD m false = false := (lq m hmn).2 hm;have Db : m < s.size := by rw [inv.size]; omega
  obtain ⟨om, Bl⟩ : ∃ o, ops[m]? = some o := ⟨_, bC (by omega)⟩
  have jq : m ∈ Region.ready md ops s := mem_ready.2 ⟨getD_in Db hun, om, Bl, fun e he jb => by
   have h1 := (ou m om hmn Bl).2 e he jb
   cases h2 : s.getD e.on false with
   | true => rfl
   | false =>
    have := hle _ ((lq e.on (by omega)).1 h2)
    omega⟩
  rw [show fuel + 1 + (ops.size - n) = (fuel + (ops.size - n)) + 1 by omega];refine ⟨fun e => absurd jq (by rw [e]; simp), fun i hi => ?_⟩;obtain ⟨Cy, oi, hoi, lS⟩ := mem_ready.1 hi;have hin : i < n := Nat.lt_of_not_le fun h => tail_waits hs hc hn inv _ m rfl hmn (getD_in Db hun) i h hi
  have EM : i ∈ T := (lq i hin).1 (getD_both Cy);have Bp := ou i oi hin hoi;have mO : zX ops i = oi.dst := by unfold zX; rw [hoi]; rfl
  unfold wpOp;rw [hoi];simp only [];have hh := head i oi hin hoi f w hb fun e he jb => hΦ e.on (by have := Bp.2 e he jb; omega) (lS e he jb)
  refine kT hh (fun v w' hR => ?_) (fun d v w' hR => ?_)
  ·
   obtain ⟨_, fB, hv⟩ := hR;have hval : ∀ i, i < n → oi.dst.isSome = true → zX ops i = oi.dst → (∀ t, oi.dst = some t → Φ i (((fA ops a0 f n).put oi.dst v).tmps.getD t undef) w' ∧ (F i → w.heap.size ≤ blk (((fA ops a0 f n).put oi.dst v).tmps.getD t undef) ∧ blk (((fA ops a0 f n).put oi.dst v).tmps.getD t undef) < w'.heap.size)) → Φ i v w' ∧ (F i → w.heap.size ≤ blk v ∧ blk v < w'.heap.size) := fun i hi h1 mO h => by
    obtain ⟨t, ht⟩ := Option.isSome_iff_exists.1 h1;have h4 := h t ht;have h5 : t < (fA ops a0 f n).tmps.size := by rw [uU]; exact hN i hi t (by rw [mO, ht])
    rw [ht] at h4
    simpa [Act.put, h5] using h4
   rw [← mO, tq ops a0 f i v n hin fun j hj hji => .inr (rF i j hin hj (aO hji))];refine ih (T.erase i) _ _ w' (hT.erase i) (by rw [List.length_erase_of_mem EM]; omega) (fun j hj => ?_) (fun j hj => o5 j (List.mem_of_mem_erase hj)) (inv.set hi hin) (zA hb fB) (fun j hj il => ?_) (fun j hj il Ac => ?_) (fun j k hj hk hjk il hks Ac Ec => ?_)
   ·
    rw [hT.mem_erase_iff]
    by_cases e : j = i
    ·
     subst e;have il : j < s.size := by rw [inv.size]; omega
     simp [bu, il]
    rw [bB false (aO e), lq j hj];simp [e]
   ·
    by_cases e : j = i
    ·
     subst e;have : xH f j v j = v := ag rfl;rw [this];exact (hval j hj Bp.1 mO hv).1
    have : xH f i v j = f j := ah e;rw [this];rw [bB false (aO e)] at il;exact mono j hj _ _ _ fB (hΦ j hj il)
   ·
    by_cases e : j = i
    ·
     subst e;have : xH f j v j = v := ag rfl;rw [this];exact ((hval j hj Bp.1 mO hv).2 Ac).2
    have : xH f i v j = f j := ah e;rw [this];rw [bB false (aO e)] at il;exact cS (hF j hj il Ac) fB.size
   by_cases e : j = i
   ·
    subst e;have e1 : xH f j v j = v := ag rfl;have e2 : xH f j v k = f k := ah (aO hjk);rw [e1, e2];rw [bB false hjk] at hks;have h1 := ((hval j hj Bp.1 mO hv).2 Ac).1;have h2 := hF k hk hks Ec;omega
   have e1 : xH f i v j = f j := ah e;rw [e1];rw [bB false (aO e)] at il
   by_cases e3 : k = i
   ·
    subst e3;have e2 : xH f k v k = v := ag rfl;rw [e2];have h1 := ((hval k hk Bp.1 mO hv).2 Ec).1;have h2 := hF j hj il Ac;omega
   have e2 : xH f i v k = f k := ah e3;rw [e2];rw [bB false (aO e3)] at hks;exact Bk j k hj hk hjk il hks Ac Ec
  have h1 := hR.1;have h2 := aS List.length h1
  cases EN : oi.dst <;> simp [Act.put, EN] at h2
structure lT where
 p : Value → World → Prop
 m : ∀ v w w', Below w.heap.size w w' → p v w → p v w'
instance : Inhabited lT := ⟨⟨fun _ _ => True, fun _ _ _ _ _ => trivial⟩⟩
def eR (x : Value) : lT := ⟨fun v _ => v = x, fun _ _ _ _ h => h⟩
def EO (o : Oper) (j : Nat) : Bool := o.after.any fun e => Region.binds .any e && e.on == j
def stA (L : List lT) (j : Nat) : lT := L.getD j default
def La (ops : Array Oper) (n N : Nat) : Bool := (List.range n).all fun i => ((zX ops i).map fun t => decide (t < N)).getD true
def Lc (P : Program) (Q : Exit → Act → World → Prop) (ops : Array Oper) (L : List lT) (F : List Nat) (fr : (Nat → Value) → Act) (w : World) : List Oper → List lT → Nat → Prop
 | o :: r, S :: R, i => (∀ f w1, Below w.heap.size w w1 → (∀ j, EO o j = true → (stA L j).p (f j) w1) → wpList P ops (Exit.then (tA S.p (i ∈ F) (fr f).defers o.dst w1) Q) [o] (fr f) w1) ∧ Lc P Q ops L F fr w r R (i + 1)
 | _, _, _ => True
theorem kx {ops : Array Oper} {L : List lT} {F : List Nat} {fr : (Nat → Value) → Act} {w : World} : ∀ (l : List Oper) (R : List lT) (k : Nat), Lc P Q ops L F fr w l R k →
  ∀ i o S, l[i]? = some o → R[i]? = some S → ∀ f w1, Below w.heap.size w w1 → (∀ j, EO o j = true → (stA L j).p (f j) w1) → wpList P ops (Exit.then (tA S.p (k + i ∈ F) (fr f).defers o.dst w1) Q) [o] (fr f) w1
 | [], _, _, _, i, o, S, ho, _ => by simp at ho
 | o :: r, [], _, _, i, _, S, _, hS => by simp at hS
 | o :: r, S :: R, k, h, 0, o', S', ho, hS => by
  simp at ho hS;subst ho hS;exact h.1
 | o :: r, S :: R, k, h, i + 1, o', S', ho, hS => by
  have := kx r R (k + 1) h.2 i o' S' (by simpa using ho) (by simpa using hS)
  rwa [show k + 1 + i = k + (i + 1) by omega] at this
theorem yO {id : Nat} {a0 : Act} {w : World} {l : List Oper} (L : List lT) (F : List Nat) (N : Nat) (hm : P.follows .mixedOrders = true) (hB : NM .any l.toArray L.length = true)
  (hsz : a0.tmps.size = N) (hN : La l.toArray L.length N = true) {fr : (Nat → Value) → Act} (hfr : ∀ f, fA l.toArray a0 f L.length = fr f)
  (head : Lc P Q l.toArray L F fr w l L 0)
  (tail : ∀ f w1, Below w.heap.size w w1 → (∀ j, j < L.length → (stA L j).p (f j) w1) → (∀ j k, j < L.length → k < L.length → j ≠ k → j ∈ F → k ∈ F → blk (f j) ≠ blk (f k)) → wpList P l.toArray Q (l.drop L.length) (fr f) w1) : (Code.region id l.toArray true).wp P Q a0 w := by
 have hn : L.length < l.toArray.size := by
  simp only [NM, aM, aT] at hB;exact hB.1.1.1.1.1
 refine wp_region_any hm ?_;have h := zKf (md := .any) (Q := Q) (P := P) (n := L.length) (a0 := a0) (w0 := w) (Φ := fun j => (stA L j).p) (F := fun j => j ∈ F) rfl hB
  (fun i hi t ht => by
   have h1 := List.all_eq_true.1 hN i (List.mem_range.2 hi)
   rw [ht] at h1
   rw [hsz]
   simpa using h1)
  (fun j _ v w1 w2 hb h => (stA L j).m v w1 w2 hb h)
  (fun i o hi ho f w1 hb hd => by
   rw [hfr]
   have hS : L[i]? = some (stA L i) := by
    unfold stA
    rw [ax, aB hi]; rfl
   have h2 := kx l L 0 head i o (stA L i) (by simpa using ho) hS f w1 hb (fun j hj => by
    unfold EO at hj
    obtain ⟨e, he, h3⟩ := Array.any_eq_true'.1 hj
    simp only [aM, cz] at h3
    rw [← h3.2]
    exact hd e he h3.1)
   rwa [aJ] at h2)
  (fun f w1 hb hΦ Bk => by rw [hfr]; exact tail f w1 hb hΦ Bk)
  L.length (List.range L.length) (Array.replicate l.toArray.size false) (fun j => match zX l.toArray j with | some d => a0.tmps.getD d undef | none => undef) w.drew
  List.nodup_range (by simp) (fun j hj => by rw [getD_replicate_false]; simp [hj]) (fun j hj => by simpa using hj)
  ⟨by simp, fun j oj _ hl => (by rw [getD_replicate_false] at hl; cases hl), fun t _ ht => getD_in (by simpa using ht) (getD_replicate_false _ _)⟩
  (zz (aj _ _)) (fun j _ hl => by rw [getD_replicate_false] at hl; cases hl) (fun j _ hl => by rw [getD_replicate_false] at hl; cases hl) (fun j k _ _ _ hl => by rw [getD_replicate_false] at hl; cases hl)
 rw [Jv, show L.length + (l.toArray.size - L.length) = l.toArray.size by omega] at h;exact h
end
theorem pS {x : Value} {i : Nat} {F : List Nat} {d : Tmp} {w : World} {ts : Array Value} (h : ts.getD d undef = x) (hf : ¬ i ∈ F) : tA (eR x).p (i ∈ F) [] (some d) w ⟨ts, []⟩ w :=
 ⟨rfl, aj _ _, fun t ht => by injection ht with ht; subst ht; exact ⟨h, fun h => absurd h hf⟩⟩
theorem pT {x : Value} {i : Nat} {F : List Nat} {d : Tmp} {w w' : World} {ts : Array Value} (h : ts.getD d undef = x) (hf : ¬ i ∈ F) (hb : Below w.heap.size w w') : tA (eR x).p (i ∈ F) [] (some d) w ⟨ts, []⟩ w' :=
 ⟨rfl, hb, fun t ht => by injection ht with ht; subst ht; exact ⟨h, fun h => absurd h hf⟩⟩
end Go.Proofs.YtcgfilmmokmdjaaGreat
namespace Go.Proofs.YtcgfilmmokmdjaaGreat
open Go.RowKit
def rdS (l : List It) : lT := ⟨fun v w => ∃ u, v = u ∧ iQ w u l, fun _ _ _ hb ⟨u, h1, h2⟩ => ⟨u, h1, h2.below hb⟩⟩
theorem vr (g : Gn) (s : Sl) (w : World) (h : fw w s g.m.st) (hs : ∀ i, i < 8 → (g.m.st i).length ≤ 10000) :
  Calls Tryz.prog 79 #[za g.num g.rev g.mode g.size s g.m.live g.m.dW] w fun e w' => e = .returned (.bool (wB g)) ∧ Below w.heap.size w w' := by
 have HV := zh (fun W (hb : Below w.heap.size w W) => vk s g.m W (h.below hb) (fun i hi => ak (hs i hi) (by decide)));have HI := zh (fun W (hb : Below w.heap.size w W) => wy s g.m W (h.below hb) hs);have iR := zh (fun h => Wo (g := g) h);have rY : (zI g.m).length ≤ 1000000 := ak (wK hs) (by decide)
 have HM := zh (show yw g.m = true → (∀ x ∈ zI g.m, nt x) ∧ 0 ≤ g.m.live ∧ g.m.live ≤ 400000000 from fun hv =>
  ⟨qF ((zV g.m).1 hv), (tB ((zV g.m).1 hv) hs).2⟩)
 have jo := zh (yD g);have Eb := zh (fun W v (hr : iQ W v (zI g.m)) (hok : ∀ x ∈ zI g.m, nt x) => zGx v (zI g.m) g.size W hr hok rY);have QX := zh (fun (hok : ∀ x ∈ zI g.m, nt x) => zJg hok g.size);have eE := zh (eA.new w g.num g.rev g.mode g.size s g.m.live g.m.dW 113);have eD := zh (zQ w g.num g.rev g.mode g.size s g.m.live g.m.dW 113);clear h hs rY;generalize hres : wB g = res at *
 by_cases hA : 1 ≤ g.num ∧ g.num ≤ 8 ∧ 0 ≤ g.rev ∧ g.rev ≤ 4294967295 ∧ 1 ≤ g.mode ∧ g.mode ≤ 3
 ·
  obtain ⟨QC, QD, QE, QF, QG, QH⟩ := hA;have WU := zh (fun (hn : ¬ (16 ≤ g.size ∧ g.size ≤ 1048576 ∧ g.size % 8 = 0)) => iR.out fun h => hn h.size);have FR := zh (fun (hn : yw g.m = false) => iR.out fun h => by rw [h.m] at hn; cases hn)
  have oh := zh (show 16 ≤ g.size ∧ g.size ≤ 1048576 ∧ g.size % 8 = 0 → yw g.m = true → res = (vU (zI g.m) g.size && (g.size - 16 - g.m.live == g.m.dW)) from fun hB hv => by
   rw [dw, ← hres, yD, aM, cz]
   exact ⟨fun h => ⟨h.ends, by have := h.sum; omega⟩, fun h => ⟨⟨QC, QD⟩, ⟨QE, QF⟩, ⟨QG, QH⟩, hB, hv, h.1, by have := h.2; omega⟩⟩)
  clear iR jo hres;generalize yw g.m = vb at *;generalize zI g.m = I at *;obtain ⟨a, b, c, d, f, L, G⟩ := g;dsimp only at *;generalize Ju I d = er at *;generalize vU I d = eb at *
  go_enter Tryz.func79, Tryz.ntmps79
  go_upto_region 1 with fail;obtain ⟨W, hW⟩ : ∃ W, w.alloc (.cells (zW a b c d s L G) 113) = W := ⟨_, rfl⟩
  change Code.wp _ _ _ _ (w.alloc (.cells (zW a b c d s L G) 113));rw [hW] at eE eD ⊢;clear hW;have rE := eE.out.lt;obtain ⟨x0, x1, x2, x3, x4, x5, x6, x7, x8, x9, fM, fN, fK, fL⟩ := eE.out.q
  by_cases hB : 16 ≤ d ∧ d ≤ 1048576 ∧ d % 8 = 0
  ·
   obtain ⟨oI, hd2, Cr⟩ := hB;have QI : d.tmod 8 = 0 := by rw [Int.tmod_eq_emod_of_nonneg (by omega)]; exact Cr
   have e1 : decide (d < 16) = false := by simp; omega
   have e2 : decide (1048576 < d) = false := by simp; omega
   cases vb
   ·
    have HF := zh (FR.out rfl);have y3 := zB eE.out.n3;have y4 := zB eE.out.c0;have y5 := zB eE.out.c1;have y6 := zB eE.out.c2;have y7 := zB eE.out.c3;have y8 := zB eE.out.c4;have y9 := zB eE.out.c5;have FT := zB eE.out.c6;have FU := zB eE.out.c7;have FV := zB eE.out.cl;have FW := zB eE.out.cg;have Qr := zh (fun W (hb : Below W.heap.size W W) => HV.out);clear Qr;go_wp2_with fail;refine zC (by kernel_rfl) (by kernel_rfl) ?_
    repeat (go_big_quiet_step (exact zG (HV.out _ (zA eD.out (dY.h _)))))
    refine aC ?_;intro w4 hw4;obtain ⟨q, hw4⟩ := hw4;subst hw4;have fQ := zh (zA eD.out q.h);go_wp2_with fail;go_ret;exact ⟨zE HF.out.symm, fQ.out⟩
   obtain ⟨hok, Ku, hL2⟩ := HM.out rfl;have HR := zh (QX.out hok);have HF := zh (oh.out ⟨oI, hd2, Cr⟩ rfl);clear WU FR oh HM QX;go_wp2_with fail;clear x0 x1 x2 x3 x4 x5 x6 x7 x8 x9 fM fN fK fL
   refine yO [eR (.pointer (some ⟨w.heap.size, 3, none⟩)), eR (.int .i64 d), eR (.bool false), eR (.bool false), eR (.pointer (some ⟨w.heap.size, 3, none⟩)), eR (.int .i64 d), eR (.bool false), eR (.bool false), eR (.bool false), eR (.pointer (some ⟨w.heap.size, 3, none⟩)), eR (.int .i64 d), eR (.int .i64 0), eR (.bool false), eR (.bool false), eR (.bool false), eR (.pointer (some ⟨w.heap.size, 4, none⟩)), eR (yA s L G), eR (.bool true), eR (.bool false), eR (.bool false), eR (.bool false), eR (.pointer (some ⟨w.heap.size, 4, none⟩)), eR (yA s L G), rdS I, eR (.pointer (some ⟨w.heap.size, 3, none⟩)), eR (.int .i64 d), eR (.bool er), eR (.bool (!er))] [] 71 (by kernel_rfl) (by kernel_rfl) (by rfl) (by kernel_rfl) (fun f => by simp [fA, zX, Act.put]; exact rfl) ?_ ?_
   ·
    refine ⟨?_, ?_, ?_, ?_, ?_, ?_, ?_, ?_, ?_, ?_, ?_, ?_, ?_, ?_, ?_, ?_, ?_, ?_, ?_, ?_, ?_, ?_, ?_, ?_, ?_, ?_, ?_, ?_, trivial⟩
    ·
     intro f w1 hb hd;clear hd;dsimp only;go_wp2_with fail;exact pS rfl (by simp)
    ·
     intro f w1 hb hd;have d0 : f 0 = (.pointer (some ⟨w.heap.size, 3, none⟩)) := hd 0 (by kernel_rfl);clear hd;dsimp only;rw [d0];have hx := eE.out.below hb;have x3 := hx.n3;clear hx;go_wp2_with fail;exact pS rfl (by simp)
    ·
     intro f w1 hb hd;have d1 : f 1 = (.int .i64 d) := hd 1 (by kernel_rfl);clear hd;dsimp only;rw [d1];go_wp2_with fail;exact pS rfl (by simp)
    ·
     intro f w1 hb hd;have d2 : f 2 = (.bool false) := hd 2 (by kernel_rfl);clear hd;dsimp only;rw [d2];go_wp2_with fail;exact pS rfl (by simp)
    ·
     intro f w1 hb hd;have d3 : f 3 = (.bool false) := hd 3 (by kernel_rfl);clear hd;dsimp only;rw [d3];go_wp2_with fail;exact pS rfl (by simp)
    ·
     intro f w1 hb hd;have d3 : f 3 = (.bool false) := hd 3 (by kernel_rfl);have d4 : f 4 = (.pointer (some ⟨w.heap.size, 3, none⟩)) := hd 4 (by kernel_rfl);clear hd;dsimp only;rw [d3];rw [d4];have hx := eE.out.below hb;have x3 := hx.n3;clear hx;go_wp2_with fail;exact pS rfl (by simp)
    ·
     intro f w1 hb hd;have d3 : f 3 = (.bool false) := hd 3 (by kernel_rfl);have d5 : f 5 = (.int .i64 d) := hd 5 (by kernel_rfl);clear hd;dsimp only;rw [d3];rw [d5];go_wp2_with fail;exact pS rfl (by simp)
    ·
     intro f w1 hb hd;have d3 : f 3 = (.bool false) := hd 3 (by kernel_rfl);have d6 : f 6 = (.bool false) := hd 6 (by kernel_rfl);clear hd;dsimp only;rw [d3];rw [d6];go_wp2_with fail;exact pS rfl (by simp)
    ·
     intro f w1 hb hd;have d7 : f 7 = (.bool false) := hd 7 (by kernel_rfl);clear hd;dsimp only;rw [d7];go_wp2_with fail;exact pS rfl (by simp)
    ·
     intro f w1 hb hd;have d8 : f 8 = (.bool false) := hd 8 (by kernel_rfl);clear hd;dsimp only;rw [d8];go_wp2_with fail;exact pS rfl (by simp)
    ·
     intro f w1 hb hd;have d8 : f 8 = (.bool false) := hd 8 (by kernel_rfl);have d9 : f 9 = (.pointer (some ⟨w.heap.size, 3, none⟩)) := hd 9 (by kernel_rfl);clear hd;dsimp only;rw [d8];rw [d9];have hx := eE.out.below hb;have x3 := hx.n3;clear hx;go_wp2_with fail;exact pS rfl (by simp)
    ·
     intro f w1 hb hd;have d8 : f 8 = (.bool false) := hd 8 (by kernel_rfl);have d10 : f 10 = (.int .i64 d) := hd 10 (by kernel_rfl);clear hd;dsimp only;rw [d8];rw [d10];go_wp2_with fail;exact pS rfl (by simp)
    ·
     intro f w1 hb hd;have d8 : f 8 = (.bool false) := hd 8 (by kernel_rfl);have d11 : f 11 = (.int .i64 0) := hd 11 (by kernel_rfl);clear hd;dsimp only;rw [d8];rw [d11];go_wp2_with fail;exact pS rfl (by simp)
    ·
     intro f w1 hb hd;have d8 : f 8 = (.bool false) := hd 8 (by kernel_rfl);have d12 : f 12 = (.bool false) := hd 12 (by kernel_rfl);clear hd;dsimp only;rw [d8];rw [d12];go_wp2_with fail;exact pS rfl (by simp)
    ·
     intro f w1 hb hd;have d13 : f 13 = (.bool false) := hd 13 (by kernel_rfl);clear hd;dsimp only;rw [d13];go_wp2_with fail;exact pS rfl (by simp)
    ·
     intro f w1 hb hd;have d14 : f 14 = (.bool false) := hd 14 (by kernel_rfl);clear hd;dsimp only;rw [d14];go_wp2_with fail;exact pS rfl (by simp)
    ·
     intro f w1 hb hd;have d14 : f 14 = (.bool false) := hd 14 (by kernel_rfl);have d15 : f 15 = (.pointer (some ⟨w.heap.size, 4, none⟩)) := hd 15 (by kernel_rfl);clear hd;dsimp only;rw [d14];rw [d15];have hx := eE.out.below hb;obtain ⟨m4, m5, m6, m7, m8, m9, m10, m11, m12, m13⟩ := hx.q;clear hx;go_wp2_with fail;exact pS rfl (by simp)
    ·
     intro f w1 hb hd;have d14 : f 14 = (.bool false) := hd 14 (by kernel_rfl);have d16 : f 16 = (yA s L G) := hd 16 (by kernel_rfl);clear hd;dsimp only;rw [d14];rw [d16];go_wp2_with fail;refine (HV.out w1 (zA eD.out hb)).mono ?_; rintro e w9 ⟨rfl, fT⟩;go_wp2_with fail;exact pT rfl (by simp) fT
    ·
     intro f w1 hb hd;have d14 : f 14 = (.bool false) := hd 14 (by kernel_rfl);have d17 : f 17 = (.bool true) := hd 17 (by kernel_rfl);clear hd;dsimp only;rw [d14];rw [d17];go_wp2_with fail;exact pS rfl (by simp)
    ·
     intro f w1 hb hd;have d14 : f 14 = (.bool false) := hd 14 (by kernel_rfl);have d18 : f 18 = (.bool false) := hd 18 (by kernel_rfl);clear hd;dsimp only;rw [d14];rw [d18];go_wp2_with fail;exact pS rfl (by simp)
    ·
     intro f w1 hb hd;have d19 : f 19 = (.bool false) := hd 19 (by kernel_rfl);clear hd;dsimp only;rw [d19];go_wp2_with fail;exact pS rfl (by simp)
    ·
     intro f w1 hb hd;have d20 : f 20 = (.bool false) := hd 20 (by kernel_rfl);clear hd;dsimp only;rw [d20];go_wp2_with fail;exact pS rfl (by simp)
    ·
     intro f w1 hb hd;have d20 : f 20 = (.bool false) := hd 20 (by kernel_rfl);have d21 : f 21 = (.pointer (some ⟨w.heap.size, 4, none⟩)) := hd 21 (by kernel_rfl);clear hd;dsimp only;rw [d20];rw [d21];have hx := eE.out.below hb;obtain ⟨m4, m5, m6, m7, m8, m9, m10, m11, m12, m13⟩ := hx.q;clear hx;go_wp2_with fail;exact pS rfl (by simp)
    ·
     intro f w1 hb hd;have d20 : f 20 = (.bool false) := hd 20 (by kernel_rfl);have d22 : f 22 = (yA s L G) := hd 22 (by kernel_rfl);clear hd;dsimp only;rw [d20];rw [d22];go_wp2_with fail;refine (HI.out w1 (zA eD.out hb)).mono ?_; rintro e w9 ⟨v9, rfl, AQ, fT⟩;go_wp2_with fail;exact ⟨rfl, fT, fun t ht => by injection ht with ht; subst ht; exact ⟨⟨_, rfl, fg.rd AQ⟩, fun h => by simp at h⟩⟩
    ·
     intro f w1 hb hd;have d20 : f 20 = (.bool false) := hd 20 (by kernel_rfl);clear hd;dsimp only;rw [d20];go_wp2_with fail;exact pS rfl (by simp)
    ·
     intro f w1 hb hd;have d20 : f 20 = (.bool false) := hd 20 (by kernel_rfl);have d24 : f 24 = (.pointer (some ⟨w.heap.size, 3, none⟩)) := hd 24 (by kernel_rfl);clear hd;dsimp only;rw [d20];rw [d24];have hx := eE.out.below hb;have x3 := hx.n3;clear hx;go_wp2_with fail;exact pS rfl (by simp)
    ·
     intro f w1 hb hd;have d20 : f 20 = (.bool false) := hd 20 (by kernel_rfl);obtain ⟨v23, d23, r23⟩ := show ∃ u, f 23 = u ∧ iQ w1 u I from hd 23 (by kernel_rfl);have d25 : f 25 = (.int .i64 d) := hd 25 (by kernel_rfl);clear hd;dsimp only;rw [d20];rw [d23];rw [d25];go_wp2_with fail;refine (Eb.out w1 _ r23 hok).mono ?_; rintro e w9 ⟨rfl, fT⟩;go_wp2_with fail;exact pT rfl (by simp) fT
    intro f w1 hb hd;have d20 : f 20 = (.bool false) := hd 20 (by kernel_rfl);have d26 : f 26 = (.bool er) := hd 26 (by kernel_rfl);clear hd;dsimp only;rw [d20];rw [d26];go_wp2_with fail;exact pS rfl (by simp)
   intro f w5 hb hd jc;clear jc;have d19 : f 19 = (.bool false) := hd 19 (show 19 < 28 by decide);have d20 : f 20 = (.bool false) := hd 20 (show 20 < 28 by decide);have d27 : f 27 = (.bool (!er)) := hd 27 (show 27 < 28 by decide)
   try dsimp only
   rw [d19, d20, d27];clear hd d19 d20 d27;have fk := zh (eE.out.below hb);have gp := zh (zA eD.out hb);generalize f 0 = g0, f 1 = g1, f 2 = g2, f 3 = g3, f 4 = g4, f 5 = g5, f 6 = g6, f 7 = g7, f 8 = g8, f 9 = g9, f 10 = g10, f 11 = g11, f 12 = g12, f 13 = g13, f 14 = g14, f 15 = g15, f 16 = g16, f 17 = g17, f 18 = g18, f 21 = g21, f 22 = g22, f 23 = g23, f 24 = g24, f 25 = g25, f 26 = g26;clear f;have x3 := fk.out.n3;have fK := fk.out.cl;have fL := fk.out.cg
   cases er
   ·
    go_wp2_with fail;go_ret;exact ⟨zE (by rw [HF.out, ← HR.out]; rfl), gp.out⟩
   go_wp2_with fail;go_ret;exact ⟨zE (by rw [HF.out, ← HR.out]; rfl), gp.out⟩
  have HF := zh (WU.out hB);have y3 := zB eE.out.n3
  by_cases h1 : d < 16
  ·
   have e1 : decide (d < 16) = true := aF h1;go_wp2_with fail;refine zC (by kernel_rfl) (by kernel_rfl) ?_
   repeat (go_big_quiet_step (fail))
   refine aC ?_;intro w4 hw4;obtain ⟨q, hw4⟩ := hw4;subst hw4;have fQ := zh (zA eD.out q.h);go_wp2_with fail;go_ret;exact ⟨zE HF.out.symm, fQ.out⟩
  have e1 : decide (d < 16) = false := aD h1
  by_cases h2 : 1048576 < d
  ·
   have e2 : decide (1048576 < d) = true := aF h2;go_wp2_with fail;refine zC (by kernel_rfl) (by kernel_rfl) ?_
   repeat (go_big_quiet_step (fail))
   refine aC ?_;intro w4 hw4;obtain ⟨q, hw4⟩ := hw4;subst hw4;have fQ := zh (zA eD.out q.h);go_wp2_with fail;go_ret;exact ⟨zE HF.out.symm, fQ.out⟩
  have e2 : decide (1048576 < d) = false := aD h2;have QI : d.tmod 8 = d % 8 := Int.tmod_eq_emod_of_nonneg (by omega);have e3 : (d % 8 != 0) = true := bne_iff_ne.2 (fun e => hB ⟨by omega, by omega, e⟩);go_wp2_with fail;refine zC (by kernel_rfl) (by kernel_rfl) ?_
  repeat (go_big_quiet_step (fail))
  refine aC ?_;intro w4 hw4;obtain ⟨q, hw4⟩ := hw4;subst hw4;have fQ := zh (zA eD.out q.h);go_wp2_with fail;go_ret;exact ⟨zE HF.out.symm, fQ.out⟩
 have HF := zh (iR.out fun h => hA ⟨h.num.1, h.num.2, h.rev.1, h.rev.2, h.mode.1, h.mode.2⟩);have HnA := zh hA;clear iR jo hres HV HI HM Eb QX hA;obtain ⟨a, b, c, d, f, L, G⟩ := g;dsimp only at *
 go_enter Tryz.func79, Tryz.ntmps79
 go_upto_region 1 with fail;obtain ⟨W, hW⟩ : ∃ W, w.alloc (.cells (zW a b c d s L G) 113) = W := ⟨_, rfl⟩
 change Code.wp _ _ _ _ (w.alloc (.cells (zW a b c d s L G) 113));rw [hW] at eE eD ⊢;clear hW;have x0 := eE.out.n0;have x1 := eE.out.n1;have x2 := eE.out.n2;go_upto_region 3 with fail
 all_goals first | (go_ret; exact ⟨zE HF.out.symm, eD.out⟩) | (exfalso; exact HnA.out ⟨by omega, by omega, by omega, by omega, by omega, by omega⟩)
theorem wU (w : World) (n r md z : Int) (s : Sl) (l g : Int) (t : TypeId) : ∃ W, (w.alloc (.cells (zW n r md z s l g) t)).alloc (.cells (zW 0 0 0 0 Sl.nil 0 0) t) = W ∧ eA W w.heap.size n r md z s l g ∧ eA W (w.heap.size + 1) 0 0 0 0 Sl.nil 0 0 ∧ Below w.heap.size w W := by
 refine ⟨_, rfl, (eA.new w n r md z s l g t).below (zQ _ 0 0 0 0 Sl.nil 0 0 t), ?_, zA (zQ w n r md z s l g t) (zQ _ 0 0 0 0 Sl.nil 0 0 t)⟩;have := eA.new (w.alloc (.cells (zW n r md z s l g) t)) 0 0 0 0 Sl.nil 0 0 t
 rwa [cH] at this
theorem zEi (g : Gn) (s : Sl) (fA : Int) (w : World) (h : fw w s g.m.st) (hs : ∀ i, i < 8 → (g.m.st i).length ≤ 10000) :
  Calls Tryz.prog 104 #[za g.num g.rev g.mode g.size s g.m.live g.m.dW, .int .i64 fA] w (G4 w (xK g fA)) := by
 have HV := zh (fun W (hb : Below w.heap.size w W) => vW g s W (h.below hb) hs);have HW := zh (fun W (hb : Below w.heap.size w W) => vT s g.m 0 W (h.below hb) hs);rw [vj] at HW;have jO := zh (show ∀ W, eU W w.heap.size Sl.nil fW.m.st from fun W => eU.nil W _);have HG := zh (show xK g fA = if wB g = true then (if g.mode = fA then (0, { g with mode := fA + 1 }) else (12, fW)) else (1, fW) from rfl);have Cp := zh (show wB g = true → 1 ≤ g.mode ∧ g.mode ≤ 3 from fun hv => ((yD g).1 hv).mode);generalize wB g = vb at *;obtain ⟨n, r, md, z, ⟨f, L, G⟩⟩ := g;dsimp only at *;generalize xK ⟨n, r, md, z, ⟨f, L, G⟩⟩ fA = TG at *;obtain ⟨W, hW, fc, hbr, fB⟩ := wU w n r md z s L G 38;have HX := zh fc;have HR := zh hbr;have HB := zh fB;clear fc hbr fB h hs
 go_enter Tryz.func104, Tryz.ntmps104
 go_upto_region 1 with fail;change Code.wp _ _ _ _ ((w.alloc (.cells (zW n r md z s L G) 38)).alloc (.cells (zW 0 0 0 0 Sl.nil 0 0) 38));rw [hW];clear hW;obtain ⟨x0, x1, x2, x3, x4, x5, x6, x7, x8, x9, fM, fN, fK, fL⟩ := HX.out.q;go_wp2_with fail;refine (HV.out _ HB.out).mono ?_;rintro e w1 ⟨rfl, hb1⟩;have fp := zh (HX.out.below hb1);have eY := zh (HR.out.below hb1);have eQ := zh (zA HB.out hb1);clear x0 x1 x2 x3 x4 x5 x6 x7 x8 x9 fM fN fK fL;clear hb1 HX HR HB HV;have hlr := eY.out.lt
 cases vb
 ·
  have iT := zh (show TG = (1, fW) from HG.out);obtain ⟨r0, r1, r2, r3, r4, r5, r6, r7, r8, r9, lM, lr, l7, mP⟩ := eY.out.q;have rf := eY.out.f;go_wp2_with fail;change bodyPost _ _ _ _ _ (pts w1 (w.heap.size + 1) (zL 0 0 0 0 Sl.nil 0 0));have hby := eY.out.all 0 0 0 0 Sl.nil 0 0;have ek := zh (zD (B := w.heap.size) (b := (w.heap.size + 1)) (by omega) (zL 0 0 0 0 Sl.nil 0 0) eQ.out);have gB := jO.out (pts w1 (w.heap.size + 1) (zL 0 0 0 0 Sl.nil 0 0));rw [iT.out];generalize pts w1 (w.heap.size + 1) (zL 0 0 0 0 Sl.nil 0 0) = V at *;exact aw (v := .tuple #[za 0 0 0 0 Sl.nil 0 0, .int .i64 1]) (by simp [results, Tryz.results104, go_sem, hby.q]) rfl ⟨⟨_, rfl, gB⟩, ek.out⟩
 have aev := Cp.out rfl
 by_cases hm : md = fA
 ·
  subst hm;have iT := zh (show TG = (0, ⟨n, r, md + 1, z, ⟨f, L, G⟩⟩) by rw [HG.out, ag rfl, ag rfl]);clear HG Cp;obtain ⟨x0, x1, x2, x3, x4, x5, x6, x7, x8, x9, fM, fN, fK, fL⟩ := fp.out.q;have xf := fp.out.f;go_upto_region 6 with fail;change Code.wp _ _ _ _ (pts w1 w.heap.size [(2, .int .i64 (md + 1))]);have fU := zh (fp.out.KR (md + 1));have fZ := zh (eY.out.eu (show w.heap.size + 1 ≠ w.heap.size by omega) [(2, .int .i64 (md + 1))]);have eP := zh (zD (B := w.heap.size) (b := w.heap.size) (ai _) [(2, .int .i64 (md + 1))] eQ.out);have hz2 : (pts w1 w.heap.size [(2, .int .i64 (md + 1))]).heap.size = w1.heap.size := wC _ _;generalize pts w1 w.heap.size [(2, .int .i64 (md + 1))] = w2 at *;clear x0 x1 x2 x3 x4 x5 x6 x7 x8 x9 fM fN fK fL xf;clear fp eY eQ;obtain ⟨x0, x1, x2, x3, x4, x5, x6, x7, x8, x9, fM, fN, fK, fL⟩ := fU.out.q;have xf := fU.out.f;go_wp2_with fail
  refine (HW.out _ eP.out).mono ?_;rintro e w3 ⟨⟨s3, rfl, oT⟩, hb3⟩;have gO := zh (fU.out.below hb3);have mh := zh (fZ.out.below hb3);have fV := zh (zA eP.out hb3);have lB := zh (oT.mono (show w.heap.size + 2 ≤ w2.heap.size by omega));clear x0 x1 x2 x3 x4 x5 x6 x7 x8 x9 fM fN fK fL xf;clear hb3 oT fU fZ eP HW hz2;obtain ⟨x0, x1, x2, x3, x4, x5, x6, x7, x8, x9, fM, fN, fK, fL⟩ := gO.out.q;have xf := gO.out.f;go_upto_region 7 with fail;change Code.wp _ _ _ _ (pts w3 w.heap.size (yp s3 L G));have ia := zh (gO.out.map s3 L G);have jF := zh (mh.out.eu (show w.heap.size + 1 ≠ w.heap.size by omega) (yp s3 L G));have fQ := zh (zD (B := w.heap.size) (b := w.heap.size) (ai _) (yp s3 L G) fV.out);have iB := zh (lB.out.pts (show w.heap.size < w.heap.size + 2 by omega) (yp s3 L G));generalize pts w3 w.heap.size (yp s3 L G) = w4 at *;clear x0 x1 x2 x3 x4 x5 x6 x7 x8 x9 fM fN fK fL xf;clear gO mh fV lB
  obtain ⟨x0, x1, x2, x3, x4, x5, x6, x7, x8, x9, fM, fN, fK, fL⟩ := ia.out.q;obtain ⟨r0, r1, r2, r3, r4, r5, r6, r7, r8, r9, lM, lr, l7, mP⟩ := jF.out.q;have rf := jF.out.f;go_wp2_with fail;change bodyPost _ _ _ _ _ (pts w4 (w.heap.size + 1) (zL n r (md + 1) z s3 L G));have hby := jF.out.all n r (md + 1) z s3 L G;have ek := zh (zD (B := w.heap.size) (b := (w.heap.size + 1)) (by omega) (zL n r (md + 1) z s3 L G) fQ.out);have gB := (iB.out.pts (show w.heap.size + 1 < w.heap.size + 2 by omega) (zL n r (md + 1) z s3 L G)).mono (show w.heap.size ≤ w.heap.size + 2 by omega);rw [iT.out];generalize pts w4 (w.heap.size + 1) (zL n r (md + 1) z s3 L G) = V at *;exact aw (v := .tuple #[za n r (md + 1) z s3 L G, .int .i64 0]) (by simp [results, Tryz.results104, go_sem, hby.q]) rfl ⟨⟨_, rfl, gB⟩, ek.out⟩
 have iT := zh (show TG = (12, fW) by rw [HG.out, ag rfl, ah hm]);have e0 : (md == fA) = false := beq_eq_false_iff_ne.2 hm;clear HG Cp;obtain ⟨x0, x1, x2, x3, x4, x5, x6, x7, x8, x9, fM, fN, fK, fL⟩ := fp.out.q;obtain ⟨r0, r1, r2, r3, r4, r5, r6, r7, r8, r9, lM, lr, l7, mP⟩ := eY.out.q;have rf := eY.out.f;go_wp2_with fail;change bodyPost _ _ _ _ _ (pts w1 (w.heap.size + 1) (zL 0 0 0 0 Sl.nil 0 0));have hby := eY.out.all 0 0 0 0 Sl.nil 0 0;have ek := zh (zD (B := w.heap.size) (b := (w.heap.size + 1)) (by omega) (zL 0 0 0 0 Sl.nil 0 0) eQ.out);have gB := jO.out (pts w1 (w.heap.size + 1) (zL 0 0 0 0 Sl.nil 0 0));rw [iT.out];generalize pts w1 (w.heap.size + 1) (zL 0 0 0 0 Sl.nil 0 0) = V at *;exact aw (v := .tuple #[za 0 0 0 0 Sl.nil 0 0, .int .i64 12]) (by simp [results, Tryz.results104, go_sem, hby.q]) rfl ⟨⟨_, rfl, gB⟩, ek.out⟩
end Go.Proofs.YtcgfilmmokmdjaaGreat
