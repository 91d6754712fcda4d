/- Several texts in one, each over the last: A region that draws its order, by what each operation leaves: whatever the order, what an operation yields has a property that lasts while memory only grows; what comes behind them all has one order. A region that draws its order, by what each operation leaves, where one operation of the head may come behind the first of the tail: `x, e := f(..)` where x is a cell: the second extract may come behind the store. A region that draws its order and ends in two operations that may change places (two assignments at once). A region that draws its order: a head, then a call that may change what is the call's own, then two operations that may change places (a call with two results). Printed by mkZr.py. -/
import Derived.StillTailTactics
import Derived.Deep.Quiet
import Derived.BigQuiet
import Derived.Test.YtkabcpmnbjllcaaDoorBase
namespace Go.Proofs.YtkabcpmnbjllcaaDoor
open Go Go.RowKit

section
variable {P : Program} {ops : Array Oper} {md : Region.Mode}

def dstOf (ops : Array Oper) (j : Nat) : Option Tmp := (ops[j]?).bind (·.dst)
/-- The frame behind the first n operations, f j being what number j yields. -/
def frm (ops : Array Oper) (a0 : Act) (f : Nat → Value) : Nat → Act
  | 0 => a0
  | n + 1 => (frm ops a0 f n).put (dstOf ops n) (f n)
def updF (f : Nat → Value) (i : Nat) (v : Value) : Nat → Value := fun j => if j = i then v else f j
theorem put_put (a : Act) (d : Option Tmp) (u v : Value) : (a.put d u).put d v = a.put d v := by
  cases d with
  | none => rfl
  | some d => simp [Act.put]
theorem put_comm (a : Act) (d e : Option Tmp) (u v : Value) (h : d = none ∨ d ≠ e) : (a.put d u).put e v = (a.put e v).put d u := by
  cases d with
  | none => rfl
  | some d =>
    cases e with
    | none => rfl
    | some e =>
      have hne : d ≠ e := by
        rcases h with h | h
        · cases h
        · exact fun e1 => h (by rw [e1])
      simp only [Act.put]
      rw [Array.setIfInBounds_comm _ _ hne]
theorem frm_same (ops : Array Oper) (a0 : Act) (f : Nat → Value) (i : Nat) (v : Value) : ∀ n, n ≤ i → frm ops a0 (updF f i v) n = frm ops a0 f n
  | 0, _ => rfl
  | n + 1, h => by
    show (frm ops a0 (updF f i v) n).put _ (updF f i v n) = _
    rw [frm_same ops a0 f i v n (by omega)]
    have : updF f i v n = f n := if_neg (by omega)
    rw [this]; rfl
theorem frm_put (ops : Array Oper) (a0 : Act) (f : Nat → Value) (i : Nat) (v : Value) : ∀ n, i < n → (∀ j, j < n → j ≠ i → dstOf ops i = none ∨ dstOf ops i ≠ dstOf ops j) → (frm ops a0 f n).put (dstOf ops i) v = frm ops a0 (updF f i v) n
  | 0, h, _ => by omega
  | n + 1, h, hd => by
    show ((frm ops a0 f n).put (dstOf ops n) (f n)).put (dstOf ops i) v = (frm ops a0 (updF f i v) n).put (dstOf ops n) (updF f i v n)
    by_cases e : i = n
    · subst e
      rw [put_put, frm_same ops a0 f i v i (Nat.le_refl _)]
      have : updF f i v i = v := if_pos rfl
      rw [this]
    · have h1 : dstOf ops n = none ∨ dstOf ops n ≠ dstOf ops i := by
        rcases hd n (by omega) (fun e1 => e e1.symm) with h | h
        · cases hn : dstOf ops n with
          | none => exact .inl rfl
          | some d => exact .inr (by rw [h]; simp)
        · exact .inr (Ne.symm h)
      rw [put_comm _ _ _ _ _ h1, frm_put ops a0 f i v n (by omega) fun j hj hji => hd j (by omega) hji]
      have : updF f i v n = f n := if_neg (by omega)
      rw [this]
theorem frm_id (ops : Array Oper) (a0 : Act) : ∀ n, frm ops a0 (fun j => match dstOf ops j with | some d => a0.tmps.getD d undef | none => undef) n = a0
  | 0 => rfl
  | n + 1 => by
    show (frm ops a0 _ n).put (dstOf ops n) _ = a0
    rw [frm_id ops a0 n]
    cases hd : dstOf ops n with
    | none => rfl
    | some d =>
      simp only [hd]
      obtain ⟨t, ds⟩ := a0
      simp only [Act.put]
      congr 1
      apply Array.ext_getElem?
      intro i
      by_cases e : d = i
      · subst e
        rw [Array.getElem?_setIfInBounds_self]
        split
        · rename_i h; simp [h]
        · rename_i h; rw [Array.getElem?_eq_none (by omega)]
      · rw [Array.getElem?_setIfInBounds_ne e]
def relB (md : Region.Mode) (ops : Array Oper) (n : Nat) : Bool :=
  decide (n < ops.size) && Region.sinkB md ops n && Region.chainB md ops n &&
  ((List.range n).all fun i => ((ops[i]?).map fun o => o.dst.isSome && o.after.all fun e => !Region.binds md e || decide (e.on < i)).getD false) &&
  ((List.range n).all fun i => (List.range n).all fun j => decide (i = j) || decide (dstOf ops i ≠ dstOf ops j)) &&
  Region.seqB md ops (ops.size - n) n ((List.range ops.size).map fun j => decide (j < n)).toArray

variable {Q : Exit → Act → World → Prop}
def blk : Value → Nat
  | .pointer (some a) => a.block
  | _ => 0
/-- What an operation may leave. -/
def RelPost (B0 : Value → World → Prop) (F : Prop) (ds : List Deferred) (d : Option Tmp) (w : World) (a' : Act) (w' : World) : Prop :=
  a'.defers = ds ∧ Below w.heap.size w w' ∧ ∀ t, d = some t → B0 (a'.tmps.getD t undef) w' ∧ (F → w.heap.size ≤ blk (a'.tmps.getD t undef) ∧ blk (a'.tmps.getD t undef) < w'.heap.size)
theorem rel_one {o : Oper} {a : Act} {w : World} {R : Act → World → Prop} (h : wpList P ops (Exit.then R Q) [o] a w) {K : Act → World → Prop}
    (hK : ∀ v w', R (a.put o.dst v) w' → K (a.put o.dst v) w') (hD : ∀ d v w', R ({ a with defers := d :: a.defers }.put o.dst v) w' → False) :
    if Region.wanted o (yielded ops a.tmps) then o.wp P a w K Q ∨ (o.asks P a w ∧ LetsOut Q) else K (a.put o.dst undef) w := by
  unfold wpList at h
  split at h
  · rename_i hw
    rw [if_pos hw]
    rcases h with h | ⟨h1, h2⟩
    · left
      unfold Oper.wp at h ⊢
      generalize (execOp a.eval o).run P w = r at *
      cases r with
      | ok nx w' =>
        cases nx with
        | value v => exact hK _ _ h
        | skip => exact hK _ _ h
        | defer d => exact absurd h (hD _ _ _)
        | enter f args =>
          refine Calls.mono h fun e w'' he => ?_
          cases e with
          | returned v => exact hK _ _ he
          | panicked c => exact he
          | outgrown => exact he
        | row r args => exact Rows.mono h fun v w'' he => hK _ _ he
        | _ => exact h
      | halt x w' => cases x <;> first | exact h | exact False.elim h
    · exact .inr ⟨h1, h2⟩
  · rename_i hw
    rw [if_neg hw]
    exact hK _ _ h
theorem least_of {T : List Nat} (h : T ≠ []) : ∃ m, m ∈ T ∧ ∀ k ∈ T, m ≤ k := by
  induction T with
  | nil => exact absurd rfl h
  | cons x r ih =>
    by_cases hr : r = []
    · subst hr; exact ⟨x, by simp, fun k hk => by simp at hk; omega⟩
    · obtain ⟨m, hm, hle⟩ := ih hr
      by_cases hx : x ≤ m
      · exact ⟨x, by simp, fun k hk => by
          rcases List.mem_cons.1 hk with rfl | hk
          · exact Nat.le_refl _
          · exact Nat.le_trans hx (hle k hk)⟩
      · exact ⟨m, by simp [hm], fun k hk => by
          rcases List.mem_cons.1 hk with rfl | hk
          · omega
          · exact hle k hk⟩
theorem frm_size (ops : Array Oper) (a0 : Act) (f : Nat → Value) : ∀ n, (frm ops a0 f n).tmps.size = a0.tmps.size
  | 0 => rfl
  | n + 1 => by
    show ((frm ops a0 f n).put (dstOf ops n) (f n)).tmps.size = _
    rw [← frm_size ops a0 f n]
    cases dstOf ops n <;> simp [Act.put]
theorem rel_any {n : Nat} {a0 : Act} {w0 : World} {Φ : Nat → Value → World → Prop} {F : Nat → Prop} {l : List Oper} (hl : ops = l.toArray) (hB : relB md ops n = true) (hN : ∀ i, i < n → ∀ t, dstOf ops i = some t → t < a0.tmps.size)
    (mono : ∀ j, j < n → ∀ v w1 w2, Below w1.heap.size w1 w2 → Φ j v w1 → Φ j v w2)
    (head : ∀ i o, i < n → ops[i]? = some o → ∀ f w1, Below w0.heap.size w0 w1 → (∀ e ∈ o.after, Region.binds md e = true → Φ e.on (f e.on) w1) →
      wpList P ops (Exit.then (RelPost (Φ i) (F i) (frm ops a0 f n).defers o.dst w1) Q) [o] (frm ops a0 f n) w1)
    (tail : ∀ f w1, Below w0.heap.size w0 w1 → (∀ j, j < n → Φ j (f j) w1) → (∀ j k, j < n → k < n → j ≠ k → F j → F k → blk (f j) ≠ blk (f k)) → wpList P ops Q (l.drop n) (frm ops a0 f n) w1) :
    ∀ (fuel : Nat) (T : List Nat) (s : Array Bool) (f : Nat → Value) (w : World), T.Nodup → T.length = fuel → (∀ j, j < n → (s.getD j false = false ↔ j ∈ T)) → (∀ j ∈ T, j < n) → HeadInv md ops n s → Below w0.heap.size w0 w →
      (∀ j, j < n → s.getD j false = true → Φ j (f j) w) → (∀ j, j < n → s.getD j false = true → F j → blk (f j) < w.heap.size) →
      (∀ j k, j < n → k < n → j ≠ k → s.getD j false = true → s.getD k false = true → F j → F k → blk (f j) ≠ blk (f k)) → wpAny P md ops Q (fuel + (ops.size - n)) s (frm ops a0 f n) w := by
  simp only [relB, Bool.and_eq_true, decide_eq_true_eq] at hB
  obtain ⟨⟨⟨⟨⟨hn, hs⟩, hc⟩, hfw⟩, hdd⟩, hsq⟩ := hB
  have hfw' : ∀ i o, i < n → ops[i]? = some o → o.dst.isSome = true ∧ ∀ e ∈ o.after, Region.binds md e = true → e.on < i := fun i o hi ho => by
    have := List.all_eq_true.1 hfw i (List.mem_range.2 hi)
    rw [ho] at this
    simp only [Option.map_some, Option.getD_some, Bool.and_eq_true] at this
    refine ⟨this.1, fun e he hb => ?_⟩
    have h2 := Array.all_eq_true_iff_forall_mem.1 this.2 e he
    rw [hb] at h2
    simpa using h2
  have hdd' : ∀ i j, i < n → j < n → i ≠ j → dstOf ops i ≠ dstOf ops j := fun i j hi hj hij => by
    have := List.all_eq_true.1 (List.all_eq_true.1 hdd i (List.mem_range.2 hi)) j (List.mem_range.2 hj)
    simpa [hij] using this
  intro fuel
  induction fuel with
  | zero =>
    intro T s f w hT hlen hsT hTn inv hb hΦ hF hFF
    have hT0 : T = [] := List.length_eq_zero_iff.1 hlen
    subst hT0
    have hall : ∀ j, j < n → s.getD j false = true := fun j hj => by
      cases h : s.getD j false with
      | true => rfl
      | false => exact absurd ((hsT j hj).1 h) (by simp)
    have hse : s = ((List.range ops.size).map fun j => decide (j < n)).toArray := by
      apply Array.ext
      · simp [inv.size]
      · intro j h1 h2
        have hjs : j < ops.size := by rw [← inv.size]; exact h1
        simp only [List.getElem_toArray, List.getElem_map, List.getElem_range]
        by_cases e : j < n
        · have := hall j e
          rw [Array.getD_eq_getD_getElem?, Array.getElem?_eq_getElem h1] at this
          simp only [Option.getD_some] at this
          rw [this]; simp [e]
        · have := inv.tail j (by omega) hjs
          rw [Array.getD_eq_getD_getElem?, Array.getElem?_eq_getElem h1] at this
          simp only [Option.getD_some] at this
          rw [this]; simp [e]
    rw [Nat.zero_add]
    have hdl : (l.drop n).length = ops.size - n := by rw [hl]; simp
    have h3 := wpAny_of_seq (P := P) (md := md) (ops := ops) (Q' := Q) (l.drop n) n s (frm ops a0 f n) w (fun j => by rw [hl]; simp [List.getElem?_drop]) (by rw [hdl, hse]; exact hsq) (tail f w hb (fun j hj => hΦ j hj (hall j hj)) fun j k hj hk hjk => hFF j k hj hk hjk (hall j hj) (hall k hk))
    rwa [hdl] at h3
  | succ fuel ih =>
    intro T s f w hT hlen hsT hTn inv hb hΦ hF hFF
    have hTne : T ≠ [] := fun e => by rw [e] at hlen; cases hlen
    obtain ⟨m, hm, hle⟩ := least_of hTne
    have hmn := hTn m hm
    have hun : s.getD m false = false := (hsT m hmn).2 hm
    have hms : m < s.size := by rw [inv.size]; omega
    obtain ⟨om, hom⟩ : ∃ o, ops[m]? = some o := ⟨_, Array.getElem?_eq_getElem (by omega)⟩
    have hready : m ∈ Region.ready md ops s := mem_ready.2 ⟨getD_in hms hun, om, hom, fun e he hbnd => by
      have h1 := (hfw' m om hmn hom).2 e he hbnd
      cases h2 : s.getD e.on false with
      | true => rfl
      | false =>
        have := hle _ ((hsT e.on (by omega)).1 h2)
        omega⟩
    rw [show fuel + 1 + (ops.size - n) = (fuel + (ops.size - n)) + 1 by omega]
    refine ⟨fun e => absurd hready (by rw [e]; simp), fun i hi => ?_⟩
    obtain ⟨hiu, oi, hoi, hdeps⟩ := mem_ready.1 hi
    have hin : i < n := Nat.lt_of_not_le fun h => tail_waits hs hc hn inv _ m rfl hmn (getD_in hms hun) i h hi
    have hiT : i ∈ T := (hsT i hin).1 (getD_both hiu)
    have hfi := hfw' i oi hin hoi
    have hdo : dstOf ops i = oi.dst := by unfold dstOf; rw [hoi]; rfl
    unfold wpOp
    rw [hoi]
    simp only []
    have hh := head i oi hin hoi f w hb fun e he hbnd => hΦ e.on (by have := hfi.2 e he hbnd; omega) (hdeps e he hbnd)
    refine rel_one hh (fun v w' hR => ?_) (fun d v w' hR => ?_)
    · obtain ⟨_, hbw, hv⟩ := hR
      have hval : ∀ i, i < n → oi.dst.isSome = true → dstOf ops i = oi.dst → (∀ t, oi.dst = some t → Φ i (((frm ops a0 f n).put oi.dst v).tmps.getD t undef) w' ∧ (F i → w.heap.size ≤ blk (((frm ops a0 f n).put oi.dst v).tmps.getD t undef) ∧ blk (((frm ops a0 f n).put oi.dst v).tmps.getD t undef) < w'.heap.size)) → Φ i v w' ∧ (F i → w.heap.size ≤ blk v ∧ blk v < w'.heap.size) := fun i hi h1 hdo h => by
        obtain ⟨t, ht⟩ := Option.isSome_iff_exists.1 h1
        have h4 := h t ht
        have h5 : t < (frm ops a0 f n).tmps.size := by rw [frm_size]; exact hN i hi t (by rw [hdo, ht])
        rw [ht] at h4
        simpa [Act.put, h5] using h4
      rw [← hdo, frm_put ops a0 f i v n hin fun j hj hji => .inr (hdd' i j hin hj (Ne.symm hji))]
      refine ih (T.erase i) _ _ w' (hT.erase i) (by rw [List.length_erase_of_mem hiT]; omega) (fun j hj => ?_) (fun j hj => hTn j (List.mem_of_mem_erase hj)) (inv.set hi hin) (bstep hb hbw) (fun j hj hjs => ?_) (fun j hj hjs hFj => ?_) (fun j k hj hk hjk hjs hks hFj hFk => ?_)
      · rw [hT.mem_erase_iff]
        by_cases e : j = i
        · subst e
          have hjs : j < s.size := by rw [inv.size]; omega
          simp [Array.getD_eq_getD_getElem?, hjs]
        · rw [getD_set_ne false (Ne.symm e), hsT j hj]
          simp [e]
      · by_cases e : j = i
        · subst e
          have : updF f j v j = v := if_pos rfl
          rw [this]
          exact (hval j hj hfi.1 hdo hv).1
        · have : updF f i v j = f j := if_neg e
          rw [this]
          rw [getD_set_ne false (Ne.symm e)] at hjs
          exact mono j hj _ _ _ hbw (hΦ j hj hjs)
      · by_cases e : j = i
        · subst e
          have : updF f j v j = v := if_pos rfl
          rw [this]
          exact ((hval j hj hfi.1 hdo hv).2 hFj).2
        · have : updF f i v j = f j := if_neg e
          rw [this]
          rw [getD_set_ne false (Ne.symm e)] at hjs
          exact Nat.lt_of_lt_of_le (hF j hj hjs hFj) hbw.size
      · by_cases e : j = i
        · subst e
          have e1 : updF f j v j = v := if_pos rfl
          have e2 : updF f j v k = f k := if_neg (Ne.symm hjk)
          rw [e1, e2]
          rw [getD_set_ne false hjk] at hks
          have h1 := ((hval j hj hfi.1 hdo hv).2 hFj).1
          have h2 := hF k hk hks hFk
          omega
        · have e1 : updF f i v j = f j := if_neg e
          rw [e1]
          rw [getD_set_ne false (Ne.symm e)] at hjs
          by_cases e3 : k = i
          · subst e3
            have e2 : updF f k v k = v := if_pos rfl
            rw [e2]
            have h1 := ((hval k hk hfi.1 hdo hv).2 hFk).1
            have h2 := hF j hj hjs hFj
            omega
          · have e2 : updF f i v k = f k := if_neg e3
            rw [e2]
            rw [getD_set_ne false (Ne.symm e3)] at hks
            exact hFF j k hj hk hjk hjs hks hFj hFk
    · have h1 := hR.1
      have h2 := congrArg List.length h1
      cases hod : oi.dst <;> simp [Act.put, hod] at h2
/-- A property of a value that lasts while memory only grows. -/
structure Sta where
  p : Value → World → Prop
  m : ∀ v w w', Below w.heap.size w w' → p v w → p v w'
instance : Inhabited Sta := ⟨⟨fun _ _ => True, fun _ _ _ _ _ => trivial⟩⟩
def eqS (x : Value) : Sta := ⟨fun v _ => v = x, fun _ _ _ _ h => h⟩
def depB (o : Oper) (j : Nat) : Bool := o.after.any fun e => Region.binds .any e && e.on == j
def stA (L : List Sta) (j : Nat) : Sta := L.getD j default
def dstLtB (ops : Array Oper) (n N : Nat) : Bool := (List.range n).all fun i => ((dstOf ops i).map fun t => decide (t < N)).getD true
/-- Each operation in turn leaves what is said of it, in each world and whatever the others have done, if those that it waits for have left what is said of them. -/
def HeadL (P : Program) (Q : Exit → Act → World → Prop) (ops : Array Oper) (L : List Sta) (F : List Nat) (fr : (Nat → Value) → Act) (w : World) : List Oper → List Sta → Nat → Prop
  | o :: r, S :: R, i => (∀ f w1, Below w.heap.size w w1 → (∀ j, depB o j = true → (stA L j).p (f j) w1) → wpList P ops (Exit.then (RelPost S.p (i ∈ F) (fr f).defers o.dst w1) Q) [o] (fr f) w1) ∧ HeadL P Q ops L F fr w r R (i + 1)
  | _, _, _ => True
theorem headL_at {ops : Array Oper} {L : List Sta} {F : List Nat} {fr : (Nat → Value) → Act} {w : World} : ∀ (l : List Oper) (R : List Sta) (k : Nat), HeadL P Q ops L F fr w l R k →
    ∀ i o S, l[i]? = some o → R[i]? = some S → ∀ f w1, Below w.heap.size w w1 → (∀ j, depB o j = true → (stA L j).p (f j) w1) → wpList P ops (Exit.then (RelPost S.p (k + i ∈ F) (fr f).defers o.dst w1) Q) [o] (fr f) w1
  | [], _, _, _, i, o, S, ho, _ => by simp at ho
  | o :: r, [], _, _, i, _, S, _, hS => by simp at hS
  | o :: r, S :: R, k, h, 0, o', S', ho, hS => by
    simp at ho hS
    subst ho hS
    exact h.1
  | o :: r, S :: R, k, h, i + 1, o', S', ho, hS => by
    have := headL_at r R (k + 1) h.2 i o' S' (by simpa using ho) (by simpa using hS)
    rwa [show k + 1 + i = k + (i + 1) by omega] at this
theorem wp_region_rel {id : Nat} {a0 : Act} {w : World} {l : List Oper} (L : List Sta) (F : List Nat) (N : Nat) (hm : P.follows .mixedOrders = true) (hB : relB .any l.toArray L.length = true)
    (hsz : a0.tmps.size = N) (hN : dstLtB l.toArray L.length N = true) {fr : (Nat → Value) → Act} (hfr : ∀ f, frm l.toArray a0 f L.length = fr f)
    (head : HeadL P Q l.toArray L F fr w l L 0)
    (tail : ∀ f w1, Below w.heap.size w w1 → (∀ j, j < L.length → (stA L j).p (f j) w1) → (∀ j k, j < L.length → k < L.length → j ≠ k → j ∈ F → k ∈ F → blk (f j) ≠ blk (f k)) → wpList P l.toArray Q (l.drop L.length) (fr f) w1) : (Code.region id l.toArray true).wp P Q a0 w := by
  have hn : L.length < l.toArray.size := by
    simp only [relB, Bool.and_eq_true, decide_eq_true_eq] at hB
    exact hB.1.1.1.1.1
  refine wp_region_any hm ?_
  have h := rel_any (md := .any) (Q := Q) (P := P) (n := L.length) (a0 := a0) (w0 := w) (Φ := fun j => (stA L j).p) (F := fun j => j ∈ F) rfl hB
    (fun i hi t ht => by
      have h1 := List.all_eq_true.1 hN i (List.mem_range.2 hi)
      rw [ht] at h1
      rw [hsz]
      simpa using h1)
    (fun j _ v w1 w2 hb h => (stA L j).m v w1 w2 hb h)
    (fun i o hi ho f w1 hb hd => by
      rw [hfr]
      have hS : L[i]? = some (stA L i) := by
        unfold stA
        rw [List.getD_eq_getElem?_getD, List.getElem?_eq_getElem hi]; rfl
      have h2 := headL_at l L 0 head i o (stA L i) (by simpa using ho) hS f w1 hb (fun j hj => by
        unfold depB at hj
        obtain ⟨e, he, h3⟩ := Array.any_eq_true'.1 hj
        simp only [Bool.and_eq_true, beq_iff_eq] at h3
        rw [← h3.2]
        exact hd e he h3.1)
      rwa [Nat.zero_add] at h2)
    (fun f w1 hb hΦ hFF => by rw [hfr]; exact tail f w1 hb hΦ hFF)
    L.length (List.range L.length) (Array.replicate l.toArray.size false) (fun j => match dstOf l.toArray j with | some d => a0.tmps.getD d undef | none => undef) w.drew
    List.nodup_range (by simp) (fun j hj => by rw [getD_replicate_false]; simp [hj]) (fun j hj => by simpa using hj)
    ⟨by simp, fun j oj _ hl => (by rw [getD_replicate_false] at hl; cases hl), fun t _ ht => getD_in (by simpa using ht) (getD_replicate_false _ _)⟩
    (below_drew (Below.refl _ _)) (fun j _ hl => by rw [getD_replicate_false] at hl; cases hl) (fun j _ hl => by rw [getD_replicate_false] at hl; cases hl) (fun j k _ _ _ hl => by rw [getD_replicate_false] at hl; cases hl)
  rw [frm_id, show L.length + (l.toArray.size - L.length) = l.toArray.size by omega] at h
  exact h
end
end Go.Proofs.YtkabcpmnbjllcaaDoor

namespace Go.Proofs.YtkabcpmnbjllcaaDoor
open Go Go.RowKit

section
variable {P : Program} {ops : Array Oper} {md : Region.Mode}
/-- Number k is the late one: everything else of the head is waited for by the tail. -/
def lateB (md : Region.Mode) (ops : Array Oper) (n k : Nat) : Bool :=
  decide (n < ops.size) && decide (k < n) &&
  ((List.range n).all fun i => decide (i = k) || (List.range (n + 1)).any fun j => decide (i < j) && decide (j ≠ k) && Region.waitsFor md ops j i) && Region.chainB md ops n &&
  ((List.range n).all fun i => ((ops[i]?).map fun o => o.dst.isSome && o.after.all fun e => !Region.binds md e || decide (e.on < i)).getD false) &&
  ((List.range n).all fun i => (List.range n).all fun j => decide (i = j) || decide (dstOf ops i ≠ dstOf ops j)) &&
  Region.seqB md ops (ops.size - n) n ((List.range ops.size).map fun j => decide (j < n)).toArray &&
  decide (Region.ready md ops ((List.range ops.size).map fun j => decide (j ≤ n ∧ j ≠ k)).toArray = [k]) &&
  Region.seqB md ops (ops.size - (n + 1)) (n + 1) ((List.range ops.size).map fun j => decide (j ≤ n)).toArray
theorem late_last {n t : Nat} {listed : Array Bool} {ot : Oper} (hc : Region.chainB md ops n = true) (inv : HeadInv md ops n listed) (ht : n ≤ t) (htn : t ≠ n) (hot : ops[t]? = some ot)
    (hall : ∀ e ∈ ot.after, Region.binds md e = true → listed.getD e.on false = true) (htlt : t < ops.size) : False := by
  have h1 := List.all_eq_true.1 hc t (List.mem_range.2 htlt)
  simp only [Bool.or_eq_true, decide_eq_true_eq] at h1
  rcases h1 with h1 | h1
  · omega
  · obtain ⟨o', ho', e, he, hb, hon⟩ := Region.waitsFor_spec h1
    have : o' = ot := Option.some.inj (ho'.symm.trans hot)
    subst this
    have h2 := hall e he hb
    rw [hon, getD_both (inv.tail (t - 1) (by omega) (by omega))] at h2
    cases h2
theorem late_waits {n k : Nat} {listed : Array Bool} (hs : ∀ i, i < n → i ≠ k → ∃ j, j ≤ n ∧ i < j ∧ j ≠ k ∧ Region.waitsFor md ops j i = true) (hc : Region.chainB md ops n = true) (hn : n < ops.size) (inv : HeadInv md ops n listed) :
    ∀ (d i : Nat), n - i = d → i < n → i ≠ k → listed.getD i true = false → ∀ t, n ≤ t → t ∉ Region.ready md ops listed := by
  intro d
  induction d using Nat.strongRecOn with
  | _ d ih =>
    intro i hd hi hik hun t ht hr
    obtain ⟨_, ot, hot, hall⟩ := mem_ready.1 hr
    have htlt : t < ops.size := (Array.getElem?_eq_some_iff.1 hot).1
    by_cases htn : t = n
    · subst htn
      obtain ⟨j, hjle, hij, hjk, hw⟩ := hs i hi hik
      obtain ⟨oj, hoj, e, he, hb, hon⟩ := Region.waitsFor_spec hw
      by_cases hjt : j = t
      · subst hjt
        have : oj = ot := Option.some.inj (hoj.symm.trans hot)
        subst this
        have h2 := hall e he hb
        rw [hon, getD_both hun] at h2
        cases h2
      · cases hl : listed.getD j false with
        | true =>
          have h2 := inv.closed j oj hoj hl e he hb
          rw [hon, getD_both hun] at h2
          cases h2
        | false =>
          have hjs : j < listed.size := by rw [inv.size]; omega
          exact ih (t - j) (by omega) j rfl (by omega) hjk (getD_in hjs hl) t (Nat.le_refl _) hr
    · exact late_last hc inv ht htn hot hall htlt
variable {Q : Exit → Act → World → Prop}
theorem late_any {n k : Nat} {a0 : Act} {w0 : World} {Φ : Nat → Value → World → Prop} {F : Nat → Prop} {l : List Oper} {on ok : Oper} (hl : ops = l.toArray) (hB : lateB md ops n k = true) (hon : ops[n]? = some on) (hok : ops[k]? = some ok) (hkF : ¬ F k) (hN : ∀ i, i < n → ∀ t, dstOf ops i = some t → t < a0.tmps.size)
    (mono : ∀ j, j < n → ∀ v w1 w2, Below w1.heap.size w1 w2 → Φ j v w1 → Φ j v w2)
    (head : ∀ i o, i < n → ops[i]? = some o → ∀ f w1, Below w0.heap.size w0 w1 → (∀ e ∈ o.after, Region.binds md e = true → Φ e.on (f e.on) w1) →
      wpList P ops (Exit.then (RelPost (Φ i) (F i) (frm ops a0 f n).defers o.dst w1) Q) [o] (frm ops a0 f n) w1)
    (tail : ∀ f w1, Below w0.heap.size w0 w1 → (∀ j, j < n → Φ j (f j) w1) → (∀ j k, j < n → k < n → j ≠ k → F j → F k → blk (f j) ≠ blk (f k)) → wpList P ops Q (l.drop n) (frm ops a0 f n) w1)
    (tail2 : ∀ f w1, Below w0.heap.size w0 w1 → (∀ j, j < n → j ≠ k → Φ j (f j) w1) → (∀ j k, j < n → k < n → j ≠ k → F j → F k → blk (f j) ≠ blk (f k)) → wpList P ops Q (on :: ok :: l.drop (n + 1)) (frm ops a0 f n) w1) :
    ∀ (fuel : Nat) (T : List Nat) (s : Array Bool) (f : Nat → Value) (w : World), T.Nodup → T.length = fuel → (∀ j, j < n → (s.getD j false = false ↔ j ∈ T)) → (∀ j ∈ T, j < n) → HeadInv md ops n s → Below w0.heap.size w0 w →
      (∀ j, j < n → s.getD j false = true → Φ j (f j) w) → (∀ j, j < n → s.getD j false = true → F j → blk (f j) < w.heap.size) →
      (∀ j k, j < n → k < n → j ≠ k → s.getD j false = true → s.getD k false = true → F j → F k → blk (f j) ≠ blk (f k)) → wpAny P md ops Q (fuel + (ops.size - n)) s (frm ops a0 f n) w := by
  simp only [lateB, Bool.and_eq_true, decide_eq_true_eq] at hB
  obtain ⟨⟨⟨⟨⟨⟨⟨⟨hn, hkn⟩, hs0⟩, hc⟩, hfw⟩, hdd⟩, hsq⟩, hrk⟩, hsq2⟩ := hB
  have hs : ∀ i, i < n → i ≠ k → ∃ j, j ≤ n ∧ i < j ∧ j ≠ k ∧ Region.waitsFor md ops j i = true := fun i hi hik => by
    have h1 := List.all_eq_true.1 hs0 i (List.mem_range.2 hi)
    rw [Bool.or_eq_true, decide_eq_true_eq] at h1
    rcases h1 with h1 | h1
    · exact absurd h1 hik
    · obtain ⟨j, hj, h2⟩ := List.any_eq_true.1 h1
      simp only [Bool.and_eq_true, decide_eq_true_eq] at h2
      exact ⟨j, by have := List.mem_range.1 hj; omega, h2.1.1, h2.1.2, h2.2⟩
  have hfw' : ∀ i o, i < n → ops[i]? = some o → o.dst.isSome = true ∧ ∀ e ∈ o.after, Region.binds md e = true → e.on < i := fun i o hi ho => by
    have := List.all_eq_true.1 hfw i (List.mem_range.2 hi)
    rw [ho] at this
    simp only [Option.map_some, Option.getD_some, Bool.and_eq_true] at this
    refine ⟨this.1, fun e he hb => ?_⟩
    have h2 := Array.all_eq_true_iff_forall_mem.1 this.2 e he
    rw [hb] at h2
    simpa using h2
  have hdd' : ∀ i j, i < n → j < n → i ≠ j → dstOf ops i ≠ dstOf ops j := fun i j hi hj hij => by
    have := List.all_eq_true.1 (List.all_eq_true.1 hdd i (List.mem_range.2 hi)) j (List.mem_range.2 hj)
    simpa [hij] using this
  intro fuel
  induction fuel with
  | zero =>
    intro T s f w hT hlen hsT hTn inv hb hΦ hF hFF
    have hT0 : T = [] := List.length_eq_zero_iff.1 hlen
    subst hT0
    have hall : ∀ j, j < n → s.getD j false = true := fun j hj => by
      cases h : s.getD j false with
      | true => rfl
      | false => exact absurd ((hsT j hj).1 h) (by simp)
    have hse : s = ((List.range ops.size).map fun j => decide (j < n)).toArray := by
      apply Array.ext
      · simp [inv.size]
      · intro j h1 h2
        have hjs : j < ops.size := by rw [← inv.size]; exact h1
        simp only [List.getElem_toArray, List.getElem_map, List.getElem_range]
        by_cases e : j < n
        · have := hall j e
          rw [Array.getD_eq_getD_getElem?, Array.getElem?_eq_getElem h1] at this
          simp only [Option.getD_some] at this
          rw [this]; simp [e]
        · have := inv.tail j (by omega) hjs
          rw [Array.getD_eq_getD_getElem?, Array.getElem?_eq_getElem h1] at this
          simp only [Option.getD_some] at this
          rw [this]; simp [e]
    rw [Nat.zero_add]
    have hdl : (l.drop n).length = ops.size - n := by rw [hl]; simp
    have h3 := wpAny_of_seq (P := P) (md := md) (ops := ops) (Q' := Q) (l.drop n) n s (frm ops a0 f n) w (fun j => by rw [hl]; simp [List.getElem?_drop]) (by rw [hdl, hse]; exact hsq) (tail f w hb (fun j hj => hΦ j hj (hall j hj)) fun j k hj hk hjk => hFF j k hj hk hjk (hall j hj) (hall k hk))
    rwa [hdl] at h3
  | succ fuel ih =>
    intro T s f w hT hlen hsT hTn inv hb hΦ hF hFF
    have hTne : T ≠ [] := fun e => by rw [e] at hlen; cases hlen
    obtain ⟨m, hm, hle⟩ := least_of hTne
    have hmn := hTn m hm
    have hun : s.getD m false = false := (hsT m hmn).2 hm
    have hms : m < s.size := by rw [inv.size]; omega
    obtain ⟨om, hom⟩ : ∃ o, ops[m]? = some o := ⟨_, Array.getElem?_eq_getElem (by omega)⟩
    have hready : m ∈ Region.ready md ops s := mem_ready.2 ⟨getD_in hms hun, om, hom, fun e he hbnd => by
      have h1 := (hfw' m om hmn hom).2 e he hbnd
      cases h2 : s.getD e.on false with
      | true => rfl
      | false =>
        have := hle _ ((hsT e.on (by omega)).1 h2)
        omega⟩
    rw [show fuel + 1 + (ops.size - n) = (fuel + (ops.size - n)) + 1 by omega]
    refine ⟨fun e => absurd hready (by rw [e]; simp), fun i hi => ?_⟩
    obtain ⟨hiu, oi, hoi, hdeps⟩ := mem_ready.1 hi
    by_cases hin0 : n ≤ i
    · -- the late one alone is left, and the tail's first comes ahead of it
      have his : i < ops.size := (Array.getElem?_eq_some_iff.1 hoi).1
      have hine : i = n := Classical.byContradiction fun e => late_last hc inv hin0 e hoi hdeps his
      subst hine
      have hallk : ∀ j, j < i → j ≠ k → s.getD j false = true := fun j hj hjk => by
        cases h : s.getD j false with
        | true => rfl
        | false => exact absurd hi (late_waits hs hc hn inv _ j rfl hj hjk (getD_in (by rw [inv.size]; omega) h) i (Nat.le_refl _))
      have hku : s.getD k false = false := by
        cases h : s.getD k false with
        | false => rfl
        | true =>
          have : s.getD m false = true := by
            by_cases e : m = k
            · rw [e]; exact h
            · exact hallk m hmn e
          rw [this] at hun; cases hun
      have hf0 : fuel = 0 := by
        have h1 : ∀ j ∈ T, j = k := fun j hj => by
          refine Classical.byContradiction fun e => ?_
          have h2 := (hsT j (hTn j hj)).2 hj
          rw [hallk j (hTn j hj) e] at h2
          cases h2
        match T, hT, hlen, h1 with
        | [x], _, hlen, _ => simpa using hlen.symm
        | x :: y :: r, hT, _, h1 =>
          have e1 := h1 x (by simp)
          have e2 := h1 y (by simp)
          rw [e1, e2] at hT
          simp at hT
      subst hf0
      have hss : s.setIfInBounds i true = ((List.range ops.size).map fun j => decide (j ≤ i ∧ j ≠ k)).toArray := by
        apply Array.ext
        · simp [inv.size]
        · intro j h1 h2
          have hjs : j < ops.size := by simpa [inv.size] using h1
          have hjs2 : j < s.size := by rw [inv.size]; exact hjs
          simp only [List.getElem_toArray, List.getElem_map, List.getElem_range]
          rw [Array.getElem_setIfInBounds hjs2]
          by_cases e : i = j
          · rw [if_pos e]; simp only [← e]; simp; omega
          · rw [if_neg e]
            by_cases e2 : j < i
            · by_cases e3 : j = k
              · have hkk := hku
                rw [← e3, Array.getD_eq_getD_getElem?, Array.getElem?_eq_getElem hjs2] at hkk
                simp only [Option.getD_some] at hkk
                rw [hkk]; simp [e3]
              · have := hallk j e2 e3
                rw [Array.getD_eq_getD_getElem?, Array.getElem?_eq_getElem hjs2] at this
                simp only [Option.getD_some] at this
                rw [this]; simp [e3]; omega
            · have := inv.tail j (by omega) hjs
              rw [Array.getD_eq_getD_getElem?, Array.getElem?_eq_getElem hjs2] at this
              simp only [Option.getD_some] at this
              rw [this]; simp; omega
      have hss2 : (s.setIfInBounds i true).setIfInBounds k true = ((List.range ops.size).map fun j => decide (j ≤ i)).toArray := by
        rw [hss]
        apply Array.ext
        · simp
        · intro j h1 h2
          have hjs : j < ops.size := by simpa using h1
          rw [Array.getElem_setIfInBounds (by simpa using h1)]
          simp only [List.getElem_toArray, List.getElem_map, List.getElem_range]
          by_cases e : k = j
          · rw [if_pos e]; subst e; simp; omega
          · rw [if_neg e]
            have e' : ¬ j = k := fun e2 => e e2.symm
            simp [e']
      have ht2 := tail2 f w hb (fun j hj hjk => hΦ j hj (hallk j hj hjk)) fun j k' hj hk' hjk hFj hFk => by
        have a1 : j ≠ k := fun e => hkF (e ▸ hFj)
        have a2 : k' ≠ k := fun e => hkF (e ▸ hFk)
        exact hFF j k' hj hk' hjk (hallk j hj a1) (hallk k' hk' a2) hFj hFk
      have hw1 : wpOp P ops Q i (wpList P ops Q (ok :: l.drop (i + 1))) (frm ops a0 f i) w := by unfold wpOp; simp only [hon]; exact ht2
      have hg : 0 + (ops.size - i) = (ops.size - (i + 1)) + 1 := by omega
      rw [hg]
      refine wpOp_mono (fun a' w' h' => ?_) hw1
      refine ⟨fun e => ?_, fun j hj => ?_⟩
      · rw [hss, hrk] at e; cases e
      · rw [hss, hrk] at hj
        have hjk : j = k := by simpa using hj
        subst hjk
        have hw2 : wpOp P ops Q j (wpList P ops Q (l.drop (i + 1))) a' w' := by unfold wpOp; simp only [hok]; exact h'
        refine wpOp_mono (fun a'' w'' h'' => ?_) hw2
        rw [hss2]
        have hdl : (l.drop (i + 1)).length = ops.size - (i + 1) := by rw [hl]; simp
        have h3 := wpAny_of_seq (P := P) (md := md) (ops := ops) (Q' := Q) (l.drop (i + 1)) (i + 1) _ a'' w'' (fun j => by rw [hl]; simp [List.getElem?_drop]) (by rw [hdl]; exact hsq2) h''
        rwa [hdl] at h3
    have hin : i < n := Nat.lt_of_not_le hin0
    have hiT : i ∈ T := (hsT i hin).1 (getD_both hiu)
    have hfi := hfw' i oi hin hoi
    have hdo : dstOf ops i = oi.dst := by unfold dstOf; rw [hoi]; rfl
    unfold wpOp
    rw [hoi]
    simp only []
    have hh := head i oi hin hoi f w hb fun e he hbnd => hΦ e.on (by have := hfi.2 e he hbnd; omega) (hdeps e he hbnd)
    refine rel_one hh (fun v w' hR => ?_) (fun d v w' hR => ?_)
    · obtain ⟨_, hbw, hv⟩ := hR
      have hval : ∀ i, i < n → oi.dst.isSome = true → dstOf ops i = oi.dst → (∀ t, oi.dst = some t → Φ i (((frm ops a0 f n).put oi.dst v).tmps.getD t undef) w' ∧ (F i → w.heap.size ≤ blk (((frm ops a0 f n).put oi.dst v).tmps.getD t undef) ∧ blk (((frm ops a0 f n).put oi.dst v).tmps.getD t undef) < w'.heap.size)) → Φ i v w' ∧ (F i → w.heap.size ≤ blk v ∧ blk v < w'.heap.size) := fun i hi h1 hdo h => by
        obtain ⟨t, ht⟩ := Option.isSome_iff_exists.1 h1
        have h4 := h t ht
        have h5 : t < (frm ops a0 f n).tmps.size := by rw [frm_size]; exact hN i hi t (by rw [hdo, ht])
        rw [ht] at h4
        simpa [Act.put, h5] using h4
      rw [← hdo, frm_put ops a0 f i v n hin fun j hj hji => .inr (hdd' i j hin hj (Ne.symm hji))]
      refine ih (T.erase i) _ _ w' (hT.erase i) (by rw [List.length_erase_of_mem hiT]; omega) (fun j hj => ?_) (fun j hj => hTn j (List.mem_of_mem_erase hj)) (inv.set hi hin) (bstep hb hbw) (fun j hj hjs => ?_) (fun j hj hjs hFj => ?_) (fun j k hj hk hjk hjs hks hFj hFk => ?_)
      · rw [hT.mem_erase_iff]
        by_cases e : j = i
        · subst e
          have hjs : j < s.size := by rw [inv.size]; omega
          simp [Array.getD_eq_getD_getElem?, hjs]
        · rw [getD_set_ne false (Ne.symm e), hsT j hj]
          simp [e]
      · by_cases e : j = i
        · subst e
          have : updF f j v j = v := if_pos rfl
          rw [this]
          exact (hval j hj hfi.1 hdo hv).1
        · have : updF f i v j = f j := if_neg e
          rw [this]
          rw [getD_set_ne false (Ne.symm e)] at hjs
          exact mono j hj _ _ _ hbw (hΦ j hj hjs)
      · by_cases e : j = i
        · subst e
          have : updF f j v j = v := if_pos rfl
          rw [this]
          exact ((hval j hj hfi.1 hdo hv).2 hFj).2
        · have : updF f i v j = f j := if_neg e
          rw [this]
          rw [getD_set_ne false (Ne.symm e)] at hjs
          exact Nat.lt_of_lt_of_le (hF j hj hjs hFj) hbw.size
      · by_cases e : j = i
        · subst e
          have e1 : updF f j v j = v := if_pos rfl
          have e2 : updF f j v k = f k := if_neg (Ne.symm hjk)
          rw [e1, e2]
          rw [getD_set_ne false hjk] at hks
          have h1 := ((hval j hj hfi.1 hdo hv).2 hFj).1
          have h2 := hF k hk hks hFk
          omega
        · have e1 : updF f i v j = f j := if_neg e
          rw [e1]
          rw [getD_set_ne false (Ne.symm e)] at hjs
          by_cases e3 : k = i
          · subst e3
            have e2 : updF f k v k = v := if_pos rfl
            rw [e2]
            have h1 := ((hval k hk hfi.1 hdo hv).2 hFk).1
            have h2 := hF j hj hjs hFj
            omega
          · have e2 : updF f i v k = f k := if_neg e3
            rw [e2]
            rw [getD_set_ne false (Ne.symm e3)] at hks
            exact hFF j k hj hk hjk hjs hks hFj hFk
    · have h1 := hR.1
      have h2 := congrArg List.length h1
      cases hod : oi.dst <;> simp [Act.put, hod] at h2
theorem wp_region_late {id : Nat} {a0 : Act} {w : World} {l : List Oper} (L : List Sta) (F : List Nat) (N k : Nat) {on ok : Oper} (hm : P.follows .mixedOrders = true) (hB : lateB .any l.toArray L.length k = true) (hon : l.toArray[L.length]? = some on) (hok : l.toArray[k]? = some ok) (hkF : k ∉ F)
    (hsz : a0.tmps.size = N) (hN : dstLtB l.toArray L.length N = true) {fr : (Nat → Value) → Act} (hfr : ∀ f, frm l.toArray a0 f L.length = fr f)
    (head : HeadL P Q l.toArray L F fr w l L 0)
    (tail : ∀ f w1, Below w.heap.size w w1 → (∀ j, j < L.length → (stA L j).p (f j) w1) → (∀ j k, j < L.length → k < L.length → j ≠ k → j ∈ F → k ∈ F → blk (f j) ≠ blk (f k)) → wpList P l.toArray Q (l.drop L.length) (fr f) w1)
    (tail2 : ∀ f w1, Below w.heap.size w w1 → (∀ j, j < L.length → j ≠ k → (stA L j).p (f j) w1) → (∀ j k, j < L.length → k < L.length → j ≠ k → j ∈ F → k ∈ F → blk (f j) ≠ blk (f k)) → wpList P l.toArray Q (on :: ok :: l.drop (L.length + 1)) (fr f) w1) : (Code.region id l.toArray true).wp P Q a0 w := by
  have hn : L.length < l.toArray.size := by
    simp only [lateB, Bool.and_eq_true, decide_eq_true_eq] at hB
    exact hB.1.1.1.1.1.1.1.1
  refine wp_region_any hm ?_
  have h := late_any (k := k) (md := .any) (Q := Q) (P := P) (n := L.length) (a0 := a0) (w0 := w) (Φ := fun j => (stA L j).p) (F := fun j => j ∈ F) rfl hB hon hok hkF
    (fun i hi t ht => by
      have h1 := List.all_eq_true.1 hN i (List.mem_range.2 hi)
      rw [ht] at h1
      rw [hsz]
      simpa using h1)
    (fun j _ v w1 w2 hb h => (stA L j).m v w1 w2 hb h)
    (fun i o hi ho f w1 hb hd => by
      rw [hfr]
      have hS : L[i]? = some (stA L i) := by
        unfold stA
        rw [List.getD_eq_getElem?_getD, List.getElem?_eq_getElem hi]; rfl
      have h2 := headL_at l L 0 head i o (stA L i) (by simpa using ho) hS f w1 hb (fun j hj => by
        unfold depB at hj
        obtain ⟨e, he, h3⟩ := Array.any_eq_true'.1 hj
        simp only [Bool.and_eq_true, beq_iff_eq] at h3
        rw [← h3.2]
        exact hd e he h3.1)
      rwa [Nat.zero_add] at h2)
    (fun f w1 hb hΦ hFF => by rw [hfr]; exact tail f w1 hb hΦ hFF)
    (fun f w1 hb hΦ hFF => by rw [hfr]; exact tail2 f w1 hb hΦ hFF)
    L.length (List.range L.length) (Array.replicate l.toArray.size false) (fun j => match dstOf l.toArray j with | some d => a0.tmps.getD d undef | none => undef) w.drew
    List.nodup_range (by simp) (fun j hj => by rw [getD_replicate_false]; simp [hj]) (fun j hj => by simpa using hj)
    ⟨by simp, fun j oj _ hl => (by rw [getD_replicate_false] at hl; cases hl), fun t _ ht => getD_in (by simpa using ht) (getD_replicate_false _ _)⟩
    (below_drew (Below.refl _ _)) (fun j _ hl => by rw [getD_replicate_false] at hl; cases hl) (fun j _ hl => by rw [getD_replicate_false] at hl; cases hl) (fun j k _ _ _ hl => by rw [getD_replicate_false] at hl; cases hl)
  have e0 : frm l.toArray a0 (fun j => match dstOf l.toArray j with | some d => a0.tmps.getD d undef | none => undef) L.length = a0 := frm_id _ _ _
  rw [e0, show L.length + (l.toArray.size - L.length) = l.toArray.size by omega] at h
  exact h
end
end Go.Proofs.YtkabcpmnbjllcaaDoor

namespace Go.Proofs.YtkabcpmnbjllcaaDoor
open Go Go.RowKit

section
variable {P : Program} {ops : Array Oper} {md : Region.Mode}
def twoB (md : Region.Mode) (ops : Array Oper) (n : Nat) : Bool :=
  decide (n + 1 < ops.size) && decide (0 < n) &&
  ((List.range (n - 1)).all fun i => (List.range n).any fun j => decide (i < j) && Region.waitsFor md ops j i) &&
  ((List.range ops.size).all fun t => decide (t < n) || Region.waitsFor md ops t (n - 1)) &&
  ((List.range n).all fun i => ((ops[i]?).map fun o => o.dst.isSome && o.after.all fun e => !Region.binds md e || decide (e.on < i)).getD false) &&
  ((List.range n).all fun i => (List.range n).all fun j => decide (i = j) || decide (dstOf ops i ≠ dstOf ops j)) &&
  decide (Region.ready md ops ((List.range ops.size).map fun j => decide (j < n)).toArray = [n, n + 1]) &&
  decide (Region.ready md ops (((List.range ops.size).map fun j => decide (j < n)).toArray.setIfInBounds n true) = [n + 1]) &&
  decide (Region.ready md ops (((List.range ops.size).map fun j => decide (j < n)).toArray.setIfInBounds (n + 1) true) = [n]) &&
  Region.seqB md ops (ops.size - (n + 2)) (n + 2) ((List.range ops.size).map fun j => decide (j < n + 2)).toArray
theorem two_waits {n : Nat} {listed : Array Bool} (hs : ((List.range (n - 1)).all fun i => (List.range n).any fun j => decide (i < j) && Region.waitsFor md ops j i) = true)
    (hc : ((List.range ops.size).all fun t => decide (t < n) || Region.waitsFor md ops t (n - 1)) = true) (inv : HeadInv md ops n listed) :
    ∀ (d i : Nat), n - i = d → i < n → listed.getD i true = false → ∀ t, n ≤ t → t ∉ Region.ready md ops listed := by
  intro d
  induction d using Nat.strongRecOn with
  | _ d ih =>
    intro i hd hi hun t ht hr
    obtain ⟨_, ot, hot, hall⟩ := mem_ready.1 hr
    have htlt : t < ops.size := (Array.getElem?_eq_some_iff.1 hot).1
    by_cases hin : i = n - 1
    · subst hin
      have h1 := List.all_eq_true.1 hc t (List.mem_range.2 htlt)
      simp only [Bool.or_eq_true, decide_eq_true_eq] at h1
      rcases h1 with h1 | h1
      · omega
      · obtain ⟨o', ho', e, he, hb, hon⟩ := Region.waitsFor_spec h1
        have : o' = ot := Option.some.inj (ho'.symm.trans hot)
        subst this
        have h2 := hall e he hb
        rw [hon, getD_both hun] at h2
        cases h2
    · have h1 := List.all_eq_true.1 hs i (List.mem_range.2 (by omega))
      obtain ⟨j, hj, h2⟩ := List.any_eq_true.1 h1
      have hj := List.mem_range.1 hj
      simp only [Bool.and_eq_true, decide_eq_true_eq] at h2
      obtain ⟨oj, hoj, e, he, hb, hon⟩ := Region.waitsFor_spec h2.2
      have hjs : j < listed.size := by rw [inv.size]; exact (Array.getElem?_eq_some_iff.1 hoj).1
      cases hl : listed.getD j false with
      | true =>
        have h3 := inv.closed j oj hoj hl e he hb
        rw [hon, getD_both hun] at h3
        cases h3
      | false => exact ih (n - j) (by omega) j rfl hj (getD_in hjs hl) t ht hr
variable {Q : Exit → Act → World → Prop}
theorem two_any {n : Nat} {a0 : Act} {w0 : World} {Φ : Nat → Value → World → Prop} {F : Nat → Prop} {l : List Oper} (hl : ops = l.toArray) (hB : twoB md ops n = true) {on om : Oper} (hon : ops[n]? = some on) (hom : ops[n + 1]? = some om) (hN : ∀ i, i < n → ∀ t, dstOf ops i = some t → t < a0.tmps.size)
    (mono : ∀ j, j < n → ∀ v w1 w2, Below w1.heap.size w1 w2 → Φ j v w1 → Φ j v w2)
    (head : ∀ i o, i < n → ops[i]? = some o → ∀ f w1, Below w0.heap.size w0 w1 → (∀ e ∈ o.after, Region.binds md e = true → Φ e.on (f e.on) w1) →
      wpList P ops (Exit.then (RelPost (Φ i) (F i) (frm ops a0 f n).defers o.dst w1) Q) [o] (frm ops a0 f n) w1)
    (tail : ∀ f w1, Below w0.heap.size w0 w1 → (∀ j, j < n → Φ j (f j) w1) → (∀ j k, j < n → k < n → j ≠ k → F j → F k → blk (f j) ≠ blk (f k)) → wpList P ops Q (on :: om :: l.drop (n + 2)) (frm ops a0 f n) w1 ∧ wpList P ops Q (om :: on :: l.drop (n + 2)) (frm ops a0 f n) w1) :
    ∀ (fuel : Nat) (T : List Nat) (s : Array Bool) (f : Nat → Value) (w : World), T.Nodup → T.length = fuel → (∀ j, j < n → (s.getD j false = false ↔ j ∈ T)) → (∀ j ∈ T, j < n) → HeadInv md ops n s → Below w0.heap.size w0 w →
      (∀ j, j < n → s.getD j false = true → Φ j (f j) w) → (∀ j, j < n → s.getD j false = true → F j → blk (f j) < w.heap.size) →
      (∀ j k, j < n → k < n → j ≠ k → s.getD j false = true → s.getD k false = true → F j → F k → blk (f j) ≠ blk (f k)) → wpAny P md ops Q (fuel + (ops.size - n)) s (frm ops a0 f n) w := by
  simp only [twoB, Bool.and_eq_true, decide_eq_true_eq] at hB
  obtain ⟨⟨⟨⟨⟨⟨⟨⟨⟨hn, hn0⟩, hs⟩, hc⟩, hfw⟩, hdd⟩, hr0⟩, hr1⟩, hr2⟩, hsq⟩ := hB
  have hfw' : ∀ i o, i < n → ops[i]? = some o → o.dst.isSome = true ∧ ∀ e ∈ o.after, Region.binds md e = true → e.on < i := fun i o hi ho => by
    have := List.all_eq_true.1 hfw i (List.mem_range.2 hi)
    rw [ho] at this
    simp only [Option.map_some, Option.getD_some, Bool.and_eq_true] at this
    refine ⟨this.1, fun e he hb => ?_⟩
    have h2 := Array.all_eq_true_iff_forall_mem.1 this.2 e he
    rw [hb] at h2
    simpa using h2
  have hdd' : ∀ i j, i < n → j < n → i ≠ j → dstOf ops i ≠ dstOf ops j := fun i j hi hj hij => by
    have := List.all_eq_true.1 (List.all_eq_true.1 hdd i (List.mem_range.2 hi)) j (List.mem_range.2 hj)
    simpa [hij] using this
  intro fuel
  induction fuel with
  | zero =>
    intro T s f w hT hlen hsT hTn inv hb hΦ hF hFF
    have hT0 : T = [] := List.length_eq_zero_iff.1 hlen
    subst hT0
    have hall : ∀ j, j < n → s.getD j false = true := fun j hj => by
      cases h : s.getD j false with
      | true => rfl
      | false => exact absurd ((hsT j hj).1 h) (by simp)
    have hse : s = ((List.range ops.size).map fun j => decide (j < n)).toArray := by
      apply Array.ext
      · simp [inv.size]
      · intro j h1 h2
        have hjs : j < ops.size := by rw [← inv.size]; exact h1
        simp only [List.getElem_toArray, List.getElem_map, List.getElem_range]
        by_cases e : j < n
        · have := hall j e
          rw [Array.getD_eq_getD_getElem?, Array.getElem?_eq_getElem h1] at this
          simp only [Option.getD_some] at this
          rw [this]; simp [e]
        · have := inv.tail j (by omega) hjs
          rw [Array.getD_eq_getD_getElem?, Array.getElem?_eq_getElem h1] at this
          simp only [Option.getD_some] at this
          rw [this]; simp [e]
    obtain ⟨t1, t2⟩ := tail f w hb (fun j hj => hΦ j hj (hall j hj)) fun j k hj hk hjk => hFF j k hj hk hjk (hall j hj) (hall k hk)
    have hs1 : ∀ x y : Nat, (x = n ∧ y = n + 1) ∨ (x = n + 1 ∧ y = n) → (s.setIfInBounds x true).setIfInBounds y true = ((List.range ops.size).map fun j => decide (j < n + 2)).toArray := fun x y hxy => by
      rw [hse]
      apply Array.ext
      · simp
      · intro j h1 h2
        have hjs : j < ops.size := by simpa using h1
        rw [Array.getElem_setIfInBounds (by simpa using h1)]
        by_cases e : y = j
        · rw [if_pos e]; simp; omega
        · rw [if_neg e, Array.getElem_setIfInBounds (by simpa using h1)]
          by_cases e2 : x = j
          · rw [if_pos e2]; simp; omega
          · rw [if_neg e2]
            simp only [List.getElem_toArray, List.getElem_map, List.getElem_range]
            have : (j < n) ↔ (j < n + 2) := by omega
            simp [this]
    have hrest : ∀ a' w', wpList P ops Q (l.drop (n + 2)) a' w' → wpAny P md ops Q (ops.size - (n + 2)) ((List.range ops.size).map fun j => decide (j < n + 2)).toArray a' w' := fun a' w' h' => by
      have hdl : (l.drop (n + 2)).length = ops.size - (n + 2) := by rw [hl]; simp
      have h3 := wpAny_of_seq (P := P) (md := md) (ops := ops) (Q' := Q) (l.drop (n + 2)) (n + 2) _ a' w' (fun j => by rw [hl]; simp [List.getElem?_drop]) (by rw [hdl]; exact hsq) h'
      rwa [hdl] at h3
    rw [show 0 + (ops.size - n) = (ops.size - (n + 2)) + 1 + 1 by omega]
    refine ⟨fun e => ?_, fun x hx => ?_⟩
    · rw [hse, hr0] at e; cases e
    rw [hse, hr0] at hx
    have hx' : x = n ∨ x = n + 1 := by simpa using hx
    rcases hx' with rfl | rfl
    · have hw1 : wpOp P ops Q x (wpList P ops Q (om :: l.drop (x + 2))) (frm ops a0 f x) w := by unfold wpOp; simp only [hon]; exact t1
      refine wpOp_mono (fun a' w' h' => ?_) hw1
      have hse1 : s.setIfInBounds x true = (((List.range ops.size).map fun j => decide (j < x)).toArray).setIfInBounds x true := by rw [hse]
      refine ⟨fun e => ?_, fun y hy => ?_⟩
      · rw [hse1, hr1] at e; cases e
      rw [hse1, hr1] at hy
      have hy' : y = x + 1 := by simpa using hy
      subst hy'
      have hw2 : wpOp P ops Q (x + 1) (wpList P ops Q (l.drop (x + 2))) a' w' := by unfold wpOp; simp only [hom]; exact h'
      refine wpOp_mono (fun a'' w'' h'' => ?_) hw2
      rw [hs1 x (x + 1) (.inl ⟨rfl, rfl⟩)]
      exact hrest _ _ h''
    · have hw1 : wpOp P ops Q (n + 1) (wpList P ops Q (on :: l.drop (n + 2))) (frm ops a0 f n) w := by unfold wpOp; simp only [hom]; exact t2
      refine wpOp_mono (fun a' w' h' => ?_) hw1
      have hse1 : s.setIfInBounds (n + 1) true = (((List.range ops.size).map fun j => decide (j < n)).toArray).setIfInBounds (n + 1) true := by rw [hse]
      refine ⟨fun e => ?_, fun y hy => ?_⟩
      · rw [hse1, hr2] at e; cases e
      rw [hse1, hr2] at hy
      have hy' : y = n := by simpa using hy
      subst hy'
      have hw2 : wpOp P ops Q y (wpList P ops Q (l.drop (y + 2))) a' w' := by unfold wpOp; simp only [hon]; exact h'
      refine wpOp_mono (fun a'' w'' h'' => ?_) hw2
      rw [hs1 (y + 1) y (.inr ⟨rfl, rfl⟩)]
      exact hrest _ _ h''
  | succ fuel ih =>
    intro T s f w hT hlen hsT hTn inv hb hΦ hF hFF
    have hTne : T ≠ [] := fun e => by rw [e] at hlen; cases hlen
    obtain ⟨m, hm, hle⟩ := least_of hTne
    have hmn := hTn m hm
    have hun : s.getD m false = false := (hsT m hmn).2 hm
    have hms : m < s.size := by rw [inv.size]; omega
    obtain ⟨om, hom⟩ : ∃ o, ops[m]? = some o := ⟨_, Array.getElem?_eq_getElem (by omega)⟩
    have hready : m ∈ Region.ready md ops s := mem_ready.2 ⟨getD_in hms hun, om, hom, fun e he hbnd => by
      have h1 := (hfw' m om hmn hom).2 e he hbnd
      cases h2 : s.getD e.on false with
      | true => rfl
      | false =>
        have := hle _ ((hsT e.on (by omega)).1 h2)
        omega⟩
    rw [show fuel + 1 + (ops.size - n) = (fuel + (ops.size - n)) + 1 by omega]
    refine ⟨fun e => absurd hready (by rw [e]; simp), fun i hi => ?_⟩
    obtain ⟨hiu, oi, hoi, hdeps⟩ := mem_ready.1 hi
    have hin : i < n := Nat.lt_of_not_le fun h => two_waits hs hc inv _ m rfl hmn (getD_in hms hun) i h hi
    have hiT : i ∈ T := (hsT i hin).1 (getD_both hiu)
    have hfi := hfw' i oi hin hoi
    have hdo : dstOf ops i = oi.dst := by unfold dstOf; rw [hoi]; rfl
    unfold wpOp
    rw [hoi]
    simp only []
    have hh := head i oi hin hoi f w hb fun e he hbnd => hΦ e.on (by have := hfi.2 e he hbnd; omega) (hdeps e he hbnd)
    refine rel_one hh (fun v w' hR => ?_) (fun d v w' hR => ?_)
    · obtain ⟨_, hbw, hv⟩ := hR
      have hval : ∀ i, i < n → oi.dst.isSome = true → dstOf ops i = oi.dst → (∀ t, oi.dst = some t → Φ i (((frm ops a0 f n).put oi.dst v).tmps.getD t undef) w' ∧ (F i → w.heap.size ≤ blk (((frm ops a0 f n).put oi.dst v).tmps.getD t undef) ∧ blk (((frm ops a0 f n).put oi.dst v).tmps.getD t undef) < w'.heap.size)) → Φ i v w' ∧ (F i → w.heap.size ≤ blk v ∧ blk v < w'.heap.size) := fun i hi h1 hdo h => by
        obtain ⟨t, ht⟩ := Option.isSome_iff_exists.1 h1
        have h4 := h t ht
        have h5 : t < (frm ops a0 f n).tmps.size := by rw [frm_size]; exact hN i hi t (by rw [hdo, ht])
        rw [ht] at h4
        simpa [Act.put, h5] using h4
      rw [← hdo, frm_put ops a0 f i v n hin fun j hj hji => .inr (hdd' i j hin hj (Ne.symm hji))]
      refine ih (T.erase i) _ _ w' (hT.erase i) (by rw [List.length_erase_of_mem hiT]; omega) (fun j hj => ?_) (fun j hj => hTn j (List.mem_of_mem_erase hj)) (inv.set hi hin) (bstep hb hbw) (fun j hj hjs => ?_) (fun j hj hjs hFj => ?_) (fun j k hj hk hjk hjs hks hFj hFk => ?_)
      · rw [hT.mem_erase_iff]
        by_cases e : j = i
        · subst e
          have hjs : j < s.size := by rw [inv.size]; omega
          simp [Array.getD_eq_getD_getElem?, hjs]
        · rw [getD_set_ne false (Ne.symm e), hsT j hj]
          simp [e]
      · by_cases e : j = i
        · subst e
          have : updF f j v j = v := if_pos rfl
          rw [this]
          exact (hval j hj hfi.1 hdo hv).1
        · have : updF f i v j = f j := if_neg e
          rw [this]
          rw [getD_set_ne false (Ne.symm e)] at hjs
          exact mono j hj _ _ _ hbw (hΦ j hj hjs)
      · by_cases e : j = i
        · subst e
          have : updF f j v j = v := if_pos rfl
          rw [this]
          exact ((hval j hj hfi.1 hdo hv).2 hFj).2
        · have : updF f i v j = f j := if_neg e
          rw [this]
          rw [getD_set_ne false (Ne.symm e)] at hjs
          exact Nat.lt_of_lt_of_le (hF j hj hjs hFj) hbw.size
      · by_cases e : j = i
        · subst e
          have e1 : updF f j v j = v := if_pos rfl
          have e2 : updF f j v k = f k := if_neg (Ne.symm hjk)
          rw [e1, e2]
          rw [getD_set_ne false hjk] at hks
          have h1 := ((hval j hj hfi.1 hdo hv).2 hFj).1
          have h2 := hF k hk hks hFk
          omega
        · have e1 : updF f i v j = f j := if_neg e
          rw [e1]
          rw [getD_set_ne false (Ne.symm e)] at hjs
          by_cases e3 : k = i
          · subst e3
            have e2 : updF f k v k = v := if_pos rfl
            rw [e2]
            have h1 := ((hval k hk hfi.1 hdo hv).2 hFk).1
            have h2 := hF j hj hjs hFj
            omega
          · have e2 : updF f i v k = f k := if_neg e3
            rw [e2]
            rw [getD_set_ne false (Ne.symm e3)] at hks
            exact hFF j k hj hk hjk hjs hks hFj hFk
    · have h1 := hR.1
      have h2 := congrArg List.length h1
      cases hod : oi.dst <;> simp [Act.put, hod] at h2
theorem wp_region_two {id : Nat} {a0 : Act} {w : World} {l : List Oper} (L : List Sta) (F : List Nat) (N : Nat) {on om : Oper} (hm : P.follows .mixedOrders = true) (hB : twoB .any l.toArray L.length = true) (hon : l.toArray[L.length]? = some on) (hom : l.toArray[L.length + 1]? = some om)
    (hsz : a0.tmps.size = N) (hN : dstLtB l.toArray L.length N = true) {fr : (Nat → Value) → Act} (hfr : ∀ f, frm l.toArray a0 f L.length = fr f)
    (head : HeadL P Q l.toArray L F fr w l L 0)
    (tail : ∀ f w1, Below w.heap.size w w1 → (∀ j, j < L.length → (stA L j).p (f j) w1) → (∀ j k, j < L.length → k < L.length → j ≠ k → j ∈ F → k ∈ F → blk (f j) ≠ blk (f k)) → wpList P l.toArray Q (on :: om :: l.drop (L.length + 2)) (fr f) w1 ∧ wpList P l.toArray Q (om :: on :: l.drop (L.length + 2)) (fr f) w1) : (Code.region id l.toArray true).wp P Q a0 w := by
  have hn : L.length < l.toArray.size := by
    simp only [twoB, Bool.and_eq_true, decide_eq_true_eq] at hB
    have := hB.1.1.1.1.1.1.1.1.1
    omega
  refine wp_region_any hm ?_
  have h := two_any (md := .any) (Q := Q) (P := P) (n := L.length) (a0 := a0) (w0 := w) (Φ := fun j => (stA L j).p) (F := fun j => j ∈ F) rfl hB hon hom
    (fun i hi t ht => by
      have h1 := List.all_eq_true.1 hN i (List.mem_range.2 hi)
      rw [ht] at h1
      rw [hsz]
      simpa using h1)
    (fun j _ v w1 w2 hb h => (stA L j).m v w1 w2 hb h)
    (fun i o hi ho f w1 hb hd => by
      rw [hfr]
      have hS : L[i]? = some (stA L i) := by
        unfold stA
        rw [List.getD_eq_getElem?_getD, List.getElem?_eq_getElem hi]; rfl
      have h2 := headL_at l L 0 head i o (stA L i) (by simpa using ho) hS f w1 hb (fun j hj => by
        unfold depB at hj
        obtain ⟨e, he, h3⟩ := Array.any_eq_true'.1 hj
        simp only [Bool.and_eq_true, beq_iff_eq] at h3
        rw [← h3.2]
        exact hd e he h3.1)
      rwa [Nat.zero_add] at h2)
    (fun f w1 hb hΦ hFF => by rw [hfr]; exact tail f w1 hb hΦ hFF)
    L.length (List.range L.length) (Array.replicate l.toArray.size false) (fun j => match dstOf l.toArray j with | some d => a0.tmps.getD d undef | none => undef) w.drew
    List.nodup_range (by simp) (fun j hj => by rw [getD_replicate_false]; simp [hj]) (fun j hj => by simpa using hj)
    ⟨by simp, fun j oj _ hl => (by rw [getD_replicate_false] at hl; cases hl), fun t _ ht => getD_in (by simpa using ht) (getD_replicate_false _ _)⟩
    (below_drew (Below.refl _ _)) (fun j _ hl => by rw [getD_replicate_false] at hl; cases hl) (fun j _ hl => by rw [getD_replicate_false] at hl; cases hl) (fun j k _ _ _ hl => by rw [getD_replicate_false] at hl; cases hl)
  have e0 : frm l.toArray a0 (fun j => match dstOf l.toArray j with | some d => a0.tmps.getD d undef | none => undef) L.length = a0 := frm_id _ _ _
  rw [e0, show L.length + (l.toArray.size - L.length) = l.toArray.size by omega] at h
  exact h
end
end Go.Proofs.YtkabcpmnbjllcaaDoor

namespace Go.Proofs.YtkabcpmnbjllcaaDoor
open Go Go.RowKit

section
variable {P : Program} {ops : Array Oper} {md : Region.Mode}
def callB (md : Region.Mode) (ops : Array Oper) (n : Nat) : Bool :=
  decide (n + 2 < ops.size) &&
  ((List.range n).all fun i => (List.range (n + 1)).any fun j => decide (i < j) && Region.waitsFor md ops j i) &&
  ((List.range ops.size).all fun t => decide (t ≤ n) || Region.waitsFor md ops t n) &&
  ((List.range n).all fun i => ((ops[i]?).map fun o => o.dst.isSome && o.after.all fun e => !Region.binds md e || decide (e.on < i)).getD false) &&
  ((List.range n).all fun i => (List.range n).all fun j => decide (i = j) || decide (dstOf ops i ≠ dstOf ops j)) &&
  decide (Region.ready md ops ((List.range ops.size).map fun j => decide (j < n)).toArray = [n]) &&
  decide (Region.ready md ops ((List.range ops.size).map fun j => decide (j < n + 1)).toArray = [n + 1, n + 2]) &&
  decide (Region.ready md ops (((List.range ops.size).map fun j => decide (j < n + 1)).toArray.setIfInBounds (n + 1) true) = [n + 2]) &&
  decide (Region.ready md ops (((List.range ops.size).map fun j => decide (j < n + 1)).toArray.setIfInBounds (n + 2) true) = [n + 1]) &&
  Region.seqB md ops (ops.size - (n + 3)) (n + 3) ((List.range ops.size).map fun j => decide (j < n + 3)).toArray
theorem call_waits {n : Nat} {listed : Array Bool} (hs : ((List.range n).all fun i => (List.range (n + 1)).any fun j => decide (i < j) && Region.waitsFor md ops j i) = true)
    (hc : ((List.range ops.size).all fun t => decide (t ≤ n) || Region.waitsFor md ops t n) = true) (inv : HeadInv md ops n listed) :
    ∀ (d i : Nat), n - i = d → i < n → listed.getD i true = false → ∀ t, n ≤ t → t ∉ Region.ready md ops listed := by
  intro d
  induction d using Nat.strongRecOn with
  | _ d ih =>
    intro i hd hi hun t ht hr
    obtain ⟨_, ot, hot, hall⟩ := mem_ready.1 hr
    have htlt : t < ops.size := (Array.getElem?_eq_some_iff.1 hot).1
    by_cases htn : t = n
    · subst htn
      have h1 := List.all_eq_true.1 hs i (List.mem_range.2 hi)
      obtain ⟨j, hj, h2⟩ := List.any_eq_true.1 h1
      have hj := List.mem_range.1 hj
      simp only [Bool.and_eq_true, decide_eq_true_eq] at h2
      obtain ⟨oj, hoj, e, he, hb, hon⟩ := Region.waitsFor_spec h2.2
      have hjs : j < listed.size := by rw [inv.size]; exact (Array.getElem?_eq_some_iff.1 hoj).1
      by_cases hjt : j = t
      · subst hjt
        have : oj = ot := Option.some.inj (hoj.symm.trans hot)
        subst this
        have h3 := hall e he hb
        rw [hon, getD_both hun] at h3
        cases h3
      · cases hl : listed.getD j false with
        | true =>
          have h3 := inv.closed j oj hoj hl e he hb
          rw [hon, getD_both hun] at h3
          cases h3
        | false => exact ih (t - j) (by omega) j rfl (by omega) (getD_in hjs hl) t (Nat.le_refl _) hr
    · have h1 := List.all_eq_true.1 hc t (List.mem_range.2 htlt)
      simp only [Bool.or_eq_true, decide_eq_true_eq] at h1
      rcases h1 with h1 | h1
      · omega
      · obtain ⟨o', ho', e, he, hb, hon⟩ := Region.waitsFor_spec h1
        have : o' = ot := Option.some.inj (ho'.symm.trans hot)
        subst this
        have h2 := hall e he hb
        rw [hon, getD_both (inv.tail n (Nat.le_refl _) (by omega))] at h2
        cases h2
variable {Q : Exit → Act → World → Prop}
theorem call_any {n : Nat} {a0 : Act} {w0 : World} {Φ : Nat → Value → World → Prop} {F : Nat → Prop} {l : List Oper} (hl : ops = l.toArray) (hB : callB md ops n = true) {ot on om : Oper} (hot : ops[n]? = some ot) (hon : ops[n + 1]? = some on) (hom : ops[n + 2]? = some om) (hN : ∀ i, i < n → ∀ t, dstOf ops i = some t → t < a0.tmps.size)
    (mono : ∀ j, j < n → ∀ v w1 w2, Below w1.heap.size w1 w2 → Φ j v w1 → Φ j v w2)
    (head : ∀ i o, i < n → ops[i]? = some o → ∀ f w1, Below w0.heap.size w0 w1 → (∀ e ∈ o.after, Region.binds md e = true → Φ e.on (f e.on) w1) →
      wpList P ops (Exit.then (RelPost (Φ i) (F i) (frm ops a0 f n).defers o.dst w1) Q) [o] (frm ops a0 f n) w1)
    (tail : ∀ f w1, Below w0.heap.size w0 w1 → (∀ j, j < n → Φ j (f j) w1) → (∀ j k, j < n → k < n → j ≠ k → F j → F k → blk (f j) ≠ blk (f k)) → wpList P ops (Exit.then (fun a' w' => a'.defers = (frm ops a0 f n).defers ∧ wpList P ops Q (on :: om :: l.drop (n + 3)) a' w' ∧ wpList P ops Q (om :: on :: l.drop (n + 3)) a' w') Q) [ot] (frm ops a0 f n) w1) :
    ∀ (fuel : Nat) (T : List Nat) (s : Array Bool) (f : Nat → Value) (w : World), T.Nodup → T.length = fuel → (∀ j, j < n → (s.getD j false = false ↔ j ∈ T)) → (∀ j ∈ T, j < n) → HeadInv md ops n s → Below w0.heap.size w0 w →
      (∀ j, j < n → s.getD j false = true → Φ j (f j) w) → (∀ j, j < n → s.getD j false = true → F j → blk (f j) < w.heap.size) →
      (∀ j k, j < n → k < n → j ≠ k → s.getD j false = true → s.getD k false = true → F j → F k → blk (f j) ≠ blk (f k)) → wpAny P md ops Q (fuel + (ops.size - n)) s (frm ops a0 f n) w := by
  simp only [callB, Bool.and_eq_true, decide_eq_true_eq] at hB
  obtain ⟨⟨⟨⟨⟨⟨⟨⟨⟨hn, hs⟩, hc⟩, hfw⟩, hdd⟩, hr9⟩, hr0⟩, hr1⟩, hr2⟩, hsq⟩ := hB
  have hfw' : ∀ i o, i < n → ops[i]? = some o → o.dst.isSome = true ∧ ∀ e ∈ o.after, Region.binds md e = true → e.on < i := fun i o hi ho => by
    have := List.all_eq_true.1 hfw i (List.mem_range.2 hi)
    rw [ho] at this
    simp only [Option.map_some, Option.getD_some, Bool.and_eq_true] at this
    refine ⟨this.1, fun e he hb => ?_⟩
    have h2 := Array.all_eq_true_iff_forall_mem.1 this.2 e he
    rw [hb] at h2
    simpa using h2
  have hdd' : ∀ i j, i < n → j < n → i ≠ j → dstOf ops i ≠ dstOf ops j := fun i j hi hj hij => by
    have := List.all_eq_true.1 (List.all_eq_true.1 hdd i (List.mem_range.2 hi)) j (List.mem_range.2 hj)
    simpa [hij] using this
  intro fuel
  induction fuel with
  | zero =>
    intro T s f w hT hlen hsT hTn inv hb hΦ hF hFF
    have hT0 : T = [] := List.length_eq_zero_iff.1 hlen
    subst hT0
    have hall : ∀ j, j < n → s.getD j false = true := fun j hj => by
      cases h : s.getD j false with
      | true => rfl
      | false => exact absurd ((hsT j hj).1 h) (by simp)
    have hse : s = ((List.range ops.size).map fun j => decide (j < n)).toArray := by
      apply Array.ext
      · simp [inv.size]
      · intro j h1 h2
        have hjs : j < ops.size := by rw [← inv.size]; exact h1
        simp only [List.getElem_toArray, List.getElem_map, List.getElem_range]
        by_cases e : j < n
        · have := hall j e
          rw [Array.getD_eq_getD_getElem?, Array.getElem?_eq_getElem h1] at this
          simp only [Option.getD_some] at this
          rw [this]; simp [e]
        · have := inv.tail j (by omega) hjs
          rw [Array.getD_eq_getD_getElem?, Array.getElem?_eq_getElem h1] at this
          simp only [Option.getD_some] at this
          rw [this]; simp [e]
    have tt := tail f w hb (fun j hj => hΦ j hj (hall j hj)) fun j k hj hk hjk => hFF j k hj hk hjk (hall j hj) (hall k hk)
    have hs1 : ∀ x y : Nat, (x = n + 1 ∧ y = n + 2) ∨ (x = n + 2 ∧ y = n + 1) → ((s.setIfInBounds n true).setIfInBounds x true).setIfInBounds y true = ((List.range ops.size).map fun j => decide (j < n + 3)).toArray := fun x y hxy => by
      rw [hse]
      apply Array.ext
      · simp
      · intro j h1 h2
        have hjs : j < ops.size := by simpa using h1
        rw [Array.getElem_setIfInBounds (by simpa using h1)]
        by_cases e : y = j
        · rw [if_pos e]; simp; omega
        · rw [if_neg e, Array.getElem_setIfInBounds (by simpa using h1)]
          by_cases e2 : x = j
          · rw [if_pos e2]; simp; omega
          · rw [if_neg e2, Array.getElem_setIfInBounds (by simpa using h1)]
            by_cases e3 : n = j
            · rw [if_pos e3]; simp; omega
            rw [if_neg e3]
            simp only [List.getElem_toArray, List.getElem_map, List.getElem_range]
            have : (j < n) ↔ (j < n + 3) := by omega
            simp [this]
    have hrest : ∀ a' w', wpList P ops Q (l.drop (n + 3)) a' w' → wpAny P md ops Q (ops.size - (n + 3)) ((List.range ops.size).map fun j => decide (j < n + 3)).toArray a' w' := fun a' w' h' => by
      have hdl : (l.drop (n + 3)).length = ops.size - (n + 3) := by rw [hl]; simp
      have h3 := wpAny_of_seq (P := P) (md := md) (ops := ops) (Q' := Q) (l.drop (n + 3)) (n + 3) _ a' w' (fun j => by rw [hl]; simp [List.getElem?_drop]) (by rw [hdl]; exact hsq) h'
      rwa [hdl] at h3
    have hs0 : s.setIfInBounds n true = ((List.range ops.size).map fun j => decide (j < n + 1)).toArray := by
      rw [hse]
      apply Array.ext
      · simp
      · intro j h1 h2
        rw [Array.getElem_setIfInBounds (by simpa using h1)]
        by_cases e : n = j
        · rw [if_pos e]; simp; omega
        · rw [if_neg e]
          simp only [List.getElem_toArray, List.getElem_map, List.getElem_range]
          have : (j < n) ↔ (j < n + 1) := by omega
          simp [this]
    have hafter : ∀ a' w', wpList P ops Q (on :: om :: l.drop (n + 3)) a' w' → wpList P ops Q (om :: on :: l.drop (n + 3)) a' w' → wpAny P md ops Q ((ops.size - (n + 3)) + 1 + 1) (s.setIfInBounds n true) a' w' := fun a1 w1 t1 t2 => by
      refine ⟨fun e => ?_, fun x hx => ?_⟩
      · rw [hs0, hr0] at e; cases e
      rw [hs0, hr0] at hx
      have hx' : x = n + 1 ∨ x = n + 2 := by simpa using hx
      rcases hx' with rfl | rfl
      · have hw1 : wpOp P ops Q (n + 1) (wpList P ops Q (om :: l.drop (n + 3))) a1 w1 := by unfold wpOp; simp only [hon]; exact t1
        refine wpOp_mono (fun a' w' h' => ?_) hw1
        have hse1 : (s.setIfInBounds n true).setIfInBounds (n + 1) true = (((List.range ops.size).map fun j => decide (j < n + 1)).toArray).setIfInBounds (n + 1) true := by rw [hs0]
        refine ⟨fun e => ?_, fun y hy => ?_⟩
        · rw [hse1, hr1] at e; cases e
        rw [hse1, hr1] at hy
        have hy' : y = n + 2 := by simpa using hy
        subst hy'
        have hw2 : wpOp P ops Q (n + 2) (wpList P ops Q (l.drop (n + 3))) a' w' := by unfold wpOp; simp only [hom]; exact h'
        refine wpOp_mono (fun a'' w'' h'' => ?_) hw2
        rw [hs1 (n + 1) (n + 2) (.inl ⟨rfl, rfl⟩)]
        exact hrest _ _ h''
      · have hw1 : wpOp P ops Q (n + 2) (wpList P ops Q (on :: l.drop (n + 3))) a1 w1 := by unfold wpOp; simp only [hom]; exact t2
        refine wpOp_mono (fun a' w' h' => ?_) hw1
        have hse1 : (s.setIfInBounds n true).setIfInBounds (n + 2) true = (((List.range ops.size).map fun j => decide (j < n + 1)).toArray).setIfInBounds (n + 2) true := by rw [hs0]
        refine ⟨fun e => ?_, fun y hy => ?_⟩
        · rw [hse1, hr2] at e; cases e
        rw [hse1, hr2] at hy
        have hy' : y = n + 1 := by simpa using hy
        subst hy'
        have hw2 : wpOp P ops Q (n + 1) (wpList P ops Q (l.drop (n + 3))) a' w' := by unfold wpOp; simp only [hon]; exact h'
        refine wpOp_mono (fun a'' w'' h'' => ?_) hw2
        rw [hs1 (n + 2) (n + 1) (.inr ⟨rfl, rfl⟩)]
        exact hrest _ _ h''
    rw [show 0 + (ops.size - n) = (ops.size - (n + 3)) + 1 + 1 + 1 by omega]
    refine ⟨fun e => ?_, fun x hx => ?_⟩
    · rw [hse, hr9] at e; cases e
    rw [hse, hr9] at hx
    have hx' : x = n := by simpa using hx
    subst hx'
    unfold wpOp
    rw [hot]
    simp only []
    refine rel_one tt (fun v w' hR => hafter _ _ hR.2.1 hR.2.2) (fun d v w' hR => ?_)
    have h1 := hR.1
    have h2 := congrArg List.length h1
    cases hod : ot.dst <;> simp [Act.put, hod] at h2
  | succ fuel ih =>
    intro T s f w hT hlen hsT hTn inv hb hΦ hF hFF
    have hTne : T ≠ [] := fun e => by rw [e] at hlen; cases hlen
    obtain ⟨m, hm, hle⟩ := least_of hTne
    have hmn := hTn m hm
    have hun : s.getD m false = false := (hsT m hmn).2 hm
    have hms : m < s.size := by rw [inv.size]; omega
    obtain ⟨om, hom⟩ : ∃ o, ops[m]? = some o := ⟨_, Array.getElem?_eq_getElem (by omega)⟩
    have hready : m ∈ Region.ready md ops s := mem_ready.2 ⟨getD_in hms hun, om, hom, fun e he hbnd => by
      have h1 := (hfw' m om hmn hom).2 e he hbnd
      cases h2 : s.getD e.on false with
      | true => rfl
      | false =>
        have := hle _ ((hsT e.on (by omega)).1 h2)
        omega⟩
    rw [show fuel + 1 + (ops.size - n) = (fuel + (ops.size - n)) + 1 by omega]
    refine ⟨fun e => absurd hready (by rw [e]; simp), fun i hi => ?_⟩
    obtain ⟨hiu, oi, hoi, hdeps⟩ := mem_ready.1 hi
    have hin : i < n := Nat.lt_of_not_le fun h => call_waits hs hc inv _ m rfl hmn (getD_in hms hun) i h hi
    have hiT : i ∈ T := (hsT i hin).1 (getD_both hiu)
    have hfi := hfw' i oi hin hoi
    have hdo : dstOf ops i = oi.dst := by unfold dstOf; rw [hoi]; rfl
    unfold wpOp
    rw [hoi]
    simp only []
    have hh := head i oi hin hoi f w hb fun e he hbnd => hΦ e.on (by have := hfi.2 e he hbnd; omega) (hdeps e he hbnd)
    refine rel_one hh (fun v w' hR => ?_) (fun d v w' hR => ?_)
    · obtain ⟨_, hbw, hv⟩ := hR
      have hval : ∀ i, i < n → oi.dst.isSome = true → dstOf ops i = oi.dst → (∀ t, oi.dst = some t → Φ i (((frm ops a0 f n).put oi.dst v).tmps.getD t undef) w' ∧ (F i → w.heap.size ≤ blk (((frm ops a0 f n).put oi.dst v).tmps.getD t undef) ∧ blk (((frm ops a0 f n).put oi.dst v).tmps.getD t undef) < w'.heap.size)) → Φ i v w' ∧ (F i → w.heap.size ≤ blk v ∧ blk v < w'.heap.size) := fun i hi h1 hdo h => by
        obtain ⟨t, ht⟩ := Option.isSome_iff_exists.1 h1
        have h4 := h t ht
        have h5 : t < (frm ops a0 f n).tmps.size := by rw [frm_size]; exact hN i hi t (by rw [hdo, ht])
        rw [ht] at h4
        simpa [Act.put, h5] using h4
      rw [← hdo, frm_put ops a0 f i v n hin fun j hj hji => .inr (hdd' i j hin hj (Ne.symm hji))]
      refine ih (T.erase i) _ _ w' (hT.erase i) (by rw [List.length_erase_of_mem hiT]; omega) (fun j hj => ?_) (fun j hj => hTn j (List.mem_of_mem_erase hj)) (inv.set hi hin) (bstep hb hbw) (fun j hj hjs => ?_) (fun j hj hjs hFj => ?_) (fun j k hj hk hjk hjs hks hFj hFk => ?_)
      · rw [hT.mem_erase_iff]
        by_cases e : j = i
        · subst e
          have hjs : j < s.size := by rw [inv.size]; omega
          simp [Array.getD_eq_getD_getElem?, hjs]
        · rw [getD_set_ne false (Ne.symm e), hsT j hj]
          simp [e]
      · by_cases e : j = i
        · subst e
          have : updF f j v j = v := if_pos rfl
          rw [this]
          exact (hval j hj hfi.1 hdo hv).1
        · have : updF f i v j = f j := if_neg e
          rw [this]
          rw [getD_set_ne false (Ne.symm e)] at hjs
          exact mono j hj _ _ _ hbw (hΦ j hj hjs)
      · by_cases e : j = i
        · subst e
          have : updF f j v j = v := if_pos rfl
          rw [this]
          exact ((hval j hj hfi.1 hdo hv).2 hFj).2
        · have : updF f i v j = f j := if_neg e
          rw [this]
          rw [getD_set_ne false (Ne.symm e)] at hjs
          exact Nat.lt_of_lt_of_le (hF j hj hjs hFj) hbw.size
      · by_cases e : j = i
        · subst e
          have e1 : updF f j v j = v := if_pos rfl
          have e2 : updF f j v k = f k := if_neg (Ne.symm hjk)
          rw [e1, e2]
          rw [getD_set_ne false hjk] at hks
          have h1 := ((hval j hj hfi.1 hdo hv).2 hFj).1
          have h2 := hF k hk hks hFk
          omega
        · have e1 : updF f i v j = f j := if_neg e
          rw [e1]
          rw [getD_set_ne false (Ne.symm e)] at hjs
          by_cases e3 : k = i
          · subst e3
            have e2 : updF f k v k = v := if_pos rfl
            rw [e2]
            have h1 := ((hval k hk hfi.1 hdo hv).2 hFk).1
            have h2 := hF j hj hjs hFj
            omega
          · have e2 : updF f i v k = f k := if_neg e3
            rw [e2]
            rw [getD_set_ne false (Ne.symm e3)] at hks
            exact hFF j k hj hk hjk hjs hks hFj hFk
    · have h1 := hR.1
      have h2 := congrArg List.length h1
      cases hod : oi.dst <;> simp [Act.put, hod] at h2
theorem wp_region_call {id : Nat} {a0 : Act} {w : World} {l : List Oper} (L : List Sta) (F : List Nat) (N : Nat) {ot on om : Oper} (hm : P.follows .mixedOrders = true) (hB : callB .any l.toArray L.length = true) (hot : l.toArray[L.length]? = some ot) (hon : l.toArray[L.length + 1]? = some on) (hom : l.toArray[L.length + 2]? = some om)
    (hsz : a0.tmps.size = N) (hN : dstLtB l.toArray L.length N = true) {fr : (Nat → Value) → Act} (hfr : ∀ f, frm l.toArray a0 f L.length = fr f)
    (head : HeadL P Q l.toArray L F fr w l L 0)
    (tail : ∀ f w1, Below w.heap.size w w1 → (∀ j, j < L.length → (stA L j).p (f j) w1) → (∀ j k, j < L.length → k < L.length → j ≠ k → j ∈ F → k ∈ F → blk (f j) ≠ blk (f k)) → wpList P l.toArray (Exit.then (fun a' w' => a'.defers = (fr f).defers ∧ wpList P l.toArray Q (on :: om :: l.drop (L.length + 3)) a' w' ∧ wpList P l.toArray Q (om :: on :: l.drop (L.length + 3)) a' w') Q) [ot] (fr f) w1) : (Code.region id l.toArray true).wp P Q a0 w := by
  have hn : L.length < l.toArray.size := by
    simp only [callB, Bool.and_eq_true, decide_eq_true_eq] at hB
    have := hB.1.1.1.1.1.1.1.1.1
    omega
  refine wp_region_any hm ?_
  have h := call_any (md := .any) (Q := Q) (P := P) (n := L.length) (a0 := a0) (w0 := w) (Φ := fun j => (stA L j).p) (F := fun j => j ∈ F) rfl hB hot hon hom
    (fun i hi t ht => by
      have h1 := List.all_eq_true.1 hN i (List.mem_range.2 hi)
      rw [ht] at h1
      rw [hsz]
      simpa using h1)
    (fun j _ v w1 w2 hb h => (stA L j).m v w1 w2 hb h)
    (fun i o hi ho f w1 hb hd => by
      rw [hfr]
      have hS : L[i]? = some (stA L i) := by
        unfold stA
        rw [List.getD_eq_getElem?_getD, List.getElem?_eq_getElem hi]; rfl
      have h2 := headL_at l L 0 head i o (stA L i) (by simpa using ho) hS f w1 hb (fun j hj => by
        unfold depB at hj
        obtain ⟨e, he, h3⟩ := Array.any_eq_true'.1 hj
        simp only [Bool.and_eq_true, beq_iff_eq] at h3
        rw [← h3.2]
        exact hd e he h3.1)
      rwa [Nat.zero_add] at h2)
    (fun f w1 hb hΦ hFF => by rw [hfr]; exact tail f w1 hb hΦ hFF)
    L.length (List.range L.length) (Array.replicate l.toArray.size false) (fun j => match dstOf l.toArray j with | some d => a0.tmps.getD d undef | none => undef) w.drew
    List.nodup_range (by simp) (fun j hj => by rw [getD_replicate_false]; simp [hj]) (fun j hj => by simpa using hj)
    ⟨by simp, fun j oj _ hl => (by rw [getD_replicate_false] at hl; cases hl), fun t _ ht => getD_in (by simpa using ht) (getD_replicate_false _ _)⟩
    (below_drew (Below.refl _ _)) (fun j _ hl => by rw [getD_replicate_false] at hl; cases hl) (fun j _ hl => by rw [getD_replicate_false] at hl; cases hl) (fun j k _ _ _ hl => by rw [getD_replicate_false] at hl; cases hl)
  have e0 : frm l.toArray a0 (fun j => match dstOf l.toArray j with | some d => a0.tmps.getD d undef | none => undef) L.length = a0 := frm_id _ _ _
  rw [e0, show L.length + (l.toArray.size - L.length) = l.toArray.size by omega] at h
  exact h
end
end Go.Proofs.YtkabcpmnbjllcaaDoor
