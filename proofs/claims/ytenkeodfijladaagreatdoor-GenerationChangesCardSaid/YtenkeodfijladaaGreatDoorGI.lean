/- Several texts in one, each over the last: A region that draws its order, by what each operation leaves: whatever the order, what an operation yields has a property that lasts while memory only grows; what comes behind them all has one order. Names of files: the walks of number and Format. Names of files: the walk of Parse. Printed by genHp.py. -/
import Derived.StillTailTactics
import Derived.Deep.Quiet
import Derived.BigQuiet
import Derived.Test.YtenkeodfijladaaGreatDoorBase
import Derived.Test.YtenkeodfijladaaGreatDoorGH
import Derived.Deep.Cut
import Derived.Test.YtenkeodfijladaaGreatDoorQt
import Derived.Test.YtenkeodfijladaaGreatDoorGD
namespace Go.Proofs.YtenkeodfijladaaGreatDoor
open Go Go.RowKit

section
variable {P : Program} {ops : Array Oper} {md : Region.Mode}

def dstOf (ops : Array Oper) (j : Nat) : Option Tmp := (ops[j]?).bind (·.dst)
/-- The frame behind the first n operations, f j being what number j yields. -/
def frm (ops : Array Oper) (a0 : Act) (f : Nat → Value) : Nat → Act
  | 0 => a0
  | n + 1 => (frm ops a0 f n).put (dstOf ops n) (f n)
def updF (f : Nat → Value) (i : Nat) (v : Value) : Nat → Value := fun j => if j = i then v else f j
theorem put_put (a : Act) (d : Option Tmp) (u v : Value) : (a.put d u).put d v = a.put d v := by
  cases d with
  | none => rfl
  | some d => simp [Act.put]
theorem put_comm (a : Act) (d e : Option Tmp) (u v : Value) (h : d = none ∨ d ≠ e) : (a.put d u).put e v = (a.put e v).put d u := by
  cases d with
  | none => rfl
  | some d =>
    cases e with
    | none => rfl
    | some e =>
      have hne : d ≠ e := by
        rcases h with h | h
        · cases h
        · exact fun e1 => h (by rw [e1])
      simp only [Act.put]
      rw [Array.setIfInBounds_comm _ _ hne]
theorem frm_same (ops : Array Oper) (a0 : Act) (f : Nat → Value) (i : Nat) (v : Value) : ∀ n, n ≤ i → frm ops a0 (updF f i v) n = frm ops a0 f n
  | 0, _ => rfl
  | n + 1, h => by
    show (frm ops a0 (updF f i v) n).put _ (updF f i v n) = _
    rw [frm_same ops a0 f i v n (by omega)]
    have : updF f i v n = f n := if_neg (by omega)
    rw [this]; rfl
theorem frm_put (ops : Array Oper) (a0 : Act) (f : Nat → Value) (i : Nat) (v : Value) : ∀ n, i < n → (∀ j, j < n → j ≠ i → dstOf ops i = none ∨ dstOf ops i ≠ dstOf ops j) → (frm ops a0 f n).put (dstOf ops i) v = frm ops a0 (updF f i v) n
  | 0, h, _ => by omega
  | n + 1, h, hd => by
    show ((frm ops a0 f n).put (dstOf ops n) (f n)).put (dstOf ops i) v = (frm ops a0 (updF f i v) n).put (dstOf ops n) (updF f i v n)
    by_cases e : i = n
    · subst e
      rw [put_put, frm_same ops a0 f i v i (Nat.le_refl _)]
      have : updF f i v i = v := if_pos rfl
      rw [this]
    · have h1 : dstOf ops n = none ∨ dstOf ops n ≠ dstOf ops i := by
        rcases hd n (by omega) (fun e1 => e e1.symm) with h | h
        · cases hn : dstOf ops n with
          | none => exact .inl rfl
          | some d => exact .inr (by rw [h]; simp)
        · exact .inr (Ne.symm h)
      rw [put_comm _ _ _ _ _ h1, frm_put ops a0 f i v n (by omega) fun j hj hji => hd j (by omega) hji]
      have : updF f i v n = f n := if_neg (by omega)
      rw [this]
theorem frm_id (ops : Array Oper) (a0 : Act) : ∀ n, frm ops a0 (fun j => match dstOf ops j with | some d => a0.tmps.getD d undef | none => undef) n = a0
  | 0 => rfl
  | n + 1 => by
    show (frm ops a0 _ n).put (dstOf ops n) _ = a0
    rw [frm_id ops a0 n]
    cases hd : dstOf ops n with
    | none => rfl
    | some d =>
      simp only [hd]
      obtain ⟨t, ds⟩ := a0
      simp only [Act.put]
      congr 1
      apply Array.ext_getElem?
      intro i
      by_cases e : d = i
      · subst e
        rw [Array.getElem?_setIfInBounds_self]
        split
        · rename_i h; simp [h]
        · rename_i h; rw [Array.getElem?_eq_none (by omega)]
      · rw [Array.getElem?_setIfInBounds_ne e]
def relB (md : Region.Mode) (ops : Array Oper) (n : Nat) : Bool :=
  decide (n < ops.size) && Region.sinkB md ops n && Region.chainB md ops n &&
  ((List.range n).all fun i => ((ops[i]?).map fun o => o.dst.isSome && o.after.all fun e => !Region.binds md e || decide (e.on < i)).getD false) &&
  ((List.range n).all fun i => (List.range n).all fun j => decide (i = j) || decide (dstOf ops i ≠ dstOf ops j)) &&
  Region.seqB md ops (ops.size - n) n ((List.range ops.size).map fun j => decide (j < n)).toArray

variable {Q : Exit → Act → World → Prop}
def blk : Value → Nat
  | .pointer (some a) => a.block
  | _ => 0
/-- What an operation may leave. -/
def RelPost (B0 : Value → World → Prop) (F : Prop) (ds : List Deferred) (d : Option Tmp) (w : World) (a' : Act) (w' : World) : Prop :=
  a'.defers = ds ∧ Below w.heap.size w w' ∧ ∀ t, d = some t → B0 (a'.tmps.getD t undef) w' ∧ (F → w.heap.size ≤ blk (a'.tmps.getD t undef) ∧ blk (a'.tmps.getD t undef) < w'.heap.size)
theorem rel_one {o : Oper} {a : Act} {w : World} {R : Act → World → Prop} (h : wpList P ops (Exit.then R Q) [o] a w) {K : Act → World → Prop}
    (hK : ∀ v w', R (a.put o.dst v) w' → K (a.put o.dst v) w') (hD : ∀ d v w', R ({ a with defers := d :: a.defers }.put o.dst v) w' → False) :
    if Region.wanted o (yielded ops a.tmps) then o.wp P a w K Q ∨ (o.asks P a w ∧ LetsOut Q) else K (a.put o.dst undef) w := by
  unfold wpList at h
  split at h
  · rename_i hw
    rw [if_pos hw]
    rcases h with h | ⟨h1, h2⟩
    · left
      unfold Oper.wp at h ⊢
      generalize (execOp a.eval o).run P w = r at *
      cases r with
      | ok nx w' =>
        cases nx with
        | value v => exact hK _ _ h
        | skip => exact hK _ _ h
        | defer d => exact absurd h (hD _ _ _)
        | enter f args =>
          refine Calls.mono h fun e w'' he => ?_
          cases e with
          | returned v => exact hK _ _ he
          | panicked c => exact he
          | outgrown => exact he
        | row r args => exact Rows.mono h fun v w'' he => hK _ _ he
        | _ => exact h
      | halt x w' => cases x <;> first | exact h | exact False.elim h
    · exact .inr ⟨h1, h2⟩
  · rename_i hw
    rw [if_neg hw]
    exact hK _ _ h
theorem least_of {T : List Nat} (h : T ≠ []) : ∃ m, m ∈ T ∧ ∀ k ∈ T, m ≤ k := by
  induction T with
  | nil => exact absurd rfl h
  | cons x r ih =>
    by_cases hr : r = []
    · subst hr; exact ⟨x, by simp, fun k hk => by simp at hk; omega⟩
    · obtain ⟨m, hm, hle⟩ := ih hr
      by_cases hx : x ≤ m
      · exact ⟨x, by simp, fun k hk => by
          rcases List.mem_cons.1 hk with rfl | hk
          · exact Nat.le_refl _
          · exact Nat.le_trans hx (hle k hk)⟩
      · exact ⟨m, by simp [hm], fun k hk => by
          rcases List.mem_cons.1 hk with rfl | hk
          · omega
          · exact hle k hk⟩
theorem frm_size (ops : Array Oper) (a0 : Act) (f : Nat → Value) : ∀ n, (frm ops a0 f n).tmps.size = a0.tmps.size
  | 0 => rfl
  | n + 1 => by
    show ((frm ops a0 f n).put (dstOf ops n) (f n)).tmps.size = _
    rw [← frm_size ops a0 f n]
    cases dstOf ops n <;> simp [Act.put]
theorem rel_any {n : Nat} {a0 : Act} {w0 : World} {Φ : Nat → Value → World → Prop} {F : Nat → Prop} {l : List Oper} (hl : ops = l.toArray) (hB : relB md ops n = true) (hN : ∀ i, i < n → ∀ t, dstOf ops i = some t → t < a0.tmps.size)
    (mono : ∀ j, j < n → ∀ v w1 w2, Below w1.heap.size w1 w2 → Φ j v w1 → Φ j v w2)
    (head : ∀ i o, i < n → ops[i]? = some o → ∀ f w1, Below w0.heap.size w0 w1 → (∀ e ∈ o.after, Region.binds md e = true → Φ e.on (f e.on) w1) →
      wpList P ops (Exit.then (RelPost (Φ i) (F i) (frm ops a0 f n).defers o.dst w1) Q) [o] (frm ops a0 f n) w1)
    (tail : ∀ f w1, Below w0.heap.size w0 w1 → (∀ j, j < n → Φ j (f j) w1) → (∀ j k, j < n → k < n → j ≠ k → F j → F k → blk (f j) ≠ blk (f k)) → wpList P ops Q (l.drop n) (frm ops a0 f n) w1) :
    ∀ (fuel : Nat) (T : List Nat) (s : Array Bool) (f : Nat → Value) (w : World), T.Nodup → T.length = fuel → (∀ j, j < n → (s.getD j false = false ↔ j ∈ T)) → (∀ j ∈ T, j < n) → HeadInv md ops n s → Below w0.heap.size w0 w →
      (∀ j, j < n → s.getD j false = true → Φ j (f j) w) → (∀ j, j < n → s.getD j false = true → F j → blk (f j) < w.heap.size) →
      (∀ j k, j < n → k < n → j ≠ k → s.getD j false = true → s.getD k false = true → F j → F k → blk (f j) ≠ blk (f k)) → wpAny P md ops Q (fuel + (ops.size - n)) s (frm ops a0 f n) w := by
  simp only [relB, Bool.and_eq_true, decide_eq_true_eq] at hB
  obtain ⟨⟨⟨⟨⟨hn, hs⟩, hc⟩, hfw⟩, hdd⟩, hsq⟩ := hB
  have hfw' : ∀ i o, i < n → ops[i]? = some o → o.dst.isSome = true ∧ ∀ e ∈ o.after, Region.binds md e = true → e.on < i := fun i o hi ho => by
    have := List.all_eq_true.1 hfw i (List.mem_range.2 hi)
    rw [ho] at this
    simp only [Option.map_some, Option.getD_some, Bool.and_eq_true] at this
    refine ⟨this.1, fun e he hb => ?_⟩
    have h2 := Array.all_eq_true_iff_forall_mem.1 this.2 e he
    rw [hb] at h2
    simpa using h2
  have hdd' : ∀ i j, i < n → j < n → i ≠ j → dstOf ops i ≠ dstOf ops j := fun i j hi hj hij => by
    have := List.all_eq_true.1 (List.all_eq_true.1 hdd i (List.mem_range.2 hi)) j (List.mem_range.2 hj)
    simpa [hij] using this
  intro fuel
  induction fuel with
  | zero =>
    intro T s f w hT hlen hsT hTn inv hb hΦ hF hFF
    have hT0 : T = [] := List.length_eq_zero_iff.1 hlen
    subst hT0
    have hall : ∀ j, j < n → s.getD j false = true := fun j hj => by
      cases h : s.getD j false with
      | true => rfl
      | false => exact absurd ((hsT j hj).1 h) (by simp)
    have hse : s = ((List.range ops.size).map fun j => decide (j < n)).toArray := by
      apply Array.ext
      · simp [inv.size]
      · intro j h1 h2
        have hjs : j < ops.size := by rw [← inv.size]; exact h1
        simp only [List.getElem_toArray, List.getElem_map, List.getElem_range]
        by_cases e : j < n
        · have := hall j e
          rw [Array.getD_eq_getD_getElem?, Array.getElem?_eq_getElem h1] at this
          simp only [Option.getD_some] at this
          rw [this]; simp [e]
        · have := inv.tail j (by omega) hjs
          rw [Array.getD_eq_getD_getElem?, Array.getElem?_eq_getElem h1] at this
          simp only [Option.getD_some] at this
          rw [this]; simp [e]
    rw [Nat.zero_add]
    have hdl : (l.drop n).length = ops.size - n := by rw [hl]; simp
    have h3 := wpAny_of_seq (P := P) (md := md) (ops := ops) (Q' := Q) (l.drop n) n s (frm ops a0 f n) w (fun j => by rw [hl]; simp [List.getElem?_drop]) (by rw [hdl, hse]; exact hsq) (tail f w hb (fun j hj => hΦ j hj (hall j hj)) fun j k hj hk hjk => hFF j k hj hk hjk (hall j hj) (hall k hk))
    rwa [hdl] at h3
  | succ fuel ih =>
    intro T s f w hT hlen hsT hTn inv hb hΦ hF hFF
    have hTne : T ≠ [] := fun e => by rw [e] at hlen; cases hlen
    obtain ⟨m, hm, hle⟩ := least_of hTne
    have hmn := hTn m hm
    have hun : s.getD m false = false := (hsT m hmn).2 hm
    have hms : m < s.size := by rw [inv.size]; omega
    obtain ⟨om, hom⟩ : ∃ o, ops[m]? = some o := ⟨_, Array.getElem?_eq_getElem (by omega)⟩
    have hready : m ∈ Region.ready md ops s := mem_ready.2 ⟨getD_in hms hun, om, hom, fun e he hbnd => by
      have h1 := (hfw' m om hmn hom).2 e he hbnd
      cases h2 : s.getD e.on false with
      | true => rfl
      | false =>
        have := hle _ ((hsT e.on (by omega)).1 h2)
        omega⟩
    rw [show fuel + 1 + (ops.size - n) = (fuel + (ops.size - n)) + 1 by omega]
    refine ⟨fun e => absurd hready (by rw [e]; simp), fun i hi => ?_⟩
    obtain ⟨hiu, oi, hoi, hdeps⟩ := mem_ready.1 hi
    have hin : i < n := Nat.lt_of_not_le fun h => tail_waits hs hc hn inv _ m rfl hmn (getD_in hms hun) i h hi
    have hiT : i ∈ T := (hsT i hin).1 (getD_both hiu)
    have hfi := hfw' i oi hin hoi
    have hdo : dstOf ops i = oi.dst := by unfold dstOf; rw [hoi]; rfl
    unfold wpOp
    rw [hoi]
    simp only []
    have hh := head i oi hin hoi f w hb fun e he hbnd => hΦ e.on (by have := hfi.2 e he hbnd; omega) (hdeps e he hbnd)
    refine rel_one hh (fun v w' hR => ?_) (fun d v w' hR => ?_)
    · obtain ⟨_, hbw, hv⟩ := hR
      have hval : ∀ i, i < n → oi.dst.isSome = true → dstOf ops i = oi.dst → (∀ t, oi.dst = some t → Φ i (((frm ops a0 f n).put oi.dst v).tmps.getD t undef) w' ∧ (F i → w.heap.size ≤ blk (((frm ops a0 f n).put oi.dst v).tmps.getD t undef) ∧ blk (((frm ops a0 f n).put oi.dst v).tmps.getD t undef) < w'.heap.size)) → Φ i v w' ∧ (F i → w.heap.size ≤ blk v ∧ blk v < w'.heap.size) := fun i hi h1 hdo h => by
        obtain ⟨t, ht⟩ := Option.isSome_iff_exists.1 h1
        have h4 := h t ht
        have h5 : t < (frm ops a0 f n).tmps.size := by rw [frm_size]; exact hN i hi t (by rw [hdo, ht])
        rw [ht] at h4
        simpa [Act.put, h5] using h4
      rw [← hdo, frm_put ops a0 f i v n hin fun j hj hji => .inr (hdd' i j hin hj (Ne.symm hji))]
      refine ih (T.erase i) _ _ w' (hT.erase i) (by rw [List.length_erase_of_mem hiT]; omega) (fun j hj => ?_) (fun j hj => hTn j (List.mem_of_mem_erase hj)) (inv.set hi hin) (bstep hb hbw) (fun j hj hjs => ?_) (fun j hj hjs hFj => ?_) (fun j k hj hk hjk hjs hks hFj hFk => ?_)
      · rw [hT.mem_erase_iff]
        by_cases e : j = i
        · subst e
          have hjs : j < s.size := by rw [inv.size]; omega
          simp [Array.getD_eq_getD_getElem?, hjs]
        · rw [getD_set_ne false (Ne.symm e), hsT j hj]
          simp [e]
      · by_cases e : j = i
        · subst e
          have : updF f j v j = v := if_pos rfl
          rw [this]
          exact (hval j hj hfi.1 hdo hv).1
        · have : updF f i v j = f j := if_neg e
          rw [this]
          rw [getD_set_ne false (Ne.symm e)] at hjs
          exact mono j hj _ _ _ hbw (hΦ j hj hjs)
      · by_cases e : j = i
        · subst e
          have : updF f j v j = v := if_pos rfl
          rw [this]
          exact ((hval j hj hfi.1 hdo hv).2 hFj).2
        · have : updF f i v j = f j := if_neg e
          rw [this]
          rw [getD_set_ne false (Ne.symm e)] at hjs
          exact Nat.lt_of_lt_of_le (hF j hj hjs hFj) hbw.size
      · by_cases e : j = i
        · subst e
          have e1 : updF f j v j = v := if_pos rfl
          have e2 : updF f j v k = f k := if_neg (Ne.symm hjk)
          rw [e1, e2]
          rw [getD_set_ne false hjk] at hks
          have h1 := ((hval j hj hfi.1 hdo hv).2 hFj).1
          have h2 := hF k hk hks hFk
          omega
        · have e1 : updF f i v j = f j := if_neg e
          rw [e1]
          rw [getD_set_ne false (Ne.symm e)] at hjs
          by_cases e3 : k = i
          · subst e3
            have e2 : updF f k v k = v := if_pos rfl
            rw [e2]
            have h1 := ((hval k hk hfi.1 hdo hv).2 hFk).1
            have h2 := hF j hj hjs hFj
            omega
          · have e2 : updF f i v k = f k := if_neg e3
            rw [e2]
            rw [getD_set_ne false (Ne.symm e3)] at hks
            exact hFF j k hj hk hjk hjs hks hFj hFk
    · have h1 := hR.1
      have h2 := congrArg List.length h1
      cases hod : oi.dst <;> simp [Act.put, hod] at h2
/-- A property of a value that lasts while memory only grows. -/
structure Sta where
  p : Value → World → Prop
  m : ∀ v w w', Below w.heap.size w w' → p v w → p v w'
instance : Inhabited Sta := ⟨⟨fun _ _ => True, fun _ _ _ _ _ => trivial⟩⟩
def eqS (x : Value) : Sta := ⟨fun v _ => v = x, fun _ _ _ _ h => h⟩
def depB (o : Oper) (j : Nat) : Bool := o.after.any fun e => Region.binds .any e && e.on == j
def stA (L : List Sta) (j : Nat) : Sta := L.getD j default
def dstLtB (ops : Array Oper) (n N : Nat) : Bool := (List.range n).all fun i => ((dstOf ops i).map fun t => decide (t < N)).getD true
/-- Each operation in turn leaves what is said of it, in each world and whatever the others have done, if those that it waits for have left what is said of them. -/
def HeadL (P : Program) (Q : Exit → Act → World → Prop) (ops : Array Oper) (L : List Sta) (F : List Nat) (fr : (Nat → Value) → Act) (w : World) : List Oper → List Sta → Nat → Prop
  | o :: r, S :: R, i => (∀ f w1, Below w.heap.size w w1 → (∀ j, depB o j = true → (stA L j).p (f j) w1) → wpList P ops (Exit.then (RelPost S.p (i ∈ F) (fr f).defers o.dst w1) Q) [o] (fr f) w1) ∧ HeadL P Q ops L F fr w r R (i + 1)
  | _, _, _ => True
theorem headL_at {ops : Array Oper} {L : List Sta} {F : List Nat} {fr : (Nat → Value) → Act} {w : World} : ∀ (l : List Oper) (R : List Sta) (k : Nat), HeadL P Q ops L F fr w l R k →
    ∀ i o S, l[i]? = some o → R[i]? = some S → ∀ f w1, Below w.heap.size w w1 → (∀ j, depB o j = true → (stA L j).p (f j) w1) → wpList P ops (Exit.then (RelPost S.p (k + i ∈ F) (fr f).defers o.dst w1) Q) [o] (fr f) w1
  | [], _, _, _, i, o, S, ho, _ => by simp at ho
  | o :: r, [], _, _, i, _, S, _, hS => by simp at hS
  | o :: r, S :: R, k, h, 0, o', S', ho, hS => by
    simp at ho hS
    subst ho hS
    exact h.1
  | o :: r, S :: R, k, h, i + 1, o', S', ho, hS => by
    have := headL_at r R (k + 1) h.2 i o' S' (by simpa using ho) (by simpa using hS)
    rwa [show k + 1 + i = k + (i + 1) by omega] at this
theorem wp_region_rel {id : Nat} {a0 : Act} {w : World} {l : List Oper} (L : List Sta) (F : List Nat) (N : Nat) (hm : P.follows .mixedOrders = true) (hB : relB .any l.toArray L.length = true)
    (hsz : a0.tmps.size = N) (hN : dstLtB l.toArray L.length N = true) {fr : (Nat → Value) → Act} (hfr : ∀ f, frm l.toArray a0 f L.length = fr f)
    (head : HeadL P Q l.toArray L F fr w l L 0)
    (tail : ∀ f w1, Below w.heap.size w w1 → (∀ j, j < L.length → (stA L j).p (f j) w1) → (∀ j k, j < L.length → k < L.length → j ≠ k → j ∈ F → k ∈ F → blk (f j) ≠ blk (f k)) → wpList P l.toArray Q (l.drop L.length) (fr f) w1) : (Code.region id l.toArray true).wp P Q a0 w := by
  have hn : L.length < l.toArray.size := by
    simp only [relB, Bool.and_eq_true, decide_eq_true_eq] at hB
    exact hB.1.1.1.1.1
  refine wp_region_any hm ?_
  have h := rel_any (md := .any) (Q := Q) (P := P) (n := L.length) (a0 := a0) (w0 := w) (Φ := fun j => (stA L j).p) (F := fun j => j ∈ F) rfl hB
    (fun i hi t ht => by
      have h1 := List.all_eq_true.1 hN i (List.mem_range.2 hi)
      rw [ht] at h1
      rw [hsz]
      simpa using h1)
    (fun j _ v w1 w2 hb h => (stA L j).m v w1 w2 hb h)
    (fun i o hi ho f w1 hb hd => by
      rw [hfr]
      have hS : L[i]? = some (stA L i) := by
        unfold stA
        rw [List.getD_eq_getElem?_getD, List.getElem?_eq_getElem hi]; rfl
      have h2 := headL_at l L 0 head i o (stA L i) (by simpa using ho) hS f w1 hb (fun j hj => by
        unfold depB at hj
        obtain ⟨e, he, h3⟩ := Array.any_eq_true'.1 hj
        simp only [Bool.and_eq_true, beq_iff_eq] at h3
        rw [← h3.2]
        exact hd e he h3.1)
      rwa [Nat.zero_add] at h2)
    (fun f w1 hb hΦ hFF => by rw [hfr]; exact tail f w1 hb hΦ hFF)
    L.length (List.range L.length) (Array.replicate l.toArray.size false) (fun j => match dstOf l.toArray j with | some d => a0.tmps.getD d undef | none => undef) w.drew
    List.nodup_range (by simp) (fun j hj => by rw [getD_replicate_false]; simp [hj]) (fun j hj => by simpa using hj)
    ⟨by simp, fun j oj _ hl => (by rw [getD_replicate_false] at hl; cases hl), fun t _ ht => getD_in (by simpa using ht) (getD_replicate_false _ _)⟩
    (below_drew (Below.refl _ _)) (fun j _ hl => by rw [getD_replicate_false] at hl; cases hl) (fun j _ hl => by rw [getD_replicate_false] at hl; cases hl) (fun j k _ _ _ hl => by rw [getD_replicate_false] at hl; cases hl)
  rw [frm_id, show L.length + (l.toArray.size - L.length) = l.toArray.size by omega] at h
  exact h
end
end Go.Proofs.YtenkeodfijladaaGreatDoor

namespace Go.Proofs.YtenkeodfijladaaGreatDoor
open Go.RowKit

/-- A number from 0 to 9 as text read; -1 if it is none. -/
def numL (l : List UInt8) : Int := match l with
  | [c] => if c.toNat < 48 ∨ 57 < c.toNat then -1 else (c.toNat : Int) - 48
  | _ => -1
set_option maxRecDepth 100000 in
set_option maxHeartbeats 4000000 in
theorem number_any (s : ByteArray) (w : World) : Calls Tryz.prog 48 #[.string s] w fun e w' => e = .returned (.int .i64 (numL s.data.toList)) ∧ w = w' := by
  obtain ⟨⟨l⟩⟩ := s
  go_enter Tryz.func48, Tryz.ntmps48
  rcases l with _ | ⟨c, _ | ⟨d, r⟩⟩
  · go_wp2_with fail
    go_ret
    exact ⟨rfl, rfl⟩
  · go_wp2_with fail
    all_goals
      go_ret
      refine ⟨ret_int ?_, rfl⟩
      have hc : ∀ h : 0 < ({ data := { toList := [c] } } : ByteArray).size, (({ data := { toList := [c] } } : ByteArray)[0]'h).toNat = c.toNat := fun _ => rfl
      simp only [hc] at *
      show _ = (if c.toNat < 48 ∨ 57 < c.toNat then -1 else (c.toNat : Int) - 48)
      split <;> omega
  · have e1 : decide ((((c :: d :: r).length : Nat) : Int) = 1) = false := by simp; omega
    go_wp2_with fail
    go_ret
    exact ⟨rfl, rfl⟩
theorem itoa_any (j : Int) (h : 0 ≤ j ∧ j < 10) (w : World) : Calls Tryz.prog 44 #[.int .i64 j] w fun e w' => e = .returned (strV [UInt8.ofNat (48 + j.toNat)]) ∧ Below w.heap.size w w' := by
  obtain ⟨k, rfl⟩ : ∃ k : Nat, j = (k : Int) := ⟨j.toNat, by omega⟩
  refine (strconv_Itoa_small k (by omega) w).mono ?_
  rintro e w' ⟨rfl, rfl⟩
  rw [Lib.decDigits_one (by omega)]
  exact ⟨rfl, Below.refl _ _⟩
set_option maxRecDepth 100000 in
set_option maxHeartbeats 4000000 in
theorem format_any (x : Nam) (w : World) : Calls Tryz.prog 21 #[namV x] w fun e w' => e = .returned (.tuple #[strV (fmtN x), .int .i64 (if validN x then 0 else 1)]) ∧ Below w.heap.size w w' := by
  have HV := Lib.hid (fun W => nvalid_any x W)
  have HX := Lib.hid (BoxN.new w x 64)
  have HB := Lib.hid (below_nam w x 64)
  by_cases hv : validN x
  · have hv2 := hv
    obtain ⟨⟨h1, h2, h3, h4, h5, h6⟩, hk⟩ := hv2
    have HE := Lib.hid (fun W => ending_any x W (.inr (.inr (.inr (.inr ⟨h1, h2⟩)))))
    have HI1 := Lib.hid (fun W => itoa_any x.slot (by omega) W)
    have HI2 := Lib.hid (fun W => itoa_any x.gen (by omega) W)
    have HF := Lib.hid (show fmtN x = fmtL x from if_pos hv)
    have HL := Lib.hid (show fmtL x = ([118, 46, UInt8.ofNat (48 + x.slot.toNat), 46, UInt8.ofNat (48 + x.gen.toNat), 46] ++ endN x) ++ (if x.temp then [46, 116, 109, 112] else []) from rfl)
    have hel : (endN x).length ≤ 3 := by unfold endN; split <;> (try split) <;> (try split) <;> (try split) <;> simp
    rw [decide_eq_true hv] at HV
    rw [if_pos hv]
    clear hv h1 h2 h3 h4 h5 h6 hk
    generalize fmtN x = fN at *
    generalize fmtL x = fL at *
    generalize endN x = en at *
    obtain ⟨k, s, g, d, t⟩ := x
    dsimp only at *
    generalize UInt8.ofNat (48 + s.toNat) = cs at *
    generalize UInt8.ofNat (48 + g.toNat) = cg at *
    go_enter Tryz.func21, Tryz.ntmps21
    go_upto_region 1 with fail
    obtain ⟨W, hW⟩ : ∃ W, w.alloc (.cells (namC ⟨k, s, g, d, t⟩) 64) = W := ⟨_, rfl⟩
    change Code.wp _ _ _ _ (w.alloc (.cells (namC ⟨k, s, g, d, t⟩) 64))
    rw [hW] at HX HB ⊢
    clear hW
    have x0 := HX.out.c0
    have x1 := HX.out.c1
    have x2 := HX.out.c2
    have x3 := HX.out.c3
    have x4 := HX.out.c4
    dsimp only at x0 x1 x2 x3 x4
    go_wp2_with fail
    refine (HV.out _).mono ?_
    rintro e w1 ⟨rfl, hb1⟩
    have HX1 := Lib.hid (HX.out.below hb1)
    have HB1 := Lib.hid (bstep HB.out hb1)
    clear x0 x1 x2 x3 x4 hb1 HX HB HV
    have x0 := HX1.out.c0
    have x1 := HX1.out.c1
    have x2 := HX1.out.c2
    have x3 := HX1.out.c3
    have x4 := HX1.out.c4
    dsimp only at x0 x1 x2 x3 x4
    go_wp2_with fail
    have y0 := cell_by x0
    have y1 := cell_by x1
    have y2 := cell_by x2
    have y3 := cell_by x3
    have y4 := cell_by x4
    refine wp_region_below_tail 8 (by kernel_rfl) (by kernel_rfl) ?_
    simp only [List.take_succ_cons, List.take_zero, List.drop_succ_cons, List.drop_zero]
    repeat (go_big_quiet_step (first | exact calls_by (HI1.out _) | exact calls_by (HI2.out _) | exact calls_by (HE.out _)))
    refine wpQuiet_nil ?_
    intro _ hw'
    obtain ⟨u, hw'⟩ := hw'
    subst hw'
    have HX2 := Lib.hid (HX1.out.below u.h)
    have HB2 := Lib.hid (bstep HB1.out u.h)
    generalize u.w' = w2 at *
    clear x0 x1 x2 x3 x4 y0 y1 y2 y3 y4 HX1 HB1 u HE HI1 HI2
    have hlx := HX2.out.lt
    have HJ := Lib.hid (strings_Join w2.heap.size 0 4 [⟨#[118]⟩, ⟨[cs].toArray⟩, ⟨[cg].toArray⟩, ⟨en.toArray⟩] ⟨#[46]⟩ (w2.alloc (.cells #[.string ⟨#[118]⟩, strV [cs], strV [cg], strV en] 9)) (fun j x h => by
      have h4 : j < 4 := (List.getElem?_eq_some_iff.1 h).1
      rcases (show j = 0 ∨ j = 1 ∨ j = 2 ∨ j = 3 by omega) with e | e | e | e <;> subst e <;> injection h with h <;> subst h <;> simp [strV]) (by simp) (by simp) (by simp) (by
        rw [show Lib.join _ _ = [118, 46, cs, 46, cg, 46] ++ en by simp [Lib.join, List.intercalate], List.length_append]
        have : ([118, 46, cs, 46, cg, 46] : List UInt8).length = 6 := rfl
        omega))
    rw [show (⟨(Lib.join ([⟨#[118]⟩, ⟨[cs].toArray⟩, ⟨[cg].toArray⟩, ⟨en.toArray⟩].map (fun (x : ByteArray) => x.data.toList)) (⟨#[46]⟩ : ByteArray).data.toList).toArray⟩ : ByteArray) = ⟨([118, 46, cs, 46, cg, 46] ++ en).toArray⟩ by simp [Lib.join, List.intercalate]] at HJ
    have HB3 := Lib.hid (HB2.out.alloc HB2.out.size (.cells #[.string ⟨#[118]⟩, strV [cs], strV [cg], strV en] 9))
    have HX3 := Lib.hid (HX2.out.below ((Below.refl _ w2).alloc (Nat.le_refl _) (.cells #[.string ⟨#[118]⟩, strV [cs], strV [cg], strV en] 9)))
    go_wp2_with fail
    refine HJ.out.mono ?_
    rintro e w3 ⟨rfl, hb3⟩
    have HX4 := Lib.hid (HX3.out.below hb3)
    have HB4 := Lib.hid (bstep HB3.out hb3)
    clear hb3 HX3 HX2 HB3 HB2 HJ hlx
    have x4 := HX4.out.c4
    dsimp only at x4
    have hl1 : ([118, 46, cs, 46, cg, 46] ++ en : List UInt8).length ≤ 9 := by
      rw [List.length_append]
      have : ([118, 46, cs, 46, cg, 46] : List UInt8).length = 6 := rfl
      omega
    generalize ([118, 46, cs, 46, cg, 46] ++ en : List UInt8) = L1 at *
    cases t
    · go_wp2_with fail
      refine bodyPost_ret (v := .tuple #[strV L1, .int .i64 0]) (by simp [results, Tryz.results21, go_sem, strV]) rfl ⟨?_, HB4.out⟩
      rw [HF.out, HL.out]
      simp
    · go_wp2_with fail
      refine bodyPost_ret (v := .tuple #[strV (L1 ++ [46, 116, 109, 112]), .int .i64 0]) (by simp [results, Tryz.results21, go_sem, strV]; rfl) rfl ⟨?_, HB4.out⟩
      rw [HF.out, HL.out]
      simp
  · have HF := Lib.hid (show fmtN x = [] from if_neg hv)
    rw [decide_eq_false hv] at HV
    rw [if_neg hv]
    clear hv
    generalize fmtN x = fN at *
    obtain ⟨k, s, g, d, t⟩ := x
    go_enter Tryz.func21, Tryz.ntmps21
    go_upto_region 1 with fail
    obtain ⟨W, hW⟩ : ∃ W, w.alloc (.cells (namC ⟨k, s, g, d, t⟩) 64) = W := ⟨_, rfl⟩
    change Code.wp _ _ _ _ (w.alloc (.cells (namC ⟨k, s, g, d, t⟩) 64))
    rw [hW] at HX HB ⊢
    clear hW
    have x0 := HX.out.c0
    have x1 := HX.out.c1
    have x2 := HX.out.c2
    have x3 := HX.out.c3
    have x4 := HX.out.c4
    dsimp only at x0 x1 x2 x3 x4
    go_wp2_with fail
    refine (HV.out _).mono ?_
    rintro e w1 ⟨rfl, hb1⟩
    have HB1 := Lib.hid (bstep HB.out hb1)
    clear x0 x1 x2 x3 x4 hb1 HX HB HV
    go_wp2_with fail
    exact bodyPost_ret (v := .tuple #[strV [], .int .i64 1]) (by simp [results, Tryz.results21, go_sem, strV]) rfl ⟨by rw [HF.out], HB1.out⟩
end Go.Proofs.YtenkeodfijladaaGreatDoor

namespace Go.Proofs.YtenkeodfijladaaGreatDoor
open Go.RowKit

/-- The kind that an ending belongs to; a shard's, if to no other. -/
def endK (k : Nat) : List UInt8 := if k = 1 then [100, 97, 116] else if k = 2 then [115, 104, 100] else if k = 3 then [100, 101, 108] else [105, 100, 120]
def kindF (l : List UInt8) : Nat := if l == endK 1 then 1 else if l == endK 2 then 2 else if l == endK 3 then 3 else if l == endK 4 then 4 else 5
theorem kindF_pos (l : List UInt8) : 1 ≤ kindF l ∧ kindF l ≤ 5 := by 
  unfold kindF
  generalize (l == endK 1) = b1
  generalize (l == endK 2) = b2
  generalize (l == endK 3) = b3
  generalize (l == endK 4) = b4
  cases b1 <;> cases b2 <;> cases b3 <;> cases b4 <;> decide
theorem kind_hit {k : Nat} {l : List UInt8} (h1 : 1 ≤ k) (h5 : k < 5) (h : k ≤ kindF l) (e : endK k = l) : kindF l = k := by
  subst e
  rcases (show k = 1 ∨ k = 2 ∨ k = 3 ∨ k = 4 by omega) with e | e | e | e <;> subst e <;> decide
theorem kind_miss {k : Nat} {l : List UInt8} (h1 : 1 ≤ k) (h5 : k < 5) (h : k ≤ kindF l) (e : endK k ≠ l) : k + 1 ≤ kindF l := by
  have e' : (l == endK k) = false := beq_eq_false_iff_ne.2 fun h => e h.symm
  clear e
  rcases (show k = 1 ∨ k = 2 ∨ k = 3 ∨ k = 4 by omega) with e1 | e1 | e1 | e1 <;> subst e1 <;> unfold kindF at h ⊢ <;> generalize (l == endK 1) = b1 at * <;> generalize (l == endK 2) = b2 at * <;> generalize (l == endK 3) = b3 at * <;> generalize (l == endK 4) = b4 at * <;> cases b1 <;> cases b2 <;> cases b3 <;> cases b4 <;> simp_all
theorem endN_kind {k : Nat} (h1 : 1 ≤ k) (h5 : k < 5) (s g d : Int) (t : Bool) : endN ⟨(k : Int), s, g, d, t⟩ = endK k := by
  rcases (show k = 1 ∨ k = 2 ∨ k = 3 ∨ k = 4 by omega) with e | e | e | e <;> subst e <;> rfl
def tmpL : List UInt8 := [46, 116, 109, 112]
def ecL : List UInt8 := [101, 99]
/-- The name that the parts of a text give. -/
def candP (s : List UInt8) : Option Nam :=
  match (pieces ⟨(Lib.trimSuffix s tmpL).toArray⟩ 46).map (·.data.toList) with
  | [_, l1, l2, l3] => some ⟨kindF l3, numL l1, numL l2, if Lib.hasPrefix l3 ecL then numL (Lib.trimPrefix l3 ecL) else 0, Lib.hasSuffix s tmpL⟩
  | _ => none
def parseP (s : List UInt8) : Int × Nam := match candP s with
  | some x => if validN x ∧ fmtL x = s then (0, x) else (3, nam0)
  | none => (3, nam0)
abbrev namL (x : Nam) : List (Nat × Value) := [(0, .int .i64 x.kind), (1, .int .i64 x.slot), (2, .int .i64 x.gen), (3, .int .i64 x.shard), (4, .bool x.temp)]
theorem BoxN.all {W : World} {b : Nat} {x : Nam} (h : BoxN W b x) (y : Nam) : BoxN (pts W b (namL y)) b y := by
  have c0 := h.c0
  have c1 := h.c1
  have c2 := h.c2
  have c3 := h.c3
  have c4 := h.c4
  refine ⟨?_, ?_, ?_, ?_, ?_, fun i => (pts_frozen _ _ W).trans (h.f i)⟩
  · simp [pts, go_sem, c0]
  · simp [pts, go_sem, c1]
  · simp [pts, go_sem, c2]
  · simp [pts, go_sem, c3]
  · simp [pts, go_sem, c4]
theorem BoxN.kind {W : World} {b : Nat} {x : Nam} (h : BoxN W b x) (k : Int) : BoxN (W.setCell ⟨b, 0, none⟩ (.int .i64 k)) b ⟨k, x.slot, x.gen, x.shard, x.temp⟩ := by
  have c0 := h.c0
  have c1 := h.c1
  have c2 := h.c2
  have c3 := h.c3
  have c4 := h.c4
  refine ⟨?_, ?_, ?_, ?_, ?_, fun i => by have := h.f i; simpa using this⟩ <;> simp [go_sem, c0, c1, c2, c3, c4]
theorem BoxN.shard {W : World} {b : Nat} {x : Nam} (h : BoxN W b x) (k : Int) : BoxN (W.setCell ⟨b, 3, none⟩ (.int .i64 k)) b ⟨x.kind, x.slot, x.gen, k, x.temp⟩ := by
  have c0 := h.c0
  have c1 := h.c1
  have c2 := h.c2
  have c3 := h.c3
  have c4 := h.c4
  refine ⟨?_, ?_, ?_, ?_, ?_, fun i => by have := h.f i; simpa using this⟩ <;> simp [go_sem, c0, c1, c2, c3, c4]
theorem BoxN.pts_ne {W : World} {b c : Nat} {x : Nam} (h : BoxN W b x) (hp : b ≠ c) (vs : List (Nat × Value)) : BoxN (pts W c vs) b x :=
  ⟨(pts_cell (p := ⟨b, 0, none⟩) hp vs W).trans h.c0, (pts_cell (p := ⟨b, 1, none⟩) hp vs W).trans h.c1, (pts_cell (p := ⟨b, 2, none⟩) hp vs W).trans h.c2, (pts_cell (p := ⟨b, 3, none⟩) hp vs W).trans h.c3, (pts_cell (p := ⟨b, 4, none⟩) hp vs W).trans h.c4, fun i => (pts_frozen _ vs W).trans (h.f i)⟩
/-- Four strings in a block. -/
structure Row4 (W : World) (b : Nat) (a0 a1 a2 a3 : ByteArray) : Prop where
  c0 : W.cell? ⟨b, 0, none⟩ = some (.string a0)
  c1 : W.cell? ⟨b, 1, none⟩ = some (.string a1)
  c2 : W.cell? ⟨b, 2, none⟩ = some (.string a2)
  c3 : W.cell? ⟨b, 3, none⟩ = some (.string a3)
theorem Row4.below {W W' : World} {b : Nat} {a0 a1 a2 a3 : ByteArray} (h : Row4 W b a0 a1 a2 a3) (hB : Below W.heap.size W W') : Row4 W' b a0 a1 a2 a3 := ⟨hB.keeps' h.c0, hB.keeps' h.c1, hB.keeps' h.c2, hB.keeps' h.c3⟩
theorem Row4.lt {W : World} {b : Nat} {a0 a1 a2 a3 : ByteArray} (h : Row4 W b a0 a1 a2 a3) : b < W.heap.size := World.block_lt_of_cell? W _ h.c0
theorem Row4.pts_ne {W : World} {b c : Nat} {a0 a1 a2 a3 : ByteArray} (h : Row4 W b a0 a1 a2 a3) (hp : b ≠ c) (vs : List (Nat × Value)) : Row4 (pts W c vs) b a0 a1 a2 a3 :=
  ⟨(pts_cell (p := ⟨b, 0, none⟩) hp vs W).trans h.c0, (pts_cell (p := ⟨b, 1, none⟩) hp vs W).trans h.c1, (pts_cell (p := ⟨b, 2, none⟩) hp vs W).trans h.c2, (pts_cell (p := ⟨b, 3, none⟩) hp vs W).trans h.c3⟩
theorem Row4.new (w : World) (a0 a1 a2 a3 : ByteArray) : Row4 (w.alloc (.cells ([a0, a1, a2, a3].map Value.string).toArray 9)) w.heap.size a0 a1 a2 a3 := ⟨by simp, by simp, by simp, by simp⟩
/-- A fresh block of a name. -/
def nboxS (B : Nat) : Sta := ⟨fun v w => ∃ b, v = .pointer (some ⟨b, 0, none⟩) ∧ B ≤ b ∧ BoxN w b nam0, fun _ _ _ hb ⟨b, h1, h2, h3⟩ => ⟨b, h1, h2, h3.below hb⟩⟩
theorem numberB (s : ByteArray) (w : World) : Calls Tryz.prog 48 #[.string s] w fun e w' => e = .returned (.int .i64 (numL s.data.toList)) ∧ Below w.heap.size w w' := (number_any s w).mono fun _ _ ⟨h1, h2⟩ => ⟨h1, h2 ▸ Below.refl _ _⟩

set_option maxRecDepth 100000 in
set_option maxHeartbeats 8000000 in
theorem parse_any (ls : List UInt8) (w : World) (hs : ls.length ≤ 1000000) : Calls Tryz.prog 22 #[strV ls] w fun e w' => e = .returned (.tuple #[namV (parseP ls).2, .int .i64 (parseP ls).1]) ∧ Below w.heap.size w w' := by
  have HSu := Lib.hid (fun W => strings_CutSuffix ⟨ls.toArray⟩ ⟨tmpL.toArray⟩ W (by show ls.toArray.size ≤ _; rw [List.size_toArray]; omega))
  rw [show (⟨tmpL.toArray⟩ : ByteArray).data.toList = tmpL from rfl] at HSu
  dsimp only at HSu
  have HP0 := Lib.hid (show parseP ls = match candP ls with | some x => if validN x ∧ fmtL x = ls then (0, x) else (3, nam0) | none => (3, nam0) from rfl)
  have HCa := Lib.hid (show candP ls = match (pieces ⟨(Lib.trimSuffix ls tmpL).toArray⟩ 46).map (·.data.toList) with
    | [_, l1, l2, l3] => some ⟨kindF l3, numL l1, numL l2, if Lib.hasPrefix l3 ecL then numL (Lib.trimPrefix l3 ecL) else 0, Lib.hasSuffix ls tmpL⟩
    | _ => none from rfl)
  have hrs : (⟨(Lib.trimSuffix ls tmpL).toArray⟩ : ByteArray).size < 4294967281 := by
    have e2 : (⟨(Lib.trimSuffix ls tmpL).toArray⟩ : ByteArray).size = (Lib.trimSuffix ls tmpL).length := by show (Lib.trimSuffix ls tmpL).toArray.size = _; simp
    rw [e2]
    unfold Lib.trimSuffix
    split
    · rw [List.length_take]; omega
    · omega
  generalize candP ls = C at *
  generalize parseP ls = PR at *
  generalize Lib.trimSuffix ls tmpL = rs at *
  generalize Lib.hasSuffix ls tmpL = isT at *
  have HSp := Lib.hid (fun W => split1_any ⟨rs.toArray⟩ 46 W hrs)
  clear hrs
  generalize pieces ⟨rs.toArray⟩ 46 = ps at *
  have HF := Lib.hid (fun x W => format_any x W)
  go_enter Tryz.func22, Tryz.ntmps22
  go_upto_region 1 with fail
  obtain ⟨W, hW⟩ : ∃ W, w.alloc (.cells (namC nam0) 64) = W := ⟨_, rfl⟩
  have HR := Lib.hid (show BoxN W w.heap.size nam0 from hW ▸ BoxN.new w nam0 64)
  have HB := Lib.hid (show Below w.heap.size w W from hW ▸ below_nam w nam0 64)
  change Code.wp _ _ _ _ (w.alloc (.cells (namC nam0) 64))
  rw [hW]
  clear hW
  go_wp2_with fail
  refine (HSu.out W).mono ?_
  rintro e w1 ⟨rfl, hw⟩
  obtain rfl := hw.symm
  clear hw
  go_wp2_with fail
  refine (HSp.out _).mono ?_
  rintro e w1 ⟨rfl, rfl⟩
  by_cases h4 : ps.length = 4
  · obtain ⟨a0, a1, a2, a3, rfl⟩ : ∃ a0 a1 a2 a3, ps = [a0, a1, a2, a3] := by
      rcases ps with _ | ⟨a0, _ | ⟨a1, _ | ⟨a2, _ | ⟨a3, _ | ⟨a4, r⟩⟩⟩⟩⟩ <;> simp at h4 <;> exact ⟨_, _, _, _, rfl⟩
    clear h4
    have hC : C = some ⟨kindF a3.data.toList, numL a1.data.toList, numL a2.data.toList, if Lib.hasPrefix a3.data.toList ecL then numL (Lib.trimPrefix a3.data.toList ecL) else 0, isT⟩ := HCa.out
    rw [hC] at HP0
    dsimp only at HP0
    clear HCa hC
    obtain ⟨V, hV⟩ : ∃ V, W.alloc (.cells ([a0, a1, a2, a3].map Value.string).toArray 9) = V := ⟨_, rfl⟩
    have HQ := Lib.hid (show Row4 V W.heap.size a0 a1 a2 a3 from hV ▸ Row4.new W a0 a1 a2 a3)
    have hbV : Below W.heap.size W V := hV ▸ (Below.refl _ W).alloc (Nat.le_refl _) _
    rw [hV]
    clear hV
    have HRv := Lib.hid (HR.out.below hbV)
    have HBv := Lib.hid (bstep HB.out hbV)
    have hlr := HR.out.lt
    clear hbV HR HB
    generalize W.heap.size = pb at *
    clear W
    dsimp only [List.length]
    go_upto_region 5 with fail
    have HN1 := Lib.hid (fun W => numberB a1 W)
    have HN2 := Lib.hid (fun W => numberB a2 W)
    refine wp_region_rel [eqS (.slice (some ⟨pb, 0, none⟩) 4 4), eqS (.pointer (some ⟨pb, 1, none⟩)), eqS (.string a1), eqS (.int .i64 (numL a1.data.toList)), eqS (.slice (some ⟨pb, 0, none⟩) 4 4), eqS (.pointer (some ⟨pb, 2, none⟩)), eqS (.string a2), eqS (.int .i64 (numL a2.data.toList)), eqS (.bool isT), eqS (.agg #[.int .i64 0, .int .i64 (numL a1.data.toList), .int .i64 (numL a2.data.toList), .int .i64 0, .bool isT]), nboxS V.heap.size] [10] 74 (by kernel_rfl) (by kernel_rfl) (by rfl) (by kernel_rfl) (fun f => by simp [frm, dstOf, Act.put]; exact rfl) ?_ ?_
    · refine ⟨?_, ?_, ?_, ?_, ?_, ?_, ?_, ?_, ?_, ?_, ?_, trivial⟩
      · intro f w1 hb hd
        clear hd
        dsimp only
        go_wp2_with fail
        exact ⟨rfl, Below.refl _ _, fun t ht => by injection ht with ht; subst ht; exact ⟨rfl, fun h => by simp at h⟩⟩
      · intro f w1 hb hd
        have d0 : f 0 = (.slice (some ⟨pb, 0, none⟩) 4 4) := hd 0 (by kernel_rfl)
        clear hd
        dsimp only
        rw [d0]
        go_wp2_with fail
        exact ⟨rfl, Below.refl _ _, fun t ht => by injection ht with ht; subst ht; exact ⟨rfl, fun h => by simp at h⟩⟩
      · intro f w1 hb hd
        have d1 : f 1 = (.pointer (some ⟨pb, 1, none⟩)) := hd 1 (by kernel_rfl)
        clear hd
        dsimp only
        rw [d1]
        have hq := HQ.out.below hb
        have q1 := hq.c1
        have q2 := hq.c2
        clear hq
        go_wp2_with fail
        exact ⟨rfl, Below.refl _ _, fun t ht => by injection ht with ht; subst ht; exact ⟨rfl, fun h => by simp at h⟩⟩
      · intro f w1 hb hd
        have d2 : f 2 = (.string a1) := hd 2 (by kernel_rfl)
        clear hd
        dsimp only
        rw [d2]
        go_wp2_with fail
        refine (HN1.out w1).mono ?_; rintro e w9 ⟨rfl, hb9⟩
        go_wp2_with fail
        exact ⟨rfl, hb9, fun t ht => by injection ht with ht; subst ht; exact ⟨rfl, fun h => by simp at h⟩⟩
      · intro f w1 hb hd
        clear hd
        dsimp only
        go_wp2_with fail
        exact ⟨rfl, Below.refl _ _, fun t ht => by injection ht with ht; subst ht; exact ⟨rfl, fun h => by simp at h⟩⟩
      · intro f w1 hb hd
        have d4 : f 4 = (.slice (some ⟨pb, 0, none⟩) 4 4) := hd 4 (by kernel_rfl)
        clear hd
        dsimp only
        rw [d4]
        go_wp2_with fail
        exact ⟨rfl, Below.refl _ _, fun t ht => by injection ht with ht; subst ht; exact ⟨rfl, fun h => by simp at h⟩⟩
      · intro f w1 hb hd
        have d5 : f 5 = (.pointer (some ⟨pb, 2, none⟩)) := hd 5 (by kernel_rfl)
        clear hd
        dsimp only
        rw [d5]
        have hq := HQ.out.below hb
        have q1 := hq.c1
        have q2 := hq.c2
        clear hq
        go_wp2_with fail
        exact ⟨rfl, Below.refl _ _, fun t ht => by injection ht with ht; subst ht; exact ⟨rfl, fun h => by simp at h⟩⟩
      · intro f w1 hb hd
        have d6 : f 6 = (.string a2) := hd 6 (by kernel_rfl)
        clear hd
        dsimp only
        rw [d6]
        go_wp2_with fail
        refine (HN2.out w1).mono ?_; rintro e w9 ⟨rfl, hb9⟩
        go_wp2_with fail
        exact ⟨rfl, hb9, fun t ht => by injection ht with ht; subst ht; exact ⟨rfl, fun h => by simp at h⟩⟩
      · intro f w1 hb hd
        clear hd
        dsimp only
        go_wp2_with fail
        exact ⟨rfl, Below.refl _ _, fun t ht => by injection ht with ht; subst ht; exact ⟨rfl, fun h => by simp at h⟩⟩
      · intro f w1 hb hd
        have d3 : f 3 = (.int .i64 (numL a1.data.toList)) := hd 3 (by kernel_rfl)
        have d7 : f 7 = (.int .i64 (numL a2.data.toList)) := hd 7 (by kernel_rfl)
        have d8 : f 8 = (.bool isT) := hd 8 (by kernel_rfl)
        clear hd
        dsimp only
        rw [d3]
        rw [d7]
        rw [d8]
        go_wp2_with fail
        exact ⟨rfl, Below.refl _ _, fun t ht => by injection ht with ht; subst ht; exact ⟨rfl, fun h => by simp at h⟩⟩
      · intro f w1 hb hd
        clear hd
        dsimp only
        have hbs := hb.size
        have hnw := BoxN.new w1 nam0 64
        have hbl := below_nam w1 nam0 64
        go_wp2_with fail
        exact ⟨rfl, hbl, fun t ht => by injection ht with ht; subst ht; exact ⟨⟨_, rfl, hbs, hnw⟩, fun _ => ⟨Nat.le_refl _, by simp [blk]⟩⟩⟩
    · intro f w5 hb hd hff
      clear hff
      have d9 : f 9 = (.agg #[.int .i64 0, .int .i64 (numL a1.data.toList), .int .i64 (numL a2.data.toList), .int .i64 0, .bool isT]) := hd 9 (show 9 < 11 by decide)
      obtain ⟨bx, d10, lox, hbx⟩ := show ∃ b, f 10 = .pointer (some ⟨b, 0, none⟩) ∧ V.heap.size ≤ b ∧ BoxN w5 b nam0 from hd 10 (show 10 < 11 by decide)
      try dsimp only
      rw [d9, d10]
      clear hd d9 d10
      have HX5 := Lib.hid hbx
      have HQ5 := Lib.hid (HQ.out.below hb)
      have HR5 := Lib.hid (HRv.out.below hb)
      have HB5 := Lib.hid (bstep HBv.out hb)
      have hqb : pb < bx := Nat.lt_of_lt_of_le HQ.out.lt lox
      have hrb : w.heap.size < bx := Nat.lt_of_lt_of_le HRv.out.lt lox
      clear hb hbx lox HQ HRv HBv HN1 HN2
      generalize f 0 = g0, f 1 = g1, f 2 = g2, f 3 = g3, f 4 = g4, f 5 = g5, f 6 = g6, f 7 = g7, f 8 = g8
      clear f
      have x0 := HX5.out.c0
      have x1 := HX5.out.c1
      have x2 := HX5.out.c2
      have x3 := HX5.out.c3
      have x4 := HX5.out.c4
      have xf := HX5.out.f
      have q3 := HQ5.out.c3
      go_upto_region 6 with fail
      obtain ⟨l3, rfl⟩ : ∃ l3 : List UInt8, a3 = ⟨l3.toArray⟩ := ⟨a3.data.toList, by cases a3; simp⟩
      dsimp only at HP0
      generalize numL a1.data.toList = n1 at *
      generalize numL a2.data.toList = n2 at *
      change Code.wp _ _ _ _ (pts w5 bx (namL ⟨0, n1, n2, 0, isT⟩))
      have HX6 := Lib.hid (HX5.out.all ⟨0, n1, n2, 0, isT⟩)
      have HQ6 := Lib.hid (HQ5.out.pts_ne (show pb ≠ bx by omega) (namL ⟨0, n1, n2, 0, isT⟩))
      have HR6 := Lib.hid (HR5.out.pts_ne (show w.heap.size ≠ bx by omega) (namL ⟨0, n1, n2, 0, isT⟩))
      have HB6 := Lib.hid (pts_below (B := w.heap.size) (b := bx) (by omega) (namL ⟨0, n1, n2, 0, isT⟩) HB5.out)
      generalize pts w5 bx (namL ⟨0, n1, n2, 0, isT⟩) = w6 at *
      clear x0 x1 x2 x3 x4 xf q3 HX5 HQ5 HR5 HB5
      clear w5
      have x0 := HX6.out.c0
      have xf := HX6.out.f
      have q3 := HQ6.out.c3
      dsimp only at x0
      have HCp := Lib.hid (fun W => strings_CutPrefix ⟨l3.toArray⟩ ⟨ecL.toArray⟩ W)
      rw [show (⟨ecL.toArray⟩ : ByteArray).data.toList = ecL from rfl] at HCp
      dsimp only at HCp
      go_wp2_with fail
      refine (HCp.out w6).mono ?_
      rintro e w1 ⟨rfl, hw⟩
      obtain rfl := hw.symm
      clear hw
      clear HCp
      generalize Lib.hasPrefix l3 ecL = isS at *
      generalize Lib.trimPrefix l3 ecL = lt at *
      have hkp := kindF_pos l3
      have HKh := Lib.hid (fun k h1 h5 h e => @kind_hit k l3 h1 h5 h e)
      have HKm := Lib.hid (fun k h1 h5 h e => @kind_miss k l3 h1 h5 h e)
      have HEn := Lib.hid (fun (k : Nat) (h1 : 1 ≤ k) (h5 : k < 5) W => show Calls Tryz.prog 45 #[namV ⟨(k : Int), n1, n2, 0, isT⟩] W fun e w' => e = .returned (strV (endK k)) ∧ Below W.heap.size W w' from by
        rw [← endN_kind h1 h5 n1 n2 0 isT]
        exact ending_any _ W (by dsimp only; omega))
      generalize kindF l3 = kf at *
      go_wp2_with fail
      go_loopw [] (fun W => ∃ k : Nat, 1 ≤ k ∧ k ≤ 5 ∧ k ≤ kf ∧ Hid (BoxN W bx ⟨(k : Int), n1, n2, 0, isT⟩) ∧ Hid (Row4 W pb a0 a1 a2 ⟨l3.toArray⟩) ∧ Hid (BoxN W w.heap.size nam0) ∧ Hid (Below w.heap.size w W)) (fun W => (5 - intOf ((W.cell? ⟨bx, 0, none⟩).getD undef)).toNat)
      case atStart =>
        exact ⟨1, by omega, by omega, hkp.1, Lib.hid (HX6.out.kind 1), Lib.hid (HQ6.out.pts_ne (show pb ≠ bx by omega) [(0, .int .i64 1)]), Lib.hid (HR6.out.pts_ne (show w.heap.size ≠ bx by omega) [(0, .int .i64 1)]), Lib.hid (pts_below (B := w.heap.size) (b := bx) (by omega) [(0, .int .i64 1)] HB6.out)⟩
      case round =>
        obtain ⟨k, h1, h5, hkf, HX, HQ, HR, HB⟩ := hrel
        clear HX6 HQ6 HR6 HB6 x0 xf q3
        clear w6
        have x0 := HX.out.c0
        have x1 := HX.out.c1
        have x2 := HX.out.c2
        have x3 := HX.out.c3
        have x4 := HX.out.c4
        have q3 := HQ.out.c3
        dsimp only at x0 x1 x2 x3 x4
        have y0 := cell_by x0
        have y1 := cell_by x1
        have y2 := cell_by x2
        have y3 := cell_by x3
        have y4 := cell_by x4
        have yq := cell_by q3
        by_cases hk : k = 5
        · obtain rfl : kf = k := by omega
          have e0 : decide ((kf : Int) < 5) = false := by simp; omega
          clear hk
          go_wp2_with fail
          refine wp_region_below (by kernel_rfl) (by kernel_rfl) ?_
          repeat (go_big_quiet_step (fail))
          refine wpQuiet_nil ?_
          intro wy hwy
          obtain ⟨u, hwy⟩ := hwy
          subst hwy
          have HXy := Lib.hid (HX.out.below u.h)
          have HRy := Lib.hid (HR.out.below u.h)
          have HBy := Lib.hid (bstep HB.out u.h)
          generalize u.w' = wy at *
          clear u x0 x1 x2 x3 x4 q3 y0 y1 y2 y3 y4 yq HX HQ HR HB
          cases isS
          · replace HP0 := Lib.hid (show PR = if validN ⟨(kf : Int), n1, n2, 0, isT⟩ ∧ fmtL ⟨(kf : Int), n1, n2, 0, isT⟩ = ls then (0, ⟨(kf : Int), n1, n2, 0, isT⟩) else (3, nam0) from HP0.out)
            have HXz := HXy
            have HRz := HRy
            have HBz := HBy
            clear HXy HRy HBy
            generalize wy = wz at *
            have z0 := HXz.out.c0
            have z1 := HXz.out.c1
            have z2 := HXz.out.c2
            have z3 := HXz.out.c3
            have z4 := HXz.out.c4
            dsimp only at z0 z1 z2 z3 z4
            go_wp2_with fail
            refine (HF.out ⟨(kf : Int), n1, n2, 0, isT⟩ wz).mono ?_
            rintro e wf ⟨rfl, hbf⟩
            have HXf := Lib.hid (HXz.out.below hbf)
            have HRf := Lib.hid (HRz.out.below hbf)
            have HBf := Lib.hid (bstep HBz.out hbf)
            clear hbf z0 z1 z2 z3 z4 HXz HRz HBz
            have z0 := HXf.out.c0
            have z1 := HXf.out.c1
            have z2 := HXf.out.c2
            have z3 := HXf.out.c3
            have z4 := HXf.out.c4
            have r0 := HRf.out.c0
            have r1 := HRf.out.c1
            have r2 := HRf.out.c2
            have r3 := HRf.out.c3
            have r4 := HRf.out.c4
            have rf := HRf.out.f
            dsimp only [nam0] at z0 z1 z2 z3 z4 r0 r1 r2 r3 r4
            generalize hXX : (⟨(kf : Int), n1, n2, 0, isT⟩ : Nam) = X at *
            by_cases hv : validN X
            · have hfn : fmtN X = fmtL X := if_pos hv
              rw [hfn, if_pos hv]
              by_cases hq : fmtL X = ls
              · rw [hq]
                have hPR : PR = (0, X) := HP0.out.trans (if_pos ⟨hv, hq⟩)
                go_wp2_with fail
                change bodyPost _ _ _ _ _ (pts wf w.heap.size (namL ⟨(kf : Int), n1, n2, 0, isT⟩))
                have hby := HRf.out.all ⟨(kf : Int), n1, n2, 0, isT⟩
                have HBq := Lib.hid (pts_below (B := w.heap.size) (b := w.heap.size) (Nat.le_refl _) (namL ⟨(kf : Int), n1, n2, 0, isT⟩) HBf.out)
                rw [hPR, ← hXX]
                generalize pts wf w.heap.size (namL ⟨(kf : Int), n1, n2, 0, isT⟩) = wq at *
                exact bodyPost_ret (v := .tuple #[namV ⟨(kf : Int), n1, n2, 0, isT⟩, .int .i64 0]) (by simp [results, Tryz.results22, go_sem, hby.c0, hby.c1, hby.c2, hby.c3, hby.c4]) rfl ⟨rfl, HBq.out⟩
              · have e9 : (fmtL X == ls) = false := beq_eq_false_iff_ne.2 hq
                have hPR : PR = (3, nam0) := HP0.out.trans (if_neg fun h => hq h.2)
                go_wp2_with fail
                change bodyPost _ _ _ _ _ (pts wf w.heap.size (namL nam0))
                have hby := HRf.out.all nam0
                have HBq := Lib.hid (pts_below (B := w.heap.size) (b := w.heap.size) (Nat.le_refl _) (namL nam0) HBf.out)
                rw [hPR]
                generalize pts wf w.heap.size (namL nam0) = wq at *
                exact bodyPost_ret (v := .tuple #[namV nam0, .int .i64 3]) (by simp [results, Tryz.results22, go_sem, hby.c0, hby.c1, hby.c2, hby.c3, hby.c4]) rfl ⟨rfl, HBq.out⟩
            · have hPR : PR = (3, nam0) := HP0.out.trans (if_neg fun h => hv h.1)
              rw [if_neg hv]
              go_wp2_with fail
              change bodyPost _ _ _ _ _ (pts wf w.heap.size (namL nam0))
              have hby := HRf.out.all nam0
              have HBq := Lib.hid (pts_below (B := w.heap.size) (b := w.heap.size) (Nat.le_refl _) (namL nam0) HBf.out)
              rw [hPR]
              generalize pts wf w.heap.size (namL nam0) = wq at *
              exact bodyPost_ret (v := .tuple #[namV nam0, .int .i64 3]) (by simp [results, Tryz.results22, go_sem, hby.c0, hby.c1, hby.c2, hby.c3, hby.c4]) rfl ⟨rfl, HBq.out⟩
          · replace HP0 := Lib.hid (show PR = if validN ⟨(kf : Int), n1, n2, numL lt, isT⟩ ∧ fmtL ⟨(kf : Int), n1, n2, numL lt, isT⟩ = ls then (0, ⟨(kf : Int), n1, n2, numL lt, isT⟩) else (3, nam0) from HP0.out)
            have HN := Lib.hid (fun W => numberB ⟨lt.toArray⟩ W)
            dsimp only at HN
            have xf := HXy.out.f
            have x3 := HXy.out.c3
            dsimp only at x3
            go_wp2_with fail
            refine (HN.out _).mono ?_
            rintro e wn ⟨rfl, hbn⟩
            have HXn := Lib.hid (HXy.out.below hbn)
            have HRn := Lib.hid (HRy.out.below hbn)
            have HBn := Lib.hid (bstep HBy.out hbn)
            clear hbn xf x3 HXy HRy HBy HN
            generalize numL lt = sh at *
            have xf := HXn.out.f
            have x3 := HXn.out.c3
            dsimp only at x3
            go_upto_region 12 with fail
            have HXz := Lib.hid (HXn.out.shard sh)
            have HRz := Lib.hid (HRn.out.pts_ne (show w.heap.size ≠ bx by omega) [(3, .int .i64 sh)])
            have HBz := Lib.hid (pts_below (B := w.heap.size) (b := bx) (by omega) [(3, .int .i64 sh)] HBn.out)
            change Hid (BoxN (wn.setCell ⟨bx, 3, none⟩ (.int .i64 sh)) w.heap.size nam0) at HRz
            change Hid (Below w.heap.size w (wn.setCell ⟨bx, 3, none⟩ (.int .i64 sh))) at HBz
            generalize wn.setCell ⟨bx, 3, none⟩ (.int .i64 sh) = wz at *
            clear xf x3 HXn HRn HBn
            have z0 := HXz.out.c0
            have z1 := HXz.out.c1
            have z2 := HXz.out.c2
            have z3 := HXz.out.c3
            have z4 := HXz.out.c4
            dsimp only at z0 z1 z2 z3 z4
            go_wp2_with fail
            refine (HF.out ⟨(kf : Int), n1, n2, sh, isT⟩ wz).mono ?_
            rintro e wf ⟨rfl, hbf⟩
            have HXf := Lib.hid (HXz.out.below hbf)
            have HRf := Lib.hid (HRz.out.below hbf)
            have HBf := Lib.hid (bstep HBz.out hbf)
            clear hbf z0 z1 z2 z3 z4 HXz HRz HBz
            have z0 := HXf.out.c0
            have z1 := HXf.out.c1
            have z2 := HXf.out.c2
            have z3 := HXf.out.c3
            have z4 := HXf.out.c4
            have r0 := HRf.out.c0
            have r1 := HRf.out.c1
            have r2 := HRf.out.c2
            have r3 := HRf.out.c3
            have r4 := HRf.out.c4
            have rf := HRf.out.f
            dsimp only [nam0] at z0 z1 z2 z3 z4 r0 r1 r2 r3 r4
            generalize hXX : (⟨(kf : Int), n1, n2, sh, isT⟩ : Nam) = X at *
            by_cases hv : validN X
            · have hfn : fmtN X = fmtL X := if_pos hv
              rw [hfn, if_pos hv]
              by_cases hq : fmtL X = ls
              · rw [hq]
                have hPR : PR = (0, X) := HP0.out.trans (if_pos ⟨hv, hq⟩)
                go_wp2_with fail
                change bodyPost _ _ _ _ _ (pts wf w.heap.size (namL ⟨(kf : Int), n1, n2, sh, isT⟩))
                have hby := HRf.out.all ⟨(kf : Int), n1, n2, sh, isT⟩
                have HBq := Lib.hid (pts_below (B := w.heap.size) (b := w.heap.size) (Nat.le_refl _) (namL ⟨(kf : Int), n1, n2, sh, isT⟩) HBf.out)
                rw [hPR, ← hXX]
                generalize pts wf w.heap.size (namL ⟨(kf : Int), n1, n2, sh, isT⟩) = wq at *
                exact bodyPost_ret (v := .tuple #[namV ⟨(kf : Int), n1, n2, sh, isT⟩, .int .i64 0]) (by simp [results, Tryz.results22, go_sem, hby.c0, hby.c1, hby.c2, hby.c3, hby.c4]) rfl ⟨rfl, HBq.out⟩
              · have e9 : (fmtL X == ls) = false := beq_eq_false_iff_ne.2 hq
                have hPR : PR = (3, nam0) := HP0.out.trans (if_neg fun h => hq h.2)
                go_wp2_with fail
                change bodyPost _ _ _ _ _ (pts wf w.heap.size (namL nam0))
                have hby := HRf.out.all nam0
                have HBq := Lib.hid (pts_below (B := w.heap.size) (b := w.heap.size) (Nat.le_refl _) (namL nam0) HBf.out)
                rw [hPR]
                generalize pts wf w.heap.size (namL nam0) = wq at *
                exact bodyPost_ret (v := .tuple #[namV nam0, .int .i64 3]) (by simp [results, Tryz.results22, go_sem, hby.c0, hby.c1, hby.c2, hby.c3, hby.c4]) rfl ⟨rfl, HBq.out⟩
            · have hPR : PR = (3, nam0) := HP0.out.trans (if_neg fun h => hv h.1)
              rw [if_neg hv]
              go_wp2_with fail
              change bodyPost _ _ _ _ _ (pts wf w.heap.size (namL nam0))
              have hby := HRf.out.all nam0
              have HBq := Lib.hid (pts_below (B := w.heap.size) (b := w.heap.size) (Nat.le_refl _) (namL nam0) HBf.out)
              rw [hPR]
              generalize pts wf w.heap.size (namL nam0) = wq at *
              exact bodyPost_ret (v := .tuple #[namV nam0, .int .i64 3]) (by simp [results, Tryz.results22, go_sem, hby.c0, hby.c1, hby.c2, hby.c3, hby.c4]) rfl ⟨rfl, HBq.out⟩
        · have hk5 : k < 5 := by omega
          have e0 : decide ((k : Int) < 5) = true := by simp; omega
          have HEk := Lib.hid (fun W => HEn.out k h1 hk5 W)
          by_cases he : endK k = l3
          · obtain rfl := HKh.out k h1 hk5 hkf he
            rw [he] at HEk
            go_wp2_with fail
            refine wp_region_below (by kernel_rfl) (by kernel_rfl) ?_
            repeat (go_big_quiet_step (exact calls_by (HEk.out _)))
            refine wpQuiet_nil ?_
            intro wy hwy
            obtain ⟨u, hwy⟩ := hwy
            subst hwy
            have HXy := Lib.hid (HX.out.below u.h)
            have HRy := Lib.hid (HR.out.below u.h)
            have HBy := Lib.hid (bstep HB.out u.h)
            generalize u.w' = wy at *
            clear u x0 x1 x2 x3 x4 q3 y0 y1 y2 y3 y4 yq HX HQ HR HB
            cases isS
            · replace HP0 := Lib.hid (show PR = if validN ⟨(kf : Int), n1, n2, 0, isT⟩ ∧ fmtL ⟨(kf : Int), n1, n2, 0, isT⟩ = ls then (0, ⟨(kf : Int), n1, n2, 0, isT⟩) else (3, nam0) from HP0.out)
              have HXz := HXy
              have HRz := HRy
              have HBz := HBy
              clear HXy HRy HBy
              generalize wy = wz at *
              have z0 := HXz.out.c0
              have z1 := HXz.out.c1
              have z2 := HXz.out.c2
              have z3 := HXz.out.c3
              have z4 := HXz.out.c4
              dsimp only at z0 z1 z2 z3 z4
              go_wp2_with fail
              refine (HF.out ⟨(kf : Int), n1, n2, 0, isT⟩ wz).mono ?_
              rintro e wf ⟨rfl, hbf⟩
              have HXf := Lib.hid (HXz.out.below hbf)
              have HRf := Lib.hid (HRz.out.below hbf)
              have HBf := Lib.hid (bstep HBz.out hbf)
              clear hbf z0 z1 z2 z3 z4 HXz HRz HBz
              have z0 := HXf.out.c0
              have z1 := HXf.out.c1
              have z2 := HXf.out.c2
              have z3 := HXf.out.c3
              have z4 := HXf.out.c4
              have r0 := HRf.out.c0
              have r1 := HRf.out.c1
              have r2 := HRf.out.c2
              have r3 := HRf.out.c3
              have r4 := HRf.out.c4
              have rf := HRf.out.f
              dsimp only [nam0] at z0 z1 z2 z3 z4 r0 r1 r2 r3 r4
              generalize hXX : (⟨(kf : Int), n1, n2, 0, isT⟩ : Nam) = X at *
              by_cases hv : validN X
              · have hfn : fmtN X = fmtL X := if_pos hv
                rw [hfn, if_pos hv]
                by_cases hq : fmtL X = ls
                · rw [hq]
                  have hPR : PR = (0, X) := HP0.out.trans (if_pos ⟨hv, hq⟩)
                  go_wp2_with fail
                  change bodyPost _ _ _ _ _ (pts wf w.heap.size (namL ⟨(kf : Int), n1, n2, 0, isT⟩))
                  have hby := HRf.out.all ⟨(kf : Int), n1, n2, 0, isT⟩
                  have HBq := Lib.hid (pts_below (B := w.heap.size) (b := w.heap.size) (Nat.le_refl _) (namL ⟨(kf : Int), n1, n2, 0, isT⟩) HBf.out)
                  rw [hPR, ← hXX]
                  generalize pts wf w.heap.size (namL ⟨(kf : Int), n1, n2, 0, isT⟩) = wq at *
                  exact bodyPost_ret (v := .tuple #[namV ⟨(kf : Int), n1, n2, 0, isT⟩, .int .i64 0]) (by simp [results, Tryz.results22, go_sem, hby.c0, hby.c1, hby.c2, hby.c3, hby.c4]) rfl ⟨rfl, HBq.out⟩
                · have e9 : (fmtL X == ls) = false := beq_eq_false_iff_ne.2 hq
                  have hPR : PR = (3, nam0) := HP0.out.trans (if_neg fun h => hq h.2)
                  go_wp2_with fail
                  change bodyPost _ _ _ _ _ (pts wf w.heap.size (namL nam0))
                  have hby := HRf.out.all nam0
                  have HBq := Lib.hid (pts_below (B := w.heap.size) (b := w.heap.size) (Nat.le_refl _) (namL nam0) HBf.out)
                  rw [hPR]
                  generalize pts wf w.heap.size (namL nam0) = wq at *
                  exact bodyPost_ret (v := .tuple #[namV nam0, .int .i64 3]) (by simp [results, Tryz.results22, go_sem, hby.c0, hby.c1, hby.c2, hby.c3, hby.c4]) rfl ⟨rfl, HBq.out⟩
              · have hPR : PR = (3, nam0) := HP0.out.trans (if_neg fun h => hv h.1)
                rw [if_neg hv]
                go_wp2_with fail
                change bodyPost _ _ _ _ _ (pts wf w.heap.size (namL nam0))
                have hby := HRf.out.all nam0
                have HBq := Lib.hid (pts_below (B := w.heap.size) (b := w.heap.size) (Nat.le_refl _) (namL nam0) HBf.out)
                rw [hPR]
                generalize pts wf w.heap.size (namL nam0) = wq at *
                exact bodyPost_ret (v := .tuple #[namV nam0, .int .i64 3]) (by simp [results, Tryz.results22, go_sem, hby.c0, hby.c1, hby.c2, hby.c3, hby.c4]) rfl ⟨rfl, HBq.out⟩
            · replace HP0 := Lib.hid (show PR = if validN ⟨(kf : Int), n1, n2, numL lt, isT⟩ ∧ fmtL ⟨(kf : Int), n1, n2, numL lt, isT⟩ = ls then (0, ⟨(kf : Int), n1, n2, numL lt, isT⟩) else (3, nam0) from HP0.out)
              have HN := Lib.hid (fun W => numberB ⟨lt.toArray⟩ W)
              dsimp only at HN
              have xf := HXy.out.f
              have x3 := HXy.out.c3
              dsimp only at x3
              go_wp2_with fail
              refine (HN.out _).mono ?_
              rintro e wn ⟨rfl, hbn⟩
              have HXn := Lib.hid (HXy.out.below hbn)
              have HRn := Lib.hid (HRy.out.below hbn)
              have HBn := Lib.hid (bstep HBy.out hbn)
              clear hbn xf x3 HXy HRy HBy HN
              generalize numL lt = sh at *
              have xf := HXn.out.f
              have x3 := HXn.out.c3
              dsimp only at x3
              go_upto_region 12 with fail
              have HXz := Lib.hid (HXn.out.shard sh)
              have HRz := Lib.hid (HRn.out.pts_ne (show w.heap.size ≠ bx by omega) [(3, .int .i64 sh)])
              have HBz := Lib.hid (pts_below (B := w.heap.size) (b := bx) (by omega) [(3, .int .i64 sh)] HBn.out)
              change Hid (BoxN (wn.setCell ⟨bx, 3, none⟩ (.int .i64 sh)) w.heap.size nam0) at HRz
              change Hid (Below w.heap.size w (wn.setCell ⟨bx, 3, none⟩ (.int .i64 sh))) at HBz
              generalize wn.setCell ⟨bx, 3, none⟩ (.int .i64 sh) = wz at *
              clear xf x3 HXn HRn HBn
              have z0 := HXz.out.c0
              have z1 := HXz.out.c1
              have z2 := HXz.out.c2
              have z3 := HXz.out.c3
              have z4 := HXz.out.c4
              dsimp only at z0 z1 z2 z3 z4
              go_wp2_with fail
              refine (HF.out ⟨(kf : Int), n1, n2, sh, isT⟩ wz).mono ?_
              rintro e wf ⟨rfl, hbf⟩
              have HXf := Lib.hid (HXz.out.below hbf)
              have HRf := Lib.hid (HRz.out.below hbf)
              have HBf := Lib.hid (bstep HBz.out hbf)
              clear hbf z0 z1 z2 z3 z4 HXz HRz HBz
              have z0 := HXf.out.c0
              have z1 := HXf.out.c1
              have z2 := HXf.out.c2
              have z3 := HXf.out.c3
              have z4 := HXf.out.c4
              have r0 := HRf.out.c0
              have r1 := HRf.out.c1
              have r2 := HRf.out.c2
              have r3 := HRf.out.c3
              have r4 := HRf.out.c4
              have rf := HRf.out.f
              dsimp only [nam0] at z0 z1 z2 z3 z4 r0 r1 r2 r3 r4
              generalize hXX : (⟨(kf : Int), n1, n2, sh, isT⟩ : Nam) = X at *
              by_cases hv : validN X
              · have hfn : fmtN X = fmtL X := if_pos hv
                rw [hfn, if_pos hv]
                by_cases hq : fmtL X = ls
                · rw [hq]
                  have hPR : PR = (0, X) := HP0.out.trans (if_pos ⟨hv, hq⟩)
                  go_wp2_with fail
                  change bodyPost _ _ _ _ _ (pts wf w.heap.size (namL ⟨(kf : Int), n1, n2, sh, isT⟩))
                  have hby := HRf.out.all ⟨(kf : Int), n1, n2, sh, isT⟩
                  have HBq := Lib.hid (pts_below (B := w.heap.size) (b := w.heap.size) (Nat.le_refl _) (namL ⟨(kf : Int), n1, n2, sh, isT⟩) HBf.out)
                  rw [hPR, ← hXX]
                  generalize pts wf w.heap.size (namL ⟨(kf : Int), n1, n2, sh, isT⟩) = wq at *
                  exact bodyPost_ret (v := .tuple #[namV ⟨(kf : Int), n1, n2, sh, isT⟩, .int .i64 0]) (by simp [results, Tryz.results22, go_sem, hby.c0, hby.c1, hby.c2, hby.c3, hby.c4]) rfl ⟨rfl, HBq.out⟩
                · have e9 : (fmtL X == ls) = false := beq_eq_false_iff_ne.2 hq
                  have hPR : PR = (3, nam0) := HP0.out.trans (if_neg fun h => hq h.2)
                  go_wp2_with fail
                  change bodyPost _ _ _ _ _ (pts wf w.heap.size (namL nam0))
                  have hby := HRf.out.all nam0
                  have HBq := Lib.hid (pts_below (B := w.heap.size) (b := w.heap.size) (Nat.le_refl _) (namL nam0) HBf.out)
                  rw [hPR]
                  generalize pts wf w.heap.size (namL nam0) = wq at *
                  exact bodyPost_ret (v := .tuple #[namV nam0, .int .i64 3]) (by simp [results, Tryz.results22, go_sem, hby.c0, hby.c1, hby.c2, hby.c3, hby.c4]) rfl ⟨rfl, HBq.out⟩
              · have hPR : PR = (3, nam0) := HP0.out.trans (if_neg fun h => hv h.1)
                rw [if_neg hv]
                go_wp2_with fail
                change bodyPost _ _ _ _ _ (pts wf w.heap.size (namL nam0))
                have hby := HRf.out.all nam0
                have HBq := Lib.hid (pts_below (B := w.heap.size) (b := w.heap.size) (Nat.le_refl _) (namL nam0) HBf.out)
                rw [hPR]
                generalize pts wf w.heap.size (namL nam0) = wq at *
                exact bodyPost_ret (v := .tuple #[namV nam0, .int .i64 3]) (by simp [results, Tryz.results22, go_sem, hby.c0, hby.c1, hby.c2, hby.c3, hby.c4]) rfl ⟨rfl, HBq.out⟩
          · have e1 : (endK k == l3) = false := beq_eq_false_iff_ne.2 he
            have hk1 := HKm.out k h1 hk5 hkf he
            go_wp2_with fail
            refine wp_region_below (by kernel_rfl) (by kernel_rfl) ?_
            repeat (go_big_quiet_step (exact calls_by (HEk.out _)))
            refine wpQuiet_nil ?_
            intro wy hwy
            obtain ⟨u, hwy⟩ := hwy
            subst hwy
            have HXy := Lib.hid (HX.out.below u.h)
            have HQy := Lib.hid (HQ.out.below u.h)
            have HRy := Lib.hid (HR.out.below u.h)
            have HBy := Lib.hid (bstep HB.out u.h)
            generalize u.w' = wy at *
            have m0 := HX.out.c0
            dsimp only at m0
            clear u x0 x1 x2 x3 x4 q3 y0 y1 y2 y3 y4 yq HX HQ HR HB
            have x0 := HXy.out.c0
            have xf := HXy.out.f
            dsimp only at x0
            go_wp2_with fail
            go_roundw
            case rel => exact ⟨k + 1, by omega, by omega, hk1, Lib.hid (HXy.out.kind ((k : Int) + 1)), Lib.hid (HQy.out.pts_ne (show pb ≠ bx by omega) [(0, .int .i64 ((k : Int) + 1))]), Lib.hid (HRy.out.pts_ne (show w.heap.size ≠ bx by omega) [(0, .int .i64 ((k : Int) + 1))]), Lib.hid (pts_below (B := w.heap.size) (b := bx) (by omega) [(0, .int .i64 ((k : Int) + 1))] HBy.out)⟩
            case measure => simp [m0, x0, intOf, go_sem]; omega
  · have hC : C = none := by
      rw [HCa.out]
      rcases ps with _ | ⟨a0, _ | ⟨a1, _ | ⟨a2, _ | ⟨a3, _ | ⟨a4, r⟩⟩⟩⟩⟩ <;> first | rfl | exact absurd rfl h4
    have hPR : PR = (3, nam0) := by rw [HP0.out, hC]
    have e0 : ((ps.length : Int) == 4) = false := beq_eq_false_iff_ne.2 (by omega)
    obtain ⟨V, hV⟩ : ∃ V, W.alloc (.cells (ps.map Value.string).toArray 9) = V := ⟨_, rfl⟩
    have hbV : Below W.heap.size W V := hV ▸ (Below.refl _ W).alloc (Nat.le_refl _) _
    rw [hV]
    clear hV
    have HRf := Lib.hid (HR.out.below hbV)
    have HBf := Lib.hid (bstep HB.out hbV)
    have r0 := HRf.out.c0
    have r1 := HRf.out.c1
    have r2 := HRf.out.c2
    have r3 := HRf.out.c3
    have r4 := HRf.out.c4
    have rf := HRf.out.f
    dsimp only [nam0] at r0 r1 r2 r3 r4
    clear hC HCa HP0 HSp hbV HR HB h4
    generalize ps.length = pl at *
    go_wp2_with fail
    change bodyPost _ _ _ _ _ (pts V w.heap.size (namL nam0))
    have hby := HRf.out.all nam0
    have HBq := Lib.hid (pts_below (B := w.heap.size) (b := w.heap.size) (Nat.le_refl _) (namL nam0) HBf.out)
    rw [hPR]
    generalize pts V w.heap.size (namL nam0) = wq at *
    exact bodyPost_ret (v := .tuple #[namV nam0, .int .i64 3]) (by simp [results, Tryz.results22, go_sem, hby.c0, hby.c1, hby.c2, hby.c3, hby.c4]) rfl ⟨rfl, HBq.out⟩
end Go.Proofs.YtenkeodfijladaaGreatDoor
