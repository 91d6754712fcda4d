/- Several texts in one, each over the last: Puts and deletes of different keys may be exchanged; a put twice changes nothing but the garbage: plain laws. A region that draws its order, by what each operation leaves: whatever the order, what an operation yields has a property that lasts while memory only grows; what comes behind them all has one order. NmapOrder: the walk. What is known of an item that came in by value. NmapOrder, from what the form gives of its arguments. -/
import Derived.Test.YtndhjfmdfcpceaaGG
import Derived.StillTailTactics
import Derived.Deep.Quiet
import Derived.BigQuiet
import Derived.Test.YtndhjfmdfcpceaaBase
import Derived.Test.YtndhjfmdfcpceaaNz
import Derived.Deep.RegionHeld3
import Derived.Test.YtndhjfmdfcpceaaGE
namespace Go.Proofs.Ytndhjfmdfcpceaa

theorem items_of_get {M N : Mp} (hg : ∀ key, getM M key = getM N key) : itemsM M = itemsM N := by
  refine asc_ext _ _ (pw_of (itemsM_asc M)) (pw_of (itemsM_asc N)) fun k => ?_
  have h1 := fnd_itemsM M k
  have h2 := fnd_itemsM N k
  rw [srt_of_asc (itemsM_asc M)] at h1
  rw [srt_of_asc (itemsM_asc N)] at h2
  rw [h1, h2, hg]
theorem eqM_of_get {M N : Mp} (hM : VldM M) (hN : VldM N) (hg : ∀ key, getM M key = getM N key) (h : M.garb = N.garb) : EqM M N := by
  have hi := items_of_get hg
  refine ⟨fun i h8 => ?_, ?_, h⟩
  · have h1 := hM.inS h8
    have h2 := hN.inS h8
    rw [← itemsM_of hM] at h1
    rw [← itemsM_of hN] at h2
    rw [← h1, ← h2, hi]
  · rw [← itemsM_sum hM, ← itemsM_sum hN, hi]
theorem ins_garb {M : Mp} (h : VldM M) {x : It} (hx : okB x = true) (hg : M.garb + (szO (getM M x.key) : Int) ≤ 1099511627776) : (insM M x).garb = M.garb + (szO (getM M x.key) : Int) := by rw [insM_of h hx hg]
theorem del_garb {M : Mp} (h : VldM M) {k : Int} (hg : M.garb + (szO (getM M k) : Int) ≤ 1099511627776) : (delM M k).garb = M.garb + (szO (getM M k) : Int) := by rw [delM_of h hg]
theorem ord_one {M : Mp} (hv : VldM M) (h0 : M.garb ≤ 1000000) {x : It} (hx : okB x = true) : VldM (insM M x) ∧ (insM M x).garb ≤ M.garb + 4127 ∧ (insM M x).garb = M.garb + (szO (getM M x.key) : Int) ∧ ∀ key, getM (insM M x) key = if x.key = key then some x else getM M key := by
  have h1 := szO_le (getM M x.key)
  have hg : M.garb + (szO (getM M x.key) : Int) ≤ 1099511627776 := by omega
  have h2 := ins_garb hv hx hg
  exact ⟨hv.ins hx hg, by omega, h2, fun key => getM_ins hv hx hg key⟩
theorem ord_del {M : Mp} (hv : VldM M) (h0 : M.garb ≤ 1000000) (k : Int) : VldM (delM M k) ∧ (delM M k).garb ≤ M.garb + 4127 ∧ (delM M k).garb = M.garb + (szO (getM M k) : Int) ∧ ∀ key, getM (delM M k) key = if k = key then none else getM M key := by
  have h1 := szO_le (getM M k)
  have hg : M.garb + (szO (getM M k) : Int) ≤ 1099511627776 := by omega
  have h2 := del_garb hv hg
  exact ⟨hv.del hg, by omega, h2, fun key => getM_del hv hg key⟩
theorem order_puts {M : Mp} {x y : It} (hv : VldM M) (h0 : M.garb = 0) (hx : okB x = true) (hy : okB y = true) (hne : x.key ≠ y.key) : EqM (insM (insM M x) y) (insM (insM M y) x) := by
  obtain ⟨v1, b1, g1, e1⟩ := ord_one hv (by omega) hx
  obtain ⟨v2, b2, g2, e2⟩ := ord_one v1 (by omega) hy
  obtain ⟨v3, b3, g3, e3⟩ := ord_one hv (by omega) hy
  obtain ⟨v4, b4, g4, e4⟩ := ord_one v3 (by omega) hx
  refine eqM_of_get v2 v4 (fun key => ?_) ?_
  · rw [e2, e1, e4, e3]
    by_cases h1 : x.key = key
    · have h2 : y.key ≠ key := fun e => hne (h1.trans e.symm)
      rw [if_neg h2, if_pos h1, if_pos h1]
    · rw [if_neg h1, if_neg h1]
  · rw [g2, g1, g4, g3, e1, e3, if_neg hne, if_neg (Ne.symm hne)]
    omega
theorem order_del {M : Mp} {x y : It} (hv : VldM M) (h0 : M.garb = 0) (hx : okB x = true) (hne : x.key ≠ y.key) : EqM (delM (insM M x) y.key) (insM (delM M y.key) x) := by
  obtain ⟨v1, b1, g1, e1⟩ := ord_one hv (by omega) hx
  obtain ⟨v2, b2, g2, e2⟩ := ord_del v1 (by omega) y.key
  obtain ⟨v3, b3, g3, e3⟩ := ord_del hv (by omega) y.key
  obtain ⟨v4, b4, g4, e4⟩ := ord_one v3 (by omega) hx
  refine eqM_of_get v2 v4 (fun key => ?_) ?_
  · rw [e2, e1, e4, e3]
    by_cases h1 : x.key = key
    · have h2 : y.key ≠ key := fun e => hne (h1.trans e.symm)
      rw [if_neg h2, if_pos h1, if_pos h1]
    · rw [if_neg h1, if_neg h1]
  · rw [g2, g1, g4, g3, e1, e3, if_neg hne, if_neg (Ne.symm hne)]
    omega
theorem order_twice {M : Mp} {x : It} (hv : VldM M) (h0 : M.garb = 0) (hx : okB x = true) : itemsM (insM (insM M x) x) = itemsM (insM M x) ∧ (insM (insM M x) x).garb = (insM M x).garb + (lenO x : Int) := by
  obtain ⟨v1, b1, g1, e1⟩ := ord_one hv (by omega) hx
  obtain ⟨v2, b2, g2, e2⟩ := ord_one v1 (by omega) hx
  refine ⟨items_of_get fun key => ?_, ?_⟩
  · rw [e2]
    by_cases h : x.key = key
    · rw [if_pos h, e1, if_pos h]
    · rw [if_neg h]
  · rw [g2, e1, if_pos rfl]; rfl
theorem fromM_garb {l : List It} (h : l.all okB = true) : (fromM l 0).garb = 0 := by
  rw [fromM_of h (by decide) (by decide)]
end Go.Proofs.Ytndhjfmdfcpceaa

namespace Go.Proofs.Ytndhjfmdfcpceaa
open Go Go.RowKit

section
variable {P : Program} {ops : Array Oper} {md : Region.Mode}

def dstOf (ops : Array Oper) (j : Nat) : Option Tmp := (ops[j]?).bind (·.dst)
/-- The frame behind the first n operations, f j being what number j yields. -/
def frm (ops : Array Oper) (a0 : Act) (f : Nat → Value) : Nat → Act
  | 0 => a0
  | n + 1 => (frm ops a0 f n).put (dstOf ops n) (f n)
def updF (f : Nat → Value) (i : Nat) (v : Value) : Nat → Value := fun j => if j = i then v else f j
theorem put_put (a : Act) (d : Option Tmp) (u v : Value) : (a.put d u).put d v = a.put d v := by
  cases d with
  | none => rfl
  | some d => simp [Act.put]
theorem put_comm (a : Act) (d e : Option Tmp) (u v : Value) (h : d = none ∨ d ≠ e) : (a.put d u).put e v = (a.put e v).put d u := by
  cases d with
  | none => rfl
  | some d =>
    cases e with
    | none => rfl
    | some e =>
      have hne : d ≠ e := by
        rcases h with h | h
        · cases h
        · exact fun e1 => h (by rw [e1])
      simp only [Act.put]
      rw [Array.setIfInBounds_comm _ _ hne]
theorem frm_same (ops : Array Oper) (a0 : Act) (f : Nat → Value) (i : Nat) (v : Value) : ∀ n, n ≤ i → frm ops a0 (updF f i v) n = frm ops a0 f n
  | 0, _ => rfl
  | n + 1, h => by
    show (frm ops a0 (updF f i v) n).put _ (updF f i v n) = _
    rw [frm_same ops a0 f i v n (by omega)]
    have : updF f i v n = f n := if_neg (by omega)
    rw [this]; rfl
theorem frm_put (ops : Array Oper) (a0 : Act) (f : Nat → Value) (i : Nat) (v : Value) : ∀ n, i < n → (∀ j, j < n → j ≠ i → dstOf ops i = none ∨ dstOf ops i ≠ dstOf ops j) → (frm ops a0 f n).put (dstOf ops i) v = frm ops a0 (updF f i v) n
  | 0, h, _ => by omega
  | n + 1, h, hd => by
    show ((frm ops a0 f n).put (dstOf ops n) (f n)).put (dstOf ops i) v = (frm ops a0 (updF f i v) n).put (dstOf ops n) (updF f i v n)
    by_cases e : i = n
    · subst e
      rw [put_put, frm_same ops a0 f i v i (Nat.le_refl _)]
      have : updF f i v i = v := if_pos rfl
      rw [this]
    · have h1 : dstOf ops n = none ∨ dstOf ops n ≠ dstOf ops i := by
        rcases hd n (by omega) (fun e1 => e e1.symm) with h | h
        · cases hn : dstOf ops n with
          | none => exact .inl rfl
          | some d => exact .inr (by rw [h]; simp)
        · exact .inr (Ne.symm h)
      rw [put_comm _ _ _ _ _ h1, frm_put ops a0 f i v n (by omega) fun j hj hji => hd j (by omega) hji]
      have : updF f i v n = f n := if_neg (by omega)
      rw [this]
theorem frm_id (ops : Array Oper) (a0 : Act) : ∀ n, frm ops a0 (fun j => match dstOf ops j with | some d => a0.tmps.getD d undef | none => undef) n = a0
  | 0 => rfl
  | n + 1 => by
    show (frm ops a0 _ n).put (dstOf ops n) _ = a0
    rw [frm_id ops a0 n]
    cases hd : dstOf ops n with
    | none => rfl
    | some d =>
      simp only [hd]
      obtain ⟨t, ds⟩ := a0
      simp only [Act.put]
      congr 1
      apply Array.ext_getElem?
      intro i
      by_cases e : d = i
      · subst e
        rw [Array.getElem?_setIfInBounds_self]
        split
        · rename_i h; simp [h]
        · rename_i h; rw [Array.getElem?_eq_none (by omega)]
      · rw [Array.getElem?_setIfInBounds_ne e]
def relB (md : Region.Mode) (ops : Array Oper) (n : Nat) : Bool :=
  decide (n < ops.size) && Region.sinkB md ops n && Region.chainB md ops n &&
  ((List.range n).all fun i => ((ops[i]?).map fun o => o.dst.isSome && o.after.all fun e => !Region.binds md e || decide (e.on < i)).getD false) &&
  ((List.range n).all fun i => (List.range n).all fun j => decide (i = j) || decide (dstOf ops i ≠ dstOf ops j)) &&
  Region.seqB md ops (ops.size - n) n ((List.range ops.size).map fun j => decide (j < n)).toArray

variable {Q : Exit → Act → World → Prop}
def blk : Value → Nat
  | .pointer (some a) => a.block
  | _ => 0
/-- What an operation may leave. -/
def RelPost (B0 : Value → World → Prop) (F : Prop) (ds : List Deferred) (d : Option Tmp) (w : World) (a' : Act) (w' : World) : Prop :=
  a'.defers = ds ∧ Below w.heap.size w w' ∧ ∀ t, d = some t → B0 (a'.tmps.getD t undef) w' ∧ (F → w.heap.size ≤ blk (a'.tmps.getD t undef) ∧ blk (a'.tmps.getD t undef) < w'.heap.size)
theorem rel_one {o : Oper} {a : Act} {w : World} {R : Act → World → Prop} (h : wpList P ops (Exit.then R Q) [o] a w) {K : Act → World → Prop}
    (hK : ∀ v w', R (a.put o.dst v) w' → K (a.put o.dst v) w') (hD : ∀ d v w', R ({ a with defers := d :: a.defers }.put o.dst v) w' → False) :
    if Region.wanted o (yielded ops a.tmps) then o.wp P a w K Q ∨ (o.asks P a w ∧ LetsOut Q) else K (a.put o.dst undef) w := by
  unfold wpList at h
  split at h
  · rename_i hw
    rw [if_pos hw]
    rcases h with h | ⟨h1, h2⟩
    · left
      unfold Oper.wp at h ⊢
      generalize (execOp a.eval o).run P w = r at *
      cases r with
      | ok nx w' =>
        cases nx with
        | value v => exact hK _ _ h
        | skip => exact hK _ _ h
        | defer d => exact absurd h (hD _ _ _)
        | enter f args =>
          refine Calls.mono h fun e w'' he => ?_
          cases e with
          | returned v => exact hK _ _ he
          | panicked c => exact he
          | outgrown => exact he
        | row r args => exact Rows.mono h fun v w'' he => hK _ _ he
        | _ => exact h
      | halt x w' => cases x <;> first | exact h | exact False.elim h
    · exact .inr ⟨h1, h2⟩
  · rename_i hw
    rw [if_neg hw]
    exact hK _ _ h
theorem least_of {T : List Nat} (h : T ≠ []) : ∃ m, m ∈ T ∧ ∀ k ∈ T, m ≤ k := by
  induction T with
  | nil => exact absurd rfl h
  | cons x r ih =>
    by_cases hr : r = []
    · subst hr; exact ⟨x, by simp, fun k hk => by simp at hk; omega⟩
    · obtain ⟨m, hm, hle⟩ := ih hr
      by_cases hx : x ≤ m
      · exact ⟨x, by simp, fun k hk => by
          rcases List.mem_cons.1 hk with rfl | hk
          · exact Nat.le_refl _
          · exact Nat.le_trans hx (hle k hk)⟩
      · exact ⟨m, by simp [hm], fun k hk => by
          rcases List.mem_cons.1 hk with rfl | hk
          · omega
          · exact hle k hk⟩
theorem frm_size (ops : Array Oper) (a0 : Act) (f : Nat → Value) : ∀ n, (frm ops a0 f n).tmps.size = a0.tmps.size
  | 0 => rfl
  | n + 1 => by
    show ((frm ops a0 f n).put (dstOf ops n) (f n)).tmps.size = _
    rw [← frm_size ops a0 f n]
    cases dstOf ops n <;> simp [Act.put]
theorem rel_any {n : Nat} {a0 : Act} {w0 : World} {Φ : Nat → Value → World → Prop} {F : Nat → Prop} {l : List Oper} (hl : ops = l.toArray) (hB : relB md ops n = true) (hN : ∀ i, i < n → ∀ t, dstOf ops i = some t → t < a0.tmps.size)
    (mono : ∀ j, j < n → ∀ v w1 w2, Below w1.heap.size w1 w2 → Φ j v w1 → Φ j v w2)
    (head : ∀ i o, i < n → ops[i]? = some o → ∀ f w1, Below w0.heap.size w0 w1 → (∀ e ∈ o.after, Region.binds md e = true → Φ e.on (f e.on) w1) →
      wpList P ops (Exit.then (RelPost (Φ i) (F i) (frm ops a0 f n).defers o.dst w1) Q) [o] (frm ops a0 f n) w1)
    (tail : ∀ f w1, Below w0.heap.size w0 w1 → (∀ j, j < n → Φ j (f j) w1) → (∀ j k, j < n → k < n → j ≠ k → F j → F k → blk (f j) ≠ blk (f k)) → wpList P ops Q (l.drop n) (frm ops a0 f n) w1) :
    ∀ (fuel : Nat) (T : List Nat) (s : Array Bool) (f : Nat → Value) (w : World), T.Nodup → T.length = fuel → (∀ j, j < n → (s.getD j false = false ↔ j ∈ T)) → (∀ j ∈ T, j < n) → HeadInv md ops n s → Below w0.heap.size w0 w →
      (∀ j, j < n → s.getD j false = true → Φ j (f j) w) → (∀ j, j < n → s.getD j false = true → F j → blk (f j) < w.heap.size) →
      (∀ j k, j < n → k < n → j ≠ k → s.getD j false = true → s.getD k false = true → F j → F k → blk (f j) ≠ blk (f k)) → wpAny P md ops Q (fuel + (ops.size - n)) s (frm ops a0 f n) w := by
  simp only [relB, Bool.and_eq_true, decide_eq_true_eq] at hB
  obtain ⟨⟨⟨⟨⟨hn, hs⟩, hc⟩, hfw⟩, hdd⟩, hsq⟩ := hB
  have hfw' : ∀ i o, i < n → ops[i]? = some o → o.dst.isSome = true ∧ ∀ e ∈ o.after, Region.binds md e = true → e.on < i := fun i o hi ho => by
    have := List.all_eq_true.1 hfw i (List.mem_range.2 hi)
    rw [ho] at this
    simp only [Option.map_some, Option.getD_some, Bool.and_eq_true] at this
    refine ⟨this.1, fun e he hb => ?_⟩
    have h2 := Array.all_eq_true_iff_forall_mem.1 this.2 e he
    rw [hb] at h2
    simpa using h2
  have hdd' : ∀ i j, i < n → j < n → i ≠ j → dstOf ops i ≠ dstOf ops j := fun i j hi hj hij => by
    have := List.all_eq_true.1 (List.all_eq_true.1 hdd i (List.mem_range.2 hi)) j (List.mem_range.2 hj)
    simpa [hij] using this
  intro fuel
  induction fuel with
  | zero =>
    intro T s f w hT hlen hsT hTn inv hb hΦ hF hFF
    have hT0 : T = [] := List.length_eq_zero_iff.1 hlen
    subst hT0
    have hall : ∀ j, j < n → s.getD j false = true := fun j hj => by
      cases h : s.getD j false with
      | true => rfl
      | false => exact absurd ((hsT j hj).1 h) (by simp)
    have hse : s = ((List.range ops.size).map fun j => decide (j < n)).toArray := by
      apply Array.ext
      · simp [inv.size]
      · intro j h1 h2
        have hjs : j < ops.size := by rw [← inv.size]; exact h1
        simp only [List.getElem_toArray, List.getElem_map, List.getElem_range]
        by_cases e : j < n
        · have := hall j e
          rw [Array.getD_eq_getD_getElem?, Array.getElem?_eq_getElem h1] at this
          simp only [Option.getD_some] at this
          rw [this]; simp [e]
        · have := inv.tail j (by omega) hjs
          rw [Array.getD_eq_getD_getElem?, Array.getElem?_eq_getElem h1] at this
          simp only [Option.getD_some] at this
          rw [this]; simp [e]
    rw [Nat.zero_add]
    have hdl : (l.drop n).length = ops.size - n := by rw [hl]; simp
    have h3 := wpAny_of_seq (P := P) (md := md) (ops := ops) (Q' := Q) (l.drop n) n s (frm ops a0 f n) w (fun j => by rw [hl]; simp [List.getElem?_drop]) (by rw [hdl, hse]; exact hsq) (tail f w hb (fun j hj => hΦ j hj (hall j hj)) fun j k hj hk hjk => hFF j k hj hk hjk (hall j hj) (hall k hk))
    rwa [hdl] at h3
  | succ fuel ih =>
    intro T s f w hT hlen hsT hTn inv hb hΦ hF hFF
    have hTne : T ≠ [] := fun e => by rw [e] at hlen; cases hlen
    obtain ⟨m, hm, hle⟩ := least_of hTne
    have hmn := hTn m hm
    have hun : s.getD m false = false := (hsT m hmn).2 hm
    have hms : m < s.size := by rw [inv.size]; omega
    obtain ⟨om, hom⟩ : ∃ o, ops[m]? = some o := ⟨_, Array.getElem?_eq_getElem (by omega)⟩
    have hready : m ∈ Region.ready md ops s := mem_ready.2 ⟨getD_in hms hun, om, hom, fun e he hbnd => by
      have h1 := (hfw' m om hmn hom).2 e he hbnd
      cases h2 : s.getD e.on false with
      | true => rfl
      | false =>
        have := hle _ ((hsT e.on (by omega)).1 h2)
        omega⟩
    rw [show fuel + 1 + (ops.size - n) = (fuel + (ops.size - n)) + 1 by omega]
    refine ⟨fun e => absurd hready (by rw [e]; simp), fun i hi => ?_⟩
    obtain ⟨hiu, oi, hoi, hdeps⟩ := mem_ready.1 hi
    have hin : i < n := Nat.lt_of_not_le fun h => tail_waits hs hc hn inv _ m rfl hmn (getD_in hms hun) i h hi
    have hiT : i ∈ T := (hsT i hin).1 (getD_both hiu)
    have hfi := hfw' i oi hin hoi
    have hdo : dstOf ops i = oi.dst := by unfold dstOf; rw [hoi]; rfl
    unfold wpOp
    rw [hoi]
    simp only []
    have hh := head i oi hin hoi f w hb fun e he hbnd => hΦ e.on (by have := hfi.2 e he hbnd; omega) (hdeps e he hbnd)
    refine rel_one hh (fun v w' hR => ?_) (fun d v w' hR => ?_)
    · obtain ⟨_, hbw, hv⟩ := hR
      have hval : ∀ i, i < n → oi.dst.isSome = true → dstOf ops i = oi.dst → (∀ t, oi.dst = some t → Φ i (((frm ops a0 f n).put oi.dst v).tmps.getD t undef) w' ∧ (F i → w.heap.size ≤ blk (((frm ops a0 f n).put oi.dst v).tmps.getD t undef) ∧ blk (((frm ops a0 f n).put oi.dst v).tmps.getD t undef) < w'.heap.size)) → Φ i v w' ∧ (F i → w.heap.size ≤ blk v ∧ blk v < w'.heap.size) := fun i hi h1 hdo h => by
        obtain ⟨t, ht⟩ := Option.isSome_iff_exists.1 h1
        have h4 := h t ht
        have h5 : t < (frm ops a0 f n).tmps.size := by rw [frm_size]; exact hN i hi t (by rw [hdo, ht])
        rw [ht] at h4
        simpa [Act.put, h5] using h4
      rw [← hdo, frm_put ops a0 f i v n hin fun j hj hji => .inr (hdd' i j hin hj (Ne.symm hji))]
      refine ih (T.erase i) _ _ w' (hT.erase i) (by rw [List.length_erase_of_mem hiT]; omega) (fun j hj => ?_) (fun j hj => hTn j (List.mem_of_mem_erase hj)) (inv.set hi hin) (bstep hb hbw) (fun j hj hjs => ?_) (fun j hj hjs hFj => ?_) (fun j k hj hk hjk hjs hks hFj hFk => ?_)
      · rw [hT.mem_erase_iff]
        by_cases e : j = i
        · subst e
          have hjs : j < s.size := by rw [inv.size]; omega
          simp [Array.getD_eq_getD_getElem?, hjs]
        · rw [getD_set_ne false (Ne.symm e), hsT j hj]
          simp [e]
      · by_cases e : j = i
        · subst e
          have : updF f j v j = v := if_pos rfl
          rw [this]
          exact (hval j hj hfi.1 hdo hv).1
        · have : updF f i v j = f j := if_neg e
          rw [this]
          rw [getD_set_ne false (Ne.symm e)] at hjs
          exact mono j hj _ _ _ hbw (hΦ j hj hjs)
      · by_cases e : j = i
        · subst e
          have : updF f j v j = v := if_pos rfl
          rw [this]
          exact ((hval j hj hfi.1 hdo hv).2 hFj).2
        · have : updF f i v j = f j := if_neg e
          rw [this]
          rw [getD_set_ne false (Ne.symm e)] at hjs
          exact Nat.lt_of_lt_of_le (hF j hj hjs hFj) hbw.size
      · by_cases e : j = i
        · subst e
          have e1 : updF f j v j = v := if_pos rfl
          have e2 : updF f j v k = f k := if_neg (Ne.symm hjk)
          rw [e1, e2]
          rw [getD_set_ne false hjk] at hks
          have h1 := ((hval j hj hfi.1 hdo hv).2 hFj).1
          have h2 := hF k hk hks hFk
          omega
        · have e1 : updF f i v j = f j := if_neg e
          rw [e1]
          rw [getD_set_ne false (Ne.symm e)] at hjs
          by_cases e3 : k = i
          · subst e3
            have e2 : updF f k v k = v := if_pos rfl
            rw [e2]
            have h1 := ((hval k hk hfi.1 hdo hv).2 hFk).1
            have h2 := hF j hj hjs hFj
            omega
          · have e2 : updF f i v k = f k := if_neg e3
            rw [e2]
            rw [getD_set_ne false (Ne.symm e3)] at hks
            exact hFF j k hj hk hjk hjs hks hFj hFk
    · have h1 := hR.1
      have h2 := congrArg List.length h1
      cases hod : oi.dst <;> simp [Act.put, hod] at h2
/-- A property of a value that lasts while memory only grows. -/
structure Sta where
  p : Value → World → Prop
  m : ∀ v w w', Below w.heap.size w w' → p v w → p v w'
instance : Inhabited Sta := ⟨⟨fun _ _ => True, fun _ _ _ _ _ => trivial⟩⟩
def eqS (x : Value) : Sta := ⟨fun v _ => v = x, fun _ _ _ _ h => h⟩
def depB (o : Oper) (j : Nat) : Bool := o.after.any fun e => Region.binds .any e && e.on == j
def stA (L : List Sta) (j : Nat) : Sta := L.getD j default
def dstLtB (ops : Array Oper) (n N : Nat) : Bool := (List.range n).all fun i => ((dstOf ops i).map fun t => decide (t < N)).getD true
/-- Each operation in turn leaves what is said of it, in each world and whatever the others have done, if those that it waits for have left what is said of them. -/
def HeadL (P : Program) (Q : Exit → Act → World → Prop) (ops : Array Oper) (L : List Sta) (F : List Nat) (fr : (Nat → Value) → Act) (w : World) : List Oper → List Sta → Nat → Prop
  | o :: r, S :: R, i => (∀ f w1, Below w.heap.size w w1 → (∀ j, depB o j = true → (stA L j).p (f j) w1) → wpList P ops (Exit.then (RelPost S.p (i ∈ F) (fr f).defers o.dst w1) Q) [o] (fr f) w1) ∧ HeadL P Q ops L F fr w r R (i + 1)
  | _, _, _ => True
theorem headL_at {ops : Array Oper} {L : List Sta} {F : List Nat} {fr : (Nat → Value) → Act} {w : World} : ∀ (l : List Oper) (R : List Sta) (k : Nat), HeadL P Q ops L F fr w l R k →
    ∀ i o S, l[i]? = some o → R[i]? = some S → ∀ f w1, Below w.heap.size w w1 → (∀ j, depB o j = true → (stA L j).p (f j) w1) → wpList P ops (Exit.then (RelPost S.p (k + i ∈ F) (fr f).defers o.dst w1) Q) [o] (fr f) w1
  | [], _, _, _, i, o, S, ho, _ => by simp at ho
  | o :: r, [], _, _, i, _, S, _, hS => by simp at hS
  | o :: r, S :: R, k, h, 0, o', S', ho, hS => by
    simp at ho hS
    subst ho hS
    exact h.1
  | o :: r, S :: R, k, h, i + 1, o', S', ho, hS => by
    have := headL_at r R (k + 1) h.2 i o' S' (by simpa using ho) (by simpa using hS)
    rwa [show k + 1 + i = k + (i + 1) by omega] at this
theorem wp_region_rel {id : Nat} {a0 : Act} {w : World} {l : List Oper} (L : List Sta) (F : List Nat) (N : Nat) (hm : P.follows .mixedOrders = true) (hB : relB .any l.toArray L.length = true)
    (hsz : a0.tmps.size = N) (hN : dstLtB l.toArray L.length N = true) {fr : (Nat → Value) → Act} (hfr : ∀ f, frm l.toArray a0 f L.length = fr f)
    (head : HeadL P Q l.toArray L F fr w l L 0)
    (tail : ∀ f w1, Below w.heap.size w w1 → (∀ j, j < L.length → (stA L j).p (f j) w1) → (∀ j k, j < L.length → k < L.length → j ≠ k → j ∈ F → k ∈ F → blk (f j) ≠ blk (f k)) → wpList P l.toArray Q (l.drop L.length) (fr f) w1) : (Code.region id l.toArray true).wp P Q a0 w := by
  have hn : L.length < l.toArray.size := by
    simp only [relB, Bool.and_eq_true, decide_eq_true_eq] at hB
    exact hB.1.1.1.1.1
  refine wp_region_any hm ?_
  have h := rel_any (md := .any) (Q := Q) (P := P) (n := L.length) (a0 := a0) (w0 := w) (Φ := fun j => (stA L j).p) (F := fun j => j ∈ F) rfl hB
    (fun i hi t ht => by
      have h1 := List.all_eq_true.1 hN i (List.mem_range.2 hi)
      rw [ht] at h1
      rw [hsz]
      simpa using h1)
    (fun j _ v w1 w2 hb h => (stA L j).m v w1 w2 hb h)
    (fun i o hi ho f w1 hb hd => by
      rw [hfr]
      have hS : L[i]? = some (stA L i) := by
        unfold stA
        rw [List.getD_eq_getElem?_getD, List.getElem?_eq_getElem hi]; rfl
      have h2 := headL_at l L 0 head i o (stA L i) (by simpa using ho) hS f w1 hb (fun j hj => by
        unfold depB at hj
        obtain ⟨e, he, h3⟩ := Array.any_eq_true'.1 hj
        simp only [Bool.and_eq_true, beq_iff_eq] at h3
        rw [← h3.2]
        exact hd e he h3.1)
      rwa [Nat.zero_add] at h2)
    (fun f w1 hb hΦ hFF => by rw [hfr]; exact tail f w1 hb hΦ hFF)
    L.length (List.range L.length) (Array.replicate l.toArray.size false) (fun j => match dstOf l.toArray j with | some d => a0.tmps.getD d undef | none => undef) w.drew
    List.nodup_range (by simp) (fun j hj => by rw [getD_replicate_false]; simp [hj]) (fun j hj => by simpa using hj)
    ⟨by simp, fun j oj _ hl => (by rw [getD_replicate_false] at hl; cases hl), fun t _ ht => getD_in (by simpa using ht) (getD_replicate_false _ _)⟩
    (below_drew (Below.refl _ _)) (fun j _ hl => by rw [getD_replicate_false] at hl; cases hl) (fun j _ hl => by rw [getD_replicate_false] at hl; cases hl) (fun j k _ _ _ hl => by rw [getD_replicate_false] at hl; cases hl)
  rw [frm_id, show L.length + (l.toArray.size - L.length) = l.toArray.size by omega] at h
  exact h
end
end Go.Proofs.Ytndhjfmdfcpceaa

namespace Go.Proofs.Ytndhjfmdfcpceaa
open Go.RowKit

theorem rd_lit2 (w : World) (x y : It) (k : Nat) (hk : w.heap.size = k) : RdT (w.alloc (.cells #[.int .u64 x.key, .int .u32 x.ck, .int .i64 x.off, .int .i64 x.size, .int .u64 y.key, .int .u32 y.ck, .int .i64 y.off, .int .i64 y.size] 29)) (.slice (some ⟨k, 0, none⟩) 2 2) [x, y] := by
  subst hk; exact rd_rdT (n := 2) (Rd.new w 4 (itsC [x, y]) 29 2 rfl (by decide))
def mapO (M : Mp) : Sta := ⟨fun v w => ∃ s, v = mapV s M.live M.garb ∧ OwnM w 0 s M.st, fun _ _ _ hb ⟨s, h1, h2⟩ => ⟨s, h1, h2.keep hb⟩⟩
/-- A block of a map alone, with its type. -/
def BoxTy (w : World) (b : Nat) : Prop := ∃ cs, w.heap[b]? = some (.cells cs 37 (0, 0))
theorem BoxTy.below {w w' : World} {b : Nat} (h : BoxTy w b) (hb : Below w.heap.size w w') : BoxTy w' b := by
  obtain ⟨cs, h⟩ := h
  refine ⟨cs, ?_⟩
  rw [hb.block b (by have := Array.getElem?_eq_some_iff.1 h; exact this.1)]; exact h
theorem BoxTy.new (w : World) (cs : Array Value) : BoxTy (w.alloc (.cells cs 37)) w.heap.size := ⟨cs, heap_alloc_new w _⟩
theorem BoxTy.ne {w : World} {b B : Nat} {s : Sl} {f : Nat → List It} (h : BoxTy w b) (ho : OwnM w B s f) : ∀ i, i < 8 → (s.v i).ownBlock ≠ some b := fun i hi e => by
  obtain ⟨cs, h⟩ := h
  obtain ⟨c, fz, h1⟩ := Lib.ownsRow_kind (ho i hi) b e
  rw [h1] at h
  injection h with h
  injection h with _ h2
  exact absurd h2 (by decide)
def boxS (B : Nat) : Sta := ⟨fun v w => ∃ b, v = .pointer (some ⟨b, 0, none⟩) ∧ B ≤ b ∧ BoxM w b Sl.nil 0 0 ∧ BoxTy w b, fun _ _ _ hb ⟨b, h1, h2, h3, h4⟩ => ⟨b, h1, h2, h3.below hb, h4.below hb⟩⟩
theorem own_set_ne0 {w : World} {B : Nat} {e : TypeId} {sz n : Nat} {v : Value} {xs : List Value} (h : w.ownsRow B e sz v n xs) {p : Addr} (hne : v.ownBlock ≠ some p.block) (u : Value) : (w.setCell p u).ownsRow B e sz v n xs := by
  refine ⟨h.1, ?_⟩
  rcases h.2 with h0 | ⟨g, cap, cur, rfl, hb, hg, rest⟩
  · exact .inl h0
  · refine .inr ⟨g, cap, cur, rfl, hb, ?_, rest⟩
    rw [Below.heap_setCell w p u g (fun e => hne (by rw [← e]; rfl))]; exact hg
theorem OwnM.putM_ne {w : World} {B b : Nat} {s : Sl} {f : Nat → List It} (h : OwnM w B s f) (hne : ∀ i, i < 8 → (s.v i).ownBlock ≠ some b) (s' : Sl) (l g : Int) : OwnM (Go.Proofs.Ytndhjfmdfcpceaa.putM w b s' l g) B s f := fun i hi =>
  own_set_ne0 (p := ⟨b, 9, none⟩) (own_set_ne0 (p := ⟨b, 8, none⟩) (own_set_ne0 (p := ⟨b, 7, none⟩) (own_set_ne0 (p := ⟨b, 6, none⟩) (own_set_ne0 (p := ⟨b, 5, none⟩) (own_set_ne0 (p := ⟨b, 4, none⟩) (own_set_ne0 (p := ⟨b, 3, none⟩) (own_set_ne0 (p := ⟨b, 2, none⟩) (own_set_ne0 (p := ⟨b, 1, none⟩) (own_set_ne0 (p := ⟨b, 0, none⟩) (h i hi) (hne i hi) _) (hne i hi) _) (hne i hi) _) (hne i hi) _) (hne i hi) _) (hne i hi) _) (hne i hi) _) (hne i hi) _) (hne i hi) _) (hne i hi) _
theorem sizeX (y : It) (hy : 0 ≤ y.size) (w : World) : Calls Try.prog 35 #[.int .i64 y.size] w fun e w' => e = .returned (.int .i64 ((lenO y : Nat) : Int)) ∧ w = w' := by
  have h := nsizeB y.size.toNat w
  rwa [Int.toNat_of_nonneg hy] at h
theorem RdT.at4 {w : World} {b n c : Nat} {l : List It} (h : RdT w (.slice (some ⟨b, 0, none⟩) n c) l) {j : Nat} (hj : j < n) :
    w.cell? ⟨b, j * 4, none⟩ = some (.int .u64 (iat l j).key) ∧ w.cell? ⟨b, j * 4 + 1, none⟩ = some (.int .u32 (iat l j).ck) ∧ w.cell? ⟨b, j * 4 + 2, none⟩ = some (.int .i64 (iat l j).off) ∧ w.cell? ⟨b, j * 4 + 3, none⟩ = some (.int .i64 (iat l j).size) := by
  obtain ⟨b', o', e, h0, h1, h2, h3⟩ := h.at hj
  injection e with e
  injection e with e1 e2
  subst e1 e2
  simp only [Nat.zero_add] at h0 h1 h2 h3
  exact ⟨h0, h1, h2, h3⟩
set_option maxRecDepth 100000 in
set_option maxHeartbeats 16000000 in
theorem order_walk (va : Value) (x y : It) (l : List It) (w : World) (h : RdT w va l) :
    Calls Try.prog 7 #[va, itV x, itV y] w fun e w' => e = .returned (.bool true) ∧ Below w.heap.size w w' := by
  obtain ⟨W0, hW0⟩ : ∃ W0, (w.alloc (boxC x)).alloc (boxC y) = W0 := ⟨_, rfl⟩
  have HQ := Lib.hid (show BoxI W0 w.heap.size x from hW0 ▸ (BoxI.new w x).below (below_box _ y))
  have HQ2 := Lib.hid (show BoxI W0 (w.heap.size + 1) y from hW0 ▸ (by have := BoxI.new (w.alloc (boxC x)) y; simpa using this))
  have HB := Lib.hid (show Below w.heap.size w W0 from hW0 ▸ bstep (below_box w x) (below_box _ y))
  have HW0 := Lib.hid hW0
  clear hW0
  have HI := Lib.hid (fun W (hb : Below w.heap.size w W) => lawI_any va l W (RdT.below h hb))
  have HIp := Lib.hid (fun v W h => lawI_any v [x, y] W h)
  have HP := Lib.hid (show lawI [x, y] = [mkIt x, mkIt y] from rfl)
  have hX : okB (mkIt x) = true := lawI_ok [x, y] _ (by rw [HP.out]; simp)
  have hY : okB (mkIt y) = true := lawI_ok [x, y] _ (by rw [HP.out]; simp)
  have hn20 := lawI_length l
  have hok := okP_all (fun x hx => by have := lawI_ok l x hx; unfold okB at this; exact of_decide_eq_true this)
  have hv := fromM_vld (lawI l) 0
  have hg0 := fromM_garb hok
  have hle := fromM_len (lawI l) 0
  have HFm := Lib.hid (fun v W h => fromM_any v (lawI l) 0 W h (Nat.le_trans hn20 (by decide)))
  have HAw := Lib.hid (fun W => awakeM_any W)
  rw [HP.out] at HIp
  generalize fromM (lawI l) 0 = M at *
  generalize mkIt x = X at *
  generalize mkIt y = Y at *
  have hl0 : ∀ i, (M.st i).length ≤ 20 := fun i => Nat.le_trans (hle i) hn20
  have H1 := Lib.hid (fun hne => order_puts hv hg0 hX hY hne)
  have H2 := Lib.hid (fun hne => order_del (y := Y) hv hg0 hX hne)
  have H3 := Lib.hid (order_twice hv hg0 hX)
  have HX0 := Lib.hid (show 0 ≤ X.size from (by unfold okB at hX; exact (of_decide_eq_true hX).2.2.2.1))
  have HgX := Lib.hid (show (insM M X).garb ≤ 10000 ∧ 0 ≤ (insM M X).garb from (by obtain ⟨v1, b1, g1, e1⟩ := ord_one hv (by omega) hX; have := v1.g0; omega))
  clear h hok hv hg0 hle hX hY
  generalize lawI l = K at *
  clear hn20 HP
  go_enter Try.func7, Try.ntmps7
  go_upto_region 1 with fail
  have hW0 := HW0.out
  rw [show (w.alloc (.cells #[.int .u64 x.key, .int .u32 x.ck, .int .i64 x.off, .int .i64 x.size] 29)).alloc (.cells #[.int .u64 y.key, .int .u32 y.ck, .int .i64 y.off, .int .i64 y.size] 29) = W0 from hW0]
  clear hW0 HW0
  go_wp2_with fail
  refine (HI.out _ HB.out).mono ?_; rintro e w1 ⟨v1, rfl, hown1, hb1⟩
  have HB1 := Lib.hid (bstep HB.out hb1)
  have HR1 := Lib.hid (OwnT.rd hown1)
  have HQa := Lib.hid (HQ.out.below hb1)
  have HQb := Lib.hid (HQ2.out.below hb1)
  clear hown1 hb1 HQ HQ2 HB HI
  have i0 := HQa.out.t.c0
  have i1 := HQa.out.t.c1
  have i2 := HQa.out.t.c2
  have i3 := HQa.out.t.c3
  have iF := HQa.out.f
  have j0 := HQb.out.t.c0
  have j1 := HQb.out.t.c1
  have j2 := HQb.out.t.c2
  have j3 := HQb.out.t.c3
  have jF := HQb.out.f
  go_wp2_with fail
  refine (HIp.out _ _ (rd_lit2 w1 x y _ rfl)).mono ?_; rintro e w2 ⟨v2, rfl, hown2, hb2⟩
  have hb2' := bstep (show Below w1.heap.size w1 (w1.alloc (.cells #[.int .u64 x.key, .int .u32 x.ck, .int .i64 x.off, .int .i64 x.size, .int .u64 y.key, .int .u32 y.ck, .int .i64 y.off, .int .i64 y.size] 29)) from (Below.refl _ _).alloc (Nat.le_refl _) _) hb2
  have HB2 := Lib.hid (bstep HB1.out hb2')
  have HR2 := Lib.hid (HR1.out.below hb2')
  obtain ⟨pb, pc, rfl, HRp⟩ : ∃ pb pc, v2 = .slice (some ⟨pb, 0, none⟩) 2 pc ∧ Hid (RdT w2 (.slice (some ⟨pb, 0, none⟩) 2 pc) [X, Y]) := by
    rcases hown2.2 with ⟨_, e⟩ | ⟨g, cap, cur, e, _⟩
    · cases e
    · exact ⟨g, cap, e, Lib.hid (e ▸ OwnT.rd hown2)⟩
  clear hown2 hb2 hb2' HB1 HR1 HQa HQb HIp i0 i1 i2 i3 iF j0 j1 j2 j3 jF
  have HF2 := Lib.hid (HFm.out _ w2 HR2.out)
  go_wp2_with fail
  refine HF2.out.mono ?_; rintro e w3 ⟨⟨s, rfl, hown3⟩, hb3⟩
  have hb3' := bstep hb3 (below_map w3 s M.live M.garb 37)
  have HB3 := Lib.hid (bstep HB2.out hb3')
  have HM3 := Lib.hid (hown3.rd.below (below_map w3 s M.live M.garb 37))
  have HX3 := Lib.hid (BoxM.new w3 s M.live M.garb 37)
  have HRp3 := Lib.hid (HRp.out.below hb3')
  clear hown3 hb3 hb3' HB2 HR2 HRp HF2 HFm
  go_upto_region 4 with fail
  obtain ⟨W3, hW3⟩ : ∃ W3, w3.alloc (.cells (mapC s M.live M.garb) 37) = W3 := ⟨_, rfl⟩
  rw [hW3] at HB3 HM3 HX3 HRp3
  rw [hW3]
  clear hW3
  generalize w3.heap.size = bm at *
  have HPc := Lib.hid (fun W (hb : Below W3.heap.size W3 W) => (HRp3.out.below hb).at4 (show 0 < 2 by decide))
  have HPd := Lib.hid (fun W (hb : Below W3.heap.size W3 W) => (HRp3.out.below hb).at4 (show 1 < 2 by decide))
  rw [show iat [X, Y] 0 = X from rfl, Nat.zero_mul] at HPc
  rw [show iat [X, Y] 1 = Y from rfl, Nat.one_mul] at HPd
  obtain ⟨p0, p1, p2, p3⟩ := HPc.out _ (Below.refl _ _)
  obtain ⟨q0, q1, q2, q3⟩ := HPd.out _ (Below.refl _ _)
  have HPu := Lib.hid (fun N (hN : ∀ i, i < 8 → (N.st i).length ≤ 10000) s z W h => putM_any s N z W h hN)
  have HDe := Lib.hid (fun N (hN : ∀ i, i < 8 → (N.st i).length ≤ 10000) s k W h => deleteM_any s N k W h hN)
  by_cases hk : X.key = Y.key
  · have hk' : (X.key == Y.key) = true := by simp [hk]
    clear hk
    go_quiet (fail)
    have HXq := Lib.hid (HX3.out.below (below_drewN (Below.refl _ _) nq))
    have HBq := Lib.hid (below_drewN HB3.out nq)
    have HMq := Lib.hid (fun W (hb : Below (W3.drewN nq).heap.size (W3.drewN nq) W) => HM3.out.below (bstep (below_drewN (Below.refl _ _) nq) hb))
    have HPq := Lib.hid (fun W (hb : Below (W3.drewN nq).heap.size (W3.drewN nq) W) => HPc.out W (bstep (below_drewN (Below.refl _ _) nq) hb))
    clear p0 p1 p2 p3 q0 q1 q2 q3 HPc HPd HX3 HB3 HM3
    generalize W3.drewN nq = W4 at *
    go_upto_region 5 with fail
    have hl1 : ∀ i, i < 8 → (M.st i).length ≤ 10000 := fun i _ => Nat.le_trans (hl0 i) (by decide)
    have hl2 : ∀ i, i < 8 → ((insM M X).st i).length ≤ 10000 := fun i _ => Nat.le_trans (insM_len M X hl0 i) (by decide)
    have HBc := Lib.hid (Below.refl W4.heap.size W4)
    refine wp_region_rel [eqS (mapV s M.live M.garb), eqS (.slice (some ⟨pb, 0, none⟩) 2 pc), eqS (.pointer (some ⟨pb, 0, none⟩)), eqS (itV X), mapO (insM M X), eqS (.slice (some ⟨pb, 0, none⟩) 2 pc), eqS (.pointer (some ⟨pb, 0, none⟩)), eqS (itV X), mapO (insM (insM M X) X), boxS W4.heap.size] [9] 121 (by kernel_rfl) (by kernel_rfl) (by rfl) (by kernel_rfl) (fun f => by simp [frm, dstOf, Act.put]; exact rfl) ?_ ?_
    · refine ⟨?_, ?_, ?_, ?_, ?_, ?_, ?_, ?_, ?_, ?_, trivial⟩
      · intro f w1 hb hd
        clear hd
        dsimp only
        have hx := HXq.out.below (bstep HBc.out hb)
        have c0 := hx.c0
        have c1 := hx.c1
        have c2 := hx.c2
        have c3 := hx.c3
        have c4 := hx.c4
        have c5 := hx.c5
        have c6 := hx.c6
        have c7 := hx.c7
        have c8 := hx.cl
        have c9 := hx.cg
        clear hx
        go_wp2_with fail
        exact ⟨rfl, Below.refl _ _, fun t ht => by injection ht with ht; subst ht; exact ⟨rfl, fun h => by simp at h⟩⟩
      · intro f w1 hb hd
        clear hd
        dsimp only
        go_wp2_with fail
        exact ⟨rfl, Below.refl _ _, fun t ht => by injection ht with ht; subst ht; exact ⟨rfl, fun h => by simp at h⟩⟩
      · intro f w1 hb hd
        have d1 : f 1 = (.slice (some ⟨pb, 0, none⟩) 2 pc) := hd 1 (by kernel_rfl)
        clear hd
        dsimp only
        rw [d1]
        go_wp2_with fail
        exact ⟨rfl, Below.refl _ _, fun t ht => by injection ht with ht; subst ht; exact ⟨rfl, fun h => by simp at h⟩⟩
      · intro f w1 hb hd
        have d2 : f 2 = (.pointer (some ⟨pb, 0, none⟩)) := hd 2 (by kernel_rfl)
        clear hd
        dsimp only
        rw [d2]
        obtain ⟨p0, p1, p2, p3⟩ := HPq.out w1 (bstep HBc.out hb)
        go_wp2_with fail
        exact ⟨rfl, Below.refl _ _, fun t ht => by injection ht with ht; subst ht; exact ⟨rfl, fun h => by simp at h⟩⟩
      · intro f w1 hb hd
        have d0 : f 0 = (mapV s M.live M.garb) := hd 0 (by kernel_rfl)
        have d3 : f 3 = (itV X) := hd 3 (by kernel_rfl)
        clear hd
        dsimp only
        rw [d0]
        rw [d3]
        go_wp2_with fail
        refine (HPu.out (M) hl1 s X w1 (HMq.out w1 (bstep HBc.out hb))).mono ?_; rintro e w9 ⟨⟨s9, rfl, ow9⟩, hb9⟩
        go_wp2_with fail
        exact ⟨rfl, hb9, fun t ht => by injection ht with ht; subst ht; exact ⟨⟨_, rfl, OwnM.mono ow9 (Nat.zero_le _)⟩, fun h => by simp at h⟩⟩
      · intro f w1 hb hd
        clear hd
        dsimp only
        go_wp2_with fail
        exact ⟨rfl, Below.refl _ _, fun t ht => by injection ht with ht; subst ht; exact ⟨rfl, fun h => by simp at h⟩⟩
      · intro f w1 hb hd
        have d5 : f 5 = (.slice (some ⟨pb, 0, none⟩) 2 pc) := hd 5 (by kernel_rfl)
        clear hd
        dsimp only
        rw [d5]
        go_wp2_with fail
        exact ⟨rfl, Below.refl _ _, fun t ht => by injection ht with ht; subst ht; exact ⟨rfl, fun h => by simp at h⟩⟩
      · intro f w1 hb hd
        have d6 : f 6 = (.pointer (some ⟨pb, 0, none⟩)) := hd 6 (by kernel_rfl)
        clear hd
        dsimp only
        rw [d6]
        obtain ⟨p0, p1, p2, p3⟩ := HPq.out w1 (bstep HBc.out hb)
        go_wp2_with fail
        exact ⟨rfl, Below.refl _ _, fun t ht => by injection ht with ht; subst ht; exact ⟨rfl, fun h => by simp at h⟩⟩
      · intro f w1 hb hd
        obtain ⟨s4, d4, r4⟩ := show ∃ s, f 4 = mapV s (insM M X).live (insM M X).garb ∧ OwnM w1 0 s (insM M X).st from hd 4 (by kernel_rfl)
        have d7 : f 7 = (itV X) := hd 7 (by kernel_rfl)
        clear hd
        dsimp only
        rw [d4]
        rw [d7]
        go_wp2_with fail
        refine (HPu.out (insM M X) hl2 s4 X w1 r4.rd).mono ?_; rintro e w9 ⟨⟨s9, rfl, ow9⟩, hb9⟩
        go_wp2_with fail
        exact ⟨rfl, hb9, fun t ht => by injection ht with ht; subst ht; exact ⟨⟨_, rfl, OwnM.mono ow9 (Nat.zero_le _)⟩, fun h => by simp at h⟩⟩
      · intro f w1 hb hd
        clear hd
        dsimp only
        have hbs := hb.size
        have hnw := BoxM.new w1 Sl.nil 0 0 37
        have hty := BoxTy.new w1 (mapC Sl.nil 0 0)
        go_wp2_with fail
        exact ⟨rfl, below_map w1 Sl.nil 0 0 37, fun t ht => by injection ht with ht; subst ht; exact ⟨⟨_, rfl, hbs, hnw, hty⟩, fun _ => ⟨Nat.le_refl _, by simp [blk]⟩⟩⟩
    · intro f w5 hb hd hff
      clear hff
      obtain ⟨s8, d8, r8⟩ := show ∃ s, f 8 = mapV s (insM (insM M X) X).live (insM (insM M X) X).garb ∧ OwnM w5 0 s (insM (insM M X) X).st from hd 8 (show 8 < 10 by decide)
      obtain ⟨b9, d9, lo9, bx9, ty9⟩ := show ∃ b, f 9 = .pointer (some ⟨b, 0, none⟩) ∧ W4.heap.size ≤ b ∧ BoxM w5 b Sl.nil 0 0 ∧ BoxTy w5 b from hd 9 (show 9 < 10 by decide)
      try dsimp only
      rw [d8, d9]
      clear hd d8 d9
      have HX5 := Lib.hid bx9
      have HR8 := Lib.hid r8
      have HB5 := Lib.hid hb
      have HTy := Lib.hid ty9
      clear bx9 r8 hb ty9
      generalize f 0 = g0, f 1 = g1, f 2 = g2, f 3 = g3, f 4 = g4, f 5 = g5, f 6 = g6, f 7 = g7
      clear f
      have d0 := HX5.out.c0
      have d1 := HX5.out.c1
      have d2 := HX5.out.c2
      have d3 := HX5.out.c3
      have d4 := HX5.out.c4
      have d5 := HX5.out.c5
      have d6 := HX5.out.c6
      have d7 := HX5.out.c7
      have d8 := HX5.out.cl
      have d9 := HX5.out.cg
      have dF := HX5.out.f
      change wpList _ _ _ (_ :: []) _ _
      go_upto_region 6 with fail
      change Code.wp _ _ _ _ (putM w5 b9 s8 (insM (insM M X) X).live (insM (insM M X) X).garb)
      obtain ⟨Va, hV⟩ : ∃ V, putM w5 b9 s8 (insM (insM M X) X).live (insM (insM M X) X).garb = V := ⟨_, rfl⟩
      have HAVa := Lib.hid (show BoxM Va b9 s8 (insM (insM M X) X).live (insM (insM M X) X).garb from hV ▸ HX5.out.all s8 (insM (insM M X) X).live (insM (insM M X) X).garb)
      have HOVa := Lib.hid (show OwnM Va 0 s8 (insM (insM M X) X).st from hV ▸ HR8.out.putM_ne (HTy.out.ne HR8.out) s8 (insM (insM M X) X).live (insM (insM M X) X).garb)
      have HBn := Lib.hid (show Below W4.heap.size W4 Va from hV ▸ putM_below HB5.out lo9 s8 (insM (insM M X) X).live (insM (insM M X) X).garb)
      have HBd := Lib.hid (bstep HBc.out HBn.out)
      rw [hV]
      clear hV d0 d1 d2 d3 d4 d5 d6 d7 d8 d9 dF HX5 HR8 HB5 HTy HBn HBc
      have HBc := HBd
      clear HBd
      generalize s8 = sVa at *
      generalize b9 = bVa at *
      refine wp_region_rel [eqS (mapV s M.live M.garb), eqS (.slice (some ⟨pb, 0, none⟩) 2 pc), eqS (.pointer (some ⟨pb, 0, none⟩)), eqS (itV X), mapO (insM M X), boxS Va.heap.size] [5] 121 (by kernel_rfl) (by kernel_rfl) (by rfl) (by kernel_rfl) (fun f => by simp [frm, dstOf, Act.put]; exact rfl) ?_ ?_
      · refine ⟨?_, ?_, ?_, ?_, ?_, ?_, trivial⟩
        · intro f w1 hb hd
          clear hd
          dsimp only
          have hx := HXq.out.below (bstep HBc.out hb)
          have c0 := hx.c0
          have c1 := hx.c1
          have c2 := hx.c2
          have c3 := hx.c3
          have c4 := hx.c4
          have c5 := hx.c5
          have c6 := hx.c6
          have c7 := hx.c7
          have c8 := hx.cl
          have c9 := hx.cg
          clear hx
          go_wp2_with fail
          exact ⟨rfl, Below.refl _ _, fun t ht => by injection ht with ht; subst ht; exact ⟨rfl, fun h => by simp at h⟩⟩
        · intro f w1 hb hd
          clear hd
          dsimp only
          go_wp2_with fail
          exact ⟨rfl, Below.refl _ _, fun t ht => by injection ht with ht; subst ht; exact ⟨rfl, fun h => by simp at h⟩⟩
        · intro f w1 hb hd
          have d1 : f 1 = (.slice (some ⟨pb, 0, none⟩) 2 pc) := hd 1 (by kernel_rfl)
          clear hd
          dsimp only
          rw [d1]
          go_wp2_with fail
          exact ⟨rfl, Below.refl _ _, fun t ht => by injection ht with ht; subst ht; exact ⟨rfl, fun h => by simp at h⟩⟩
        · intro f w1 hb hd
          have d2 : f 2 = (.pointer (some ⟨pb, 0, none⟩)) := hd 2 (by kernel_rfl)
          clear hd
          dsimp only
          rw [d2]
          obtain ⟨p0, p1, p2, p3⟩ := HPq.out w1 (bstep HBc.out hb)
          go_wp2_with fail
          exact ⟨rfl, Below.refl _ _, fun t ht => by injection ht with ht; subst ht; exact ⟨rfl, fun h => by simp at h⟩⟩
        · intro f w1 hb hd
          have d0 : f 0 = (mapV s M.live M.garb) := hd 0 (by kernel_rfl)
          have d3 : f 3 = (itV X) := hd 3 (by kernel_rfl)
          clear hd
          dsimp only
          rw [d0]
          rw [d3]
          go_wp2_with fail
          refine (HPu.out (M) hl1 s X w1 (HMq.out w1 (bstep HBc.out hb))).mono ?_; rintro e w9 ⟨⟨s9, rfl, ow9⟩, hb9⟩
          go_wp2_with fail
          exact ⟨rfl, hb9, fun t ht => by injection ht with ht; subst ht; exact ⟨⟨_, rfl, OwnM.mono ow9 (Nat.zero_le _)⟩, fun h => by simp at h⟩⟩
        · intro f w1 hb hd
          clear hd
          dsimp only
          have hbs := hb.size
          have hnw := BoxM.new w1 Sl.nil 0 0 37
          have hty := BoxTy.new w1 (mapC Sl.nil 0 0)
          go_wp2_with fail
          exact ⟨rfl, below_map w1 Sl.nil 0 0 37, fun t ht => by injection ht with ht; subst ht; exact ⟨⟨_, rfl, hbs, hnw, hty⟩, fun _ => ⟨Nat.le_refl _, by simp [blk]⟩⟩⟩
      · intro f w5 hb hd hff
        clear hff
        obtain ⟨s4, d4, r4⟩ := show ∃ s, f 4 = mapV s (insM M X).live (insM M X).garb ∧ OwnM w5 0 s (insM M X).st from hd 4 (show 4 < 6 by decide)
        obtain ⟨b5, d5, lo5, bx5, ty5⟩ := show ∃ b, f 5 = .pointer (some ⟨b, 0, none⟩) ∧ Va.heap.size ≤ b ∧ BoxM w5 b Sl.nil 0 0 ∧ BoxTy w5 b from hd 5 (show 5 < 6 by decide)
        try dsimp only
        rw [d4, d5]
        clear hd d4 d5
        have HX5 := Lib.hid bx5
        have HR8 := Lib.hid r4
        have HB5 := Lib.hid hb
        have HTy := Lib.hid ty5
        clear bx5 r4 hb ty5
        generalize f 0 = g0, f 1 = g1, f 2 = g2, f 3 = g3
        clear f
        have d0 := HX5.out.c0
        have d1 := HX5.out.c1
        have d2 := HX5.out.c2
        have d3 := HX5.out.c3
        have d4 := HX5.out.c4
        have d5 := HX5.out.c5
        have d6 := HX5.out.c6
        have d7 := HX5.out.c7
        have d8 := HX5.out.cl
        have d9 := HX5.out.cg
        have dF := HX5.out.f
        change wpList _ _ _ (_ :: []) _ _
        go_upto_region 7 with fail
        change Code.wp _ _ _ _ (putM w5 b5 s4 (insM M X).live (insM M X).garb)
        obtain ⟨Vb, hV⟩ : ∃ V, putM w5 b5 s4 (insM M X).live (insM M X).garb = V := ⟨_, rfl⟩
        have HAVb := Lib.hid (show BoxM Vb b5 s4 (insM M X).live (insM M X).garb from hV ▸ HX5.out.all s4 (insM M X).live (insM M X).garb)
        have HOVb := Lib.hid (show OwnM Vb 0 s4 (insM M X).st from hV ▸ HR8.out.putM_ne (HTy.out.ne HR8.out) s4 (insM M X).live (insM M X).garb)
        have HBn := Lib.hid (show Below Va.heap.size Va Vb from hV ▸ putM_below HB5.out lo5 s4 (insM M X).live (insM M X).garb)
        have HAVa2 := Lib.hid (show BoxM Vb bVa sVa (insM (insM M X) X).live (insM (insM M X) X).garb from HAVa.out.below HBn.out)
        have HOVa2 := Lib.hid (show OwnM Vb 0 sVa (insM (insM M X) X).st from HOVa.out.keep HBn.out)
        clear HAVa HOVa
        have HBd := Lib.hid (bstep HBc.out HBn.out)
        rw [hV]
        clear hV d0 d1 d2 d3 d4 d5 d6 d7 d8 d9 dF HX5 HR8 HB5 HTy HBn HBc
        have HBc := HBd
        clear HBd
        generalize s4 = sVb at *
        generalize b5 = bVb at *
        have HIa := Lib.hid (fun W (hb : Below Vb.heap.size Vb W) => itemsM_any sVa (insM (insM M X) X) W (HOVa2.out.rd.below hb) (fun i _ => Nat.le_trans (insM_len _ X (insM_len M X hl0) i) (by decide)))
        have HIb := Lib.hid (fun W (hb : Below Vb.heap.size Vb W) => itemsM_any sVb (insM M X) W (HOVb.out.rd.below hb) (fun i _ => Nat.le_trans (insM_len M X hl0 i) (by decide)))
        obtain ⟨e31, e32⟩ := H3.out
        obtain ⟨e41, e42⟩ := HgX.out
        rw [e31] at HIa
        have HSm := Lib.hid (fun va vb W h h2 => same_any va vb (itemsM (insM M X)) (itemsM (insM M X)) W h h2)
        rw [decide_eq_true (rfl : itemsM (insM M X) = itemsM (insM M X))] at HSm
        have HSz := Lib.hid (fun W => sizeX X HX0.out W)
        have hz := lenO_le X
        have j1 : IntKind.i64.wrap ((insM (insM M X) X).garb - (insM M X).garb) = ((lenO X : Nat) : Int) := (IntWalk.i64_in _ (by omega)).trans (by omega)
        clear e31 e32 e41 e42 H1 H2 H3 HgX HX0
        generalize lenO X = zX at *
        generalize itemsM (insM M X) = I1 at *
        generalize (insM (insM M X) X).live = La at *
        generalize (insM (insM M X) X).garb = Ga at *
        generalize (insM M X).live = Lb at *
        generalize (insM M X).garb = Gb at *
        have HSX := Lib.hid (show ∀ WV, Below Vb.heap.size Vb WV → WV.cell? ⟨bVa, 0, none⟩ = some (.slice (sVa.a 0) (sVa.n 0) (sVa.c 0)) ∧ WV.cell? ⟨bVa, 1, none⟩ = some (.slice (sVa.a 1) (sVa.n 1) (sVa.c 1)) ∧ WV.cell? ⟨bVa, 2, none⟩ = some (.slice (sVa.a 2) (sVa.n 2) (sVa.c 2)) ∧ WV.cell? ⟨bVa, 3, none⟩ = some (.slice (sVa.a 3) (sVa.n 3) (sVa.c 3)) ∧ WV.cell? ⟨bVa, 4, none⟩ = some (.slice (sVa.a 4) (sVa.n 4) (sVa.c 4)) ∧ WV.cell? ⟨bVa, 5, none⟩ = some (.slice (sVa.a 5) (sVa.n 5) (sVa.c 5)) ∧ WV.cell? ⟨bVa, 6, none⟩ = some (.slice (sVa.a 6) (sVa.n 6) (sVa.c 6)) ∧ WV.cell? ⟨bVa, 7, none⟩ = some (.slice (sVa.a 7) (sVa.n 7) (sVa.c 7)) ∧ WV.cell? ⟨bVa, 8, none⟩ = some (.int .i64 La) ∧ WV.cell? ⟨bVa, 9, none⟩ = some (.int .i64 Ga) ∧ WV.cell? ⟨bVb, 0, none⟩ = some (.slice (sVb.a 0) (sVb.n 0) (sVb.c 0)) ∧ WV.cell? ⟨bVb, 1, none⟩ = some (.slice (sVb.a 1) (sVb.n 1) (sVb.c 1)) ∧ WV.cell? ⟨bVb, 2, none⟩ = some (.slice (sVb.a 2) (sVb.n 2) (sVb.c 2)) ∧ WV.cell? ⟨bVb, 3, none⟩ = some (.slice (sVb.a 3) (sVb.n 3) (sVb.c 3)) ∧ WV.cell? ⟨bVb, 4, none⟩ = some (.slice (sVb.a 4) (sVb.n 4) (sVb.c 4)) ∧ WV.cell? ⟨bVb, 5, none⟩ = some (.slice (sVb.a 5) (sVb.n 5) (sVb.c 5)) ∧ WV.cell? ⟨bVb, 6, none⟩ = some (.slice (sVb.a 6) (sVb.n 6) (sVb.c 6)) ∧ WV.cell? ⟨bVb, 7, none⟩ = some (.slice (sVb.a 7) (sVb.n 7) (sVb.c 7)) ∧ WV.cell? ⟨bVb, 8, none⟩ = some (.int .i64 Lb) ∧ WV.cell? ⟨bVb, 9, none⟩ = some (.int .i64 Gb) ∧ WV.cell? ⟨pb, 0 + 3, none⟩ = some (.int .i64 X.size) from fun WV hb => ⟨(HAVa2.out.below hb).c0, (HAVa2.out.below hb).c1, (HAVa2.out.below hb).c2, (HAVa2.out.below hb).c3, (HAVa2.out.below hb).c4, (HAVa2.out.below hb).c5, (HAVa2.out.below hb).c6, (HAVa2.out.below hb).c7, (HAVa2.out.below hb).cl, (HAVa2.out.below hb).cg, (HAVb.out.below hb).c0, (HAVb.out.below hb).c1, (HAVb.out.below hb).c2, (HAVb.out.below hb).c3, (HAVb.out.below hb).c4, (HAVb.out.below hb).c5, (HAVb.out.below hb).c6, (HAVb.out.below hb).c7, (HAVb.out.below hb).cl, (HAVb.out.below hb).cg, (HPq.out WV (bstep HBc.out hb)).2.2.2⟩)
        go_wp2_with fail
        go_region_held3 (fun w' => w'.cell? ⟨bVa, 0, none⟩ = some (.slice (sVa.a 0) (sVa.n 0) (sVa.c 0)) ∧ w'.cell? ⟨bVa, 1, none⟩ = some (.slice (sVa.a 1) (sVa.n 1) (sVa.c 1)) ∧ w'.cell? ⟨bVa, 2, none⟩ = some (.slice (sVa.a 2) (sVa.n 2) (sVa.c 2)) ∧ w'.cell? ⟨bVa, 3, none⟩ = some (.slice (sVa.a 3) (sVa.n 3) (sVa.c 3)) ∧ w'.cell? ⟨bVa, 4, none⟩ = some (.slice (sVa.a 4) (sVa.n 4) (sVa.c 4)) ∧ w'.cell? ⟨bVa, 5, none⟩ = some (.slice (sVa.a 5) (sVa.n 5) (sVa.c 5)) ∧ w'.cell? ⟨bVa, 6, none⟩ = some (.slice (sVa.a 6) (sVa.n 6) (sVa.c 6)) ∧ w'.cell? ⟨bVa, 7, none⟩ = some (.slice (sVa.a 7) (sVa.n 7) (sVa.c 7)) ∧ w'.cell? ⟨bVa, 8, none⟩ = some (.int .i64 La) ∧ w'.cell? ⟨bVa, 9, none⟩ = some (.int .i64 Ga) ∧ w'.cell? ⟨bVb, 0, none⟩ = some (.slice (sVb.a 0) (sVb.n 0) (sVb.c 0)) ∧ w'.cell? ⟨bVb, 1, none⟩ = some (.slice (sVb.a 1) (sVb.n 1) (sVb.c 1)) ∧ w'.cell? ⟨bVb, 2, none⟩ = some (.slice (sVb.a 2) (sVb.n 2) (sVb.c 2)) ∧ w'.cell? ⟨bVb, 3, none⟩ = some (.slice (sVb.a 3) (sVb.n 3) (sVb.c 3)) ∧ w'.cell? ⟨bVb, 4, none⟩ = some (.slice (sVb.a 4) (sVb.n 4) (sVb.c 4)) ∧ w'.cell? ⟨bVb, 5, none⟩ = some (.slice (sVb.a 5) (sVb.n 5) (sVb.c 5)) ∧ w'.cell? ⟨bVb, 6, none⟩ = some (.slice (sVb.a 6) (sVb.n 6) (sVb.c 6)) ∧ w'.cell? ⟨bVb, 7, none⟩ = some (.slice (sVb.a 7) (sVb.n 7) (sVb.c 7)) ∧ w'.cell? ⟨bVb, 8, none⟩ = some (.int .i64 Lb) ∧ w'.cell? ⟨bVb, 9, none⟩ = some (.int .i64 Gb) ∧ w'.cell? ⟨pb, 0 + 3, none⟩ = some (.int .i64 X.size))
          (first | with_reducible exact HSX.out _ (bstep (bstep (bstep (bstep (Below.refl _ _).drew hba) hbb) hbc) hbe) | with_reducible exact HSX.out _ (bstep (bstep (bstep (Below.refl _ _).drew hba) hbb) hbc) | with_reducible exact HSX.out _ (bstep (bstep (Below.refl _ _).drew hba) hbb) | with_reducible exact HSX.out _ (bstep (Below.refl _ _).drew hba) | exact HSX.out _ (Below.refl _ _).drew)
          (first | (go_at_call 31; (with_reducible refine (HIa.out _ (Below.refl _ _).drew).mono ?_); rintro e wa ⟨va1, rfl, howna, hba⟩) | (go_at_call 31; (with_reducible refine (HIb.out _ (bstep (Below.refl _ _).drew hba)).mono ?_); rintro e wb ⟨vb1, rfl, hownb, hbb⟩) | (go_at_call 30; (with_reducible refine (HSm.out _ _ _ (OwnT.rd (own_keep howna hbb)) (OwnT.rd hownb)).mono ?_); rintro e wc ⟨rfl, hbc⟩) | (go_at_call 35; (with_reducible refine (HSz.out _).mono ?_); rintro e wd ⟨rfl, rfl⟩) | (go_at_call 10; (with_reducible refine (HAw.out _).mono ?_); rintro e we ⟨rfl, hbe⟩))
        rename_i hHeld
        clear hHeld
        have HBz := Lib.hid (bstep HBq.out (bstep HBc.out (bstep (bstep (bstep (bstep (Below.refl _ _).drew hba) hbb) hbc) hbe)))
        clear hba hbb hbc hbe howna hownb
        go_wp2_with fail
        go_ret
        exact ⟨rfl, HBz.out⟩
  · have hk' : (X.key == Y.key) = false := by simp [hk]
    have Hk := Lib.hid hk
    clear hk
    go_quiet (fail)
    have HXq := Lib.hid (HX3.out.below (below_drewN (Below.refl _ _) nq))
    have HBq := Lib.hid (below_drewN HB3.out nq)
    have HMq := Lib.hid (fun W (hb : Below (W3.drewN nq).heap.size (W3.drewN nq) W) => HM3.out.below (bstep (below_drewN (Below.refl _ _) nq) hb))
    have HPq := Lib.hid (fun W (hb : Below (W3.drewN nq).heap.size (W3.drewN nq) W) => HPc.out W (bstep (below_drewN (Below.refl _ _) nq) hb))
    have HPr := Lib.hid (fun W (hb : Below (W3.drewN nq).heap.size (W3.drewN nq) W) => HPd.out W (bstep (below_drewN (Below.refl _ _) nq) hb))
    clear p0 p1 p2 p3 q0 q1 q2 q3 HPc HPd HX3 HB3 HM3
    generalize W3.drewN nq = W4 at *
    go_upto_region 8 with fail
    have hl1 : ∀ i, i < 8 → (M.st i).length ≤ 10000 := fun i _ => Nat.le_trans (hl0 i) (by decide)
    have hl2 : ∀ i, i < 8 → ((insM M X).st i).length ≤ 10000 := fun i _ => Nat.le_trans (insM_len M X hl0 i) (by decide)
    have hl3 : ∀ i, i < 8 → ((insM M Y).st i).length ≤ 10000 := fun i _ => Nat.le_trans (insM_len M Y hl0 i) (by decide)
    have hl4 : ∀ i, i < 8 → ((delM M Y.key).st i).length ≤ 10000 := fun i _ => Nat.le_trans (delM_len M Y.key hl0 i) (by decide)
    have HBc := Lib.hid (Below.refl W4.heap.size W4)
    refine wp_region_rel [eqS (mapV s M.live M.garb), eqS (.slice (some ⟨pb, 0, none⟩) 2 pc), eqS (.pointer (some ⟨pb, 0, none⟩)), eqS (itV X), mapO (insM M X), eqS (.slice (some ⟨pb, 0, none⟩) 2 pc), eqS (.pointer (some ⟨pb, 4, none⟩)), eqS (itV Y), mapO (insM (insM M X) Y), eqS (mapV s M.live M.garb), eqS (.slice (some ⟨pb, 0, none⟩) 2 pc), eqS (.pointer (some ⟨pb, 4, none⟩)), eqS (itV Y), mapO (insM M Y), eqS (.slice (some ⟨pb, 0, none⟩) 2 pc), eqS (.pointer (some ⟨pb, 0, none⟩)), eqS (itV X), mapO (insM (insM M Y) X), boxS W4.heap.size, boxS W4.heap.size] [18, 19] 121 (by kernel_rfl) (by kernel_rfl) (by rfl) (by kernel_rfl) (fun f => by simp [frm, dstOf, Act.put]; exact rfl) ?_ ?_
    · refine ⟨?_, ?_, ?_, ?_, ?_, ?_, ?_, ?_, ?_, ?_, ?_, ?_, ?_, ?_, ?_, ?_, ?_, ?_, ?_, ?_, trivial⟩
      · intro f w1 hb hd
        clear hd
        dsimp only
        have hx := HXq.out.below (bstep HBc.out hb)
        have c0 := hx.c0
        have c1 := hx.c1
        have c2 := hx.c2
        have c3 := hx.c3
        have c4 := hx.c4
        have c5 := hx.c5
        have c6 := hx.c6
        have c7 := hx.c7
        have c8 := hx.cl
        have c9 := hx.cg
        clear hx
        go_wp2_with fail
        exact ⟨rfl, Below.refl _ _, fun t ht => by injection ht with ht; subst ht; exact ⟨rfl, fun h => by simp at h⟩⟩
      · intro f w1 hb hd
        clear hd
        dsimp only
        go_wp2_with fail
        exact ⟨rfl, Below.refl _ _, fun t ht => by injection ht with ht; subst ht; exact ⟨rfl, fun h => by simp at h⟩⟩
      · intro f w1 hb hd
        have d1 : f 1 = (.slice (some ⟨pb, 0, none⟩) 2 pc) := hd 1 (by kernel_rfl)
        clear hd
        dsimp only
        rw [d1]
        go_wp2_with fail
        exact ⟨rfl, Below.refl _ _, fun t ht => by injection ht with ht; subst ht; exact ⟨rfl, fun h => by simp at h⟩⟩
      · intro f w1 hb hd
        have d2 : f 2 = (.pointer (some ⟨pb, 0, none⟩)) := hd 2 (by kernel_rfl)
        clear hd
        dsimp only
        rw [d2]
        obtain ⟨p0, p1, p2, p3⟩ := HPq.out w1 (bstep HBc.out hb)
        go_wp2_with fail
        exact ⟨rfl, Below.refl _ _, fun t ht => by injection ht with ht; subst ht; exact ⟨rfl, fun h => by simp at h⟩⟩
      · intro f w1 hb hd
        have d0 : f 0 = (mapV s M.live M.garb) := hd 0 (by kernel_rfl)
        have d3 : f 3 = (itV X) := hd 3 (by kernel_rfl)
        clear hd
        dsimp only
        rw [d0]
        rw [d3]
        go_wp2_with fail
        refine (HPu.out (M) hl1 s X w1 (HMq.out w1 (bstep HBc.out hb))).mono ?_; rintro e w9 ⟨⟨s9, rfl, ow9⟩, hb9⟩
        go_wp2_with fail
        exact ⟨rfl, hb9, fun t ht => by injection ht with ht; subst ht; exact ⟨⟨_, rfl, OwnM.mono ow9 (Nat.zero_le _)⟩, fun h => by simp at h⟩⟩
      · intro f w1 hb hd
        clear hd
        dsimp only
        go_wp2_with fail
        exact ⟨rfl, Below.refl _ _, fun t ht => by injection ht with ht; subst ht; exact ⟨rfl, fun h => by simp at h⟩⟩
      · intro f w1 hb hd
        have d5 : f 5 = (.slice (some ⟨pb, 0, none⟩) 2 pc) := hd 5 (by kernel_rfl)
        clear hd
        dsimp only
        rw [d5]
        go_wp2_with fail
        exact ⟨rfl, Below.refl _ _, fun t ht => by injection ht with ht; subst ht; exact ⟨rfl, fun h => by simp at h⟩⟩
      · intro f w1 hb hd
        have d6 : f 6 = (.pointer (some ⟨pb, 4, none⟩)) := hd 6 (by kernel_rfl)
        clear hd
        dsimp only
        rw [d6]
        obtain ⟨p0, p1, p2, p3⟩ := HPr.out w1 (bstep HBc.out hb)
        go_wp2_with fail
        exact ⟨rfl, Below.refl _ _, fun t ht => by injection ht with ht; subst ht; exact ⟨rfl, fun h => by simp at h⟩⟩
      · intro f w1 hb hd
        obtain ⟨s4, d4, r4⟩ := show ∃ s, f 4 = mapV s (insM M X).live (insM M X).garb ∧ OwnM w1 0 s (insM M X).st from hd 4 (by kernel_rfl)
        have d7 : f 7 = (itV Y) := hd 7 (by kernel_rfl)
        clear hd
        dsimp only
        rw [d4]
        rw [d7]
        go_wp2_with fail
        refine (HPu.out (insM M X) hl2 s4 Y w1 r4.rd).mono ?_; rintro e w9 ⟨⟨s9, rfl, ow9⟩, hb9⟩
        go_wp2_with fail
        exact ⟨rfl, hb9, fun t ht => by injection ht with ht; subst ht; exact ⟨⟨_, rfl, OwnM.mono ow9 (Nat.zero_le _)⟩, fun h => by simp at h⟩⟩
      · intro f w1 hb hd
        clear hd
        dsimp only
        have hx := HXq.out.below (bstep HBc.out hb)
        have c0 := hx.c0
        have c1 := hx.c1
        have c2 := hx.c2
        have c3 := hx.c3
        have c4 := hx.c4
        have c5 := hx.c5
        have c6 := hx.c6
        have c7 := hx.c7
        have c8 := hx.cl
        have c9 := hx.cg
        clear hx
        go_wp2_with fail
        exact ⟨rfl, Below.refl _ _, fun t ht => by injection ht with ht; subst ht; exact ⟨rfl, fun h => by simp at h⟩⟩
      · intro f w1 hb hd
        clear hd
        dsimp only
        go_wp2_with fail
        exact ⟨rfl, Below.refl _ _, fun t ht => by injection ht with ht; subst ht; exact ⟨rfl, fun h => by simp at h⟩⟩
      · intro f w1 hb hd
        have d10 : f 10 = (.slice (some ⟨pb, 0, none⟩) 2 pc) := hd 10 (by kernel_rfl)
        clear hd
        dsimp only
        rw [d10]
        go_wp2_with fail
        exact ⟨rfl, Below.refl _ _, fun t ht => by injection ht with ht; subst ht; exact ⟨rfl, fun h => by simp at h⟩⟩
      · intro f w1 hb hd
        have d11 : f 11 = (.pointer (some ⟨pb, 4, none⟩)) := hd 11 (by kernel_rfl)
        clear hd
        dsimp only
        rw [d11]
        obtain ⟨p0, p1, p2, p3⟩ := HPr.out w1 (bstep HBc.out hb)
        go_wp2_with fail
        exact ⟨rfl, Below.refl _ _, fun t ht => by injection ht with ht; subst ht; exact ⟨rfl, fun h => by simp at h⟩⟩
      · intro f w1 hb hd
        have d9 : f 9 = (mapV s M.live M.garb) := hd 9 (by kernel_rfl)
        have d12 : f 12 = (itV Y) := hd 12 (by kernel_rfl)
        clear hd
        dsimp only
        rw [d9]
        rw [d12]
        go_wp2_with fail
        refine (HPu.out (M) hl1 s Y w1 (HMq.out w1 (bstep HBc.out hb))).mono ?_; rintro e w9 ⟨⟨s9, rfl, ow9⟩, hb9⟩
        go_wp2_with fail
        exact ⟨rfl, hb9, fun t ht => by injection ht with ht; subst ht; exact ⟨⟨_, rfl, OwnM.mono ow9 (Nat.zero_le _)⟩, fun h => by simp at h⟩⟩
      · intro f w1 hb hd
        clear hd
        dsimp only
        go_wp2_with fail
        exact ⟨rfl, Below.refl _ _, fun t ht => by injection ht with ht; subst ht; exact ⟨rfl, fun h => by simp at h⟩⟩
      · intro f w1 hb hd
        have d14 : f 14 = (.slice (some ⟨pb, 0, none⟩) 2 pc) := hd 14 (by kernel_rfl)
        clear hd
        dsimp only
        rw [d14]
        go_wp2_with fail
        exact ⟨rfl, Below.refl _ _, fun t ht => by injection ht with ht; subst ht; exact ⟨rfl, fun h => by simp at h⟩⟩
      · intro f w1 hb hd
        have d15 : f 15 = (.pointer (some ⟨pb, 0, none⟩)) := hd 15 (by kernel_rfl)
        clear hd
        dsimp only
        rw [d15]
        obtain ⟨p0, p1, p2, p3⟩ := HPq.out w1 (bstep HBc.out hb)
        go_wp2_with fail
        exact ⟨rfl, Below.refl _ _, fun t ht => by injection ht with ht; subst ht; exact ⟨rfl, fun h => by simp at h⟩⟩
      · intro f w1 hb hd
        obtain ⟨s13, d13, r13⟩ := show ∃ s, f 13 = mapV s (insM M Y).live (insM M Y).garb ∧ OwnM w1 0 s (insM M Y).st from hd 13 (by kernel_rfl)
        have d16 : f 16 = (itV X) := hd 16 (by kernel_rfl)
        clear hd
        dsimp only
        rw [d13]
        rw [d16]
        go_wp2_with fail
        refine (HPu.out (insM M Y) hl3 s13 X w1 r13.rd).mono ?_; rintro e w9 ⟨⟨s9, rfl, ow9⟩, hb9⟩
        go_wp2_with fail
        exact ⟨rfl, hb9, fun t ht => by injection ht with ht; subst ht; exact ⟨⟨_, rfl, OwnM.mono ow9 (Nat.zero_le _)⟩, fun h => by simp at h⟩⟩
      · intro f w1 hb hd
        clear hd
        dsimp only
        have hbs := hb.size
        have hnw := BoxM.new w1 Sl.nil 0 0 37
        have hty := BoxTy.new w1 (mapC Sl.nil 0 0)
        go_wp2_with fail
        exact ⟨rfl, below_map w1 Sl.nil 0 0 37, fun t ht => by injection ht with ht; subst ht; exact ⟨⟨_, rfl, hbs, hnw, hty⟩, fun _ => ⟨Nat.le_refl _, by simp [blk]⟩⟩⟩
      · intro f w1 hb hd
        clear hd
        dsimp only
        have hbs := hb.size
        have hnw := BoxM.new w1 Sl.nil 0 0 37
        have hty := BoxTy.new w1 (mapC Sl.nil 0 0)
        go_wp2_with fail
        exact ⟨rfl, below_map w1 Sl.nil 0 0 37, fun t ht => by injection ht with ht; subst ht; exact ⟨⟨_, rfl, hbs, hnw, hty⟩, fun _ => ⟨Nat.le_refl _, by simp [blk]⟩⟩⟩
    · intro f w5 hb hd hff
      obtain ⟨s8, d8, r8⟩ := show ∃ s, f 8 = mapV s (insM (insM M X) Y).live (insM (insM M X) Y).garb ∧ OwnM w5 0 s (insM (insM M X) Y).st from hd 8 (show 8 < 20 by decide)
      obtain ⟨s17, d17, r17⟩ := show ∃ s, f 17 = mapV s (insM (insM M Y) X).live (insM (insM M Y) X).garb ∧ OwnM w5 0 s (insM (insM M Y) X).st from hd 17 (show 17 < 20 by decide)
      obtain ⟨b18, d18, lo18, bx18, ty18⟩ := show ∃ b, f 18 = .pointer (some ⟨b, 0, none⟩) ∧ W4.heap.size ≤ b ∧ BoxM w5 b Sl.nil 0 0 ∧ BoxTy w5 b from hd 18 (show 18 < 20 by decide)
      obtain ⟨b19, d19, lo19, bx19, ty19⟩ := show ∃ b, f 19 = .pointer (some ⟨b, 0, none⟩) ∧ W4.heap.size ≤ b ∧ BoxM w5 b Sl.nil 0 0 ∧ BoxTy w5 b from hd 19 (show 19 < 20 by decide)
      have hne : b18 ≠ b19 := by
        have h := hff 18 19 (show 18 < 20 by decide) (show 19 < 20 by decide) (by decide) (by simp) (by simp)
        rw [d18, d19] at h
        exact h
      clear hff
      try dsimp only
      rw [d8, d17, d18, d19]
      clear hd d8 d17 d18 d19
      have HXa := Lib.hid bx18
      have HXb := Lib.hid bx19
      have HRa := Lib.hid r8
      have HRb := Lib.hid r17
      have HB5 := Lib.hid hb
      have HN1 := Lib.hid (ty18.ne r8)
      have HN2 := Lib.hid (ty19.ne r8)
      have HN3 := Lib.hid (ty18.ne r17)
      have HN4 := Lib.hid (ty19.ne r17)
      clear bx18 bx19 r8 r17 hb ty18 ty19
      generalize f 0 = g0, f 1 = g1, f 2 = g2, f 3 = g3, f 4 = g4, f 5 = g5, f 6 = g6, f 7 = g7, f 9 = g9, f 10 = g10, f 11 = g11, f 12 = g12, f 13 = g13, f 14 = g14, f 15 = g15, f 16 = g16
      clear f
      have hne2 : b19 ≠ b18 := Ne.symm hne
      have d0 := HXa.out.c0
      have d1 := HXa.out.c1
      have d2 := HXa.out.c2
      have d3 := HXa.out.c3
      have d4 := HXa.out.c4
      have d5 := HXa.out.c5
      have d6 := HXa.out.c6
      have d7 := HXa.out.c7
      have d8 := HXa.out.cl
      have d9 := HXa.out.cg
      have dF := HXa.out.f
      have e0 := HXb.out.c0
      have e1 := HXb.out.c1
      have e2 := HXb.out.c2
      have e3 := HXb.out.c3
      have e4 := HXb.out.c4
      have e5 := HXb.out.c5
      have e6 := HXb.out.c6
      have e7 := HXb.out.c7
      have e8 := HXb.out.cl
      have e9 := HXb.out.cg
      have eF := HXb.out.f
      change wpList _ _ _ (_ :: _ :: []) _ _
      go_upto_region 9 with fail
      change Code.wp _ _ _ _ (putM (putM w5 b18 s8 (insM (insM M X) Y).live (insM (insM M X) Y).garb) b19 s17 (insM (insM M Y) X).live (insM (insM M Y) X).garb)
      obtain ⟨Va, hV⟩ : ∃ V, putM (putM w5 b18 s8 (insM (insM M X) Y).live (insM (insM M X) Y).garb) b19 s17 (insM (insM M Y) X).live (insM (insM M Y) X).garb = V := ⟨_, rfl⟩
      have HAp := Lib.hid (show BoxM Va b18 s8 (insM (insM M X) Y).live (insM (insM M X) Y).garb from hV ▸ (HXa.out.all s8 (insM (insM M X) Y).live (insM (insM M X) Y).garb).putM_ne hne2 s17 (insM (insM M Y) X).live (insM (insM M Y) X).garb)
      have HAq := Lib.hid (show BoxM Va b19 s17 (insM (insM M Y) X).live (insM (insM M Y) X).garb from hV ▸ (HXb.out.putM_ne hne s8 (insM (insM M X) Y).live (insM (insM M X) Y).garb).all s17 (insM (insM M Y) X).live (insM (insM M Y) X).garb)
      have HOp := Lib.hid (show OwnM Va 0 s8 (insM (insM M X) Y).st from hV ▸ (HRa.out.putM_ne HN1.out s8 (insM (insM M X) Y).live (insM (insM M X) Y).garb).putM_ne HN2.out s17 (insM (insM M Y) X).live (insM (insM M Y) X).garb)
      have HOq := Lib.hid (show OwnM Va 0 s17 (insM (insM M Y) X).st from hV ▸ (HRb.out.putM_ne HN3.out s8 (insM (insM M X) Y).live (insM (insM M X) Y).garb).putM_ne HN4.out s17 (insM (insM M Y) X).live (insM (insM M Y) X).garb)
      have HBn := Lib.hid (show Below W4.heap.size W4 Va from hV ▸ putM_below (putM_below HB5.out lo18 s8 (insM (insM M X) Y).live (insM (insM M X) Y).garb) lo19 s17 (insM (insM M Y) X).live (insM (insM M Y) X).garb)
      have HBd := Lib.hid (bstep HBc.out HBn.out)
      rw [hV]
      clear hV d0 d1 d2 d3 d4 d5 d6 d7 d8 d9 dF e0 e1 e2 e3 e4 e5 e6 e7 e8 e9 eF HXa HXb HRa HRb HB5 HN1 HN2 HN3 HN4 HBn HBc
      have HBc := HBd
      clear HBd hne hne2
      generalize s8 = sp at *
      generalize b18 = bp at *
      generalize s17 = sq at *
      generalize b19 = bq at *
      refine wp_region_rel [eqS (mapV s M.live M.garb), eqS (.slice (some ⟨pb, 0, none⟩) 2 pc), eqS (.pointer (some ⟨pb, 0, none⟩)), eqS (itV X), mapO (insM M X), eqS (.slice (some ⟨pb, 0, none⟩) 2 pc), eqS (.pointer (some ⟨pb, 4, none⟩)), eqS (.pointer (some ⟨pb, 4, none⟩)), eqS (.int .u64 Y.key), mapO (delM (insM M X) Y.key), eqS (mapV s M.live M.garb), eqS (.slice (some ⟨pb, 0, none⟩) 2 pc), eqS (.pointer (some ⟨pb, 4, none⟩)), eqS (.pointer (some ⟨pb, 4, none⟩)), eqS (.int .u64 Y.key), mapO (delM M Y.key), eqS (.slice (some ⟨pb, 0, none⟩) 2 pc), eqS (.pointer (some ⟨pb, 0, none⟩)), eqS (itV X), mapO (insM (delM M Y.key) X), boxS Va.heap.size, boxS Va.heap.size] [20, 21] 121 (by kernel_rfl) (by kernel_rfl) (by rfl) (by kernel_rfl) (fun f => by simp [frm, dstOf, Act.put]; exact rfl) ?_ ?_
      · refine ⟨?_, ?_, ?_, ?_, ?_, ?_, ?_, ?_, ?_, ?_, ?_, ?_, ?_, ?_, ?_, ?_, ?_, ?_, ?_, ?_, ?_, ?_, trivial⟩
        · intro f w1 hb hd
          clear hd
          dsimp only
          have hx := HXq.out.below (bstep HBc.out hb)
          have c0 := hx.c0
          have c1 := hx.c1
          have c2 := hx.c2
          have c3 := hx.c3
          have c4 := hx.c4
          have c5 := hx.c5
          have c6 := hx.c6
          have c7 := hx.c7
          have c8 := hx.cl
          have c9 := hx.cg
          clear hx
          go_wp2_with fail
          exact ⟨rfl, Below.refl _ _, fun t ht => by injection ht with ht; subst ht; exact ⟨rfl, fun h => by simp at h⟩⟩
        · intro f w1 hb hd
          clear hd
          dsimp only
          go_wp2_with fail
          exact ⟨rfl, Below.refl _ _, fun t ht => by injection ht with ht; subst ht; exact ⟨rfl, fun h => by simp at h⟩⟩
        · intro f w1 hb hd
          have d1 : f 1 = (.slice (some ⟨pb, 0, none⟩) 2 pc) := hd 1 (by kernel_rfl)
          clear hd
          dsimp only
          rw [d1]
          go_wp2_with fail
          exact ⟨rfl, Below.refl _ _, fun t ht => by injection ht with ht; subst ht; exact ⟨rfl, fun h => by simp at h⟩⟩
        · intro f w1 hb hd
          have d2 : f 2 = (.pointer (some ⟨pb, 0, none⟩)) := hd 2 (by kernel_rfl)
          clear hd
          dsimp only
          rw [d2]
          obtain ⟨p0, p1, p2, p3⟩ := HPq.out w1 (bstep HBc.out hb)
          go_wp2_with fail
          exact ⟨rfl, Below.refl _ _, fun t ht => by injection ht with ht; subst ht; exact ⟨rfl, fun h => by simp at h⟩⟩
        · intro f w1 hb hd
          have d0 : f 0 = (mapV s M.live M.garb) := hd 0 (by kernel_rfl)
          have d3 : f 3 = (itV X) := hd 3 (by kernel_rfl)
          clear hd
          dsimp only
          rw [d0]
          rw [d3]
          go_wp2_with fail
          refine (HPu.out (M) hl1 s X w1 (HMq.out w1 (bstep HBc.out hb))).mono ?_; rintro e w9 ⟨⟨s9, rfl, ow9⟩, hb9⟩
          go_wp2_with fail
          exact ⟨rfl, hb9, fun t ht => by injection ht with ht; subst ht; exact ⟨⟨_, rfl, OwnM.mono ow9 (Nat.zero_le _)⟩, fun h => by simp at h⟩⟩
        · intro f w1 hb hd
          clear hd
          dsimp only
          go_wp2_with fail
          exact ⟨rfl, Below.refl _ _, fun t ht => by injection ht with ht; subst ht; exact ⟨rfl, fun h => by simp at h⟩⟩
        · intro f w1 hb hd
          have d5 : f 5 = (.slice (some ⟨pb, 0, none⟩) 2 pc) := hd 5 (by kernel_rfl)
          clear hd
          dsimp only
          rw [d5]
          go_wp2_with fail
          exact ⟨rfl, Below.refl _ _, fun t ht => by injection ht with ht; subst ht; exact ⟨rfl, fun h => by simp at h⟩⟩
        · intro f w1 hb hd
          have d6 : f 6 = (.pointer (some ⟨pb, 4, none⟩)) := hd 6 (by kernel_rfl)
          clear hd
          dsimp only
          rw [d6]
          go_wp2_with fail
          exact ⟨rfl, Below.refl _ _, fun t ht => by injection ht with ht; subst ht; exact ⟨rfl, fun h => by simp at h⟩⟩
        · intro f w1 hb hd
          have d7 : f 7 = (.pointer (some ⟨pb, 4, none⟩)) := hd 7 (by kernel_rfl)
          clear hd
          dsimp only
          rw [d7]
          obtain ⟨p0, p1, p2, p3⟩ := HPr.out w1 (bstep HBc.out hb)
          go_wp2_with fail
          exact ⟨rfl, Below.refl _ _, fun t ht => by injection ht with ht; subst ht; exact ⟨rfl, fun h => by simp at h⟩⟩
        · intro f w1 hb hd
          obtain ⟨s4, d4, r4⟩ := show ∃ s, f 4 = mapV s (insM M X).live (insM M X).garb ∧ OwnM w1 0 s (insM M X).st from hd 4 (by kernel_rfl)
          have d8 : f 8 = (.int .u64 Y.key) := hd 8 (by kernel_rfl)
          clear hd
          dsimp only
          rw [d4]
          rw [d8]
          go_wp2_with fail
          refine (HDe.out (insM M X) hl2 s4 Y.key w1 r4.rd).mono ?_; rintro e w9 ⟨⟨s9, rfl, ow9⟩, hb9⟩
          go_wp2_with fail
          exact ⟨rfl, hb9, fun t ht => by injection ht with ht; subst ht; exact ⟨⟨_, rfl, OwnM.mono ow9 (Nat.zero_le _)⟩, fun h => by simp at h⟩⟩
        · intro f w1 hb hd
          clear hd
          dsimp only
          have hx := HXq.out.below (bstep HBc.out hb)
          have c0 := hx.c0
          have c1 := hx.c1
          have c2 := hx.c2
          have c3 := hx.c3
          have c4 := hx.c4
          have c5 := hx.c5
          have c6 := hx.c6
          have c7 := hx.c7
          have c8 := hx.cl
          have c9 := hx.cg
          clear hx
          go_wp2_with fail
          exact ⟨rfl, Below.refl _ _, fun t ht => by injection ht with ht; subst ht; exact ⟨rfl, fun h => by simp at h⟩⟩
        · intro f w1 hb hd
          clear hd
          dsimp only
          go_wp2_with fail
          exact ⟨rfl, Below.refl _ _, fun t ht => by injection ht with ht; subst ht; exact ⟨rfl, fun h => by simp at h⟩⟩
        · intro f w1 hb hd
          have d11 : f 11 = (.slice (some ⟨pb, 0, none⟩) 2 pc) := hd 11 (by kernel_rfl)
          clear hd
          dsimp only
          rw [d11]
          go_wp2_with fail
          exact ⟨rfl, Below.refl _ _, fun t ht => by injection ht with ht; subst ht; exact ⟨rfl, fun h => by simp at h⟩⟩
        · intro f w1 hb hd
          have d12 : f 12 = (.pointer (some ⟨pb, 4, none⟩)) := hd 12 (by kernel_rfl)
          clear hd
          dsimp only
          rw [d12]
          go_wp2_with fail
          exact ⟨rfl, Below.refl _ _, fun t ht => by injection ht with ht; subst ht; exact ⟨rfl, fun h => by simp at h⟩⟩
        · intro f w1 hb hd
          have d13 : f 13 = (.pointer (some ⟨pb, 4, none⟩)) := hd 13 (by kernel_rfl)
          clear hd
          dsimp only
          rw [d13]
          obtain ⟨p0, p1, p2, p3⟩ := HPr.out w1 (bstep HBc.out hb)
          go_wp2_with fail
          exact ⟨rfl, Below.refl _ _, fun t ht => by injection ht with ht; subst ht; exact ⟨rfl, fun h => by simp at h⟩⟩
        · intro f w1 hb hd
          have d10 : f 10 = (mapV s M.live M.garb) := hd 10 (by kernel_rfl)
          have d14 : f 14 = (.int .u64 Y.key) := hd 14 (by kernel_rfl)
          clear hd
          dsimp only
          rw [d10]
          rw [d14]
          go_wp2_with fail
          refine (HDe.out (M) hl1 s Y.key w1 (HMq.out w1 (bstep HBc.out hb))).mono ?_; rintro e w9 ⟨⟨s9, rfl, ow9⟩, hb9⟩
          go_wp2_with fail
          exact ⟨rfl, hb9, fun t ht => by injection ht with ht; subst ht; exact ⟨⟨_, rfl, OwnM.mono ow9 (Nat.zero_le _)⟩, fun h => by simp at h⟩⟩
        · intro f w1 hb hd
          clear hd
          dsimp only
          go_wp2_with fail
          exact ⟨rfl, Below.refl _ _, fun t ht => by injection ht with ht; subst ht; exact ⟨rfl, fun h => by simp at h⟩⟩
        · intro f w1 hb hd
          have d16 : f 16 = (.slice (some ⟨pb, 0, none⟩) 2 pc) := hd 16 (by kernel_rfl)
          clear hd
          dsimp only
          rw [d16]
          go_wp2_with fail
          exact ⟨rfl, Below.refl _ _, fun t ht => by injection ht with ht; subst ht; exact ⟨rfl, fun h => by simp at h⟩⟩
        · intro f w1 hb hd
          have d17 : f 17 = (.pointer (some ⟨pb, 0, none⟩)) := hd 17 (by kernel_rfl)
          clear hd
          dsimp only
          rw [d17]
          obtain ⟨p0, p1, p2, p3⟩ := HPq.out w1 (bstep HBc.out hb)
          go_wp2_with fail
          exact ⟨rfl, Below.refl _ _, fun t ht => by injection ht with ht; subst ht; exact ⟨rfl, fun h => by simp at h⟩⟩
        · intro f w1 hb hd
          obtain ⟨s15, d15, r15⟩ := show ∃ s, f 15 = mapV s (delM M Y.key).live (delM M Y.key).garb ∧ OwnM w1 0 s (delM M Y.key).st from hd 15 (by kernel_rfl)
          have d18 : f 18 = (itV X) := hd 18 (by kernel_rfl)
          clear hd
          dsimp only
          rw [d15]
          rw [d18]
          go_wp2_with fail
          refine (HPu.out (delM M Y.key) hl4 s15 X w1 r15.rd).mono ?_; rintro e w9 ⟨⟨s9, rfl, ow9⟩, hb9⟩
          go_wp2_with fail
          exact ⟨rfl, hb9, fun t ht => by injection ht with ht; subst ht; exact ⟨⟨_, rfl, OwnM.mono ow9 (Nat.zero_le _)⟩, fun h => by simp at h⟩⟩
        · intro f w1 hb hd
          clear hd
          dsimp only
          have hbs := hb.size
          have hnw := BoxM.new w1 Sl.nil 0 0 37
          have hty := BoxTy.new w1 (mapC Sl.nil 0 0)
          go_wp2_with fail
          exact ⟨rfl, below_map w1 Sl.nil 0 0 37, fun t ht => by injection ht with ht; subst ht; exact ⟨⟨_, rfl, hbs, hnw, hty⟩, fun _ => ⟨Nat.le_refl _, by simp [blk]⟩⟩⟩
        · intro f w1 hb hd
          clear hd
          dsimp only
          have hbs := hb.size
          have hnw := BoxM.new w1 Sl.nil 0 0 37
          have hty := BoxTy.new w1 (mapC Sl.nil 0 0)
          go_wp2_with fail
          exact ⟨rfl, below_map w1 Sl.nil 0 0 37, fun t ht => by injection ht with ht; subst ht; exact ⟨⟨_, rfl, hbs, hnw, hty⟩, fun _ => ⟨Nat.le_refl _, by simp [blk]⟩⟩⟩
      · intro f w5 hb hd hff
        obtain ⟨s9, d9, r9⟩ := show ∃ s, f 9 = mapV s (delM (insM M X) Y.key).live (delM (insM M X) Y.key).garb ∧ OwnM w5 0 s (delM (insM M X) Y.key).st from hd 9 (show 9 < 22 by decide)
        obtain ⟨s19, d19, r19⟩ := show ∃ s, f 19 = mapV s (insM (delM M Y.key) X).live (insM (delM M Y.key) X).garb ∧ OwnM w5 0 s (insM (delM M Y.key) X).st from hd 19 (show 19 < 22 by decide)
        obtain ⟨b20, d20, lo20, bx20, ty20⟩ := show ∃ b, f 20 = .pointer (some ⟨b, 0, none⟩) ∧ Va.heap.size ≤ b ∧ BoxM w5 b Sl.nil 0 0 ∧ BoxTy w5 b from hd 20 (show 20 < 22 by decide)
        obtain ⟨b21, d21, lo21, bx21, ty21⟩ := show ∃ b, f 21 = .pointer (some ⟨b, 0, none⟩) ∧ Va.heap.size ≤ b ∧ BoxM w5 b Sl.nil 0 0 ∧ BoxTy w5 b from hd 21 (show 21 < 22 by decide)
        have hne : b20 ≠ b21 := by
          have h := hff 20 21 (show 20 < 22 by decide) (show 21 < 22 by decide) (by decide) (by simp) (by simp)
          rw [d20, d21] at h
          exact h
        clear hff
        try dsimp only
        rw [d9, d19, d20, d21]
        clear hd d9 d19 d20 d21
        have HXa := Lib.hid bx20
        have HXb := Lib.hid bx21
        have HRa := Lib.hid r9
        have HRb := Lib.hid r19
        have HB5 := Lib.hid hb
        have HN1 := Lib.hid (ty20.ne r9)
        have HN2 := Lib.hid (ty21.ne r9)
        have HN3 := Lib.hid (ty20.ne r19)
        have HN4 := Lib.hid (ty21.ne r19)
        clear bx20 bx21 r9 r19 hb ty20 ty21
        generalize f 0 = g0, f 1 = g1, f 2 = g2, f 3 = g3, f 4 = g4, f 5 = g5, f 6 = g6, f 7 = g7, f 8 = g8, f 10 = g10, f 11 = g11, f 12 = g12, f 13 = g13, f 14 = g14, f 15 = g15, f 16 = g16, f 17 = g17, f 18 = g18
        clear f
        have hne2 : b21 ≠ b20 := Ne.symm hne
        have d0 := HXa.out.c0
        have d1 := HXa.out.c1
        have d2 := HXa.out.c2
        have d3 := HXa.out.c3
        have d4 := HXa.out.c4
        have d5 := HXa.out.c5
        have d6 := HXa.out.c6
        have d7 := HXa.out.c7
        have d8 := HXa.out.cl
        have d9 := HXa.out.cg
        have dF := HXa.out.f
        have e0 := HXb.out.c0
        have e1 := HXb.out.c1
        have e2 := HXb.out.c2
        have e3 := HXb.out.c3
        have e4 := HXb.out.c4
        have e5 := HXb.out.c5
        have e6 := HXb.out.c6
        have e7 := HXb.out.c7
        have e8 := HXb.out.cl
        have e9 := HXb.out.cg
        have eF := HXb.out.f
        change wpList _ _ _ (_ :: _ :: []) _ _
        go_upto_region 10 with fail
        change Code.wp _ _ _ _ (putM (putM w5 b20 s9 (delM (insM M X) Y.key).live (delM (insM M X) Y.key).garb) b21 s19 (insM (delM M Y.key) X).live (insM (delM M Y.key) X).garb)
        obtain ⟨Vb, hV⟩ : ∃ V, putM (putM w5 b20 s9 (delM (insM M X) Y.key).live (delM (insM M X) Y.key).garb) b21 s19 (insM (delM M Y.key) X).live (insM (delM M Y.key) X).garb = V := ⟨_, rfl⟩
        have HAu := Lib.hid (show BoxM Vb b20 s9 (delM (insM M X) Y.key).live (delM (insM M X) Y.key).garb from hV ▸ (HXa.out.all s9 (delM (insM M X) Y.key).live (delM (insM M X) Y.key).garb).putM_ne hne2 s19 (insM (delM M Y.key) X).live (insM (delM M Y.key) X).garb)
        have HAr := Lib.hid (show BoxM Vb b21 s19 (insM (delM M Y.key) X).live (insM (delM M Y.key) X).garb from hV ▸ (HXb.out.putM_ne hne s9 (delM (insM M X) Y.key).live (delM (insM M X) Y.key).garb).all s19 (insM (delM M Y.key) X).live (insM (delM M Y.key) X).garb)
        have HOu := Lib.hid (show OwnM Vb 0 s9 (delM (insM M X) Y.key).st from hV ▸ (HRa.out.putM_ne HN1.out s9 (delM (insM M X) Y.key).live (delM (insM M X) Y.key).garb).putM_ne HN2.out s19 (insM (delM M Y.key) X).live (insM (delM M Y.key) X).garb)
        have HOr := Lib.hid (show OwnM Vb 0 s19 (insM (delM M Y.key) X).st from hV ▸ (HRb.out.putM_ne HN3.out s9 (delM (insM M X) Y.key).live (delM (insM M X) Y.key).garb).putM_ne HN4.out s19 (insM (delM M Y.key) X).live (insM (delM M Y.key) X).garb)
        have HBn := Lib.hid (show Below Va.heap.size Va Vb from hV ▸ putM_below (putM_below HB5.out lo20 s9 (delM (insM M X) Y.key).live (delM (insM M X) Y.key).garb) lo21 s19 (insM (delM M Y.key) X).live (insM (delM M Y.key) X).garb)
        have HAp2 := Lib.hid (show BoxM Vb bp sp (insM (insM M X) Y).live (insM (insM M X) Y).garb from HAp.out.below HBn.out)
        have HOp2 := Lib.hid (show OwnM Vb 0 sp (insM (insM M X) Y).st from HOp.out.keep HBn.out)
        clear HAp HOp
        have HAq2 := Lib.hid (show BoxM Vb bq sq (insM (insM M Y) X).live (insM (insM M Y) X).garb from HAq.out.below HBn.out)
        have HOq2 := Lib.hid (show OwnM Vb 0 sq (insM (insM M Y) X).st from HOq.out.keep HBn.out)
        clear HAq HOq
        have HBd := Lib.hid (bstep HBc.out HBn.out)
        rw [hV]
        clear hV d0 d1 d2 d3 d4 d5 d6 d7 d8 d9 dF e0 e1 e2 e3 e4 e5 e6 e7 e8 e9 eF HXa HXb HRa HRb HB5 HN1 HN2 HN3 HN4 HBn HBc
        have HBc := HBd
        clear HBd hne hne2
        generalize s9 = su at *
        generalize b20 = bu at *
        generalize s19 = sr at *
        generalize b21 = br at *
        have hk := Hk.out
        have HS1 := Lib.hid (fun W (hb : Below Vb.heap.size Vb W) => sameM_any sp sq (insM (insM M X) Y) (insM (insM M Y) X) W (HOp2.out.rd.below hb) (HOq2.out.rd.below hb))
        have HS2 := Lib.hid (fun W (hb : Below Vb.heap.size Vb W) => sameM_any su sr (delM (insM M X) Y.key) (insM (delM M Y.key) X) W (HOu.out.rd.below hb) (HOr.out.rd.below hb))
        rw [sameM_iff.2 (H1.out hk)] at HS1
        rw [sameM_iff.2 (H2.out hk)] at HS2
        clear H1 H2 H3 HgX HX0 hk
        generalize (insM (insM M X) Y).live = L1 at *
        generalize (insM (insM M X) Y).garb = G1 at *
        generalize (insM (insM M Y) X).live = L2 at *
        generalize (insM (insM M Y) X).garb = G2 at *
        generalize (delM (insM M X) Y.key).live = L3 at *
        generalize (delM (insM M X) Y.key).garb = G3 at *
        generalize (insM (delM M Y.key) X).live = L4 at *
        generalize (insM (delM M Y.key) X).garb = G4 at *
        have HSX := Lib.hid (show ∀ WV, Below Vb.heap.size Vb WV → WV.cell? ⟨bp, 0, none⟩ = some (.slice (sp.a 0) (sp.n 0) (sp.c 0)) ∧ WV.cell? ⟨bp, 1, none⟩ = some (.slice (sp.a 1) (sp.n 1) (sp.c 1)) ∧ WV.cell? ⟨bp, 2, none⟩ = some (.slice (sp.a 2) (sp.n 2) (sp.c 2)) ∧ WV.cell? ⟨bp, 3, none⟩ = some (.slice (sp.a 3) (sp.n 3) (sp.c 3)) ∧ WV.cell? ⟨bp, 4, none⟩ = some (.slice (sp.a 4) (sp.n 4) (sp.c 4)) ∧ WV.cell? ⟨bp, 5, none⟩ = some (.slice (sp.a 5) (sp.n 5) (sp.c 5)) ∧ WV.cell? ⟨bp, 6, none⟩ = some (.slice (sp.a 6) (sp.n 6) (sp.c 6)) ∧ WV.cell? ⟨bp, 7, none⟩ = some (.slice (sp.a 7) (sp.n 7) (sp.c 7)) ∧ WV.cell? ⟨bp, 8, none⟩ = some (.int .i64 L1) ∧ WV.cell? ⟨bp, 9, none⟩ = some (.int .i64 G1) ∧ WV.cell? ⟨bq, 0, none⟩ = some (.slice (sq.a 0) (sq.n 0) (sq.c 0)) ∧ WV.cell? ⟨bq, 1, none⟩ = some (.slice (sq.a 1) (sq.n 1) (sq.c 1)) ∧ WV.cell? ⟨bq, 2, none⟩ = some (.slice (sq.a 2) (sq.n 2) (sq.c 2)) ∧ WV.cell? ⟨bq, 3, none⟩ = some (.slice (sq.a 3) (sq.n 3) (sq.c 3)) ∧ WV.cell? ⟨bq, 4, none⟩ = some (.slice (sq.a 4) (sq.n 4) (sq.c 4)) ∧ WV.cell? ⟨bq, 5, none⟩ = some (.slice (sq.a 5) (sq.n 5) (sq.c 5)) ∧ WV.cell? ⟨bq, 6, none⟩ = some (.slice (sq.a 6) (sq.n 6) (sq.c 6)) ∧ WV.cell? ⟨bq, 7, none⟩ = some (.slice (sq.a 7) (sq.n 7) (sq.c 7)) ∧ WV.cell? ⟨bq, 8, none⟩ = some (.int .i64 L2) ∧ WV.cell? ⟨bq, 9, none⟩ = some (.int .i64 G2) ∧ WV.cell? ⟨bu, 0, none⟩ = some (.slice (su.a 0) (su.n 0) (su.c 0)) ∧ WV.cell? ⟨bu, 1, none⟩ = some (.slice (su.a 1) (su.n 1) (su.c 1)) ∧ WV.cell? ⟨bu, 2, none⟩ = some (.slice (su.a 2) (su.n 2) (su.c 2)) ∧ WV.cell? ⟨bu, 3, none⟩ = some (.slice (su.a 3) (su.n 3) (su.c 3)) ∧ WV.cell? ⟨bu, 4, none⟩ = some (.slice (su.a 4) (su.n 4) (su.c 4)) ∧ WV.cell? ⟨bu, 5, none⟩ = some (.slice (su.a 5) (su.n 5) (su.c 5)) ∧ WV.cell? ⟨bu, 6, none⟩ = some (.slice (su.a 6) (su.n 6) (su.c 6)) ∧ WV.cell? ⟨bu, 7, none⟩ = some (.slice (su.a 7) (su.n 7) (su.c 7)) ∧ WV.cell? ⟨bu, 8, none⟩ = some (.int .i64 L3) ∧ WV.cell? ⟨bu, 9, none⟩ = some (.int .i64 G3) ∧ WV.cell? ⟨br, 0, none⟩ = some (.slice (sr.a 0) (sr.n 0) (sr.c 0)) ∧ WV.cell? ⟨br, 1, none⟩ = some (.slice (sr.a 1) (sr.n 1) (sr.c 1)) ∧ WV.cell? ⟨br, 2, none⟩ = some (.slice (sr.a 2) (sr.n 2) (sr.c 2)) ∧ WV.cell? ⟨br, 3, none⟩ = some (.slice (sr.a 3) (sr.n 3) (sr.c 3)) ∧ WV.cell? ⟨br, 4, none⟩ = some (.slice (sr.a 4) (sr.n 4) (sr.c 4)) ∧ WV.cell? ⟨br, 5, none⟩ = some (.slice (sr.a 5) (sr.n 5) (sr.c 5)) ∧ WV.cell? ⟨br, 6, none⟩ = some (.slice (sr.a 6) (sr.n 6) (sr.c 6)) ∧ WV.cell? ⟨br, 7, none⟩ = some (.slice (sr.a 7) (sr.n 7) (sr.c 7)) ∧ WV.cell? ⟨br, 8, none⟩ = some (.int .i64 L4) ∧ WV.cell? ⟨br, 9, none⟩ = some (.int .i64 G4) from fun WV hb => ⟨(HAp2.out.below hb).c0, (HAp2.out.below hb).c1, (HAp2.out.below hb).c2, (HAp2.out.below hb).c3, (HAp2.out.below hb).c4, (HAp2.out.below hb).c5, (HAp2.out.below hb).c6, (HAp2.out.below hb).c7, (HAp2.out.below hb).cl, (HAp2.out.below hb).cg, (HAq2.out.below hb).c0, (HAq2.out.below hb).c1, (HAq2.out.below hb).c2, (HAq2.out.below hb).c3, (HAq2.out.below hb).c4, (HAq2.out.below hb).c5, (HAq2.out.below hb).c6, (HAq2.out.below hb).c7, (HAq2.out.below hb).cl, (HAq2.out.below hb).cg, (HAu.out.below hb).c0, (HAu.out.below hb).c1, (HAu.out.below hb).c2, (HAu.out.below hb).c3, (HAu.out.below hb).c4, (HAu.out.below hb).c5, (HAu.out.below hb).c6, (HAu.out.below hb).c7, (HAu.out.below hb).cl, (HAu.out.below hb).cg, (HAr.out.below hb).c0, (HAr.out.below hb).c1, (HAr.out.below hb).c2, (HAr.out.below hb).c3, (HAr.out.below hb).c4, (HAr.out.below hb).c5, (HAr.out.below hb).c6, (HAr.out.below hb).c7, (HAr.out.below hb).cl, (HAr.out.below hb).cg⟩)
        go_wp2_with fail
        go_region_held3 (fun w' => w'.cell? ⟨bp, 0, none⟩ = some (.slice (sp.a 0) (sp.n 0) (sp.c 0)) ∧ w'.cell? ⟨bp, 1, none⟩ = some (.slice (sp.a 1) (sp.n 1) (sp.c 1)) ∧ w'.cell? ⟨bp, 2, none⟩ = some (.slice (sp.a 2) (sp.n 2) (sp.c 2)) ∧ w'.cell? ⟨bp, 3, none⟩ = some (.slice (sp.a 3) (sp.n 3) (sp.c 3)) ∧ w'.cell? ⟨bp, 4, none⟩ = some (.slice (sp.a 4) (sp.n 4) (sp.c 4)) ∧ w'.cell? ⟨bp, 5, none⟩ = some (.slice (sp.a 5) (sp.n 5) (sp.c 5)) ∧ w'.cell? ⟨bp, 6, none⟩ = some (.slice (sp.a 6) (sp.n 6) (sp.c 6)) ∧ w'.cell? ⟨bp, 7, none⟩ = some (.slice (sp.a 7) (sp.n 7) (sp.c 7)) ∧ w'.cell? ⟨bp, 8, none⟩ = some (.int .i64 L1) ∧ w'.cell? ⟨bp, 9, none⟩ = some (.int .i64 G1) ∧ w'.cell? ⟨bq, 0, none⟩ = some (.slice (sq.a 0) (sq.n 0) (sq.c 0)) ∧ w'.cell? ⟨bq, 1, none⟩ = some (.slice (sq.a 1) (sq.n 1) (sq.c 1)) ∧ w'.cell? ⟨bq, 2, none⟩ = some (.slice (sq.a 2) (sq.n 2) (sq.c 2)) ∧ w'.cell? ⟨bq, 3, none⟩ = some (.slice (sq.a 3) (sq.n 3) (sq.c 3)) ∧ w'.cell? ⟨bq, 4, none⟩ = some (.slice (sq.a 4) (sq.n 4) (sq.c 4)) ∧ w'.cell? ⟨bq, 5, none⟩ = some (.slice (sq.a 5) (sq.n 5) (sq.c 5)) ∧ w'.cell? ⟨bq, 6, none⟩ = some (.slice (sq.a 6) (sq.n 6) (sq.c 6)) ∧ w'.cell? ⟨bq, 7, none⟩ = some (.slice (sq.a 7) (sq.n 7) (sq.c 7)) ∧ w'.cell? ⟨bq, 8, none⟩ = some (.int .i64 L2) ∧ w'.cell? ⟨bq, 9, none⟩ = some (.int .i64 G2) ∧ w'.cell? ⟨bu, 0, none⟩ = some (.slice (su.a 0) (su.n 0) (su.c 0)) ∧ w'.cell? ⟨bu, 1, none⟩ = some (.slice (su.a 1) (su.n 1) (su.c 1)) ∧ w'.cell? ⟨bu, 2, none⟩ = some (.slice (su.a 2) (su.n 2) (su.c 2)) ∧ w'.cell? ⟨bu, 3, none⟩ = some (.slice (su.a 3) (su.n 3) (su.c 3)) ∧ w'.cell? ⟨bu, 4, none⟩ = some (.slice (su.a 4) (su.n 4) (su.c 4)) ∧ w'.cell? ⟨bu, 5, none⟩ = some (.slice (su.a 5) (su.n 5) (su.c 5)) ∧ w'.cell? ⟨bu, 6, none⟩ = some (.slice (su.a 6) (su.n 6) (su.c 6)) ∧ w'.cell? ⟨bu, 7, none⟩ = some (.slice (su.a 7) (su.n 7) (su.c 7)) ∧ w'.cell? ⟨bu, 8, none⟩ = some (.int .i64 L3) ∧ w'.cell? ⟨bu, 9, none⟩ = some (.int .i64 G3) ∧ w'.cell? ⟨br, 0, none⟩ = some (.slice (sr.a 0) (sr.n 0) (sr.c 0)) ∧ w'.cell? ⟨br, 1, none⟩ = some (.slice (sr.a 1) (sr.n 1) (sr.c 1)) ∧ w'.cell? ⟨br, 2, none⟩ = some (.slice (sr.a 2) (sr.n 2) (sr.c 2)) ∧ w'.cell? ⟨br, 3, none⟩ = some (.slice (sr.a 3) (sr.n 3) (sr.c 3)) ∧ w'.cell? ⟨br, 4, none⟩ = some (.slice (sr.a 4) (sr.n 4) (sr.c 4)) ∧ w'.cell? ⟨br, 5, none⟩ = some (.slice (sr.a 5) (sr.n 5) (sr.c 5)) ∧ w'.cell? ⟨br, 6, none⟩ = some (.slice (sr.a 6) (sr.n 6) (sr.c 6)) ∧ w'.cell? ⟨br, 7, none⟩ = some (.slice (sr.a 7) (sr.n 7) (sr.c 7)) ∧ w'.cell? ⟨br, 8, none⟩ = some (.int .i64 L4) ∧ w'.cell? ⟨br, 9, none⟩ = some (.int .i64 G4))
          (first | with_reducible exact HSX.out _ (bstep (bstep (bstep (bstep (bstep (bstep (bstep (Below.refl _ _).drew hba) hbb) hbc) hbd) hbe) hbf) hbg) | with_reducible exact HSX.out _ (bstep (bstep (bstep (bstep (bstep (bstep (Below.refl _ _).drew hba) hbb) hbc) hbd) hbe) hbf) | with_reducible exact HSX.out _ (bstep (bstep (bstep (bstep (bstep (Below.refl _ _).drew hba) hbb) hbc) hbd) hbe) | with_reducible exact HSX.out _ (bstep (bstep (bstep (bstep (Below.refl _ _).drew hba) hbb) hbc) hbd) | with_reducible exact HSX.out _ (bstep (bstep (bstep (Below.refl _ _).drew hba) hbb) hbc) | with_reducible exact HSX.out _ (bstep (bstep (Below.refl _ _).drew hba) hbb) | with_reducible exact HSX.out _ (bstep (Below.refl _ _).drew hba) | exact HSX.out _ (Below.refl _ _).drew)
          (first | (go_at_call 14; (with_reducible refine (told_any sp L1 G1 _).mono ?_); rintro e wa ⟨rfl, hba⟩) | (go_at_call 14; (with_reducible refine (told_any sq L2 G2 _).mono ?_); rintro e wb ⟨rfl, hbb⟩) | (go_at_call 13; (with_reducible refine (HS1.out _ (bstep (bstep (Below.refl _ _).drew hba) hbb)).mono ?_); rintro e wc ⟨rfl, hbc⟩) | (go_at_call 14; (with_reducible refine (told_any su L3 G3 _).mono ?_); rintro e wd ⟨rfl, hbd⟩) | (go_at_call 14; (with_reducible refine (told_any sr L4 G4 _).mono ?_); rintro e we ⟨rfl, hbe⟩) | (go_at_call 13; (with_reducible refine (HS2.out _ (bstep (bstep (bstep (bstep (bstep (Below.refl _ _).drew hba) hbb) hbc) hbd) hbe)).mono ?_); rintro e wf ⟨rfl, hbf⟩) | (go_at_call 10; (with_reducible refine (HAw.out _).mono ?_); rintro e wg ⟨rfl, hbg⟩))
        rename_i hHeld
        clear hHeld
        have HBz := Lib.hid (bstep HBq.out (bstep HBc.out (bstep (bstep (bstep (bstep (bstep (bstep (bstep (Below.refl _ _).drew hba) hbb) hbc) hbd) hbe) hbf) hbg)))
        clear hba hbb hbc hbd hbe hbf hbg
        go_wp2_with fail
        go_ret
        exact ⟨rfl, HBz.out⟩
end Go.Proofs.Ytndhjfmdfcpceaa

namespace Go.Proofs.Ytndhjfmdfcpceaa
open Go.RowKit Go.ChangeShapes Go.WideShapes Go.Deep

theorem open_itemv {H : Type} {enc : TypeId × Value → H} {w : World} {cs : Array Value} {d : DataW H} {p : List MemPlace} (h : DataW.Trod enc Try.prog w 0 (fun _ => true) true 29 (.agg cs) d p) : ∃ y : It, cs = #[.int .u64 y.key, .int .u32 y.ck, .int .i64 y.off, .int .i64 y.size] ∧ y.Wf := by
  obtain ⟨fuel, hf⟩ := h
  obtain ⟨y, hy, hw⟩ := open_item hf
  have hy : cs.toList = itC y := hy
  exact ⟨y, by rw [← Array.toArray_toList (xs := cs), hy]; rfl, hw⟩
end Go.Proofs.Ytndhjfmdfcpceaa

namespace Go.Proofs.Ytndhjfmdfcpceaa
open Go.RowKit

theorem order_open (a : Option Addr) (n cap : Nat) (x y : It) (w : World) (h : ∃ l, RdT w (.slice a n cap) l ∧ ∀ x ∈ l, x.Wf) (_hx : x.Wf) (_hy : y.Wf) :
    Calls Try.prog 7 #[.slice a n cap, .agg #[.int .u64 x.key, .int .u32 x.ck, .int .i64 x.off, .int .i64 x.size], .agg #[.int .u64 y.key, .int .u32 y.ck, .int .i64 y.off, .int .i64 y.size]] w fun e w' => e = .returned (.bool true) ∧ Below w.heap.size w w' := by
  obtain ⟨l, hl, _⟩ := h
  exact order_walk _ x y l w hl
end Go.Proofs.Ytndhjfmdfcpceaa
