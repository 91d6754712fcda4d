/- A region that draws its order, by what each operation leaves, where one operation of the head may come behind the first of the tail: `x, e := f(..)` where x is a cell: the second extract may come behind the store. -/
import Derived.Test.YtkabcpmnbjllcaaDoorRl
namespace Go.Proofs.YtkabcpmnbjllcaaDoor
open Go Go.RowKit

section
variable {P : Program} {ops : Array Oper} {md : Region.Mode}
/-- Number k is the late one: everything else of the head is waited for by the tail. -/
def lateB (md : Region.Mode) (ops : Array Oper) (n k : Nat) : Bool :=
  decide (n < ops.size) && decide (k < n) &&
  ((List.range n).all fun i => decide (i = k) || (List.range (n + 1)).any fun j => decide (i < j) && decide (j ≠ k) && Region.waitsFor md ops j i) && Region.chainB md ops n &&
  ((List.range n).all fun i => ((ops[i]?).map fun o => o.dst.isSome && o.after.all fun e => !Region.binds md e || decide (e.on < i)).getD false) &&
  ((List.range n).all fun i => (List.range n).all fun j => decide (i = j) || decide (dstOf ops i ≠ dstOf ops j)) &&
  Region.seqB md ops (ops.size - n) n ((List.range ops.size).map fun j => decide (j < n)).toArray &&
  decide (Region.ready md ops ((List.range ops.size).map fun j => decide (j ≤ n ∧ j ≠ k)).toArray = [k]) &&
  Region.seqB md ops (ops.size - (n + 1)) (n + 1) ((List.range ops.size).map fun j => decide (j ≤ n)).toArray
theorem late_last {n t : Nat} {listed : Array Bool} {ot : Oper} (hc : Region.chainB md ops n = true) (inv : HeadInv md ops n listed) (ht : n ≤ t) (htn : t ≠ n) (hot : ops[t]? = some ot)
    (hall : ∀ e ∈ ot.after, Region.binds md e = true → listed.getD e.on false = true) (htlt : t < ops.size) : False := by
  have h1 := List.all_eq_true.1 hc t (List.mem_range.2 htlt)
  simp only [Bool.or_eq_true, decide_eq_true_eq] at h1
  rcases h1 with h1 | h1
  · omega
  · obtain ⟨o', ho', e, he, hb, hon⟩ := Region.waitsFor_spec h1
    have : o' = ot := Option.some.inj (ho'.symm.trans hot)
    subst this
    have h2 := hall e he hb
    rw [hon, getD_both (inv.tail (t - 1) (by omega) (by omega))] at h2
    cases h2
theorem late_waits {n k : Nat} {listed : Array Bool} (hs : ∀ i, i < n → i ≠ k → ∃ j, j ≤ n ∧ i < j ∧ j ≠ k ∧ Region.waitsFor md ops j i = true) (hc : Region.chainB md ops n = true) (hn : n < ops.size) (inv : HeadInv md ops n listed) :
    ∀ (d i : Nat), n - i = d → i < n → i ≠ k → listed.getD i true = false → ∀ t, n ≤ t → t ∉ Region.ready md ops listed := by
  intro d
  induction d using Nat.strongRecOn with
  | _ d ih =>
    intro i hd hi hik hun t ht hr
    obtain ⟨_, ot, hot, hall⟩ := mem_ready.1 hr
    have htlt : t < ops.size := (Array.getElem?_eq_some_iff.1 hot).1
    by_cases htn : t = n
    · subst htn
      obtain ⟨j, hjle, hij, hjk, hw⟩ := hs i hi hik
      obtain ⟨oj, hoj, e, he, hb, hon⟩ := Region.waitsFor_spec hw
      by_cases hjt : j = t
      · subst hjt
        have : oj = ot := Option.some.inj (hoj.symm.trans hot)
        subst this
        have h2 := hall e he hb
        rw [hon, getD_both hun] at h2
        cases h2
      · cases hl : listed.getD j false with
        | true =>
          have h2 := inv.closed j oj hoj hl e he hb
          rw [hon, getD_both hun] at h2
          cases h2
        | false =>
          have hjs : j < listed.size := by rw [inv.size]; omega
          exact ih (t - j) (by omega) j rfl (by omega) hjk (getD_in hjs hl) t (Nat.le_refl _) hr
    · exact late_last hc inv ht htn hot hall htlt
variable {Q : Exit → Act → World → Prop}
theorem late_any {n k : Nat} {a0 : Act} {w0 : World} {Φ : Nat → Value → World → Prop} {F : Nat → Prop} {l : List Oper} {on ok : Oper} (hl : ops = l.toArray) (hB : lateB md ops n k = true) (hon : ops[n]? = some on) (hok : ops[k]? = some ok) (hkF : ¬ F k) (hN : ∀ i, i < n → ∀ t, dstOf ops i = some t → t < a0.tmps.size)
    (mono : ∀ j, j < n → ∀ v w1 w2, Below w1.heap.size w1 w2 → Φ j v w1 → Φ j v w2)
    (head : ∀ i o, i < n → ops[i]? = some o → ∀ f w1, Below w0.heap.size w0 w1 → (∀ e ∈ o.after, Region.binds md e = true → Φ e.on (f e.on) w1) →
      wpList P ops (Exit.then (RelPost (Φ i) (F i) (frm ops a0 f n).defers o.dst w1) Q) [o] (frm ops a0 f n) w1)
    (tail : ∀ f w1, Below w0.heap.size w0 w1 → (∀ j, j < n → Φ j (f j) w1) → (∀ j k, j < n → k < n → j ≠ k → F j → F k → blk (f j) ≠ blk (f k)) → wpList P ops Q (l.drop n) (frm ops a0 f n) w1)
    (tail2 : ∀ f w1, Below w0.heap.size w0 w1 → (∀ j, j < n → j ≠ k → Φ j (f j) w1) → (∀ j k, j < n → k < n → j ≠ k → F j → F k → blk (f j) ≠ blk (f k)) → wpList P ops Q (on :: ok :: l.drop (n + 1)) (frm ops a0 f n) w1) :
    ∀ (fuel : Nat) (T : List Nat) (s : Array Bool) (f : Nat → Value) (w : World), T.Nodup → T.length = fuel → (∀ j, j < n → (s.getD j false = false ↔ j ∈ T)) → (∀ j ∈ T, j < n) → HeadInv md ops n s → Below w0.heap.size w0 w →
      (∀ j, j < n → s.getD j false = true → Φ j (f j) w) → (∀ j, j < n → s.getD j false = true → F j → blk (f j) < w.heap.size) →
      (∀ j k, j < n → k < n → j ≠ k → s.getD j false = true → s.getD k false = true → F j → F k → blk (f j) ≠ blk (f k)) → wpAny P md ops Q (fuel + (ops.size - n)) s (frm ops a0 f n) w := by
  simp only [lateB, Bool.and_eq_true, decide_eq_true_eq] at hB
  obtain ⟨⟨⟨⟨⟨⟨⟨⟨hn, hkn⟩, hs0⟩, hc⟩, hfw⟩, hdd⟩, hsq⟩, hrk⟩, hsq2⟩ := hB
  have hs : ∀ i, i < n → i ≠ k → ∃ j, j ≤ n ∧ i < j ∧ j ≠ k ∧ Region.waitsFor md ops j i = true := fun i hi hik => by
    have h1 := List.all_eq_true.1 hs0 i (List.mem_range.2 hi)
    rw [Bool.or_eq_true, decide_eq_true_eq] at h1
    rcases h1 with h1 | h1
    · exact absurd h1 hik
    · obtain ⟨j, hj, h2⟩ := List.any_eq_true.1 h1
      simp only [Bool.and_eq_true, decide_eq_true_eq] at h2
      exact ⟨j, by have := List.mem_range.1 hj; omega, h2.1.1, h2.1.2, h2.2⟩
  have hfw' : ∀ i o, i < n → ops[i]? = some o → o.dst.isSome = true ∧ ∀ e ∈ o.after, Region.binds md e = true → e.on < i := fun i o hi ho => by
    have := List.all_eq_true.1 hfw i (List.mem_range.2 hi)
    rw [ho] at this
    simp only [Option.map_some, Option.getD_some, Bool.and_eq_true] at this
    refine ⟨this.1, fun e he hb => ?_⟩
    have h2 := Array.all_eq_true_iff_forall_mem.1 this.2 e he
    rw [hb] at h2
    simpa using h2
  have hdd' : ∀ i j, i < n → j < n → i ≠ j → dstOf ops i ≠ dstOf ops j := fun i j hi hj hij => by
    have := List.all_eq_true.1 (List.all_eq_true.1 hdd i (List.mem_range.2 hi)) j (List.mem_range.2 hj)
    simpa [hij] using this
  intro fuel
  induction fuel with
  | zero =>
    intro T s f w hT hlen hsT hTn inv hb hΦ hF hFF
    have hT0 : T = [] := List.length_eq_zero_iff.1 hlen
    subst hT0
    have hall : ∀ j, j < n → s.getD j false = true := fun j hj => by
      cases h : s.getD j false with
      | true => rfl
      | false => exact absurd ((hsT j hj).1 h) (by simp)
    have hse : s = ((List.range ops.size).map fun j => decide (j < n)).toArray := by
      apply Array.ext
      · simp [inv.size]
      · intro j h1 h2
        have hjs : j < ops.size := by rw [← inv.size]; exact h1
        simp only [List.getElem_toArray, List.getElem_map, List.getElem_range]
        by_cases e : j < n
        · have := hall j e
          rw [Array.getD_eq_getD_getElem?, Array.getElem?_eq_getElem h1] at this
          simp only [Option.getD_some] at this
          rw [this]; simp [e]
        · have := inv.tail j (by omega) hjs
          rw [Array.getD_eq_getD_getElem?, Array.getElem?_eq_getElem h1] at this
          simp only [Option.getD_some] at this
          rw [this]; simp [e]
    rw [Nat.zero_add]
    have hdl : (l.drop n).length = ops.size - n := by rw [hl]; simp
    have h3 := wpAny_of_seq (P := P) (md := md) (ops := ops) (Q' := Q) (l.drop n) n s (frm ops a0 f n) w (fun j => by rw [hl]; simp [List.getElem?_drop]) (by rw [hdl, hse]; exact hsq) (tail f w hb (fun j hj => hΦ j hj (hall j hj)) fun j k hj hk hjk => hFF j k hj hk hjk (hall j hj) (hall k hk))
    rwa [hdl] at h3
  | succ fuel ih =>
    intro T s f w hT hlen hsT hTn inv hb hΦ hF hFF
    have hTne : T ≠ [] := fun e => by rw [e] at hlen; cases hlen
    obtain ⟨m, hm, hle⟩ := least_of hTne
    have hmn := hTn m hm
    have hun : s.getD m false = false := (hsT m hmn).2 hm
    have hms : m < s.size := by rw [inv.size]; omega
    obtain ⟨om, hom⟩ : ∃ o, ops[m]? = some o := ⟨_, Array.getElem?_eq_getElem (by omega)⟩
    have hready : m ∈ Region.ready md ops s := mem_ready.2 ⟨getD_in hms hun, om, hom, fun e he hbnd => by
      have h1 := (hfw' m om hmn hom).2 e he hbnd
      cases h2 : s.getD e.on false with
      | true => rfl
      | false =>
        have := hle _ ((hsT e.on (by omega)).1 h2)
        omega⟩
    rw [show fuel + 1 + (ops.size - n) = (fuel + (ops.size - n)) + 1 by omega]
    refine ⟨fun e => absurd hready (by rw [e]; simp), fun i hi => ?_⟩
    obtain ⟨hiu, oi, hoi, hdeps⟩ := mem_ready.1 hi
    by_cases hin0 : n ≤ i
    · -- the late one alone is left, and the tail's first comes ahead of it
      have his : i < ops.size := (Array.getElem?_eq_some_iff.1 hoi).1
      have hine : i = n := Classical.byContradiction fun e => late_last hc inv hin0 e hoi hdeps his
      subst hine
      have hallk : ∀ j, j < i → j ≠ k → s.getD j false = true := fun j hj hjk => by
        cases h : s.getD j false with
        | true => rfl
        | false => exact absurd hi (late_waits hs hc hn inv _ j rfl hj hjk (getD_in (by rw [inv.size]; omega) h) i (Nat.le_refl _))
      have hku : s.getD k false = false := by
        cases h : s.getD k false with
        | false => rfl
        | true =>
          have : s.getD m false = true := by
            by_cases e : m = k
            · rw [e]; exact h
            · exact hallk m hmn e
          rw [this] at hun; cases hun
      have hf0 : fuel = 0 := by
        have h1 : ∀ j ∈ T, j = k := fun j hj => by
          refine Classical.byContradiction fun e => ?_
          have h2 := (hsT j (hTn j hj)).2 hj
          rw [hallk j (hTn j hj) e] at h2
          cases h2
        match T, hT, hlen, h1 with
        | [x], _, hlen, _ => simpa using hlen.symm
        | x :: y :: r, hT, _, h1 =>
          have e1 := h1 x (by simp)
          have e2 := h1 y (by simp)
          rw [e1, e2] at hT
          simp at hT
      subst hf0
      have hss : s.setIfInBounds i true = ((List.range ops.size).map fun j => decide (j ≤ i ∧ j ≠ k)).toArray := by
        apply Array.ext
        · simp [inv.size]
        · intro j h1 h2
          have hjs : j < ops.size := by simpa [inv.size] using h1
          have hjs2 : j < s.size := by rw [inv.size]; exact hjs
          simp only [List.getElem_toArray, List.getElem_map, List.getElem_range]
          rw [Array.getElem_setIfInBounds hjs2]
          by_cases e : i = j
          · rw [if_pos e]; simp only [← e]; simp; omega
          · rw [if_neg e]
            by_cases e2 : j < i
            · by_cases e3 : j = k
              · have hkk := hku
                rw [← e3, Array.getD_eq_getD_getElem?, Array.getElem?_eq_getElem hjs2] at hkk
                simp only [Option.getD_some] at hkk
                rw [hkk]; simp [e3]
              · have := hallk j e2 e3
                rw [Array.getD_eq_getD_getElem?, Array.getElem?_eq_getElem hjs2] at this
                simp only [Option.getD_some] at this
                rw [this]; simp [e3]; omega
            · have := inv.tail j (by omega) hjs
              rw [Array.getD_eq_getD_getElem?, Array.getElem?_eq_getElem hjs2] at this
              simp only [Option.getD_some] at this
              rw [this]; simp; omega
      have hss2 : (s.setIfInBounds i true).setIfInBounds k true = ((List.range ops.size).map fun j => decide (j ≤ i)).toArray := by
        rw [hss]
        apply Array.ext
        · simp
        · intro j h1 h2
          have hjs : j < ops.size := by simpa using h1
          rw [Array.getElem_setIfInBounds (by simpa using h1)]
          simp only [List.getElem_toArray, List.getElem_map, List.getElem_range]
          by_cases e : k = j
          · rw [if_pos e]; subst e; simp; omega
          · rw [if_neg e]
            have e' : ¬ j = k := fun e2 => e e2.symm
            simp [e']
      have ht2 := tail2 f w hb (fun j hj hjk => hΦ j hj (hallk j hj hjk)) fun j k' hj hk' hjk hFj hFk => by
        have a1 : j ≠ k := fun e => hkF (e ▸ hFj)
        have a2 : k' ≠ k := fun e => hkF (e ▸ hFk)
        exact hFF j k' hj hk' hjk (hallk j hj a1) (hallk k' hk' a2) hFj hFk
      have hw1 : wpOp P ops Q i (wpList P ops Q (ok :: l.drop (i + 1))) (frm ops a0 f i) w := by unfold wpOp; simp only [hon]; exact ht2
      have hg : 0 + (ops.size - i) = (ops.size - (i + 1)) + 1 := by omega
      rw [hg]
      refine wpOp_mono (fun a' w' h' => ?_) hw1
      refine ⟨fun e => ?_, fun j hj => ?_⟩
      · rw [hss, hrk] at e; cases e
      · rw [hss, hrk] at hj
        have hjk : j = k := by simpa using hj
        subst hjk
        have hw2 : wpOp P ops Q j (wpList P ops Q (l.drop (i + 1))) a' w' := by unfold wpOp; simp only [hok]; exact h'
        refine wpOp_mono (fun a'' w'' h'' => ?_) hw2
        rw [hss2]
        have hdl : (l.drop (i + 1)).length = ops.size - (i + 1) := by rw [hl]; simp
        have h3 := wpAny_of_seq (P := P) (md := md) (ops := ops) (Q' := Q) (l.drop (i + 1)) (i + 1) _ a'' w'' (fun j => by rw [hl]; simp [List.getElem?_drop]) (by rw [hdl]; exact hsq2) h''
        rwa [hdl] at h3
    have hin : i < n := Nat.lt_of_not_le hin0
    have hiT : i ∈ T := (hsT i hin).1 (getD_both hiu)
    have hfi := hfw' i oi hin hoi
    have hdo : dstOf ops i = oi.dst := by unfold dstOf; rw [hoi]; rfl
    unfold wpOp
    rw [hoi]
    simp only []
    have hh := head i oi hin hoi f w hb fun e he hbnd => hΦ e.on (by have := hfi.2 e he hbnd; omega) (hdeps e he hbnd)
    refine rel_one hh (fun v w' hR => ?_) (fun d v w' hR => ?_)
    · obtain ⟨_, hbw, hv⟩ := hR
      have hval : ∀ i, i < n → oi.dst.isSome = true → dstOf ops i = oi.dst → (∀ t, oi.dst = some t → Φ i (((frm ops a0 f n).put oi.dst v).tmps.getD t undef) w' ∧ (F i → w.heap.size ≤ blk (((frm ops a0 f n).put oi.dst v).tmps.getD t undef) ∧ blk (((frm ops a0 f n).put oi.dst v).tmps.getD t undef) < w'.heap.size)) → Φ i v w' ∧ (F i → w.heap.size ≤ blk v ∧ blk v < w'.heap.size) := fun i hi h1 hdo h => by
        obtain ⟨t, ht⟩ := Option.isSome_iff_exists.1 h1
        have h4 := h t ht
        have h5 : t < (frm ops a0 f n).tmps.size := by rw [frm_size]; exact hN i hi t (by rw [hdo, ht])
        rw [ht] at h4
        simpa [Act.put, h5] using h4
      rw [← hdo, frm_put ops a0 f i v n hin fun j hj hji => .inr (hdd' i j hin hj (Ne.symm hji))]
      refine ih (T.erase i) _ _ w' (hT.erase i) (by rw [List.length_erase_of_mem hiT]; omega) (fun j hj => ?_) (fun j hj => hTn j (List.mem_of_mem_erase hj)) (inv.set hi hin) (bstep hb hbw) (fun j hj hjs => ?_) (fun j hj hjs hFj => ?_) (fun j k hj hk hjk hjs hks hFj hFk => ?_)
      · rw [hT.mem_erase_iff]
        by_cases e : j = i
        · subst e
          have hjs : j < s.size := by rw [inv.size]; omega
          simp [Array.getD_eq_getD_getElem?, hjs]
        · rw [getD_set_ne false (Ne.symm e), hsT j hj]
          simp [e]
      · by_cases e : j = i
        · subst e
          have : updF f j v j = v := if_pos rfl
          rw [this]
          exact (hval j hj hfi.1 hdo hv).1
        · have : updF f i v j = f j := if_neg e
          rw [this]
          rw [getD_set_ne false (Ne.symm e)] at hjs
          exact mono j hj _ _ _ hbw (hΦ j hj hjs)
      · by_cases e : j = i
        · subst e
          have : updF f j v j = v := if_pos rfl
          rw [this]
          exact ((hval j hj hfi.1 hdo hv).2 hFj).2
        · have : updF f i v j = f j := if_neg e
          rw [this]
          rw [getD_set_ne false (Ne.symm e)] at hjs
          exact Nat.lt_of_lt_of_le (hF j hj hjs hFj) hbw.size
      · by_cases e : j = i
        · subst e
          have e1 : updF f j v j = v := if_pos rfl
          have e2 : updF f j v k = f k := if_neg (Ne.symm hjk)
          rw [e1, e2]
          rw [getD_set_ne false hjk] at hks
          have h1 := ((hval j hj hfi.1 hdo hv).2 hFj).1
          have h2 := hF k hk hks hFk
          omega
        · have e1 : updF f i v j = f j := if_neg e
          rw [e1]
          rw [getD_set_ne false (Ne.symm e)] at hjs
          by_cases e3 : k = i
          · subst e3
            have e2 : updF f k v k = v := if_pos rfl
            rw [e2]
            have h1 := ((hval k hk hfi.1 hdo hv).2 hFk).1
            have h2 := hF j hj hjs hFj
            omega
          · have e2 : updF f i v k = f k := if_neg e3
            rw [e2]
            rw [getD_set_ne false (Ne.symm e3)] at hks
            exact hFF j k hj hk hjk hjs hks hFj hFk
    · have h1 := hR.1
      have h2 := congrArg List.length h1
      cases hod : oi.dst <;> simp [Act.put, hod] at h2
theorem wp_region_late {id : Nat} {a0 : Act} {w : World} {l : List Oper} (L : List Sta) (F : List Nat) (N k : Nat) {on ok : Oper} (hm : P.follows .mixedOrders = true) (hB : lateB .any l.toArray L.length k = true) (hon : l.toArray[L.length]? = some on) (hok : l.toArray[k]? = some ok) (hkF : k ∉ F)
    (hsz : a0.tmps.size = N) (hN : dstLtB l.toArray L.length N = true) {fr : (Nat → Value) → Act} (hfr : ∀ f, frm l.toArray a0 f L.length = fr f)
    (head : HeadL P Q l.toArray L F fr w l L 0)
    (tail : ∀ f w1, Below w.heap.size w w1 → (∀ j, j < L.length → (stA L j).p (f j) w1) → (∀ j k, j < L.length → k < L.length → j ≠ k → j ∈ F → k ∈ F → blk (f j) ≠ blk (f k)) → wpList P l.toArray Q (l.drop L.length) (fr f) w1)
    (tail2 : ∀ f w1, Below w.heap.size w w1 → (∀ j, j < L.length → j ≠ k → (stA L j).p (f j) w1) → (∀ j k, j < L.length → k < L.length → j ≠ k → j ∈ F → k ∈ F → blk (f j) ≠ blk (f k)) → wpList P l.toArray Q (on :: ok :: l.drop (L.length + 1)) (fr f) w1) : (Code.region id l.toArray true).wp P Q a0 w := by
  have hn : L.length < l.toArray.size := by
    simp only [lateB, Bool.and_eq_true, decide_eq_true_eq] at hB
    exact hB.1.1.1.1.1.1.1.1
  refine wp_region_any hm ?_
  have h := late_any (k := k) (md := .any) (Q := Q) (P := P) (n := L.length) (a0 := a0) (w0 := w) (Φ := fun j => (stA L j).p) (F := fun j => j ∈ F) rfl hB hon hok hkF
    (fun i hi t ht => by
      have h1 := List.all_eq_true.1 hN i (List.mem_range.2 hi)
      rw [ht] at h1
      rw [hsz]
      simpa using h1)
    (fun j _ v w1 w2 hb h => (stA L j).m v w1 w2 hb h)
    (fun i o hi ho f w1 hb hd => by
      rw [hfr]
      have hS : L[i]? = some (stA L i) := by
        unfold stA
        rw [List.getD_eq_getElem?_getD, List.getElem?_eq_getElem hi]; rfl
      have h2 := headL_at l L 0 head i o (stA L i) (by simpa using ho) hS f w1 hb (fun j hj => by
        unfold depB at hj
        obtain ⟨e, he, h3⟩ := Array.any_eq_true'.1 hj
        simp only [Bool.and_eq_true, beq_iff_eq] at h3
        rw [← h3.2]
        exact hd e he h3.1)
      rwa [Nat.zero_add] at h2)
    (fun f w1 hb hΦ hFF => by rw [hfr]; exact tail f w1 hb hΦ hFF)
    (fun f w1 hb hΦ hFF => by rw [hfr]; exact tail2 f w1 hb hΦ hFF)
    L.length (List.range L.length) (Array.replicate l.toArray.size false) (fun j => match dstOf l.toArray j with | some d => a0.tmps.getD d undef | none => undef) w.drew
    List.nodup_range (by simp) (fun j hj => by rw [getD_replicate_false]; simp [hj]) (fun j hj => by simpa using hj)
    ⟨by simp, fun j oj _ hl => (by rw [getD_replicate_false] at hl; cases hl), fun t _ ht => getD_in (by simpa using ht) (getD_replicate_false _ _)⟩
    (below_drew (Below.refl _ _)) (fun j _ hl => by rw [getD_replicate_false] at hl; cases hl) (fun j _ hl => by rw [getD_replicate_false] at hl; cases hl) (fun j k _ _ _ hl => by rw [getD_replicate_false] at hl; cases hl)
  have e0 : frm l.toArray a0 (fun j => match dstOf l.toArray j with | some d => a0.tmps.getD d undef | none => undef) L.length = a0 := frm_id _ _ _
  rw [e0, show L.length + (l.toArray.size - L.length) = l.toArray.size by omega] at h
  exact h
end
end Go.Proofs.YtkabcpmnbjllcaaDoor
