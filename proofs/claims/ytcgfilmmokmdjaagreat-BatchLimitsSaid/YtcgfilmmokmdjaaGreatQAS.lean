/- A part of the walk. -/
import Derived.Test.YtcgfilmmokmdjaaGreatQAL
import Derived.Test.YtcgfilmmokmdjaaGreatQAR
import Derived.Test.YtcgfilmmokmdjaaGreatQAC
set_option linter.all false
set_option maxRecDepth 100000
set_option maxHeartbeats 32000000
namespace Go.Proofs.YtcgfilmmokmdjaaGreat
open Go Go.RowKit
section
variable {P : Program} {ops : Array Oper} {md : Region.Mode}
def zF4 (md : Region.Mode) (ops : Array Oper) (n k : Nat) : Bool :=
 decide (n < ops.size) && decide (k < n) &&
 ((List.range n).all fun i => decide (i = k) || (List.range (n + 1)).any fun j => decide (i < j) && decide (j ≠ k) && Region.waitsFor md ops j i) && Region.chainB md ops n &&
 ((List.range n).all fun i => ((ops[i]?).map fun o => o.dst.isSome && o.after.all fun e => !Region.binds md e || decide (e.on < i)).getD false) &&
 ((List.range n).all fun i => (List.range n).all fun j => decide (i = j) || decide (zN ops i ≠ zN ops j)) &&
 Region.seqB md ops (ops.size - n) n ((List.range ops.size).map fun j => decide (j < n)).toArray &&
 decide (Region.ready md ops ((List.range ops.size).map fun j => decide (j ≤ n ∧ j ≠ k)).toArray = [k]) &&
 Region.seqB md ops (ops.size - (n + 1)) (n + 1) ((List.range ops.size).map fun j => decide (j ≤ n)).toArray
theorem zCF {n t : Nat} {listed : Array Bool} {ot : Oper} (hc : Region.chainB md ops n = true) (inv : HeadInv md ops n listed) (ht : n ≤ t) (htn : t ≠ n) (hot : ops[t]? = some ot)
  (hall : ∀ e ∈ ot.after, Region.binds md e = true → listed.getD e.on false = true) (htlt : t < ops.size) : False := by
 have h1 := List.all_eq_true.1 hc t (List.mem_range.2 htlt);simp only [Bool.or_eq_true, decide_eq_true_eq] at h1;rcases h1 with h1 | h1
 ·
  omega
 obtain ⟨o', ho', e, he, hb, hon⟩ := Region.waitsFor_spec h1;have : o' = ot := Option.some.inj (ho'.symm.trans hot);subst this;have h2 := hall e he hb;rw [hon, getD_both (inv.tail (t - 1) (by omega) (by omega))] at h2
 cases h2
theorem zEg {n k : Nat} {listed : Array Bool} (hs : ∀ i, i < n → i ≠ k → ∃ j, j ≤ n ∧ i < j ∧ j ≠ k ∧ Region.waitsFor md ops j i = true) (hc : Region.chainB md ops n = true) (hn : n < ops.size) (inv : HeadInv md ops n listed) :
  ∀ (d i : Nat), n - i = d → i < n → i ≠ k → listed.getD i true = false → ∀ t, n ≤ t → t ∉ Region.ready md ops listed := by
 intro d
 induction d using Nat.strongRecOn with
 | _ d ih =>
  intro i hd hi hik hun t ht hr;obtain ⟨_, ot, hot, hall⟩ := mem_ready.1 hr;have htlt : t < ops.size := (Array.getElem?_eq_some_iff.1 hot).1
  by_cases htn : t = n
  ·
   subst htn;obtain ⟨j, hjle, hij, hjk, hw⟩ := hs i hi hik;obtain ⟨oj, hoj, e, he, hb, hon⟩ := Region.waitsFor_spec hw
   by_cases hjt : j = t
   ·
    subst hjt;have : oj = ot := Option.some.inj (hoj.symm.trans hot);subst this;have h2 := hall e he hb;rw [hon, getD_both hun] at h2
    cases h2
   cases hl : listed.getD j false with
   | true =>
    have h2 := inv.closed j oj hoj hl e he hb;rw [hon, getD_both hun] at h2
    cases h2
   | false =>
    have hjs : j < listed.size := by rw [inv.size]; omega
    exact ih (t - j) (by omega) j rfl (by omega) hjk (getD_in hjs hl) t (Nat.le_refl _) hr
  exact zCF hc inv ht htn hot hall htlt
variable {Q : Exit → Act → World → Prop}
theorem zHy {n k : Nat} {a0 : Act} {w0 : World} {Φ : Nat → Value → World → Prop} {F : Nat → Prop} {l : List Oper} {on ok : Oper} (hl : ops = l.toArray) (hB : zF4 md ops n k = true) (hon : ops[n]? = some on) (hok : ops[k]? = some ok) (hkF : ¬ F k) (hN : ∀ i, i < n → ∀ t, zN ops i = some t → t < a0.tmps.size)
  (mono : ∀ j, j < n → ∀ v w1 w2, Below w1.heap.size w1 w2 → Φ j v w1 → Φ j v w2)
  (head : ∀ i o, i < n → ops[i]? = some o → ∀ f w1, Below w0.heap.size w0 w1 → (∀ e ∈ o.after, Region.binds md e = true → Φ e.on (f e.on) w1) →
   wpList P ops (Exit.then (ue (Φ i) (F i) (frm ops a0 f n).defers o.dst w1) Q) [o] (frm ops a0 f n) w1)
  (tail : ∀ f w1, Below w0.heap.size w0 w1 → (∀ j, j < n → Φ j (f j) w1) → (∀ j k, j < n → k < n → j ≠ k → F j → F k → blk (f j) ≠ blk (f k)) → wpList P ops Q (l.drop n) (frm ops a0 f n) w1)
  (tail2 : ∀ f w1, Below w0.heap.size w0 w1 → (∀ j, j < n → j ≠ k → Φ j (f j) w1) → (∀ j k, j < n → k < n → j ≠ k → F j → F k → blk (f j) ≠ blk (f k)) → wpList P ops Q (on :: ok :: l.drop (n + 1)) (frm ops a0 f n) w1) :
  ∀ (fuel : Nat) (T : List Nat) (s : Array Bool) (f : Nat → Value) (w : World), T.Nodup → T.length = fuel → (∀ j, j < n → (s.getD j false = false ↔ j ∈ T)) → (∀ j ∈ T, j < n) → HeadInv md ops n s → Below w0.heap.size w0 w →
   (∀ j, j < n → s.getD j false = true → Φ j (f j) w) → (∀ j, j < n → s.getD j false = true → F j → blk (f j) < w.heap.size) →
   (∀ j k, j < n → k < n → j ≠ k → s.getD j false = true → s.getD k false = true → F j → F k → blk (f j) ≠ blk (f k)) → wpAny P md ops Q (fuel + (ops.size - n)) s (frm ops a0 f n) w := by
 simp only [zF4, Bool.and_eq_true, decide_eq_true_eq] at hB;obtain ⟨⟨⟨⟨⟨⟨⟨⟨hn, hkn⟩, hs0⟩, hc⟩, hfw⟩, hdd⟩, hsq⟩, hrk⟩, hsq2⟩ := hB;have hs : ∀ i, i < n → i ≠ k → ∃ j, j ≤ n ∧ i < j ∧ j ≠ k ∧ Region.waitsFor md ops j i = true := fun i hi hik => by
  have h1 := List.all_eq_true.1 hs0 i (List.mem_range.2 hi);rw [Bool.or_eq_true, decide_eq_true_eq] at h1;rcases h1 with h1 | h1
  ·
   exact absurd h1 hik
  obtain ⟨j, hj, h2⟩ := List.any_eq_true.1 h1;simp only [Bool.and_eq_true, decide_eq_true_eq] at h2;exact ⟨j, by have := List.mem_range.1 hj; omega, h2.1.1, h2.1.2, h2.2⟩
 have hfw' : ∀ i o, i < n → ops[i]? = some o → o.dst.isSome = true ∧ ∀ e ∈ o.after, Region.binds md e = true → e.on < i := fun i o hi ho => by
  have := List.all_eq_true.1 hfw i (List.mem_range.2 hi);rw [ho] at this;simp only [Option.map_some, Option.getD_some, Bool.and_eq_true] at this;refine ⟨this.1, fun e he hb => ?_⟩;have h2 := Array.all_eq_true_iff_forall_mem.1 this.2 e he;rw [hb] at h2
  simpa using h2
 have hdd' : ∀ i j, i < n → j < n → i ≠ j → zN ops i ≠ zN ops j := fun i j hi hj hij => by
  have := List.all_eq_true.1 (List.all_eq_true.1 hdd i (List.mem_range.2 hi)) j (List.mem_range.2 hj)
  simpa [hij] using this
 intro fuel
 induction fuel with
 | zero =>
  intro T s f w hT hlen hsT hTn inv hb hΦ hF hFF;have hT0 : T = [] := List.length_eq_zero_iff.1 hlen;subst hT0;have hall : ∀ j, j < n → s.getD j false = true := fun j hj => by
   cases h : s.getD j false with
   | true => rfl
   | false => exact absurd ((hsT j hj).1 h) (by simp)
  have hse : s = ((List.range ops.size).map fun j => decide (j < n)).toArray := by
   apply Array.ext
   ·
    simp [inv.size]
   intro j h1 h2;have hjs : j < ops.size := by rw [← inv.size]; exact h1
   simp only [List.getElem_toArray, List.getElem_map, List.getElem_range]
   by_cases e : j < n
   ·
    have := hall j e;rw [Array.getD_eq_getD_getElem?, Array.getElem?_eq_getElem h1] at this;simp only [Option.getD_some] at this;rw [this]; simp [e]
   have := inv.tail j (by omega) hjs;rw [Array.getD_eq_getD_getElem?, Array.getElem?_eq_getElem h1] at this;simp only [Option.getD_some] at this;rw [this]; simp [e]
  rw [Nat.zero_add];have hdl : (l.drop n).length = ops.size - n := by rw [hl]; simp
  have h3 := wpAny_of_seq (P := P) (md := md) (ops := ops) (Q' := Q) (l.drop n) n s (frm ops a0 f n) w (fun j => by rw [hl]; simp [List.getElem?_drop]) (by rw [hdl, hse]; exact hsq) (tail f w hb (fun j hj => hΦ j hj (hall j hj)) fun j k hj hk hjk => hFF j k hj hk hjk (hall j hj) (hall k hk))
  rwa [hdl] at h3
 | succ fuel ih =>
  intro T s f w hT hlen hsT hTn inv hb hΦ hF hFF;have hTne : T ≠ [] := fun e => by rw [e] at hlen; cases hlen
  obtain ⟨m, hm, hle⟩ := ux hTne;have hmn := hTn m hm;have hun : s.getD m false = false := (hsT m hmn).2 hm;have hms : m < s.size := by rw [inv.size]; omega
  obtain ⟨om, hom⟩ : ∃ o, ops[m]? = some o := ⟨_, Array.getElem?_eq_getElem (by omega)⟩
  have hready : m ∈ Region.ready md ops s := mem_ready.2 ⟨getD_in hms hun, om, hom, fun e he hbnd => by
   have h1 := (hfw' m om hmn hom).2 e he hbnd
   cases h2 : s.getD e.on false with
   | true => rfl
   | false =>
    have := hle _ ((hsT e.on (by omega)).1 h2)
    omega⟩
  rw [show fuel + 1 + (ops.size - n) = (fuel + (ops.size - n)) + 1 by omega];refine ⟨fun e => absurd hready (by rw [e]; simp), fun i hi => ?_⟩;obtain ⟨hiu, oi, hoi, hdeps⟩ := mem_ready.1 hi
  by_cases hin0 : n ≤ i
  ·
   -- the late one alone is left, and the tail's first comes ahead of it
   have his : i < ops.size := (Array.getElem?_eq_some_iff.1 hoi).1;have hine : i = n := Classical.byContradiction fun e => zCF hc inv hin0 e hoi hdeps his
   subst hine;have hallk : ∀ j, j < i → j ≠ k → s.getD j false = true := fun j hj hjk => by
    cases h : s.getD j false with
    | true => rfl
    | false => exact absurd hi (zEg hs hc hn inv _ j rfl hj hjk (getD_in (by rw [inv.size]; omega) h) i (Nat.le_refl _))
   have hku : s.getD k false = false := by
    cases h : s.getD k false with
    | false => rfl
    | true =>
     have : s.getD m false = true := by
      by_cases e : m = k
      ·
       rw [e]; exact h
      exact hallk m hmn e
     rw [this] at hun; cases hun
   have hf0 : fuel = 0 := by
    have h1 : ∀ j ∈ T, j = k := fun j hj => by
     refine Classical.byContradiction fun e => ?_
     have h2 := (hsT j (hTn j hj)).2 hj;rw [hallk j (hTn j hj) e] at h2
     cases h2
    match T, hT, hlen, h1 with
    | [x], _, hlen, _ => simpa using hlen.symm
    | x :: y :: r, hT, _, h1 =>
     have e1 := h1 x (by simp);have e2 := h1 y (by simp);rw [e1, e2] at hT;simp at hT
   subst hf0;have hss : s.setIfInBounds i true = ((List.range ops.size).map fun j => decide (j ≤ i ∧ j ≠ k)).toArray := by
    apply Array.ext
    ·
     simp [inv.size]
    intro j h1 h2;have hjs : j < ops.size := by simpa [inv.size] using h1
    have hjs2 : j < s.size := by rw [inv.size]; exact hjs
    simp only [List.getElem_toArray, List.getElem_map, List.getElem_range];rw [Array.getElem_setIfInBounds hjs2]
    by_cases e : i = j
    ·
     rw [if_pos e]; simp only [← e]; simp; omega
    rw [if_neg e]
    by_cases e2 : j < i
    ·
     by_cases e3 : j = k
     ·
      have hkk := hku;rw [← e3, Array.getD_eq_getD_getElem?, Array.getElem?_eq_getElem hjs2] at hkk;simp only [Option.getD_some] at hkk;rw [hkk]; simp [e3]
     have := hallk j e2 e3;rw [Array.getD_eq_getD_getElem?, Array.getElem?_eq_getElem hjs2] at this;simp only [Option.getD_some] at this;rw [this]; simp [e3]; omega
    have := inv.tail j (by omega) hjs;rw [Array.getD_eq_getD_getElem?, Array.getElem?_eq_getElem hjs2] at this;simp only [Option.getD_some] at this;rw [this]; simp; omega
   have hss2 : (s.setIfInBounds i true).setIfInBounds k true = ((List.range ops.size).map fun j => decide (j ≤ i)).toArray := by
    rw [hss];apply Array.ext
    ·
     simp
    intro j h1 h2;have hjs : j < ops.size := by simpa using h1
    rw [Array.getElem_setIfInBounds (by simpa using h1)];simp only [List.getElem_toArray, List.getElem_map, List.getElem_range]
    by_cases e : k = j
    ·
     rw [if_pos e]; subst e; simp; omega
    rw [if_neg e];have e' : ¬ j = k := fun e2 => e e2.symm
    simp [e']
   have ht2 := tail2 f w hb (fun j hj hjk => hΦ j hj (hallk j hj hjk)) fun j k' hj hk' hjk hFj hFk => by
    have a1 : j ≠ k := fun e => hkF (e ▸ hFj)
    have a2 : k' ≠ k := fun e => hkF (e ▸ hFk)
    exact hFF j k' hj hk' hjk (hallk j hj a1) (hallk k' hk' a2) hFj hFk
   have hw1 : wpOp P ops Q i (wpList P ops Q (ok :: l.drop (i + 1))) (frm ops a0 f i) w := by unfold wpOp; simp only [hon]; exact ht2
   have hg : 0 + (ops.size - i) = (ops.size - (i + 1)) + 1 := by omega
   rw [hg];refine wpOp_mono (fun a' w' h' => ?_) hw1;refine ⟨fun e => ?_, fun j hj => ?_⟩
   ·
    rw [hss, hrk] at e; cases e
   rw [hss, hrk] at hj;have hjk : j = k := by simpa using hj
   subst hjk;have hw2 : wpOp P ops Q j (wpList P ops Q (l.drop (i + 1))) a' w' := by unfold wpOp; simp only [hok]; exact h'
   refine wpOp_mono (fun a'' w'' h'' => ?_) hw2;rw [hss2];have hdl : (l.drop (i + 1)).length = ops.size - (i + 1) := by rw [hl]; simp
   have h3 := wpAny_of_seq (P := P) (md := md) (ops := ops) (Q' := Q) (l.drop (i + 1)) (i + 1) _ a'' w'' (fun j => by rw [hl]; simp [List.getElem?_drop]) (by rw [hdl]; exact hsq2) h''
   rwa [hdl] at h3
  have hin : i < n := Nat.lt_of_not_le hin0;have hiT : i ∈ T := (hsT i hin).1 (getD_both hiu);have hfi := hfw' i oi hin hoi;have hdo : zN ops i = oi.dst := by unfold zN; rw [hoi]; rfl
  unfold wpOp;rw [hoi];simp only [];have hh := head i oi hin hoi f w hb fun e he hbnd => hΦ e.on (by have := hfi.2 e he hbnd; omega) (hdeps e he hbnd)
  refine qk hh (fun v w' hR => ?_) (fun d v w' hR => ?_)
  ·
   obtain ⟨_, hbw, hv⟩ := hR;have hval : ∀ i, i < n → oi.dst.isSome = true → zN ops i = oi.dst → (∀ t, oi.dst = some t → Φ i (((frm ops a0 f n).put oi.dst v).tmps.getD t undef) w' ∧ (F i → w.heap.size ≤ blk (((frm ops a0 f n).put oi.dst v).tmps.getD t undef) ∧ blk (((frm ops a0 f n).put oi.dst v).tmps.getD t undef) < w'.heap.size)) → Φ i v w' ∧ (F i → w.heap.size ≤ blk v ∧ blk v < w'.heap.size) := fun i hi h1 hdo h => by
    obtain ⟨t, ht⟩ := Option.isSome_iff_exists.1 h1;have h4 := h t ht;have h5 : t < (frm ops a0 f n).tmps.size := by rw [uF]; exact hN i hi t (by rw [hdo, ht])
    rw [ht] at h4
    simpa [Act.put, h5] using h4
   rw [← hdo, tK ops a0 f i v n hin fun j hj hji => .inr (hdd' i j hin hj (Ne.symm hji))];refine ih (T.erase i) _ _ w' (hT.erase i) (by rw [List.length_erase_of_mem hiT]; omega) (fun j hj => ?_) (fun j hj => hTn j (List.mem_of_mem_erase hj)) (inv.set hi hin) (zA hb hbw) (fun j hj hjs => ?_) (fun j hj hjs hFj => ?_) (fun j k hj hk hjk hjs hks hFj hFk => ?_)
   ·
    rw [hT.mem_erase_iff]
    by_cases e : j = i
    ·
     subst e;have hjs : j < s.size := by rw [inv.size]; omega
     simp [Array.getD_eq_getD_getElem?, hjs]
    rw [getD_set_ne false (Ne.symm e), hsT j hj];simp [e]
   ·
    by_cases e : j = i
    ·
     subst e;have : yv f j v j = v := if_pos rfl;rw [this];exact (hval j hj hfi.1 hdo hv).1
    have : yv f i v j = f j := if_neg e;rw [this];rw [getD_set_ne false (Ne.symm e)] at hjs;exact mono j hj _ _ _ hbw (hΦ j hj hjs)
   ·
    by_cases e : j = i
    ·
     subst e;have : yv f j v j = v := if_pos rfl;rw [this];exact ((hval j hj hfi.1 hdo hv).2 hFj).2
    have : yv f i v j = f j := if_neg e;rw [this];rw [getD_set_ne false (Ne.symm e)] at hjs;exact Nat.lt_of_lt_of_le (hF j hj hjs hFj) hbw.size
   by_cases e : j = i
   ·
    subst e;have e1 : yv f j v j = v := if_pos rfl;have e2 : yv f j v k = f k := if_neg (Ne.symm hjk);rw [e1, e2];rw [getD_set_ne false hjk] at hks;have h1 := ((hval j hj hfi.1 hdo hv).2 hFj).1;have h2 := hF k hk hks hFk;omega
   have e1 : yv f i v j = f j := if_neg e;rw [e1];rw [getD_set_ne false (Ne.symm e)] at hjs
   by_cases e3 : k = i
   ·
    subst e3;have e2 : yv f k v k = v := if_pos rfl;rw [e2];have h1 := ((hval k hk hfi.1 hdo hv).2 hFk).1;have h2 := hF j hj hjs hFj;omega
   have e2 : yv f i v k = f k := if_neg e3;rw [e2];rw [getD_set_ne false (Ne.symm e3)] at hks;exact hFF j k hj hk hjk hjs hks hFj hFk
  have h1 := hR.1;have h2 := congrArg List.length h1
  cases hod : oi.dst <;> simp [Act.put, hod] at h2
theorem xQ {id : Nat} {a0 : Act} {w : World} {l : List Oper} (L : List Sta) (F : List Nat) (N k : Nat) {on ok : Oper} (hm : P.follows .mixedOrders = true) (hB : zF4 .any l.toArray L.length k = true) (hon : l.toArray[L.length]? = some on) (hok : l.toArray[k]? = some ok) (hkF : k ∉ F)
  (hsz : a0.tmps.size = N) (hN : zBD l.toArray L.length N = true) {fr : (Nat → Value) → Act} (hfr : ∀ f, frm l.toArray a0 f L.length = fr f)
  (head : zDU P Q l.toArray L F fr w l L 0)
  (tail : ∀ f w1, Below w.heap.size w w1 → (∀ j, j < L.length → (stA L j).p (f j) w1) → (∀ j k, j < L.length → k < L.length → j ≠ k → j ∈ F → k ∈ F → blk (f j) ≠ blk (f k)) → wpList P l.toArray Q (l.drop L.length) (fr f) w1)
  (tail2 : ∀ f w1, Below w.heap.size w w1 → (∀ j, j < L.length → j ≠ k → (stA L j).p (f j) w1) → (∀ j k, j < L.length → k < L.length → j ≠ k → j ∈ F → k ∈ F → blk (f j) ≠ blk (f k)) → wpList P l.toArray Q (on :: ok :: l.drop (L.length + 1)) (fr f) w1) : (Code.region id l.toArray true).wp P Q a0 w := by
 have hn : L.length < l.toArray.size := by
  simp only [zF4, Bool.and_eq_true, decide_eq_true_eq] at hB;exact hB.1.1.1.1.1.1.1.1
 refine wp_region_any hm ?_;have h := zHy (k := k) (md := .any) (Q := Q) (P := P) (n := L.length) (a0 := a0) (w0 := w) (Φ := fun j => (stA L j).p) (F := fun j => j ∈ F) rfl hB hon hok hkF
  (fun i hi t ht => by
   have h1 := List.all_eq_true.1 hN i (List.mem_range.2 hi)
   rw [ht] at h1
   rw [hsz]
   simpa using h1)
  (fun j _ v w1 w2 hb h => (stA L j).m v w1 w2 hb h)
  (fun i o hi ho f w1 hb hd => by
   rw [hfr]
   have hS : L[i]? = some (stA L i) := by
    unfold stA
    rw [List.getD_eq_getElem?_getD, List.getElem?_eq_getElem hi]; rfl
   have h2 := kD l L 0 head i o (stA L i) (by simpa using ho) hS f w1 hb (fun j hj => by
    unfold zCm at hj
    obtain ⟨e, he, h3⟩ := Array.any_eq_true'.1 hj
    simp only [Bool.and_eq_true, beq_iff_eq] at h3
    rw [← h3.2]
    exact hd e he h3.1)
   rwa [Nat.zero_add] at h2)
  (fun f w1 hb hΦ hFF => by rw [hfr]; exact tail f w1 hb hΦ hFF)
  (fun f w1 hb hΦ hFF => by rw [hfr]; exact tail2 f w1 hb hΦ hFF)
  L.length (List.range L.length) (Array.replicate l.toArray.size false) (fun j => match zN l.toArray j with | some d => a0.tmps.getD d undef | none => undef) w.drew
  List.nodup_range (by simp) (fun j hj => by rw [getD_replicate_false]; simp [hj]) (fun j hj => by simpa using hj)
  ⟨by simp, fun j oj _ hl => (by rw [getD_replicate_false] at hl; cases hl), fun t _ ht => getD_in (by simpa using ht) (getD_replicate_false _ _)⟩
  (zi (Below.refl _ _)) (fun j _ hl => by rw [getD_replicate_false] at hl; cases hl) (fun j _ hl => by rw [getD_replicate_false] at hl; cases hl) (fun j k _ _ _ hl => by rw [getD_replicate_false] at hl; cases hl)
 have e0 : frm l.toArray a0 (fun j => match zN l.toArray j with | some d => a0.tmps.getD d undef | none => undef) L.length = a0 := kT _ _ _;rw [e0, show L.length + (l.toArray.size - L.length) = l.toArray.size by omega] at h;exact h
end
end Go.Proofs.YtcgfilmmokmdjaaGreat
namespace Go.Proofs.YtcgfilmmokmdjaaGreat
open Go.RowKit
theorem zE3 (a : Option Addr) (n c : Nat) (xs : List Value) (w : World) (h : Rd w 14 (.slice a n c) n xs) (h1 : ∀ u ∈ xs, u.oneCell' = true) (hs : n ≤ 1000000) :
  Calls Tryz.prog 102 #[.slice a n c] w fun e w' => ∃ a' c', e = .returned (.slice a' n c') ∧ w'.ownsRow w.heap.size 38 14 (.slice a' n c') n xs ∧ Below w.heap.size w w' := by
 have q22 : ∀ (w : World) (a : Option Addr) (n c n' c' : Nat), (binOp .eql 25 (.slice a n c) (.slice none n' c')).run Tryz.prog w = .ok (.bool a.isNone) w := fun w a n c n' c' => Lib.run_eql_slice_nil w _ _ a n c n' c' Tryz.underlying25
 cases a with
 | none =>
  have h0 : n = 0 := by
   obtain ⟨_, a', cap', e, h2, _, h5, _⟩ := h;injection e with e1 e2 e3;have := h5 e1.symm;omega
  subst h0;have hx : xs = [] := List.length_eq_zero_iff.1 (by have := h.1; omega);subst hx;clear h
  go_enter Tryz.func102, Tryz.ntmps102
  go_wp2_with fail;go_ret;exact ⟨_, _, rfl, World.ownsRow_nil _ _ _ _, Below.refl _ _⟩
 | some p =>
  have Hr := zh h;have H1 := zh h1;clear h h1
  go_enter Tryz.func102, Tryz.ntmps102
  go_wp2_with (at_builtin; go_must (refine za rfl (.tmp 5) (.tmp 6) 25 rfl zI2 w.heap.size rfl (World.ownsRow_made (size := 14) _ #[] 0 (Nat.le_refl _) (by decide) rfl) rfl (Hr.out.alloc _) H1.out (by unfold maxLen; omega) (by omega) (by simp) ?_); intro v3 w3 hown3 hgr3 hv3; clear hv3);have HB := zh (zK ((Below.refl w.heap.size w).alloc (Nat.le_refl _) _) (World.ownsRow_made (e := 38) (size := 14) w #[] 0 (Nat.le_refl _) (by decide) rfl) (by simp) hgr3);rw [Nat.zero_add, List.nil_append] at hown3;obtain ⟨ra, rc, rfl, _⟩ := zJ hown3;have HO := zh hown3;clear hown3 hgr3;go_wp2_with fail;go_ret;exact ⟨_, _, rfl, HO.out, HB.out⟩
structure OwnGs (W : World) (B : Nat) (v : Value) (n : Nat) (L : List GP) : Prop where
 row : W.ownsRow B 38 14 v n (L.flatMap gpC)
 len : n = L.length
 m : ∀ p ∈ L, OwnM W B p.2 p.1.m.st
theorem OwnGs.rd {W : World} {B n : Nat} {v : Value} {L : List GP} (h : OwnGs W B v n L) : RdG W v L := kB h.row h.len fun p hp => (h.m p hp).rd
theorem OwnGs.keep {W W' : World} {B n : Nat} {v : Value} {L : List GP} (h : OwnGs W B v n L) (hb : Below W.heap.size W W') : OwnGs W' B v n L := ⟨zH h.row hb, h.len, fun p hp => (h.m p hp).keep hb⟩
theorem OwnGs.pts {W : World} {B n b : Nat} {v : Value} {L : List GP} (h : OwnGs W B v n L) (hb : b < B) (vs : List (Nat × Value)) : OwnGs (Go.Proofs.YtcgfilmmokmdjaaGreat.pts W b vs) B v n L := ⟨vB hb h.row vs, h.len, fun p hp => (h.m p hp).pts hb vs⟩
theorem OwnGs.lower {W : World} {B B' n : Nat} {v : Value} {L : List GP} (h : OwnGs W B v n L) (hB : B' ≤ B) : OwnGs W B' v n L := ⟨World.ownsRow.mono h.row hB, h.len, fun p hp => (h.m p hp).mono hB⟩
theorem zKs {W : World} {B B' g n c : Nat} {xs : List Value} {s : Sl} {f : Nat → List It} (h : W.ownsRow B 38 14 (.slice (some ⟨g, 0, none⟩) n c) n xs) (ho : OwnM W B' s f) : ∀ i, i < 8 → (s.v i).ownBlock ≠ some g := fun i hi e => by
 obtain ⟨c1, f1, h1⟩ := Lib.ownsRow_kind h g rfl;obtain ⟨c2, f2, h2⟩ := Lib.ownsRow_kind (ho i hi) g e;rw [h1] at h2;injection h2 with h2;injection h2 with _ h3;exact absurd h3 (by decide)
theorem OwnM.genpts {W : World} {B B' g n c : Nat} {xs : List Value} {s : Sl} {f : Nat → List It} (ho : OwnM W B' s f) (h : W.ownsRow B 38 14 (.slice (some ⟨g, 0, none⟩) n c) n xs) (vs : List (Nat × Value)) : OwnM (Go.Proofs.YtcgfilmmokmdjaaGreat.pts W g vs) B' s f := fun i hi => qE (zKs h ho i hi) vs (ho i hi)
theorem OwnGs.set {W : World} {B n c g : Nat} {L : List GP} (h : OwnGs W B (.slice (some ⟨g, 0, none⟩) n c) n L) (k : Nat) (hk : k < n) (y : GP) (hy : OwnM W B y.2 y.1.m.st) :
  OwnGs (Go.Proofs.YtcgfilmmokmdjaaGreat.pts W g (gpL (k * 14) y.1.num y.1.rev y.1.mode y.1.size y.2 y.1.m.live y.1.m.garb)) B (.slice (some ⟨g, 0, none⟩) n c) n (L.set k y) := by
 have hl := h.len;refine ⟨(kL h.row k (by omega) y).1, by rw [List.length_set]; exact hl, fun p hp => ?_⟩;rcases List.mem_or_eq_of_mem_set hp with hp | rfl
 ·
  exact (h.m p hp).genpts h.row _
 exact hy.genpts h.row _
structure ClO (W : World) (B : Nat) (v : Value) (n : Nat) (L M : List GP) (k : Nat) : Prop where
 row : W.ownsRow B 38 14 v n (M.flatMap gpC)
 len : n = M.length
 fst : gns M = gns L
 own : ∀ j, j < k → OwnM W B (pat M j).2 (pat M j).1.m.st
 old : ∀ j, k ≤ j → pat M j = pat L j
theorem ClO.keep {W W' : World} {B n k : Nat} {v : Value} {L M : List GP} (h : ClO W B v n L M k) (hb : Below W.heap.size W W') : ClO W' B v n L M k := ⟨zH h.row hb, h.len, h.fst, fun j hj => (h.own j hj).keep hb, h.old⟩
theorem zFa (L : List GP) (k : Nat) (y : GP) : gns (L.set k y) = (gns L).set k y.1 := List.map_set ..
theorem ClO.step {W : World} {B n c g k : Nat} {L M : List GP} (h : ClO W B (.slice (some ⟨g, 0, none⟩) n c) n L M k) (hk : k < n) (y : GP) (hy : OwnM W B y.2 y.1.m.st) (hf : y.1 = (pat L k).1) :
  ClO (Go.Proofs.YtcgfilmmokmdjaaGreat.pts W g (gpL (k * 14) y.1.num y.1.rev y.1.mode y.1.size y.2 y.1.m.live y.1.m.garb)) B (.slice (some ⟨g, 0, none⟩) n c) n L (M.set k y) (k + 1) := by
 have hl := h.len;have hM := congrArg List.length h.fst;rw [zz, zz] at hM;refine ⟨(kL h.row k (by omega) y).1, by rw [List.length_set]; exact hl, ?_, fun j hj => ?_, fun j hj => ?_⟩
 ·
  rw [zFa, h.fst];refine List.ext_getElem? fun i => ?_
  rw [List.getElem?_set]
  by_cases e : k = i
  ·
   subst e;have hk' : k < (gns L).length := by rw [zz]; omega
   rw [if_pos rfl, if_pos hk', List.getElem?_eq_getElem hk', hf];have h9 := xD (l := L) (i := k);unfold gat at h9;rw [List.getD_eq_getElem?_getD, List.getElem?_eq_getElem hk'] at h9;rw [← h9]; rfl
  rw [if_neg e]
 ·
  rw [zFk (by omega)]
  by_cases e : j = k
  ·
   rw [if_pos e]; exact hy.genpts h.row _
  rw [if_neg e]; exact (h.own j (by omega)).genpts h.row _
 rw [zFk (by omega), if_neg (by omega)]; exact h.old j (by omega)
theorem ClO.all {W : World} {B n : Nat} {v : Value} {L M : List GP} (h : ClO W B v n L M n) : OwnGs W B v n M := ⟨h.row, h.len, fun p hp => by
 obtain ⟨j, hj, rfl⟩ := List.getElem_of_mem hp
 have h1 := h.own j (by rw [h.len]; exact hj)
 have e : pat M j = M[j] := by unfold pat; rw [List.getD_eq_getElem?_getD, List.getElem?_eq_getElem hj]; rfl
 rw [e] at h1; exact h1⟩
def ClR (w : World) (i l : Int) (r : Bool) (n : Nat) (L : List GP) (e : Ending) (w' : World) : Prop := (∃ a' c' M, e = .returned (zhq i l r a' n c') ∧ OwnGs w' w.heap.size (.slice a' n c') n M ∧ gns M = gns L) ∧ Below w.heap.size w w'
def zLP (B : Nat) (g : Gn) : Sta := ⟨fun v w => ∃ s, v = ze g.num g.rev g.mode g.size s g.m.live g.m.garb ∧ OwnM w B s g.m.st, fun _ _ _ hb ⟨s, h1, h2⟩ => ⟨s, h1, h2.keep hb⟩⟩
theorem zEa (i l : Int) (r : Bool) (a : Option Addr) (n c : Nat) (L : List GP) (w : World) (h : RdG w (.slice a n c) L) (hs : ∀ p ∈ L, ∀ j, j < 8 → (p.1.m.st j).length ≤ 10000) (hn : n ≤ 1000000) :
  Calls Tryz.prog 59 #[zhq i l r a n c] w (ClR w i l r n L) := by
 have hLn : L.length = n := by
  obtain ⟨_, _, e, _⟩ := h.shape;injection e with _ e _; exact e.symm
 have HRw := zh (fun W (hb : Below w.heap.size w W) => show Rd W 14 (.slice a n c) n (L.flatMap gpC) from by
  have h1 := (RdS.below h.r hb).2
  rwa [hLn] at h1)
 have HOne := zh (zCp L);have HMp := zh (show ∀ k, k < n → RdM w (pat L k).2 (pat L k).1.m.st ∧ ∀ j, j < 8 → ((pat L k).1.m.st j).length ≤ 10000 from fun k hk => ⟨h.m _ (xI (by omega)), hs _ (xI (by omega))⟩);have HLn := zh hLn;have hcap : n ≤ 9223372036854775807 := by omega
 clear h hs hLn
 go_enter Tryz.func59, Tryz.ntmps59
 go_upto_region 1 with fail;change Code.wp _ _ _ _ ((w.alloc (.cells (zS i l r a n c) 27)).alloc (.cells (zS 0 0 false none 0 0) 27));obtain ⟨W, hW, hbx, hbr, hbw⟩ := zAH w i l r a n c 27;rw [hW];have HX := zh hbx;have HR := zh hbr;have HB := zh hbw;clear hW hbx hbr hbw;have hlt0 := HR.out.lt;have k3 := HX.out.c3;go_wp2_with fail;refine (zE3 a n c (L.flatMap gpC) W (HRw.out W HB.out) HOne.out hn).mono ?_;rintro e w1 ⟨a1, c1, rfl, ho, hb⟩;have hz0 := hb.size;replace HX := zh (HX.out.below hb);replace HR := zh (HR.out.below hb);replace HB := zh (zA HB.out hb);clear hb k3 HRw HOne;have k3 := HX.out.c3;have kf := HX.out.f;go_upto_region 2 with fail;clear k3 kf;have HSz4 := zh (show W.heap.size ≤ (pts w1 w.heap.size [(3, .slice a1 n c1)]).heap.size by rw [tA]; exact hz0);have HX4 := zh (show BoxV (pts w1 w.heap.size [(3, .slice a1 n c1)]) w.heap.size i l r a1 n c1 from HX.out.set3 a1 n c1)
 have HR4 := zh (HR.out.pts_ne (d := w.heap.size) (by omega) [(3, .slice a1 n c1)]);have HB4 := zh (zD (B := w.heap.size) (b := w.heap.size) (Nat.le_refl _) [(3, .slice a1 n c1)] HB.out);have HC4 := zh (show ClO (pts w1 w.heap.size [(3, .slice a1 n c1)]) W.heap.size (.slice a1 n c1) n L L 0 from ⟨vB (b := w.heap.size) (by omega) ho _, HLn.out.symm, rfl, fun j hj => by omega, fun j _ => rfl⟩);clear ho HX HR HB;change Code.wp _ _ _ _ (pts w1 w.heap.size [(3, .slice a1 n c1)]);generalize pts w1 w.heap.size [(3, .slice a1 n c1)] = w2 at *;have k3 := HX4.out.c3;go_wp2_with fail;clear k3
 go_loopw [12] (fun iv V => ∃ (k : Nat) (M : List GP), iv = .int .i64 (k : Int) ∧ k ≤ n ∧ Hid (ClO V W.heap.size (.slice a1 n c1) n L M k) ∧ Hid (BoxV V w.heap.size i l r a1 n c1) ∧ Hid (BoxV V (w.heap.size + 1) 0 0 false none 0 0) ∧ Hid (Below w.heap.size w V) ∧ Hid (W.heap.size ≤ V.heap.size)) (fun iv _ => n - (intOf iv).toNat)
 case atStart => exact ⟨0, L, rfl, Nat.zero_le _, HC4, HX4, HR4, HB4, HSz4⟩
 clear HC4 HX4 HR4 HB4 HSz4;obtain ⟨k, M, rfl, hk, HC, HX, HR, HB, HSz⟩ := hrel
 by_cases hlt : k < n
 ·
  have i1 : (k : Int) < (n : Int) := by omega
  obtain ⟨g, rfl, hgB, hgl⟩ := tJ HC.out.row (by omega);have hat := zCg HC.out.row HC.out.len hlt;rw [HC.out.old k (Nat.le_refl _)] at hat;obtain ⟨hm1, hm2⟩ := HMp.out k hlt;have HMk := zh hm1;have HLk := zh hm2;have HFr := zh (wg HC.out.row);have HTh := zh (fun W' (hb : Below wr.heap.size wr W') => (hat.below hb).there (wg (zH HC.out.row hb)));clear hm1 hm2;have HSt := zh (fun W' (s' : Sl) (hb : Below wr.heap.size wr W') (ho : OwnM W' W.heap.size s' (pat L k).1.m.st) => (HC.out.keep hb).step hlt ((pat L k).1, s') ho rfl);generalize pat L k = p at *;obtain ⟨⟨num, rev, md, sz, ⟨fs, LV, GA⟩⟩, s⟩ := p;dsimp only at HMk HLk HSt;obtain ⟨g0, g1, g2, g3, g4, g5, g6, g7, g8, g9, g10, g11, g12, g13⟩ := hat;dsimp only at g0 g1 g2 g3 g4 g5 g6 g7 g8 g9 g10 g11 g12 g13;go_upto_region 5 with fail;clear g0 g1 g2 g3 g4 g5 g6 g7 g8 g9 g10 g11 g12 g13
  change Code.wp _ _ _ _ (wr.alloc (.cells (zX num rev md sz s LV GA) 38));have hbq := zZ wr num rev md sz s LV GA 38;have HG := zh (BoxG.new wr num rev md sz s LV GA 38);have HBq := zh hbq;replace HX := zh (HX.out.below hbq);replace HR := zh (HR.out.below hbq);replace HB := zh (zA HB.out hbq);replace HSz := zh (Nat.le_trans HSz.out hbq.size);clear hbq HC;generalize wr.alloc (.cells (zX num rev md sz s LV GA) 38) = v0 at *;generalize wr.heap.size = bg at HG ⊢;have hsz0 := HSz.out;refine yt [eqS (.pointer (some ⟨w.heap.size, 3, none⟩)), eqS (.slice (some ⟨g, 0, none⟩) n c1), eqS (.int .i64 (k : Int)), eqS (ze num rev md sz s LV GA), zLP W.heap.size ⟨num, rev, md, sz, ⟨fs, LV, GA⟩⟩] [] 25 (by kernel_rfl) (by kernel_rfl) (by rfl) (by kernel_rfl) (fun f => by simp [frm, zN, Act.put]; exact rfl) ?_ ?_
  ·
   refine ⟨?_, ?_, ?_, ?_, ?_, trivial⟩
   ·
    intro f w1 hb hd;clear hd;dsimp only;go_wp2_with fail;exact pS rfl (by simp)
   ·
    intro f w1 hb hd;have d0 : f 0 = (.pointer (some ⟨w.heap.size, 3, none⟩)) := hd 0 (by kernel_rfl);clear hd;dsimp only;rw [d0];have q3 := (HX.out.below hb).c3;go_wp2_with fail;exact pS rfl (by simp)
   ·
    intro f w1 hb hd;clear hd;dsimp only;go_wp2_with fail;exact pS rfl (by simp)
   ·
    intro f w1 hb hd;clear hd;dsimp only;have zo := HG.out.below hb;obtain ⟨q0, q1, q2, q3, q4, q5, q6, q7, q8, q9, q10, q11, q12, q13⟩ := zo.q;clear zo;go_wp2_with fail;exact pS rfl (by simp)
   intro f w1 hb hd;have d3 : f 3 = (ze num rev md sz s LV GA) := hd 3 (by kernel_rfl);clear hd;dsimp only;rw [d3];go_wp2_with fail;refine (qA ⟨num, rev, md, sz, ⟨fs, LV, GA⟩⟩ s w1 (HMk.out.below (zA HB.out hb)) HLk.out).mono ?_;rintro e w9 ⟨⟨s9, rfl, ho9⟩, hb9⟩;have HO9 := zh (ho9.mono (Nat.le_trans hsz0 hb.size));clear ho9;go_wp2_with fail;exact ⟨rfl, hb9, fun t ht => by injection ht with ht; subst ht; exact ⟨⟨s9, rfl, HO9.out⟩, fun h => by simp at h⟩⟩
  intro f w5 hb hd hff;clear hff;have d1 : f 1 = .slice (some ⟨g, 0, none⟩) n c1 := hd 1 (show 1 < 5 by decide);have d2 : f 2 = .int .i64 (k : Int) := hd 2 (show 2 < 5 by decide);obtain ⟨s4, d4, ho4⟩ := show ∃ s, f 4 = ze num rev md sz s LV GA ∧ OwnM w5 W.heap.size s fs from hd 4 (show 4 < 5 by decide);clear hd
  try dsimp only
  rw [d1, d2, d4];clear d1 d2 d4;generalize f 0 = z0;generalize f 3 = z3;clear f;have hb5 := zA HBq.out hb;have HS5 := zh (HSt.out w5 s4 hb5 ho4);have HT5 := zh (HTh.out w5 hb5)
  try dsimp only at HS5
  have HX5 := zh ((HX.out.below hb).pts_ne (d := g) (by omega) (gpL (k * 14) num rev md sz s4 LV GA));have HR5 := zh ((HR.out.below hb).pts_ne (d := g) (by omega) (gpL (k * 14) num rev md sz s4 LV GA));have HB5 := zh (zD (B := w.heap.size) (b := g) (by omega) (gpL (k * 14) num rev md sz s4 LV GA) (zA HB.out hb));have HZ5 := zh (show W.heap.size ≤ (pts w5 g (gpL (k * 14) num rev md sz s4 LV GA)).heap.size by rw [tA]; exact Nat.le_trans hsz0 hb.size);clear ho4 hb hb5 HSt HTh;change wpList _ _ _ (_ :: _ :: []) _ _;go_wp2_with ((with_reducible refine wpList_store_mid ?_ 38 (.tmp 22) (.tmp 21) ?_ g (k * 14) (zX num rev md sz s4 LV GA) ?_ ?_ ?_ ?_ ?_ ?_); rfl; rfl; rfl; rfl; exact HT5.out; exact zFg; exact zBL _ _ _ _ _ _ _; rw [zA8]);exact ⟨⟨k + 1, _, by go_num, by omega, HS5, HX5, HR5, HB5, HZ5⟩, by simp [intOf]; omega⟩
 have i1 : ¬ (k : Int) < (n : Int) := by omega
 obtain rfl : k = n := by omega
 have HO := zh HC.out.all;have HF := zh HC.out.fst;clear HC;obtain ⟨k0, k1, k2, k3⟩ := HX.out.q;have hsz9 := HSz.out;obtain ⟨z0, z1, z2, z3⟩ := HR.out.q;have zf := HR.out.f;go_wp2_with fail;change bodyPost _ _ _ _ _ (pts wr (w.heap.size + 1) (zU i l r a1 k c1));have HOz := zh ((HO.out.pts (b := w.heap.size + 1) (by omega) (zU i l r a1 k c1)).lower (show w.heap.size ≤ W.heap.size by omega));have hby := HR.out.all i l r a1 k c1;have HBz := zh (zD (B := w.heap.size) (b := (w.heap.size + 1)) (by omega) (zU i l r a1 k c1) HB.out);generalize pts wr (w.heap.size + 1) (zU i l r a1 k c1) = V at *;exact bodyPost_ret (v := zhq i l r a1 k c1) (by simp [results, Tryz.results59, go_sem, hby.c0, hby.c1, hby.c2, hby.c3]) rfl (⟨⟨a1, c1, M, rfl, HOz.out, HF.out⟩, HBz.out⟩)
theorem zIK (y : GP) (bg : Nat) (num rev md sz : Int) (s : Sl) (LV GA : Int) (w : World) (hg : BoxG w bg num rev md sz s LV GA) :
  Calls Tryz.prog 58 #[ze y.1.num y.1.rev y.1.mode y.1.size y.2 y.1.m.live y.1.m.garb, .pointer (some ⟨bg, 0, none⟩)] w fun e w' => e = .returned (.bool (y.1.num == num)) ∧ Below w.heap.size w w' := by
 obtain ⟨⟨yn, yr, ym, yz, ⟨yf, yL, yG⟩⟩, ys⟩ := y;dsimp only;have hbq := zZ w yn yr ym yz ys yL yG 38;have HY := zh (BoxG.new w yn yr ym yz ys yL yG 38);have HG := zh (hg.below hbq);have HB := zh hbq;clear hg hbq
 go_enter Tryz.func58, Tryz.ntmps58
 go_upto_region 1 with fail;change Code.wp _ _ _ _ (w.alloc (.cells (zX yn yr ym yz ys yL yG) 38));generalize w.alloc (.cells (zX yn yr ym yz ys yL yG) 38) = w1 at *;have q0 := HY.out.n0;have q1 := HG.out.n0;go_wp2_with fail;go_ret;exact ⟨rfl, HB.out⟩
def kW (L : List GP) (num : Int) (z : Int) : Prop := (∃ k, k < L.length ∧ z = (k : Int) ∧ (pat L k).1.num = num ∧ ∀ j, j < k → (pat L j).1.num ≠ num) ∨ (z = -1 ∧ ∀ j, j < L.length → (pat L j).1.num ≠ num)
theorem zE6 (a : Option Addr) (n c : Nat) (L : List GP) (bg : Nat) (num rev md sz : Int) (s : Sl) (LV GA : Int) (w : World) (h : RdG w (.slice a n c) L) (hn : n ≤ 1000000) (hg : BoxG w bg num rev md sz s LV GA) :
  Calls Tryz.prog 57 #[.slice a n c, .func (.func 58) #[] #[.pointer (some ⟨bg, 0, none⟩)]] w fun e w' => (∃ z, e = .returned (.int .i64 z) ∧ kW L num z) ∧ Below w.heap.size w w' := by
 have hLn : L.length = n := by
  obtain ⟨_, _, e, _⟩ := h.shape;injection e with _ e _; exact e.symm
 have Hr := zh h;have Hg := zh hg;have HLn := zh hLn;clear h hg hLn
 go_enter Tryz.func57, Tryz.ntmps57
 go_wp2_with fail
 go_loopw [8] (fun i wr => ∃ k : Nat, k ≤ n ∧ i = .int .i64 (k : Int) ∧ Hid (∀ j, j < k → (pat L j).1.num ≠ num) ∧ Hid (Below w.heap.size w wr)) (fun i _ => n - (intOf i).toNat)
 case atStart => exact ⟨0, Nat.zero_le _, rfl, zh (fun j hj => absurd hj (by omega)), zh (Below.refl _ _)⟩
 obtain ⟨k, hk, rfl, Hok, Hb⟩ := hrel
 by_cases hlt : k < n
 ·
  have hr := Hr.out.below Hb.out;obtain ⟨b, off, rfl, hat⟩ := hr.at hlt;have HV := zh (fun W (hb : Below wr.heap.size wr W) => zIK (pat L k) bg num rev md sz s LV GA W ((Hg.out.below Hb.out).below hb))
  have HOs := zh (show (pat L k).1.num ≠ num → ∀ j, j < k + 1 → (pat L j).1.num ≠ num from fun ho j hj => by
   by_cases e : j = k
   ·
    subst e; exact ho
   exact Hok.out j (by omega))
  have HYs := zh (show (pat L k).1.num = num → kW L num (k : Int) from fun e => .inl ⟨k, by rw [HLn.out]; exact hlt, rfl, e, Hok.out⟩);clear hr;generalize pat L k = p at *;obtain ⟨⟨xn, xr, xm, xz, ⟨xf, xL, xG⟩⟩, xs⟩ := p;obtain ⟨g0, g1, g2, g3, g4, g5, g6, g7, g8, g9, g10, g11, g12, g13⟩ := hat;dsimp only at g0 g1 g2 g3 g4 g5 g6 g7 g8 g9 g10 g11 g12 g13 HV HOs HYs;have i1 : (k : Int) < (n : Int) := by omega
  go_wp2_with fail;refine (HV.out _ (Below.refl _ _)).mono ?_; rintro e w1 ⟨rfl, hb1⟩;have Hb1 := zh (zA Hb.out hb1)
  by_cases hx : xn = num
  ·
   have HF := zh (HYs.out hx);have hx1 : (xn == num) = true := by simp [hx]
   clear hb1 hx HOs HYs HV;go_wp2_with fail;go_ret;exact ⟨⟨_, rfl, HF.out⟩, Hb1.out⟩
  have HF := zh (HOs.out hx);have hx1 : (xn == num) = false := by simp [hx]
  clear hb1 hx HOs HYs HV;go_wp2_with fail;exact ⟨⟨k + 1, by omega, by go_num, HF, Hb1⟩, by simp [intOf]; omega⟩
 obtain rfl : k = n := by omega
 have i1 : ¬ (k : Int) < (k : Int) := by omega
 have HF := zh (show kW L num (-1) from .inr ⟨rfl, by rw [HLn.out]; exact Hok.out⟩);go_wp2_with fail;go_ret;exact ⟨⟨_, rfl, HF.out⟩, Hb.out⟩
theorem zKe : xe Tryz.prog 87 24 1 8 := by
 obtain ⟨i, hi, hz, hs, hb⟩ := info_parts (P := Tryz.prog) (e := 24) (z := .int .u64 0) (size := 1) (bytes := 8) (by kernel_rfl);exact ⟨Tryz.underlying87, by decide, i, _, hi, hz, hs, hb, rfl⟩
end Go.Proofs.YtcgfilmmokmdjaaGreat
