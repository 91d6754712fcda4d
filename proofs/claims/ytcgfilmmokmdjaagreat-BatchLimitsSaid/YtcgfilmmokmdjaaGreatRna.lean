/- A part of the walk. -/
import Derived.Test.YtcgfilmmokmdjaaGreatQAQ
set_option linter.all false
namespace Go.Proofs.YtcgfilmmokmdjaaGreat
open Go Go.RowKit
section
variable {P : Program} {ops : Array Oper} {md : Region.Mode}
def zCe (md : Region.Mode) (ops : Array Oper) (n : Nat) : Bool :=
 decide (n = ops.size) &&
 ((List.range n).all fun i => ((ops[i]?).map fun o => o.after.all fun e => !Region.binds md e || decide (e.on < i)).getD false) &&
 ((List.range n).all fun i => (List.range n).all fun j => decide (i = j) || decide (zN ops i = none) || decide (zN ops i ≠ zN ops j)) &&
 Region.seqB md ops (ops.size - n) n ((List.range ops.size).map fun j => decide (j < n)).toArray
variable {Q : Exit → Act → World → Prop}
theorem zHm {n : Nat} {a0 : Act} {I : (Nat → Bool) → (Nat → Value) → World → Prop} {l : List Oper} (hl : ops = l.toArray) (hB : zCe md ops n = true) (hN : ∀ i, i < n → ∀ t, zN ops i = some t → t < a0.tmps.size)
  (head : ∀ i o, i < n → ops[i]? = some o → ∀ L f w, L i = false → (∀ e ∈ o.after, Region.binds md e = true → L e.on = true) → I L f w →
   wpList P ops (Exit.then (zAD (fun v w' => I (onL L i) (yv f i v) w') (frm ops a0 f n).defers o.dst) Q) [o] (frm ops a0 f n) w)
  (tail : ∀ L f w, (∀ j, j < n → L j = true) → I L f w → wpList P ops Q (l.drop n) (frm ops a0 f n) w) :
  ∀ (fuel : Nat) (T : List Nat) (s : Array Bool) (L : Nat → Bool) (f : Nat → Value) (w : World), (∀ j, s.getD j false = L j) → T.Nodup → T.length = fuel → (∀ j, j < n → (s.getD j false = false ↔ j ∈ T)) → (∀ j ∈ T, j < n) → HeadInv md ops n s → I L f w →
   wpAny P md ops Q (fuel + (ops.size - n)) s (frm ops a0 f n) w := by
 simp only [zCe, Bool.and_eq_true, decide_eq_true_eq] at hB;obtain ⟨⟨⟨hn, hfw⟩, hdd⟩, hsq⟩ := hB;have hfw' : ∀ i o, i < n → ops[i]? = some o → ∀ e ∈ o.after, Region.binds md e = true → e.on < i := fun i o hi ho e he hb => by
  have := List.all_eq_true.1 hfw i (List.mem_range.2 hi);rw [ho] at this;simp only [Option.map_some, Option.getD_some] at this;have h2 := Array.all_eq_true_iff_forall_mem.1 this e he;rw [hb] at h2
  simpa using h2
 have hdd' : ∀ i j, i < n → j < n → i ≠ j → zN ops i = none ∨ zN ops i ≠ zN ops j := fun i j hi hj hij => by
  have := List.all_eq_true.1 (List.all_eq_true.1 hdd i (List.mem_range.2 hi)) j (List.mem_range.2 hj)
  simpa [hij] using this
 intro fuel
 induction fuel with
 | zero =>
  intro T s L f w hL hT hlen hsT hTn inv hI;have hT0 : T = [] := List.length_eq_zero_iff.1 hlen;subst hT0;have hall : ∀ j, j < n → s.getD j false = true := fun j hj => by
   cases h : s.getD j false with
   | true => rfl
   | false => exact absurd ((hsT j hj).1 h) (by simp)
  have hse : s = ((List.range ops.size).map fun j => decide (j < n)).toArray := by
   apply Array.ext
   ·
    simp [inv.size]
   intro j h1 h2;have hjs : j < ops.size := by rw [← inv.size]; exact h1
   simp only [List.getElem_toArray, List.getElem_map, List.getElem_range]
   by_cases e : j < n
   ·
    have := hall j e;rw [Array.getD_eq_getD_getElem?, Array.getElem?_eq_getElem h1] at this;simp only [Option.getD_some] at this;rw [this]; simp [e]
   have := inv.tail j (by omega) hjs;rw [Array.getD_eq_getD_getElem?, Array.getElem?_eq_getElem h1] at this;simp only [Option.getD_some] at this;rw [this]; simp [e]
  rw [Nat.zero_add];have hdl : (l.drop n).length = ops.size - n := by rw [hl]; simp
  have h3 := wpAny_of_seq (P := P) (md := md) (ops := ops) (Q' := Q) (l.drop n) n s (frm ops a0 f n) w (fun j => by rw [hl]; simp [List.getElem?_drop]) (by rw [hdl, hse]; exact hsq) (tail L f w (fun j hj => by rw [← hL]; exact hall j hj) hI)
  rwa [hdl] at h3
 | succ fuel ih =>
  intro T s L f w hL hT hlen hsT hTn inv hI;have hTne : T ≠ [] := fun e => by rw [e] at hlen; cases hlen
  obtain ⟨m, hm, hle⟩ := ux hTne;have hmn := hTn m hm;have hun : s.getD m false = false := (hsT m hmn).2 hm;have hms : m < s.size := by rw [inv.size]; omega
  obtain ⟨om, hom⟩ : ∃ o, ops[m]? = some o := ⟨_, Array.getElem?_eq_getElem (by omega)⟩
  have hready : m ∈ Region.ready md ops s := mem_ready.2 ⟨getD_in hms hun, om, hom, fun e he hbnd => by
   have h1 := hfw' m om hmn hom e he hbnd
   cases h2 : s.getD e.on false with
   | true => rfl
   | false =>
    have := hle _ ((hsT e.on (by omega)).1 h2)
    omega⟩
  rw [show fuel + 1 + (ops.size - n) = (fuel + (ops.size - n)) + 1 by omega];refine ⟨fun e => absurd hready (by rw [e]; simp), fun i hi => ?_⟩;obtain ⟨hiu, oi, hoi, hdeps⟩ := mem_ready.1 hi;have hin : i < n := by rw [hn]; exact (Array.getElem?_eq_some_iff.1 hoi).1
  have hiT : i ∈ T := (hsT i hin).1 (getD_both hiu);have hdo : zN ops i = oi.dst := by unfold zN; rw [hoi]; rfl
  unfold wpOp;rw [hoi];simp only [];have hh := head i oi hin hoi L f w (by rw [← hL]; exact getD_both hiu) (fun e he hbnd => by rw [← hL]; exact hdeps e he hbnd) hI;refine qk hh (fun v w' hR => ?_) (fun d v w' hR => ?_)
  ·
   obtain ⟨_, hv0, hv⟩ := hR;have hval : I (onL L i) (yv f i v) w' := by
    cases hd : oi.dst with
    | none => exact hv0 hd v
    | some t =>
     have h4 := hv t hd;have h5 : t < (frm ops a0 f n).tmps.size := by rw [uF]; exact hN i hin t (by rw [hdo, hd])
     rw [hd] at h4
     simpa [Act.put, h5] using h4
   rw [← hdo, tK ops a0 f i v n hin fun j hj hji => hdd' i j hin hj (Ne.symm hji)];refine ih (T.erase i) _ (onL L i) _ w' (fun j => ?_) (hT.erase i) (by rw [List.length_erase_of_mem hiT]; omega) (fun j hj => ?_) (fun j hj => hTn j (List.mem_of_mem_erase hj)) (inv.set hi hin) hval
   ·
    unfold onL
    by_cases e : j = i
    ·
     subst e;have hjs : j < s.size := by rw [inv.size]; omega
     simp [Array.getD_eq_getD_getElem?, hjs]
    rw [getD_set_ne false (Ne.symm e), hL j, if_neg e]
   rw [hT.mem_erase_iff]
   by_cases e : j = i
   ·
    subst e;have hjs : j < s.size := by rw [inv.size]; omega
    simp [Array.getD_eq_getD_getElem?, hjs]
   rw [getD_set_ne false (Ne.symm e), hsT j hj];simp [e]
  have h1 := hR.1;have h2 := congrArg List.length h1
  cases hod : oi.dst <;> simp [Act.put, hod] at h2
theorem zJT {id : Nat} {a0 : Act} {w : World} {l : List Oper} (n : Nat) (I : (Nat → Bool) → (Nat → Value) → World → Prop) (N : Nat) (hm : P.follows .mixedOrders = true) (hB : zCe .any l.toArray n = true)
  (hsz : a0.tmps.size = N) (hN : zBD l.toArray n N = true) {fr : (Nat → Value) → Act} (hfr : ∀ f, frm l.toArray a0 f n = fr f)
  (start : ∀ f, I (fun _ => false) f w.drew)
  (head : zFx P Q l.toArray I fr l n 0)
  (tail : ∀ L f w1, (∀ j, j < n → L j = true) → I L f w1 → wpList P l.toArray Q (l.drop n) (fr f) w1) : (Code.region id l.toArray true).wp P Q a0 w := by
 have hn : n = l.toArray.size := by
  simp only [zCe, Bool.and_eq_true, decide_eq_true_eq] at hB;exact hB.1.1.1
 refine wp_region_any hm ?_;have h := zHm (md := .any) (Q := Q) (P := P) (n := n) (a0 := a0) (I := I) rfl hB
  (fun i hi t ht => by
   have h1 := List.all_eq_true.1 hN i (List.mem_range.2 hi)
   rw [ht] at h1
   rw [hsz]
   simpa using h1)
  (fun i o hi ho L f w1 h0 hd hI => by
   rw [hfr]
   have h2 := zAZ l n 0 head i o (by simpa using ho) hi L f w1 (by rwa [Nat.zero_add]) (fun j hj => by
    unfold zCm at hj
    obtain ⟨e, he, h3⟩ := Array.any_eq_true'.1 hj
    simp only [Bool.and_eq_true, beq_iff_eq] at h3
    rw [← h3.2]
    exact hd e he h3.1) hI
   rwa [Nat.zero_add] at h2)
  (fun L f w1 hA hI => by rw [hfr]; exact tail L f w1 hA hI)
  n (List.range n) (Array.replicate l.toArray.size false) (fun _ => false) (fun j => match zN l.toArray j with | some d => a0.tmps.getD d undef | none => undef) w.drew
  (fun j => getD_replicate_false _ _) List.nodup_range (by simp) (fun j hj => by rw [getD_replicate_false]; simp [hj]) (fun j hj => by simpa using hj)
  ⟨by simp, fun j oj _ hl => (by rw [getD_replicate_false] at hl; cases hl), fun t _ ht => getD_in (by simpa using ht) (getD_replicate_false _ _)⟩
  (start _)
 have e0 : frm l.toArray a0 (fun j => match zN l.toArray j with | some d => a0.tmps.getD d undef | none => undef) n = a0 := kT _ _ _;rw [e0, show n + (l.toArray.size - n) = l.toArray.size by omega] at h;exact h
def RzI (n : Nat) (w0 : World) (Φ : Nat → Value → World → Prop) (L : Nat → Bool) (f : Nat → Value) (w : World) : Prop := Below w0.heap.size w0 w ∧ ∀ j, j < n → L j = true → Φ j (f j) w
theorem zIM {n : Nat} {a0 : Act} {w0 : World} {Φ : Nat → Value → World → Prop} (hΦ : ∀ j v w1 w2, Below w1.heap.size w1 w2 → Φ j v w1 → Φ j v w2) {l : List Oper} (hl : ops = l.toArray) (hds : ∀ i, i < n → (zN ops i).isSome = true) (hB : zCe md ops n = true) (hN : ∀ i, i < n → ∀ t, zN ops i = some t → t < a0.tmps.size)
  (head : ∀ i o, i < n → ops[i]? = some o → ∀ L f w, L i = false → (∀ e ∈ o.after, Region.binds md e = true → L e.on = true) → RzI n w0 Φ L f w →
   wpList P ops (Exit.then (ue (Φ i) False (frm ops a0 f n).defers o.dst w) Q) [o] (frm ops a0 f n) w)
  (tail : ∀ L f w, (∀ j, j < n → L j = true) → RzI n w0 Φ L f w → wpList P ops Q (l.drop n) (frm ops a0 f n) w) :
  ∀ (fuel : Nat) (T : List Nat) (s : Array Bool) (L : Nat → Bool) (f : Nat → Value) (w : World), (∀ j, s.getD j false = L j) → T.Nodup → T.length = fuel → (∀ j, j < n → (s.getD j false = false ↔ j ∈ T)) → (∀ j ∈ T, j < n) → HeadInv md ops n s → RzI n w0 Φ L f w →
   wpAny P md ops Q (fuel + (ops.size - n)) s (frm ops a0 f n) w := by
 simp only [zCe, Bool.and_eq_true, decide_eq_true_eq] at hB;obtain ⟨⟨⟨hn, hfw⟩, hdd⟩, hsq⟩ := hB;have hfw' : ∀ i o, i < n → ops[i]? = some o → ∀ e ∈ o.after, Region.binds md e = true → e.on < i := fun i o hi ho e he hb => by
  have := List.all_eq_true.1 hfw i (List.mem_range.2 hi);rw [ho] at this;simp only [Option.map_some, Option.getD_some] at this;have h2 := Array.all_eq_true_iff_forall_mem.1 this e he;rw [hb] at h2
  simpa using h2
 have hdd' : ∀ i j, i < n → j < n → i ≠ j → zN ops i = none ∨ zN ops i ≠ zN ops j := fun i j hi hj hij => by
  have := List.all_eq_true.1 (List.all_eq_true.1 hdd i (List.mem_range.2 hi)) j (List.mem_range.2 hj)
  simpa [hij] using this
 intro fuel
 induction fuel with
 | zero =>
  intro T s L f w hL hT hlen hsT hTn inv hI;have hT0 : T = [] := List.length_eq_zero_iff.1 hlen;subst hT0;have hall : ∀ j, j < n → s.getD j false = true := fun j hj => by
   cases h : s.getD j false with
   | true => rfl
   | false => exact absurd ((hsT j hj).1 h) (by simp)
  have hse : s = ((List.range ops.size).map fun j => decide (j < n)).toArray := by
   apply Array.ext
   ·
    simp [inv.size]
   intro j h1 h2;have hjs : j < ops.size := by rw [← inv.size]; exact h1
   simp only [List.getElem_toArray, List.getElem_map, List.getElem_range]
   by_cases e : j < n
   ·
    have := hall j e;rw [Array.getD_eq_getD_getElem?, Array.getElem?_eq_getElem h1] at this;simp only [Option.getD_some] at this;rw [this]; simp [e]
   have := inv.tail j (by omega) hjs;rw [Array.getD_eq_getD_getElem?, Array.getElem?_eq_getElem h1] at this;simp only [Option.getD_some] at this;rw [this]; simp [e]
  rw [Nat.zero_add];have hdl : (l.drop n).length = ops.size - n := by rw [hl]; simp
  have h3 := wpAny_of_seq (P := P) (md := md) (ops := ops) (Q' := Q) (l.drop n) n s (frm ops a0 f n) w (fun j => by rw [hl]; simp [List.getElem?_drop]) (by rw [hdl, hse]; exact hsq) (tail L f w (fun j hj => by rw [← hL]; exact hall j hj) hI)
  rwa [hdl] at h3
 | succ fuel ih =>
  intro T s L f w hL hT hlen hsT hTn inv hI;have hTne : T ≠ [] := fun e => by rw [e] at hlen; cases hlen
  obtain ⟨m, hm, hle⟩ := ux hTne;have hmn := hTn m hm;have hun : s.getD m false = false := (hsT m hmn).2 hm;have hms : m < s.size := by rw [inv.size]; omega
  obtain ⟨om, hom⟩ : ∃ o, ops[m]? = some o := ⟨_, Array.getElem?_eq_getElem (by omega)⟩
  have hready : m ∈ Region.ready md ops s := mem_ready.2 ⟨getD_in hms hun, om, hom, fun e he hbnd => by
   have h1 := hfw' m om hmn hom e he hbnd
   cases h2 : s.getD e.on false with
   | true => rfl
   | false =>
    have := hle _ ((hsT e.on (by omega)).1 h2)
    omega⟩
  rw [show fuel + 1 + (ops.size - n) = (fuel + (ops.size - n)) + 1 by omega];refine ⟨fun e => absurd hready (by rw [e]; simp), fun i hi => ?_⟩;obtain ⟨hiu, oi, hoi, hdeps⟩ := mem_ready.1 hi;have hin : i < n := by rw [hn]; exact (Array.getElem?_eq_some_iff.1 hoi).1
  have hiT : i ∈ T := (hsT i hin).1 (getD_both hiu);have hdo : zN ops i = oi.dst := by unfold zN; rw [hoi]; rfl
  unfold wpOp;rw [hoi];simp only [];have hh := head i oi hin hoi L f w (by rw [← hL]; exact getD_both hiu) (fun e he hbnd => by rw [← hL]; exact hdeps e he hbnd) hI;refine qk hh (fun v w' hR => ?_) (fun d v w' hR => ?_)
  ·
   obtain ⟨_, hbel, hv⟩ := hR;have hval : RzI n w0 Φ (onL L i) (yv f i v) w' := by
    have hsome := hds i hin;rw [hdo] at hsome
    cases hd : oi.dst with
    | none => rw [hd] at hsome; cases hsome
    | some t =>
     have h4 := (hv t hd).1;have h5 : t < (frm ops a0 f n).tmps.size := by rw [uF]; exact hN i hin t (by rw [hdo, hd])
     rw [hd] at h4;have h6 : Φ i v w' := by simpa [Act.put, h5] using h4
     refine ⟨zA hI.1 hbel, fun j hj hLj => ?_⟩;unfold onL at hLj;unfold yv
     by_cases e : j = i
     ·
      rw [if_pos e]; rw [e]; exact h6
     rw [if_neg e] at hLj ⊢;exact hΦ j _ _ _ hbel (hI.2 j hj hLj)
   rw [← hdo, tK ops a0 f i v n hin fun j hj hji => hdd' i j hin hj (Ne.symm hji)];refine ih (T.erase i) _ (onL L i) _ w' (fun j => ?_) (hT.erase i) (by rw [List.length_erase_of_mem hiT]; omega) (fun j hj => ?_) (fun j hj => hTn j (List.mem_of_mem_erase hj)) (inv.set hi hin) hval
   ·
    unfold onL
    by_cases e : j = i
    ·
     subst e;have hjs : j < s.size := by rw [inv.size]; omega
     simp [Array.getD_eq_getD_getElem?, hjs]
    rw [getD_set_ne false (Ne.symm e), hL j, if_neg e]
   rw [hT.mem_erase_iff]
   by_cases e : j = i
   ·
    subst e;have hjs : j < s.size := by rw [inv.size]; omega
    simp [Array.getD_eq_getD_getElem?, hjs]
   rw [getD_set_ne false (Ne.symm e), hsT j hj];simp [e]
  have h1 := hR.1;have h2 := congrArg List.length h1
  cases hod : oi.dst <;> simp [Act.put, hod] at h2
def zLk (ops : Array Oper) (n : Nat) : Bool := (List.range n).all fun i => (zN ops i).isSome
theorem yx {id : Nat} {a0 : Act} {w : World} {l : List Oper} (L : List Sta) (N : Nat) (hm : P.follows .mixedOrders = true) (hB : zCe .any l.toArray L.length = true) (hD : zLk l.toArray L.length = true)
  (hsz : a0.tmps.size = N) (hN : zBD l.toArray L.length N = true) {fr : (Nat → Value) → Act} (hfr : ∀ f, frm l.toArray a0 f L.length = fr f)
  (head : zDU P Q l.toArray L [] fr w l L 0)
  (tail : ∀ f w1, Below w.heap.size w w1 → (∀ j, j < L.length → (stA L j).p (f j) w1) → wpList P l.toArray Q [] (fr f) w1) : (Code.region id l.toArray true).wp P Q a0 w := by
 have hn : L.length = l.toArray.size := by
  simp only [zCe, Bool.and_eq_true, decide_eq_true_eq] at hB;exact hB.1.1.1
 refine wp_region_any hm ?_;have h := zIM (md := .any) (Q := Q) (P := P) (n := L.length) (a0 := a0) (w0 := w) (Φ := fun j => (stA L j).p) (fun j v w1 w2 hb h => (stA L j).m v w1 w2 hb h) rfl (fun i hi => List.all_eq_true.1 hD i (List.mem_range.2 hi)) hB
  (fun i hi t ht => by
   have h1 := List.all_eq_true.1 hN i (List.mem_range.2 hi)
   rw [ht] at h1
   rw [hsz]
   simpa using h1)
  (fun i o hi ho Lb f w1 h0 hd hI => by
   rw [hfr]
   have hS : L[i]? = some (stA L i) := by
    unfold stA
    rw [List.getD_eq_getElem?_getD, List.getElem?_eq_getElem hi]; rfl
   have h2 := kD l L 0 head i o (stA L i) (by simpa using ho) hS f w1 hI.1 (fun j hj => by
    unfold zCm at hj
    obtain ⟨e, he, h3⟩ := Array.any_eq_true'.1 hj
    simp only [Bool.and_eq_true, beq_iff_eq] at h3
    have hlt : e.on < i := by
     have hB2 := hB
     simp only [zCe, Bool.and_eq_true, decide_eq_true_eq] at hB2
     have := List.all_eq_true.1 hB2.1.1.2 i (List.mem_range.2 hi)
     rw [ho] at this
     simp only [Option.map_some, Option.getD_some] at this
     have h5 := Array.all_eq_true_iff_forall_mem.1 this e he
     rw [h3.1] at h5
     simpa using h5
    have h4 := hI.2 e.on (by omega) (hd e he h3.1)
    rwa [h3.2] at h4)
   have h3 : (0 + i ∈ ([] : List Nat)) = False := by simp
   rw [h3] at h2
   exact h2)
  (fun Lb f w1 hA hI => by
   rw [hfr]
   have hdl : l.drop L.length = [] := List.drop_of_length_le (by rw [hn]; simp)
   rw [hdl]
   exact tail f w1 hI.1 fun j hj => hI.2 j hj (hA j hj))
  L.length (List.range L.length) (Array.replicate l.toArray.size false) (fun _ => false) (fun j => match zN l.toArray j with | some d => a0.tmps.getD d undef | none => undef) w.drew
  (fun j => getD_replicate_false _ _) List.nodup_range (by simp) (fun j hj => by rw [getD_replicate_false]; simp [hj]) (fun j hj => by simpa using hj)
  ⟨by simp, fun j oj _ hl => (by rw [getD_replicate_false] at hl; cases hl), fun t _ ht => getD_in (by simpa using ht) (getD_replicate_false _ _)⟩
  ⟨zi (Below.refl _ _), fun j _ h => by cases h⟩
 have e0 : frm l.toArray a0 (fun j => match zN l.toArray j with | some d => a0.tmps.getD d undef | none => undef) L.length = a0 := kT _ _ _;rw [e0, show L.length + (l.toArray.size - L.length) = l.toArray.size by omega] at h;exact h
end
end Go.Proofs.YtcgfilmmokmdjaaGreat
