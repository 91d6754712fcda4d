/- Several texts in one, each over the last: A region that draws its order, by an invariant: what holds when a set of its operations has been done, whatever their order; the stores among them count, too. What comes behind them all has one order. Generations stay valid, plain. No program here. The law's small, told, light, made; the reference's Same: the walks. Printed by genHo.py. A region that draws its order, by what each operation leaves, where one operation of the head may come behind the first of the tail: `x, e := f(..)` where x is a cell: the second extract may come behind the store. A region that draws its order, all of whose operations may come in any order (wp_region_inv without a tail). Boxes with their types, beside maps of the call's own; what operations of a drawn region leave. -/
import Derived.Test.YtenkeodfijladaaGreatGM
import Derived.Test.YtenkeodfijladaaGreatGN
import Derived.Test.YtenkeodfijladaaGreatGC
import Derived.Test.YtenkeodfijladaaGreatGL
import Derived.Laws.Bits128
import Derived.OneCell
namespace Go.Proofs.YtenkeodfijladaaGreat
open Go Go.RowKit

section
variable {P : Program} {ops : Array Oper} {md : Region.Mode}
def invB (md : Region.Mode) (ops : Array Oper) (n : Nat) : Bool :=
  decide (n < ops.size) && Region.sinkB md ops n && Region.chainB md ops n &&
  ((List.range n).all fun i => ((ops[i]?).map fun o => o.after.all fun e => !Region.binds md e || decide (e.on < i)).getD false) &&
  ((List.range n).all fun i => (List.range n).all fun j => decide (i = j) || decide (dstOf ops i = none) || decide (dstOf ops i ≠ dstOf ops j)) &&
  Region.seqB md ops (ops.size - n) n ((List.range ops.size).map fun j => decide (j < n)).toArray
/-- One operation more is done. -/
def onL (L : Nat → Bool) (i : Nat) : Nat → Bool := fun j => if j = i then true else L j
variable {Q : Exit → Act → World → Prop}
def InvPost (J : Value → World → Prop) (ds : List Deferred) (d : Option Tmp) (a' : Act) (w' : World) : Prop :=
  a'.defers = ds ∧ (d = none → ∀ v, J v w') ∧ ∀ t, d = some t → J (a'.tmps.getD t undef) w'
theorem inv_any {n : Nat} {a0 : Act} {I : (Nat → Bool) → (Nat → Value) → World → Prop} {l : List Oper} (hl : ops = l.toArray) (hB : invB md ops n = true) (hN : ∀ i, i < n → ∀ t, dstOf ops i = some t → t < a0.tmps.size)
    (head : ∀ i o, i < n → ops[i]? = some o → ∀ L f w, L i = false → (∀ e ∈ o.after, Region.binds md e = true → L e.on = true) → I L f w →
      wpList P ops (Exit.then (InvPost (fun v w' => I (onL L i) (updF f i v) w') (frm ops a0 f n).defers o.dst) Q) [o] (frm ops a0 f n) w)
    (tail : ∀ L f w, (∀ j, j < n → L j = true) → I L f w → wpList P ops Q (l.drop n) (frm ops a0 f n) w) :
    ∀ (fuel : Nat) (T : List Nat) (s : Array Bool) (L : Nat → Bool) (f : Nat → Value) (w : World), (∀ j, s.getD j false = L j) → T.Nodup → T.length = fuel → (∀ j, j < n → (s.getD j false = false ↔ j ∈ T)) → (∀ j ∈ T, j < n) → HeadInv md ops n s → I L f w →
      wpAny P md ops Q (fuel + (ops.size - n)) s (frm ops a0 f n) w := by
  simp only [invB, Bool.and_eq_true, decide_eq_true_eq] at hB
  obtain ⟨⟨⟨⟨⟨hn, hs⟩, hc⟩, hfw⟩, hdd⟩, hsq⟩ := hB
  have hfw' : ∀ i o, i < n → ops[i]? = some o → ∀ e ∈ o.after, Region.binds md e = true → e.on < i := fun i o hi ho e he hb => by
    have := List.all_eq_true.1 hfw i (List.mem_range.2 hi)
    rw [ho] at this
    simp only [Option.map_some, Option.getD_some] at this
    have h2 := Array.all_eq_true_iff_forall_mem.1 this e he
    rw [hb] at h2
    simpa using h2
  have hdd' : ∀ i j, i < n → j < n → i ≠ j → dstOf ops i = none ∨ dstOf ops i ≠ dstOf ops j := fun i j hi hj hij => by
    have := List.all_eq_true.1 (List.all_eq_true.1 hdd i (List.mem_range.2 hi)) j (List.mem_range.2 hj)
    simpa [hij] using this
  intro fuel
  induction fuel with
  | zero =>
    intro T s L f w hL hT hlen hsT hTn inv hI
    have hT0 : T = [] := List.length_eq_zero_iff.1 hlen
    subst hT0
    have hall : ∀ j, j < n → s.getD j false = true := fun j hj => by
      cases h : s.getD j false with
      | true => rfl
      | false => exact absurd ((hsT j hj).1 h) (by simp)
    have hse : s = ((List.range ops.size).map fun j => decide (j < n)).toArray := by
      apply Array.ext
      · simp [inv.size]
      · intro j h1 h2
        have hjs : j < ops.size := by rw [← inv.size]; exact h1
        simp only [List.getElem_toArray, List.getElem_map, List.getElem_range]
        by_cases e : j < n
        · have := hall j e
          rw [Array.getD_eq_getD_getElem?, Array.getElem?_eq_getElem h1] at this
          simp only [Option.getD_some] at this
          rw [this]; simp [e]
        · have := inv.tail j (by omega) hjs
          rw [Array.getD_eq_getD_getElem?, Array.getElem?_eq_getElem h1] at this
          simp only [Option.getD_some] at this
          rw [this]; simp [e]
    rw [Nat.zero_add]
    have hdl : (l.drop n).length = ops.size - n := by rw [hl]; simp
    have h3 := wpAny_of_seq (P := P) (md := md) (ops := ops) (Q' := Q) (l.drop n) n s (frm ops a0 f n) w (fun j => by rw [hl]; simp [List.getElem?_drop]) (by rw [hdl, hse]; exact hsq) (tail L f w (fun j hj => by rw [← hL]; exact hall j hj) hI)
    rwa [hdl] at h3
  | succ fuel ih =>
    intro T s L f w hL hT hlen hsT hTn inv hI
    have hTne : T ≠ [] := fun e => by rw [e] at hlen; cases hlen
    obtain ⟨m, hm, hle⟩ := least_of hTne
    have hmn := hTn m hm
    have hun : s.getD m false = false := (hsT m hmn).2 hm
    have hms : m < s.size := by rw [inv.size]; omega
    obtain ⟨om, hom⟩ : ∃ o, ops[m]? = some o := ⟨_, Array.getElem?_eq_getElem (by omega)⟩
    have hready : m ∈ Region.ready md ops s := mem_ready.2 ⟨getD_in hms hun, om, hom, fun e he hbnd => by
      have h1 := hfw' m om hmn hom e he hbnd
      cases h2 : s.getD e.on false with
      | true => rfl
      | false =>
        have := hle _ ((hsT e.on (by omega)).1 h2)
        omega⟩
    rw [show fuel + 1 + (ops.size - n) = (fuel + (ops.size - n)) + 1 by omega]
    refine ⟨fun e => absurd hready (by rw [e]; simp), fun i hi => ?_⟩
    obtain ⟨hiu, oi, hoi, hdeps⟩ := mem_ready.1 hi
    have hin : i < n := Nat.lt_of_not_le fun h => tail_waits hs hc hn inv _ m rfl hmn (getD_in hms hun) i h hi
    have hiT : i ∈ T := (hsT i hin).1 (getD_both hiu)
    have hdo : dstOf ops i = oi.dst := by unfold dstOf; rw [hoi]; rfl
    unfold wpOp
    rw [hoi]
    simp only []
    have hh := head i oi hin hoi L f w (by rw [← hL]; exact getD_both hiu) (fun e he hbnd => by rw [← hL]; exact hdeps e he hbnd) hI
    refine rel_one hh (fun v w' hR => ?_) (fun d v w' hR => ?_)
    · obtain ⟨_, hv0, hv⟩ := hR
      have hval : I (onL L i) (updF f i v) w' := by
        cases hd : oi.dst with
        | none => exact hv0 hd v
        | some t =>
          have h4 := hv t hd
          have h5 : t < (frm ops a0 f n).tmps.size := by rw [frm_size]; exact hN i hin t (by rw [hdo, hd])
          rw [hd] at h4
          simpa [Act.put, h5] using h4
      rw [← hdo, frm_put ops a0 f i v n hin fun j hj hji => hdd' i j hin hj (Ne.symm hji)]
      refine ih (T.erase i) _ (onL L i) _ w' (fun j => ?_) (hT.erase i) (by rw [List.length_erase_of_mem hiT]; omega) (fun j hj => ?_) (fun j hj => hTn j (List.mem_of_mem_erase hj)) (inv.set hi hin) hval
      · unfold onL
        by_cases e : j = i
        · subst e
          have hjs : j < s.size := by rw [inv.size]; omega
          simp [Array.getD_eq_getD_getElem?, hjs]
        · rw [getD_set_ne false (Ne.symm e), hL j, if_neg e]
      · rw [hT.mem_erase_iff]
        by_cases e : j = i
        · subst e
          have hjs : j < s.size := by rw [inv.size]; omega
          simp [Array.getD_eq_getD_getElem?, hjs]
        · rw [getD_set_ne false (Ne.symm e), hsT j hj]
          simp [e]
    · have h1 := hR.1
      have h2 := congrArg List.length h1
      cases hod : oi.dst <;> simp [Act.put, hod] at h2
/-- Each operation in turn carries the invariant on. -/
def HeadI (P : Program) (Q : Exit → Act → World → Prop) (ops : Array Oper) (I : (Nat → Bool) → (Nat → Value) → World → Prop) (fr : (Nat → Value) → Act) : List Oper → Nat → Nat → Prop
  | o :: r, m + 1, i => (∀ L f w, L i = false → (∀ j, depB o j = true → L j = true) → I L f w → wpList P ops (Exit.then (InvPost (fun v w' => I (onL L i) (updF f i v) w') (fr f).defers o.dst) Q) [o] (fr f) w) ∧ HeadI P Q ops I fr r m (i + 1)
  | _, _, _ => True
theorem headI_at {ops : Array Oper} {I : (Nat → Bool) → (Nat → Value) → World → Prop} {fr : (Nat → Value) → Act} : ∀ (l : List Oper) (m k : Nat), HeadI P Q ops I fr l m k →
    ∀ i o, l[i]? = some o → i < m → ∀ L f w, L (k + i) = false → (∀ j, depB o j = true → L j = true) → I L f w → wpList P ops (Exit.then (InvPost (fun v w' => I (onL L (k + i)) (updF f (k + i) v) w') (fr f).defers o.dst) Q) [o] (fr f) w
  | [], _, _, _, i, o, ho, _ => by simp at ho
  | o :: r, 0, _, _, i, _, _, hS => by omega
  | o :: r, m + 1, k, h, 0, o', ho, _ => by
    simp at ho
    subst ho
    exact h.1
  | o :: r, m + 1, k, h, i + 1, o', ho, hm => by
    have := headI_at r m (k + 1) h.2 i o' (by simpa using ho) (by omega)
    rwa [show k + 1 + i = k + (i + 1) by omega] at this
theorem wp_region_inv {id : Nat} {a0 : Act} {w : World} {l : List Oper} (n : Nat) (I : (Nat → Bool) → (Nat → Value) → World → Prop) (N : Nat) (hm : P.follows .mixedOrders = true) (hB : invB .any l.toArray n = true)
    (hsz : a0.tmps.size = N) (hN : dstLtB l.toArray n N = true) {fr : (Nat → Value) → Act} (hfr : ∀ f, frm l.toArray a0 f n = fr f)
    (start : ∀ f, I (fun _ => false) f w.drew)
    (head : HeadI P Q l.toArray I fr l n 0)
    (tail : ∀ L f w1, (∀ j, j < n → L j = true) → I L f w1 → wpList P l.toArray Q (l.drop n) (fr f) w1) : (Code.region id l.toArray true).wp P Q a0 w := by
  have hn : n < l.toArray.size := by
    simp only [invB, Bool.and_eq_true, decide_eq_true_eq] at hB
    exact hB.1.1.1.1.1
  refine wp_region_any hm ?_
  have h := inv_any (md := .any) (Q := Q) (P := P) (n := n) (a0 := a0) (I := I) rfl hB
    (fun i hi t ht => by
      have h1 := List.all_eq_true.1 hN i (List.mem_range.2 hi)
      rw [ht] at h1
      rw [hsz]
      simpa using h1)
    (fun i o hi ho L f w1 h0 hd hI => by
      rw [hfr]
      have h2 := headI_at l n 0 head i o (by simpa using ho) hi L f w1 (by rwa [Nat.zero_add]) (fun j hj => by
        unfold depB at hj
        obtain ⟨e, he, h3⟩ := Array.any_eq_true'.1 hj
        simp only [Bool.and_eq_true, beq_iff_eq] at h3
        rw [← h3.2]
        exact hd e he h3.1) hI
      rwa [Nat.zero_add] at h2)
    (fun L f w1 hA hI => by rw [hfr]; exact tail L f w1 hA hI)
    n (List.range n) (Array.replicate l.toArray.size false) (fun _ => false) (fun j => match dstOf l.toArray j with | some d => a0.tmps.getD d undef | none => undef) w.drew
    (fun j => getD_replicate_false _ _) List.nodup_range (by simp) (fun j hj => by rw [getD_replicate_false]; simp [hj]) (fun j hj => by simpa using hj)
    ⟨by simp, fun j oj _ hl => (by rw [getD_replicate_false] at hl; cases hl), fun t _ ht => getD_in (by simpa using ht) (getD_replicate_false _ _)⟩
    (start _)
  have e0 : frm l.toArray a0 (fun j => match dstOf l.toArray j with | some d => a0.tmps.getD d undef | none => undef) n = a0 := frm_id _ _ _
  rw [e0, show n + (l.toArray.size - n) = l.toArray.size by omega] at h
  exact h
end
end Go.Proofs.YtenkeodfijladaaGreat

namespace Go.Proofs.YtenkeodfijladaaGreat

theorem mem_itemsM {M : Mp} (_ : VldM M) {y : It} : y ∈ itemsM M ↔ getM M y.key = some y := by
  have ha := itemsM_asc M
  rw [← fnd_itemsM, srt_of_asc ha]
  refine ⟨fun hy => fnd_mem' ha hy, fun hf => List.mem_of_find?_eq_some hf⟩
theorem pw_forall {R : It → It → Prop} (hs : ∀ a b, R a b → R b a) : ∀ {l : List It}, l.Pairwise R → ∀ x ∈ l, ∀ y ∈ l, x ≠ y → R x y
  | [], _, x, hx, _, _, _ => by cases hx
  | a :: l, h, x, hx, y, hy, hne => by
    rw [List.pairwise_cons] at h
    rcases List.mem_cons.1 hx with e1 | hx
    · rcases List.mem_cons.1 hy with e2 | hy
      · exact absurd (e1.trans e2.symm) hne
      · rw [e1]; exact h.1 y hy
    · rcases List.mem_cons.1 hy with e2 | hy
      · rw [e2]; exact hs _ _ (h.1 x hx)
      · exact pw_forall hs h.2 x hx y hy hne
theorem endsP_mem {l : List It} (h : Asc l) (size : Int) : endsP l size ↔ (∀ x ∈ l, ∀ y ∈ l, x.key ≠ y.key → disj x y) ∧ ∀ x ∈ l, endI x ≤ size := by
  unfold endsP
  have hp := pw_of h
  refine ⟨fun ⟨h1, h2⟩ => ⟨fun x hx y hy hne => ?_, h2⟩, fun ⟨h1, h2⟩ => ⟨?_, h2⟩⟩
  · exact pw_forall (fun _ _ h => disj_symm h) h1 x hx y hy (fun e => hne (by rw [e]))
  · refine List.Pairwise.imp_of_mem ?_ hp
    intro a b ha hb hlt
    exact h1 a ha b hb (by omega)
theorem nsz8 (n : Nat) : nsz n % 8 = 0 := by unfold nsz; omega
theorem szN8 (n : Nat) : szN n % 8 = 0 := by
  unfold szN
  split
  · exact nsz8 n
  · rfl
theorem VldG.small {g : Gn} (h : VldG g) : 0 ≤ g.m.live ∧ 0 ≤ g.m.garb ∧ g.m.live ≤ 1048576 ∧ g.m.garb ≤ 1048576 := by
  have h1 := (vldM_iff _).1 h.m
  have h2 := h1.live0
  have h3 := h1.g0
  have h4 := h.sum
  have h5 := h.size
  omega
/-- Less items, more room: the ends still hold. -/
theorem ends_less {M M' : Mp} (hm : VldM M) (hm' : VldM M') {z z' : Int} (h : endsB (itemsM M) z = true) (hz : z ≤ z') (hg : ∀ k y, getM M' k = some y → getM M k = some y) : endsB (itemsM M') z' = true := by
  have h1 := (endsP_mem (itemsM_asc M) z).1 (of_decide_eq_true h)
  refine decide_eq_true ((endsP_mem (itemsM_asc M') z').2 ⟨fun x hx y hy hne => ?_, fun x hx => ?_⟩)
  · exact h1.1 x ((mem_itemsM hm).2 (hg _ _ ((mem_itemsM hm').1 hx))) y ((mem_itemsM hm).2 (hg _ _ ((mem_itemsM hm').1 hy))) hne
  · have := h1.2 x ((mem_itemsM hm).2 (hg _ _ ((mem_itemsM hm').1 hx)))
    omega
theorem ends_add {M : Mp} (hm : VldM M) {x : It} (hx : okB x = true) (hgb : M.garb + (szO (getM M x.key) : Int) ≤ 1099511627776) (h : endsB (itemsM M) x.off = true) : endsB (itemsM (insM M x)) (endI x) = true := by
  have h1 := (endsP_mem (itemsM_asc M) x.off).1 (of_decide_eq_true h)
  have hm' := hm.ins hx hgb
  have hlt := endI_gt (of_decide_eq_true hx)
  have hmem : ∀ y, y ∈ itemsM (insM M x) → y = x ∨ y ∈ itemsM M := fun y hy => by
    have := (mem_itemsM hm').1 hy
    rw [getM_ins hm hx hgb] at this
    by_cases e : x.key = y.key
    · rw [if_pos e] at this
      injection this with e2
      exact .inl e2.symm
    · rw [if_neg e] at this
      exact .inr ((mem_itemsM hm).2 this)
  refine decide_eq_true ((endsP_mem (itemsM_asc _) _).2 ⟨fun y hy z hz hne => ?_, fun y hy => ?_⟩)
  · rcases hmem y hy with rfl | hy'
    · rcases hmem z hz with rfl | hz'
      · exact absurd rfl hne
      · exact .inr (h1.2 z hz')
    · rcases hmem z hz with rfl | hz'
      · exact .inl (h1.2 y hy')
      · exact h1.1 y hy' z hz' hne
  · rcases hmem y hy with rfl | hy'
    · exact Int.le_refl _
    · have := h1.2 y hy'
      omega
theorem itA_ok {g : Gn} (hg : VldG g) {x : Nd} (hx : x.ok) : okB (itA g x) = true := by
  have h1 := hg.size
  have h2 : x.data.length ≤ 4096 := hx.1
  refine decide_eq_true ⟨?_, ?_, ?_, ?_, ?_⟩
  · exact h1.1
  · exact h1.2.1
  · exact h1.2.2
  · show (0 : Int) ≤ (x.data.length : Int); omega
  · show (x.data.length : Int) ≤ 4096; omega
theorem addOne_vld {g : Gn} (hg : VldG g) {x : Nd} (hx : x.ok) (hz : g.size + (szN x.data.length : Int) ≤ 1048576) : VldG (addOne g x) := by
  have hm := (vldM_iff _).1 hg.m
  have hs := hg.small
  have h8 := szN8 x.data.length
  have hsz := hg.size
  have hsum := hg.sum
  have hxl := szN_le x.data.length
  refine ⟨hg.num, hg.rev, hg.mode, ⟨?_, hz, ?_⟩, ?_, ?_, ?_⟩
  · show 16 ≤ g.size + (szN x.data.length : Int); omega
  · show (g.size + (szN x.data.length : Int)) % 8 = 0; omega
  all_goals
    unfold addOne
    dsimp only
    split
    next hd =>
      have h1 : g.m.garb + (szO (getM g.m x.key) : Int) ≤ 1099511627776 := by have := szO_le (getM g.m x.key); omega
      have hd1 := hm.del h1
      have hds := delM_sum hm h1
      have hdl := hd1.live0
      have h2 : (delM g.m x.key).garb + (szN x.data.length : Int) ≤ 1099511627776 := by omega
      have hw := hd1.waste (n := (szN x.data.length : Int)) (by omega) h2
      first
        | exact (vldM_iff _).2 hw
        | (refine ends_less hm hw hg.ends (by omega) ?_
           intro k y hy
           rw [getM_of hw, wasteM_st, ← getM_of hd1, getM_del hm h1] at hy
           split at hy
           · cases hy
           · exact hy)
        | (rw [wasteM_of hd1 (by omega) h2]
           dsimp only
           omega)
    next hd =>
      have hok := itA_ok hg hx
      have h1 : g.m.garb + (szO (getM g.m (itA g x).key) : Int) ≤ 1099511627776 := by have := szO_le (getM g.m (itA g x).key); omega
      have hi := hm.ins hok h1
      have his := insM_sum hm hok h1
      have he : lenO (itA g x) = szN x.data.length := by unfold lenO itA; dsimp only; rw [Int.toNat_natCast]
      first
        | exact (vldM_iff _).2 hi
        | (have h3 := ends_add hm hok h1 hg.ends
           have h4 : endI (itA g x) = g.size + (szN x.data.length : Int) := by unfold endI itA; dsimp only; rw [Int.toNat_natCast]
           rwa [h4] at h3)
        | (rw [he] at his
           omega)
theorem addAll_vld : ∀ (l : List Nd) {g : Gn}, VldG g → (∀ x ∈ l, x.ok) → g.size + (szL l : Int) ≤ 1048576 → VldG (addAll g l)
  | [], _, h, _, _ => h
  | x :: r, g, h, hok, hz => by
    rw [szL_cons] at hz
    have h1 := addOne_vld h (hok x (by simp)) (by omega)
    have := addAll_vld r h1 (fun y hy => hok y (by simp [hy])) (by rw [addOne_size]; omega)
    exact this
theorem VldG.turn {g : Gn} (h : VldG g) (hm : g.mode ≤ 2) : VldG { g with mode := g.mode + 1 } := ⟨h.num, h.rev, ⟨by show 1 ≤ g.mode + 1; have := h.mode; omega, by show g.mode + 1 ≤ 3; omega⟩, h.size, h.m, h.ends, h.sum⟩
/-- What adding at once answers for needles that fit. -/
theorem addG_ok {g : Gn} (h : VldG g) (hm : g.mode = 1) {l : List Nd} (hok : ∀ x ∈ l, x.ok) (hz : g.size + (szL l : Int) ≤ 1048576) : addG g l = (0, addAll g l) := by
  unfold addG
  rw [if_pos ⟨(vldG_iff g).2 h, (okLB_iff l).2 hok⟩, if_pos hm, if_pos hz]
/-! ### The laws' needles and generations -/
/-- The law's small: at most ten needles of eight keys, with at most forty bytes. -/
def smN (x : Nd) : Nd := ⟨x.key % 8, x.ck, x.del, if x.del then [] else x.data.take 40⟩
def smL (l : List Nd) : List Nd := (l.take 10).map smN
theorem smN_ok (x : Nd) : (smN x).ok := by
  unfold smN Nd.ok
  dsimp only
  split
  · exact ⟨by simp, fun _ => rfl⟩
  · exact ⟨by rw [List.length_take]; omega, fun h => by simp_all⟩
theorem smN_len (x : Nd) : (smN x).data.length ≤ 40 := by
  unfold smN
  dsimp only
  split
  · simp
  · rw [List.length_take]; omega
theorem smL_ok (l : List Nd) : ∀ x ∈ smL l, x.ok := fun x hx => by
  obtain ⟨y, _, rfl⟩ := List.mem_map.1 hx
  exact smN_ok y
theorem smL_len (l : List Nd) : (smL l).length ≤ 10 := by unfold smL; rw [List.length_map, List.length_take]; omega
theorem smL_dlen (l : List Nd) : ∀ x ∈ smL l, x.data.length ≤ 40 := fun x hx => by
  obtain ⟨y, _, rfl⟩ := List.mem_map.1 hx
  exact smN_len y
theorem szL_smL (l : List Nd) : szL (smL l) ≤ 41270 := Nat.le_trans (szL_le _) (by have := smL_len l; omega)
/-- The law's made, b: the mode's bits. -/
def madeM (num : Int) (md : Int) (l : List Nd) : Gn := { addAll (fresh num) (smL l) with mode := md }
theorem fresh_vld' {num : Int} (h : 1 ≤ num ∧ num ≤ 8) : VldG (fresh num) := (fresh_vld num).2 h
theorem madeM_vld {num md : Int} (h : 1 ≤ num ∧ num ≤ 8) (hm : 1 ≤ md ∧ md ≤ 3) (l : List Nd) : VldG (madeM num md l) := by
  have h1 := addAll_vld (smL l) (fresh_vld' h) (smL_ok l) (by have := szL_smL l; show (16 : Int) + _ ≤ _; omega)
  exact ⟨h1.num, h1.rev, hm, h1.size, h1.m, h1.ends, h1.sum⟩
theorem madeM_one (num : Int) (l : List Nd) : madeM num 1 l = addAll (fresh num) (smL l) := by
  have := (addAll_num (smL l) (fresh num)).2.2
  unfold madeM
  rw [show (1 : Int) = (addAll (fresh num) (smL l)).mode from this.symm]
theorem madeM_len (num md : Int) (l : List Nd) : ∀ i, i < 8 → ((madeM num md l).m.st i).length ≤ 10 := fun i hi => by
  have h := addAll_len (smL l) (fresh num) (n := 0) (fun _ _ => Nat.le_refl _) i hi
  have h2 := smL_len l
  exact Nat.le_trans h (by omega)
theorem madeM_size (num md : Int) (l : List Nd) : (madeM num md l).size = 16 + (szL (smL l) : Int) := addAll_size _ _
end Go.Proofs.YtenkeodfijladaaGreat

namespace Go.Proofs.YtenkeodfijladaaGreat
open Go.RowKit

theorem i64_and7 (n : Int) : bits .and .i64 n 7 = n % 8 := by
  have hm : (BitVec.ofInt 64 7).toNat = 2 ^ 3 - 1 := by decide
  have key : (BitVec.ofInt 64 n &&& BitVec.ofInt 64 7).toNat = (n % ((2 ^ 64 : Nat) : Int)).toNat % 2 ^ 3 := by
    rw [BitVec.toNat_and, BitVec.toNat_ofInt, hm, Nat.and_two_pow_sub_one_eq_mod]
  show IntKind.i64.wrap ((BitVec.ofInt 64 n &&& BitVec.ofInt 64 7).toNat : Nat) = n % 8
  rw [key, IntKind.wrap_i64]
  omega
theorem and24_nat : ∀ j, j < 32 → (j &&& 24 = 0 ∨ j &&& 24 = 8 ∨ j &&& 24 = 16 ∨ j &&& 24 = 24) := by decide
theorem i64_and24 (n : Int) : bits .and .i64 n 24 = 0 ∨ bits .and .i64 n 24 = 8 ∨ bits .and .i64 n 24 = 16 ∨ bits .and .i64 n 24 = 24 := by
  have hm : (BitVec.ofInt 64 24).toNat = 24 := by decide
  obtain ⟨k, hk⟩ : ∃ k, (BitVec.ofInt 64 n).toNat = k := ⟨_, rfl⟩
  have h1 : k &&& 24 = (k % 32) &&& 24 := by
    rw [show (32 : Nat) = 2 ^ 5 from rfl, ← Nat.and_two_pow_sub_one_eq_mod, Nat.and_assoc]; rfl
  have h2 := and24_nat (k % 32) (by omega)
  show IntKind.i64.wrap ((BitVec.ofInt 64 n &&& BitVec.ofInt 64 24).toNat : Nat) = 0 ∨ IntKind.i64.wrap ((BitVec.ofInt 64 n &&& BitVec.ofInt 64 24).toNat : Nat) = 8 ∨ IntKind.i64.wrap ((BitVec.ofInt 64 n &&& BitVec.ofInt 64 24).toNat : Nat) = 16 ∨ IntKind.i64.wrap ((BitVec.ofInt 64 n &&& BitVec.ofInt 64 24).toNat : Nat) = 24
  rw [BitVec.toNat_and, hm, hk, h1]
  rcases h2 with h | h | h | h <;> rw [h]
  · exact .inl rfl
  · exact .inr (.inl rfl)
  · exact .inr (.inr (.inl rfl))
  · exact .inr (.inr (.inr rfl))
theorem key7' (k : Nat) (h : k < 18446744073709551616) : bits .and .u64 (k : Int) 7 = ((k % 8 : Nat) : Int) := by
  have := u64_and_nat k 7 h (by decide)
  rw [show ((7 : Nat) : Int) = 7 from rfl] at this
  rw [this, show (7 : Nat) = 2 ^ 3 - 1 from rfl, Nat.and_two_pow_sub_one_eq_mod]
theorem Rd.newK' (k : Nat) (w : World) (hk : w.heap.size = k) (sz : Nat) (cs : List Value) (e : TypeId) (n : Nat) (hn : cs.length = n * sz) (hm : n ≤ maxLen) : Rd (w.alloc (.cells cs.toArray e)) sz (.slice (some ⟨k, 0, none⟩) n n) n cs := by
  subst hk; exact Rd.new w sz cs e n hn hm
/-- What small leaves: needles in a row of the call's own, whose data lie where they lay. -/
def SmRes (w0 : World) (ns : List (Nd × Value)) (e : Ending) (w' : World) : Prop :=
  ∃ lv es, e = .returned lv ∧ w'.ownsRow w0.heap.size 72 4 lv es.length (needsC es) ∧ es.map (·.1) = smL (ns.map (·.1)) ∧ (∀ p ∈ es, ∀ W, (∀ q ∈ ns, RdB W q.2 q.1.data) → RdB W p.2 p.1.data) ∧ Below w0.heap.size w0 w'
theorem SmRes.rd {w0 : World} {v : Value} {ns : List (Nd × Value)} {e : Ending} {w' : World} (h : SmRes w0 ns e w') (hN : RdN w0 v ns) : ∃ lv es, e = .returned lv ∧ RdN w' lv es ∧ es.map (·.1) = smL (ns.map (·.1)) ∧ Below w0.heap.size w0 w' := by
  obtain ⟨lv, es, h1, h2, h3, h4, h5⟩ := h
  exact ⟨lv, es, h1, ⟨own_rd h2, fun p hp => RdL.below (h4 p hp w0 hN.dat) h5⟩, h3, h5⟩
/-- What a call that answers needles hands back. -/
abbrev NdR (w0 : World) (L : List Nd) (e : Ending) (w' : World) : Prop := ∃ a n c es, e = .returned (.slice a n c) ∧ RdN w' (.slice a n c) es ∧ es.map (·.1) = L ∧ Below w0.heap.size w0 w'
theorem SmRes.nd {w0 : World} {v : Value} {ns : List (Nd × Value)} {e : Ending} {w' : World} (h : SmRes w0 ns e w') (hN : RdN w0 v ns) : NdR w0 (smL (ns.map (·.1))) e w' := by
  obtain ⟨lv, es, h1, h2, h3, h4⟩ := h.rd hN
  obtain ⟨a, c, rfl, _⟩ := h2.shape
  exact ⟨a, _, c, es, h1, h2, h3, h4⟩
/-- The law's light. -/
def lightG (f : Nat → List It) : Bool := (List.range 8).all fun i => decide ((f i).length ≤ 8)
theorem lightG_no {f : Nat → List It} {i : Nat} (hi : i < 8) (h : ¬ (f i).length ≤ 8) : lightG f = false := by
  unfold lightG
  rw [List.all_eq_false]
  exact ⟨i, List.mem_range.2 hi, by simpa using h⟩
theorem lightG_yes {f : Nat → List It} (h : ∀ i, i < 8 → (f i).length ≤ 8) : lightG f = true := List.all_eq_true.2 fun i hi => decide_eq_true (h i (List.mem_range.1 hi))
theorem lightG_iff {f : Nat → List It} (h : lightG f = true) : ∀ i, i < 8 → (f i).length ≤ 8 := fun i hi => of_decide_eq_true (List.all_eq_true.1 h i (List.mem_range.2 hi))
theorem sameM_self (M : Mp) : sameM M M = true := by
  rw [sameM_st (fun _ _ => rfl)]
  simp
set_option maxRecDepth 100000 in
set_option maxHeartbeats 4000000 in
theorem gsame_any (g : Gn) (s t : Sl) (w : World) (h : RdM w s g.m.st) (h2 : RdM w t g.m.st) :
    Calls Tryz.prog 88 #[genV g.num g.rev g.mode g.size s g.m.live g.m.garb, genV g.num g.rev g.mode g.size t g.m.live g.m.garb] w fun e w' => e = .returned (.bool true) ∧ Below w.heap.size w w' := by
  have HS := Lib.hid (fun W (hb : Below w.heap.size w W) => sameM_any s t g.m g.m W (h.below hb) (h2.below hb))
  rw [sameM_self] at HS
  obtain ⟨n, r, md, z, ⟨f, L, G⟩⟩ := g
  dsimp only at *
  clear h h2
  obtain ⟨W0, hW0⟩ : ∃ W0, w.alloc (.cells (genC n r md z s L G) 124) = W0 := ⟨_, rfl⟩
  have HX0 := Lib.hid (show BoxG W0 w.heap.size n r md z s L G from hW0 ▸ BoxG.new w n r md z s L G 124)
  have HB0 := Lib.hid (show Below w.heap.size w W0 from hW0 ▸ below_gen w n r md z s L G 124)
  have HY := Lib.hid (BoxG.new W0 n r md z t L G 124)
  have HX := Lib.hid (HX0.out.below (below_gen W0 n r md z t L G 124))
  have HB := Lib.hid (bstep HB0.out (below_gen W0 n r md z t L G 124))
  have hz0 : W0.heap.size = w.heap.size + 1 := by rw [← hW0]; simp
  go_enter Tryz.func88, Tryz.ntmps88
  go_upto_region 1 with fail
  change Code.wp _ _ _ _ (W0.alloc (.cells (genC n r md z t L G) 124))
  clear hW0 HX0 HB0
  obtain ⟨W, hW⟩ : ∃ W, W0.alloc (.cells (genC n r md z t L G) 124) = W := ⟨_, rfl⟩
  rw [hW] at HX HB HY ⊢
  clear hW
  rw [hz0] at HY
  clear hz0
  have x0 := HX.out.n0
  have x1 := HX.out.n1
  have x2 := HX.out.n2
  have x3 := HX.out.n3
  have x4 := HX.out.c0
  have x5 := HX.out.c1
  have x6 := HX.out.c2
  have x7 := HX.out.c3
  have x8 := HX.out.c4
  have x9 := HX.out.c5
  have x10 := HX.out.c6
  have x11 := HX.out.c7
  have x12 := HX.out.cl
  have x13 := HX.out.cg
  have y0 := HY.out.n0
  have y1 := HY.out.n1
  have y2 := HY.out.n2
  have y3 := HY.out.n3
  have y4 := HY.out.c0
  have y5 := HY.out.c1
  have y6 := HY.out.c2
  have y7 := HY.out.c3
  have y8 := HY.out.c4
  have y9 := HY.out.c5
  have y10 := HY.out.c6
  have y11 := HY.out.c7
  have y12 := HY.out.cl
  have y13 := HY.out.cg
  go_wp2_with fail
  refine (HS.out _ HB.out).mono ?_
  rintro e w1 ⟨rfl, hb1⟩
  have HB1 := Lib.hid (bstep HB.out hb1)
  clear hb1
  go_wp2_with fail
  go_ret
  exact ⟨rfl, HB1.out⟩
set_option maxRecDepth 100000 in
set_option maxHeartbeats 4000000 in
theorem rfresh_nil (n : Int) (hn : 1 ≤ n ∧ n ≤ 8) (w : World) : Calls Tryz.prog 93 #[.int .i64 n] w fun e w' => e = .returned (.tuple #[genV n 0 1 16 Sl.nil 0 0, .int .i64 0]) ∧ Below w.heap.size w w' := by
  have HR := Lib.hid (BoxG.new w 0 0 0 0 Sl.nil 0 0 124)
  have HB := Lib.hid (below_gen w 0 0 0 0 Sl.nil 0 0 124)
  have e1 : decide (n < 1) = false := decide_eq_false (by omega)
  have e2 : decide (8 < n) = false := decide_eq_false (by omega)
  clear hn
  go_enter Tryz.func93, Tryz.ntmps93
  go_upto_region 1 with fail
  obtain ⟨W, hW⟩ : ∃ W, w.alloc (.cells (genC 0 0 0 0 Sl.nil 0 0) 124) = W := ⟨_, rfl⟩
  change Code.wp _ _ _ _ (w.alloc (.cells (genC 0 0 0 0 Sl.nil 0 0) 124))
  rw [hW] at HR HB ⊢
  clear hW
  have r0 := HR.out.n0
  have r1 := HR.out.n1
  have r2 := HR.out.n2
  have r3 := HR.out.n3
  have r4 := HR.out.c0
  have r5 := HR.out.c1
  have r6 := HR.out.c2
  have r7 := HR.out.c3
  have r8 := HR.out.c4
  have r9 := HR.out.c5
  have r10 := HR.out.c6
  have r11 := HR.out.c7
  have r12 := HR.out.cl
  have r13 := HR.out.cg
  have rf := HR.out.f
  go_wp2_with fail
  change bodyPost _ _ _ _ _ (pts W w.heap.size (genL n 0 1 16 Sl.nil 0 0))
  have hby := HR.out.all n 0 1 16 Sl.nil 0 0
  have HBz := Lib.hid (pts_below (B := w.heap.size) (b := w.heap.size) (by omega) (genL n 0 1 16 Sl.nil 0 0) HB.out)
  generalize pts W w.heap.size (genL n 0 1 16 Sl.nil 0 0) = V at *
  exact bodyPost_ret (v := .tuple #[genV n 0 1 16 Sl.nil 0 0, .int .i64 0]) (by simp [results, Tryz.results93, go_sem, hby.n0, hby.n1, hby.n2, hby.n3, hby.c0, hby.c1, hby.c2, hby.c3, hby.c4, hby.c5, hby.c6, hby.c7, hby.cl, hby.cg]) rfl ⟨rfl, HBz.out⟩
/-- A generation whose map is of the call's own. -/
def MRes (w0 : World) (g : Gn) (e : Ending) (w' : World) : Prop := (∃ s, e = .returned (genV g.num g.rev g.mode g.size s g.m.live g.m.garb) ∧ OwnM w' w0.heap.size s g.m.st) ∧ Below w0.heap.size w0 w'
def mdOf (mode : Int) : Int := if bits .and .i64 mode 24 = 16 then 2 else if bits .and .i64 mode 24 = 24 then 3 else 1
def madeG (l : List Nd) (mode : Int) : Gn := madeM (1 + mode % 8) (mdOf mode) l
theorem mdOf_b (mode : Int) : 1 ≤ mdOf mode ∧ mdOf mode ≤ 3 := by unfold mdOf; split <;> (try split) <;> omega
theorem madeG_vld (l : List Nd) (mode : Int) : VldG (madeG l mode) := madeM_vld (by omega) (mdOf_b mode) l
theorem oldNil {w : World} {B : Nat} {s : Sl} {f : Nat → List It} (h : OldOwn w B Sl.nil (fun _ => []) s f) : OwnM w B s f := by
  rcases h with ⟨rfl, hf⟩ | h
  · exact (OwnM.nil w B).eqM hf
  · exact h
theorem turn_made (num : Int) (hn : 1 ≤ num ∧ num ≤ 8) (md : Int) (hm : 1 ≤ md ∧ md ≤ 3) (l : List Nd) : turnG (madeM num md l) md = (0, madeM num (md + 1) l) := by
  unfold turnG
  rw [if_pos ((vldG_iff _).2 (madeM_vld hn hm l)), if_pos (show (madeM num md l).mode = md from rfl)]
  rfl
end Go.Proofs.YtenkeodfijladaaGreat

namespace Go.Proofs.YtenkeodfijladaaGreat
open Go Go.RowKit

section
variable {P : Program} {ops : Array Oper} {md : Region.Mode}
/-- Number k is the late one: everything else of the head is waited for by the tail. -/
def lateB (md : Region.Mode) (ops : Array Oper) (n k : Nat) : Bool :=
  decide (n < ops.size) && decide (k < n) &&
  ((List.range n).all fun i => decide (i = k) || (List.range (n + 1)).any fun j => decide (i < j) && decide (j ≠ k) && Region.waitsFor md ops j i) && Region.chainB md ops n &&
  ((List.range n).all fun i => ((ops[i]?).map fun o => o.dst.isSome && o.after.all fun e => !Region.binds md e || decide (e.on < i)).getD false) &&
  ((List.range n).all fun i => (List.range n).all fun j => decide (i = j) || decide (dstOf ops i ≠ dstOf ops j)) &&
  Region.seqB md ops (ops.size - n) n ((List.range ops.size).map fun j => decide (j < n)).toArray &&
  decide (Region.ready md ops ((List.range ops.size).map fun j => decide (j ≤ n ∧ j ≠ k)).toArray = [k]) &&
  Region.seqB md ops (ops.size - (n + 1)) (n + 1) ((List.range ops.size).map fun j => decide (j ≤ n)).toArray
theorem late_last {n t : Nat} {listed : Array Bool} {ot : Oper} (hc : Region.chainB md ops n = true) (inv : HeadInv md ops n listed) (ht : n ≤ t) (htn : t ≠ n) (hot : ops[t]? = some ot)
    (hall : ∀ e ∈ ot.after, Region.binds md e = true → listed.getD e.on false = true) (htlt : t < ops.size) : False := by
  have h1 := List.all_eq_true.1 hc t (List.mem_range.2 htlt)
  simp only [Bool.or_eq_true, decide_eq_true_eq] at h1
  rcases h1 with h1 | h1
  · omega
  · obtain ⟨o', ho', e, he, hb, hon⟩ := Region.waitsFor_spec h1
    have : o' = ot := Option.some.inj (ho'.symm.trans hot)
    subst this
    have h2 := hall e he hb
    rw [hon, getD_both (inv.tail (t - 1) (by omega) (by omega))] at h2
    cases h2
theorem late_waits {n k : Nat} {listed : Array Bool} (hs : ∀ i, i < n → i ≠ k → ∃ j, j ≤ n ∧ i < j ∧ j ≠ k ∧ Region.waitsFor md ops j i = true) (hc : Region.chainB md ops n = true) (hn : n < ops.size) (inv : HeadInv md ops n listed) :
    ∀ (d i : Nat), n - i = d → i < n → i ≠ k → listed.getD i true = false → ∀ t, n ≤ t → t ∉ Region.ready md ops listed := by
  intro d
  induction d using Nat.strongRecOn with
  | _ d ih =>
    intro i hd hi hik hun t ht hr
    obtain ⟨_, ot, hot, hall⟩ := mem_ready.1 hr
    have htlt : t < ops.size := (Array.getElem?_eq_some_iff.1 hot).1
    by_cases htn : t = n
    · subst htn
      obtain ⟨j, hjle, hij, hjk, hw⟩ := hs i hi hik
      obtain ⟨oj, hoj, e, he, hb, hon⟩ := Region.waitsFor_spec hw
      by_cases hjt : j = t
      · subst hjt
        have : oj = ot := Option.some.inj (hoj.symm.trans hot)
        subst this
        have h2 := hall e he hb
        rw [hon, getD_both hun] at h2
        cases h2
      · cases hl : listed.getD j false with
        | true =>
          have h2 := inv.closed j oj hoj hl e he hb
          rw [hon, getD_both hun] at h2
          cases h2
        | false =>
          have hjs : j < listed.size := by rw [inv.size]; omega
          exact ih (t - j) (by omega) j rfl (by omega) hjk (getD_in hjs hl) t (Nat.le_refl _) hr
    · exact late_last hc inv ht htn hot hall htlt
variable {Q : Exit → Act → World → Prop}
theorem late_any {n k : Nat} {a0 : Act} {w0 : World} {Φ : Nat → Value → World → Prop} {F : Nat → Prop} {l : List Oper} {on ok : Oper} (hl : ops = l.toArray) (hB : lateB md ops n k = true) (hon : ops[n]? = some on) (hok : ops[k]? = some ok) (hkF : ¬ F k) (hN : ∀ i, i < n → ∀ t, dstOf ops i = some t → t < a0.tmps.size)
    (mono : ∀ j, j < n → ∀ v w1 w2, Below w1.heap.size w1 w2 → Φ j v w1 → Φ j v w2)
    (head : ∀ i o, i < n → ops[i]? = some o → ∀ f w1, Below w0.heap.size w0 w1 → (∀ e ∈ o.after, Region.binds md e = true → Φ e.on (f e.on) w1) →
      wpList P ops (Exit.then (RelPost (Φ i) (F i) (frm ops a0 f n).defers o.dst w1) Q) [o] (frm ops a0 f n) w1)
    (tail : ∀ f w1, Below w0.heap.size w0 w1 → (∀ j, j < n → Φ j (f j) w1) → (∀ j k, j < n → k < n → j ≠ k → F j → F k → blk (f j) ≠ blk (f k)) → wpList P ops Q (l.drop n) (frm ops a0 f n) w1)
    (tail2 : ∀ f w1, Below w0.heap.size w0 w1 → (∀ j, j < n → j ≠ k → Φ j (f j) w1) → (∀ j k, j < n → k < n → j ≠ k → F j → F k → blk (f j) ≠ blk (f k)) → wpList P ops Q (on :: ok :: l.drop (n + 1)) (frm ops a0 f n) w1) :
    ∀ (fuel : Nat) (T : List Nat) (s : Array Bool) (f : Nat → Value) (w : World), T.Nodup → T.length = fuel → (∀ j, j < n → (s.getD j false = false ↔ j ∈ T)) → (∀ j ∈ T, j < n) → HeadInv md ops n s → Below w0.heap.size w0 w →
      (∀ j, j < n → s.getD j false = true → Φ j (f j) w) → (∀ j, j < n → s.getD j false = true → F j → blk (f j) < w.heap.size) →
      (∀ j k, j < n → k < n → j ≠ k → s.getD j false = true → s.getD k false = true → F j → F k → blk (f j) ≠ blk (f k)) → wpAny P md ops Q (fuel + (ops.size - n)) s (frm ops a0 f n) w := by
  simp only [lateB, Bool.and_eq_true, decide_eq_true_eq] at hB
  obtain ⟨⟨⟨⟨⟨⟨⟨⟨hn, hkn⟩, hs0⟩, hc⟩, hfw⟩, hdd⟩, hsq⟩, hrk⟩, hsq2⟩ := hB
  have hs : ∀ i, i < n → i ≠ k → ∃ j, j ≤ n ∧ i < j ∧ j ≠ k ∧ Region.waitsFor md ops j i = true := fun i hi hik => by
    have h1 := List.all_eq_true.1 hs0 i (List.mem_range.2 hi)
    rw [Bool.or_eq_true, decide_eq_true_eq] at h1
    rcases h1 with h1 | h1
    · exact absurd h1 hik
    · obtain ⟨j, hj, h2⟩ := List.any_eq_true.1 h1
      simp only [Bool.and_eq_true, decide_eq_true_eq] at h2
      exact ⟨j, by have := List.mem_range.1 hj; omega, h2.1.1, h2.1.2, h2.2⟩
  have hfw' : ∀ i o, i < n → ops[i]? = some o → o.dst.isSome = true ∧ ∀ e ∈ o.after, Region.binds md e = true → e.on < i := fun i o hi ho => by
    have := List.all_eq_true.1 hfw i (List.mem_range.2 hi)
    rw [ho] at this
    simp only [Option.map_some, Option.getD_some, Bool.and_eq_true] at this
    refine ⟨this.1, fun e he hb => ?_⟩
    have h2 := Array.all_eq_true_iff_forall_mem.1 this.2 e he
    rw [hb] at h2
    simpa using h2
  have hdd' : ∀ i j, i < n → j < n → i ≠ j → dstOf ops i ≠ dstOf ops j := fun i j hi hj hij => by
    have := List.all_eq_true.1 (List.all_eq_true.1 hdd i (List.mem_range.2 hi)) j (List.mem_range.2 hj)
    simpa [hij] using this
  intro fuel
  induction fuel with
  | zero =>
    intro T s f w hT hlen hsT hTn inv hb hΦ hF hFF
    have hT0 : T = [] := List.length_eq_zero_iff.1 hlen
    subst hT0
    have hall : ∀ j, j < n → s.getD j false = true := fun j hj => by
      cases h : s.getD j false with
      | true => rfl
      | false => exact absurd ((hsT j hj).1 h) (by simp)
    have hse : s = ((List.range ops.size).map fun j => decide (j < n)).toArray := by
      apply Array.ext
      · simp [inv.size]
      · intro j h1 h2
        have hjs : j < ops.size := by rw [← inv.size]; exact h1
        simp only [List.getElem_toArray, List.getElem_map, List.getElem_range]
        by_cases e : j < n
        · have := hall j e
          rw [Array.getD_eq_getD_getElem?, Array.getElem?_eq_getElem h1] at this
          simp only [Option.getD_some] at this
          rw [this]; simp [e]
        · have := inv.tail j (by omega) hjs
          rw [Array.getD_eq_getD_getElem?, Array.getElem?_eq_getElem h1] at this
          simp only [Option.getD_some] at this
          rw [this]; simp [e]
    rw [Nat.zero_add]
    have hdl : (l.drop n).length = ops.size - n := by rw [hl]; simp
    have h3 := wpAny_of_seq (P := P) (md := md) (ops := ops) (Q' := Q) (l.drop n) n s (frm ops a0 f n) w (fun j => by rw [hl]; simp [List.getElem?_drop]) (by rw [hdl, hse]; exact hsq) (tail f w hb (fun j hj => hΦ j hj (hall j hj)) fun j k hj hk hjk => hFF j k hj hk hjk (hall j hj) (hall k hk))
    rwa [hdl] at h3
  | succ fuel ih =>
    intro T s f w hT hlen hsT hTn inv hb hΦ hF hFF
    have hTne : T ≠ [] := fun e => by rw [e] at hlen; cases hlen
    obtain ⟨m, hm, hle⟩ := least_of hTne
    have hmn := hTn m hm
    have hun : s.getD m false = false := (hsT m hmn).2 hm
    have hms : m < s.size := by rw [inv.size]; omega
    obtain ⟨om, hom⟩ : ∃ o, ops[m]? = some o := ⟨_, Array.getElem?_eq_getElem (by omega)⟩
    have hready : m ∈ Region.ready md ops s := mem_ready.2 ⟨getD_in hms hun, om, hom, fun e he hbnd => by
      have h1 := (hfw' m om hmn hom).2 e he hbnd
      cases h2 : s.getD e.on false with
      | true => rfl
      | false =>
        have := hle _ ((hsT e.on (by omega)).1 h2)
        omega⟩
    rw [show fuel + 1 + (ops.size - n) = (fuel + (ops.size - n)) + 1 by omega]
    refine ⟨fun e => absurd hready (by rw [e]; simp), fun i hi => ?_⟩
    obtain ⟨hiu, oi, hoi, hdeps⟩ := mem_ready.1 hi
    by_cases hin0 : n ≤ i
    · -- the late one alone is left, and the tail's first comes ahead of it
      have his : i < ops.size := (Array.getElem?_eq_some_iff.1 hoi).1
      have hine : i = n := Classical.byContradiction fun e => late_last hc inv hin0 e hoi hdeps his
      subst hine
      have hallk : ∀ j, j < i → j ≠ k → s.getD j false = true := fun j hj hjk => by
        cases h : s.getD j false with
        | true => rfl
        | false => exact absurd hi (late_waits hs hc hn inv _ j rfl hj hjk (getD_in (by rw [inv.size]; omega) h) i (Nat.le_refl _))
      have hku : s.getD k false = false := by
        cases h : s.getD k false with
        | false => rfl
        | true =>
          have : s.getD m false = true := by
            by_cases e : m = k
            · rw [e]; exact h
            · exact hallk m hmn e
          rw [this] at hun; cases hun
      have hf0 : fuel = 0 := by
        have h1 : ∀ j ∈ T, j = k := fun j hj => by
          refine Classical.byContradiction fun e => ?_
          have h2 := (hsT j (hTn j hj)).2 hj
          rw [hallk j (hTn j hj) e] at h2
          cases h2
        match T, hT, hlen, h1 with
        | [x], _, hlen, _ => simpa using hlen.symm
        | x :: y :: r, hT, _, h1 =>
          have e1 := h1 x (by simp)
          have e2 := h1 y (by simp)
          rw [e1, e2] at hT
          simp at hT
      subst hf0
      have hss : s.setIfInBounds i true = ((List.range ops.size).map fun j => decide (j ≤ i ∧ j ≠ k)).toArray := by
        apply Array.ext
        · simp [inv.size]
        · intro j h1 h2
          have hjs : j < ops.size := by simpa [inv.size] using h1
          have hjs2 : j < s.size := by rw [inv.size]; exact hjs
          simp only [List.getElem_toArray, List.getElem_map, List.getElem_range]
          rw [Array.getElem_setIfInBounds hjs2]
          by_cases e : i = j
          · rw [if_pos e]; simp only [← e]; simp; omega
          · rw [if_neg e]
            by_cases e2 : j < i
            · by_cases e3 : j = k
              · have hkk := hku
                rw [← e3, Array.getD_eq_getD_getElem?, Array.getElem?_eq_getElem hjs2] at hkk
                simp only [Option.getD_some] at hkk
                rw [hkk]; simp [e3]
              · have := hallk j e2 e3
                rw [Array.getD_eq_getD_getElem?, Array.getElem?_eq_getElem hjs2] at this
                simp only [Option.getD_some] at this
                rw [this]; simp [e3]; omega
            · have := inv.tail j (by omega) hjs
              rw [Array.getD_eq_getD_getElem?, Array.getElem?_eq_getElem hjs2] at this
              simp only [Option.getD_some] at this
              rw [this]; simp; omega
      have hss2 : (s.setIfInBounds i true).setIfInBounds k true = ((List.range ops.size).map fun j => decide (j ≤ i)).toArray := by
        rw [hss]
        apply Array.ext
        · simp
        · intro j h1 h2
          have hjs : j < ops.size := by simpa using h1
          rw [Array.getElem_setIfInBounds (by simpa using h1)]
          simp only [List.getElem_toArray, List.getElem_map, List.getElem_range]
          by_cases e : k = j
          · rw [if_pos e]; subst e; simp; omega
          · rw [if_neg e]
            have e' : ¬ j = k := fun e2 => e e2.symm
            simp [e']
      have ht2 := tail2 f w hb (fun j hj hjk => hΦ j hj (hallk j hj hjk)) fun j k' hj hk' hjk hFj hFk => by
        have a1 : j ≠ k := fun e => hkF (e ▸ hFj)
        have a2 : k' ≠ k := fun e => hkF (e ▸ hFk)
        exact hFF j k' hj hk' hjk (hallk j hj a1) (hallk k' hk' a2) hFj hFk
      have hw1 : wpOp P ops Q i (wpList P ops Q (ok :: l.drop (i + 1))) (frm ops a0 f i) w := by unfold wpOp; simp only [hon]; exact ht2
      have hg : 0 + (ops.size - i) = (ops.size - (i + 1)) + 1 := by omega
      rw [hg]
      refine wpOp_mono (fun a' w' h' => ?_) hw1
      refine ⟨fun e => ?_, fun j hj => ?_⟩
      · rw [hss, hrk] at e; cases e
      · rw [hss, hrk] at hj
        have hjk : j = k := by simpa using hj
        subst hjk
        have hw2 : wpOp P ops Q j (wpList P ops Q (l.drop (i + 1))) a' w' := by unfold wpOp; simp only [hok]; exact h'
        refine wpOp_mono (fun a'' w'' h'' => ?_) hw2
        rw [hss2]
        have hdl : (l.drop (i + 1)).length = ops.size - (i + 1) := by rw [hl]; simp
        have h3 := wpAny_of_seq (P := P) (md := md) (ops := ops) (Q' := Q) (l.drop (i + 1)) (i + 1) _ a'' w'' (fun j => by rw [hl]; simp [List.getElem?_drop]) (by rw [hdl]; exact hsq2) h''
        rwa [hdl] at h3
    have hin : i < n := Nat.lt_of_not_le hin0
    have hiT : i ∈ T := (hsT i hin).1 (getD_both hiu)
    have hfi := hfw' i oi hin hoi
    have hdo : dstOf ops i = oi.dst := by unfold dstOf; rw [hoi]; rfl
    unfold wpOp
    rw [hoi]
    simp only []
    have hh := head i oi hin hoi f w hb fun e he hbnd => hΦ e.on (by have := hfi.2 e he hbnd; omega) (hdeps e he hbnd)
    refine rel_one hh (fun v w' hR => ?_) (fun d v w' hR => ?_)
    · obtain ⟨_, hbw, hv⟩ := hR
      have hval : ∀ i, i < n → oi.dst.isSome = true → dstOf ops i = oi.dst → (∀ t, oi.dst = some t → Φ i (((frm ops a0 f n).put oi.dst v).tmps.getD t undef) w' ∧ (F i → w.heap.size ≤ blk (((frm ops a0 f n).put oi.dst v).tmps.getD t undef) ∧ blk (((frm ops a0 f n).put oi.dst v).tmps.getD t undef) < w'.heap.size)) → Φ i v w' ∧ (F i → w.heap.size ≤ blk v ∧ blk v < w'.heap.size) := fun i hi h1 hdo h => by
        obtain ⟨t, ht⟩ := Option.isSome_iff_exists.1 h1
        have h4 := h t ht
        have h5 : t < (frm ops a0 f n).tmps.size := by rw [frm_size]; exact hN i hi t (by rw [hdo, ht])
        rw [ht] at h4
        simpa [Act.put, h5] using h4
      rw [← hdo, frm_put ops a0 f i v n hin fun j hj hji => .inr (hdd' i j hin hj (Ne.symm hji))]
      refine ih (T.erase i) _ _ w' (hT.erase i) (by rw [List.length_erase_of_mem hiT]; omega) (fun j hj => ?_) (fun j hj => hTn j (List.mem_of_mem_erase hj)) (inv.set hi hin) (bstep hb hbw) (fun j hj hjs => ?_) (fun j hj hjs hFj => ?_) (fun j k hj hk hjk hjs hks hFj hFk => ?_)
      · rw [hT.mem_erase_iff]
        by_cases e : j = i
        · subst e
          have hjs : j < s.size := by rw [inv.size]; omega
          simp [Array.getD_eq_getD_getElem?, hjs]
        · rw [getD_set_ne false (Ne.symm e), hsT j hj]
          simp [e]
      · by_cases e : j = i
        · subst e
          have : updF f j v j = v := if_pos rfl
          rw [this]
          exact (hval j hj hfi.1 hdo hv).1
        · have : updF f i v j = f j := if_neg e
          rw [this]
          rw [getD_set_ne false (Ne.symm e)] at hjs
          exact mono j hj _ _ _ hbw (hΦ j hj hjs)
      · by_cases e : j = i
        · subst e
          have : updF f j v j = v := if_pos rfl
          rw [this]
          exact ((hval j hj hfi.1 hdo hv).2 hFj).2
        · have : updF f i v j = f j := if_neg e
          rw [this]
          rw [getD_set_ne false (Ne.symm e)] at hjs
          exact Nat.lt_of_lt_of_le (hF j hj hjs hFj) hbw.size
      · by_cases e : j = i
        · subst e
          have e1 : updF f j v j = v := if_pos rfl
          have e2 : updF f j v k = f k := if_neg (Ne.symm hjk)
          rw [e1, e2]
          rw [getD_set_ne false hjk] at hks
          have h1 := ((hval j hj hfi.1 hdo hv).2 hFj).1
          have h2 := hF k hk hks hFk
          omega
        · have e1 : updF f i v j = f j := if_neg e
          rw [e1]
          rw [getD_set_ne false (Ne.symm e)] at hjs
          by_cases e3 : k = i
          · subst e3
            have e2 : updF f k v k = v := if_pos rfl
            rw [e2]
            have h1 := ((hval k hk hfi.1 hdo hv).2 hFk).1
            have h2 := hF j hj hjs hFj
            omega
          · have e2 : updF f i v k = f k := if_neg e3
            rw [e2]
            rw [getD_set_ne false (Ne.symm e3)] at hks
            exact hFF j k hj hk hjk hjs hks hFj hFk
    · have h1 := hR.1
      have h2 := congrArg List.length h1
      cases hod : oi.dst <;> simp [Act.put, hod] at h2
theorem wp_region_late {id : Nat} {a0 : Act} {w : World} {l : List Oper} (L : List Sta) (F : List Nat) (N k : Nat) {on ok : Oper} (hm : P.follows .mixedOrders = true) (hB : lateB .any l.toArray L.length k = true) (hon : l.toArray[L.length]? = some on) (hok : l.toArray[k]? = some ok) (hkF : k ∉ F)
    (hsz : a0.tmps.size = N) (hN : dstLtB l.toArray L.length N = true) {fr : (Nat → Value) → Act} (hfr : ∀ f, frm l.toArray a0 f L.length = fr f)
    (head : HeadL P Q l.toArray L F fr w l L 0)
    (tail : ∀ f w1, Below w.heap.size w w1 → (∀ j, j < L.length → (stA L j).p (f j) w1) → (∀ j k, j < L.length → k < L.length → j ≠ k → j ∈ F → k ∈ F → blk (f j) ≠ blk (f k)) → wpList P l.toArray Q (l.drop L.length) (fr f) w1)
    (tail2 : ∀ f w1, Below w.heap.size w w1 → (∀ j, j < L.length → j ≠ k → (stA L j).p (f j) w1) → (∀ j k, j < L.length → k < L.length → j ≠ k → j ∈ F → k ∈ F → blk (f j) ≠ blk (f k)) → wpList P l.toArray Q (on :: ok :: l.drop (L.length + 1)) (fr f) w1) : (Code.region id l.toArray true).wp P Q a0 w := by
  have hn : L.length < l.toArray.size := by
    simp only [lateB, Bool.and_eq_true, decide_eq_true_eq] at hB
    exact hB.1.1.1.1.1.1.1.1
  refine wp_region_any hm ?_
  have h := late_any (k := k) (md := .any) (Q := Q) (P := P) (n := L.length) (a0 := a0) (w0 := w) (Φ := fun j => (stA L j).p) (F := fun j => j ∈ F) rfl hB hon hok hkF
    (fun i hi t ht => by
      have h1 := List.all_eq_true.1 hN i (List.mem_range.2 hi)
      rw [ht] at h1
      rw [hsz]
      simpa using h1)
    (fun j _ v w1 w2 hb h => (stA L j).m v w1 w2 hb h)
    (fun i o hi ho f w1 hb hd => by
      rw [hfr]
      have hS : L[i]? = some (stA L i) := by
        unfold stA
        rw [List.getD_eq_getElem?_getD, List.getElem?_eq_getElem hi]; rfl
      have h2 := headL_at l L 0 head i o (stA L i) (by simpa using ho) hS f w1 hb (fun j hj => by
        unfold depB at hj
        obtain ⟨e, he, h3⟩ := Array.any_eq_true'.1 hj
        simp only [Bool.and_eq_true, beq_iff_eq] at h3
        rw [← h3.2]
        exact hd e he h3.1)
      rwa [Nat.zero_add] at h2)
    (fun f w1 hb hΦ hFF => by rw [hfr]; exact tail f w1 hb hΦ hFF)
    (fun f w1 hb hΦ hFF => by rw [hfr]; exact tail2 f w1 hb hΦ hFF)
    L.length (List.range L.length) (Array.replicate l.toArray.size false) (fun j => match dstOf l.toArray j with | some d => a0.tmps.getD d undef | none => undef) w.drew
    List.nodup_range (by simp) (fun j hj => by rw [getD_replicate_false]; simp [hj]) (fun j hj => by simpa using hj)
    ⟨by simp, fun j oj _ hl => (by rw [getD_replicate_false] at hl; cases hl), fun t _ ht => getD_in (by simpa using ht) (getD_replicate_false _ _)⟩
    (below_drew (Below.refl _ _)) (fun j _ hl => by rw [getD_replicate_false] at hl; cases hl) (fun j _ hl => by rw [getD_replicate_false] at hl; cases hl) (fun j k _ _ _ hl => by rw [getD_replicate_false] at hl; cases hl)
  have e0 : frm l.toArray a0 (fun j => match dstOf l.toArray j with | some d => a0.tmps.getD d undef | none => undef) L.length = a0 := frm_id _ _ _
  rw [e0, show L.length + (l.toArray.size - L.length) = l.toArray.size by omega] at h
  exact h
end
end Go.Proofs.YtenkeodfijladaaGreat

namespace Go.Proofs.YtenkeodfijladaaGreat
open Go Go.RowKit

section
variable {P : Program} {ops : Array Oper} {md : Region.Mode}
variable {Q : Exit → Act → World → Prop}
end
end Go.Proofs.YtenkeodfijladaaGreat

namespace Go.Proofs.YtenkeodfijladaaGreat
open Go.RowKit

theorem own_pts_neG {B b : Nat} {e : TypeId} {sz n : Nat} {v : Value} {xs : List Value} (hne : v.ownBlock ≠ some b) : ∀ (vs : List (Nat × Value)) (w : World), w.ownsRow B e sz v n xs → (pts w b vs).ownsRow B e sz v n xs
  | [], _, h => h
  | (i, u) :: r, _, h => own_pts_neG hne r _ (ownsRow_setCell_other (a := ⟨b, i, none⟩) h hne u)
theorem OwnM.pts_neG {w : World} {B b : Nat} {s : Sl} {f : Nat → List It} (h : OwnM w B s f) (hne : ∀ i, i < 8 → (s.v i).ownBlock ≠ some b) (vs : List (Nat × Value)) : OwnM (Go.Proofs.YtenkeodfijladaaGreat.pts w b vs) B s f := fun i hi => own_pts_neG (hne i hi) vs w (h i hi)
/-- A block of cells, with its type. -/
def BlkT (t : TypeId) (w : World) (b : Nat) : Prop := ∃ cs, w.heap[b]? = some (.cells cs t (0, 0))
theorem BlkT.lt {t : TypeId} {w : World} {b : Nat} (h : BlkT t w b) : b < w.heap.size := by
  obtain ⟨cs, h⟩ := h
  exact (Array.getElem?_eq_some_iff.1 h).1
theorem BlkT.below {t : TypeId} {w w' : World} {b : Nat} (h : BlkT t w b) (hb : Below w.heap.size w w') : BlkT t w' b := by
  have hl := h.lt
  obtain ⟨cs, h⟩ := h
  exact ⟨cs, by rw [hb.block b hl]; exact h⟩
theorem BlkT.new (t : TypeId) (w : World) (cs : Array Value) : BlkT t (w.alloc (.cells cs t)) w.heap.size := ⟨cs, heap_alloc_new w _⟩
theorem BlkT.ne {t : TypeId} {w : World} {b B : Nat} {s : Sl} {f : Nat → List It} (h : BlkT t w b) (ht : t ≠ 34) (ho : OwnM w B s f) : ∀ i, i < 8 → (s.v i).ownBlock ≠ some b := fun i hi e => by
  obtain ⟨cs, h⟩ := h
  obtain ⟨c, fz, h1⟩ := Lib.ownsRow_kind (ho i hi) b e
  rw [h1] at h
  injection h with h
  injection h with _ h2
  exact ht h2.symm
theorem BlkT.set {t : TypeId} {w : World} {b : Nat} (h : BlkT t w b) (c i : Nat) (u : Value) : BlkT t (w.setCell ⟨c, i, none⟩ u) b := by
  have hl := h.lt
  obtain ⟨cs, h⟩ := h
  by_cases e : b = c
  · subst e
    refine ⟨cs.setIfInBounds i u, ?_⟩
    have hk := (Array.getElem?_eq_some_iff.1 h).2
    show (w.heap.modify b _)[b]? = _
    rw [Array.getElem?_eq_getElem (by rw [Array.size_modify]; exact hl), Array.getElem_modify_self, hk]
    rfl
  · exact ⟨cs, by rw [Below.heap_setCell w ⟨c, i, none⟩ u b e]; exact h⟩
theorem BlkT.pts {t : TypeId} {b c : Nat} : ∀ (vs : List (Nat × Value)) {w : World}, BlkT t w b → BlkT t (Go.Proofs.YtenkeodfijladaaGreat.pts w c vs) b
  | [], _, h => h
  | (i, u) :: r, _, h => BlkT.pts r (h.set c i u)
/-! ### What operations leave -/
/-- Needles that can be read. -/
def needL (L : List Nd) : Sta := ⟨fun v w => ∃ a n c es, v = .slice a n c ∧ RdN w (.slice a n c) es ∧ es.map (·.1) = L, fun _ _ _ hb ⟨a, n, c, es, h1, h2, h3⟩ => ⟨a, n, c, es, h1, h2.below hb, h3⟩⟩
/-- A generation and its error; a generation; a generation's box. -/
def tupS (c a b md z : Int) (f : Nat → List It) (L G : Int) : Sta := ⟨fun v w => ∃ s, v = .tuple #[genV a b md z s L G, .int .i64 c] ∧ OwnM w 0 s f, fun _ _ _ hb ⟨s, h1, h2⟩ => ⟨s, h1, h2.keep hb⟩⟩
def genS (a b md z : Int) (f : Nat → List It) (L G : Int) : Sta := ⟨fun v w => ∃ s, v = genV a b md z s L G ∧ OwnM w 0 s f, fun _ _ _ hb ⟨s, h1, h2⟩ => ⟨s, h1, h2.keep hb⟩⟩
def boxGS (t : TypeId) (B : Nat) : Sta := ⟨fun v w => ∃ b, v = .pointer (some ⟨b, 0, none⟩) ∧ B ≤ b ∧ BoxG w b 0 0 0 0 Sl.nil 0 0 ∧ BlkT t w b, fun _ _ _ hb ⟨b, h1, h2, h3, h4⟩ => ⟨b, h1, h2, h3.below hb, h4.below hb⟩⟩
/-- What a change hands back, its parts by name. -/
abbrev GR (w0 : World) (c a b md z : Int) (f : Nat → List It) (L G : Int) (e : Ending) (w' : World) : Prop := (∃ s, e = .returned (.tuple #[genV a b md z s L G, .int .i64 c]) ∧ OwnM w' w0.heap.size s f) ∧ Below w0.heap.size w0 w'
end Go.Proofs.YtenkeodfijladaaGreat
