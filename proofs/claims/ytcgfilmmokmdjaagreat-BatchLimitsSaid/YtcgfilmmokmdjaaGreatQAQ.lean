/- A part of the walk. -/
import Derived.Test.YtcgfilmmokmdjaaGreatQAP
import Derived.Test.YtcgfilmmokmdjaaGreatSlv
import Derived.Test.YtcgfilmmokmdjaaGreatQAL
import Derived.Test.YtcgfilmmokmdjaaGreatQAO
import Derived.Test.YtcgfilmmokmdjaaGreatQAN
set_option linter.all false
set_option maxRecDepth 100000
set_option maxHeartbeats 32000000
namespace Go.Proofs.YtcgfilmmokmdjaaGreat
open Go.RowKit
theorem k4 (i l : Int) (r : Bool) (a : Option Addr) (n c : Nat) (L : List GP) (w : World) (h : RdG w (.slice a n c) L) (hs : ∀ p ∈ L, ∀ j, j < 8 → (p.1.m.st j).length ≤ 10000) :
  Calls Tryz.prog 84 #[zhq i l r a n c] w fun e w' => e = .returned (.bool (wZ ⟨i, l, r, gns L⟩)) ∧ Below w.heap.size w w' := by
 have HSv := zh (fun W (hb : Below w.heap.size w W) => xC i l r a n c L W (h.below hb) hs);have HBx := zh (BoxV.new w i l r a n c 31);have HB0 := zh (zP w i l r a n c 31);have hcs : wZ ⟨i, l, r, gns L⟩ = (zg ⟨i, l, r, gns L⟩ && decide ((zY ⟨i, l, r, gns L⟩).num < 8)) := rfl;rw [hcs];clear hcs
 cases hv : zg ⟨i, l, r, gns L⟩
 ·
  rw [hv] at HSv;clear h hs hv
  go_enter Tryz.func84, Tryz.ntmps84
  go_upto_region 1 with fail;obtain ⟨W, hW⟩ : ∃ W, w.alloc (.cells (zS i l r a n c) 31) = W := ⟨_, rfl⟩
  change Code.wp _ _ _ _ (w.alloc (.cells (zS i l r a n c) 31));rw [hW] at HBx HB0 ⊢;clear hW;have hlw := HBx.out.lt;obtain ⟨k0, k1, k2, k3⟩ := HBx.out.q;go_wp2_with fail;refine (HSv.out _ HB0.out).mono ?_;rintro e w1 ⟨rfl, hb1⟩;have HB1 := zh (zA HB0.out hb1);clear k0 k1 k2 k3 hb1;go_wp2_with fail;go_ret;exact ⟨rfl, HB1.out⟩
 rw [hv] at HSv;have hV := (zT _).1 hv;have hLn : L.length = n := by
  obtain ⟨_, _, e, _⟩ := h.shape;injection e with _ e _; exact e.symm
 have hl : (gns L).length = n := by rw [zz, hLn]
 have hn : 1 ≤ n ∧ n ≤ 8 := by have := hV.len; simp only [hl] at this; exact this
 obtain ⟨j, rfl⟩ : ∃ j, n = j + 1 := ⟨n - 1, by omega⟩
 rw [vz hLn];have HR := zh h;clear hV hLn hl hv h hs;obtain ⟨b, off, rfl, hg⟩ := HR.out.at (show j < j + 1 by omega);have HG := zh hg;clear hg HR;generalize pat L j = p at *;obtain ⟨⟨num, rev, md, sz, f, LV, GA⟩, s⟩ := p;dsimp only at *
 go_enter Tryz.func84, Tryz.ntmps84
 go_upto_region 1 with fail;obtain ⟨W, hW⟩ : ∃ W, w.alloc (.cells (zS i l r (some ⟨b, off, none⟩) (j + 1) c) 31) = W := ⟨_, rfl⟩
 change Code.wp _ _ _ _ (w.alloc (.cells (zS i l r (some ⟨b, off, none⟩) (j + 1) c) 31));rw [hW] at HBx HB0 ⊢;clear hW;have hlw := HBx.out.lt;obtain ⟨k0, k1, k2, k3⟩ := HBx.out.q;go_wp2_with fail;refine (HSv.out _ HB0.out).mono ?_;rintro e w1 ⟨rfl, hb1⟩;clear k0 k1 k2 k3;have HB1 := zh (zA HB0.out hb1);have HX1 := zh (HBx.out.below hb1);have HG1 := zh (HG.out.below HB1.out);clear hb1 HB0 HBx HG HSv;have j3 : IntKind.i64.wrap (j : Int) = (j : Int) := IntWalk.i64_in _ (by omega);have i2 : (j : Int) < ((j + 1 : Nat) : Int) := by omega
 have v3 := HX1.out.c3;have g0 := HG1.out.n0;dsimp only at g0;go_wp2_with fail;go_ret;exact ⟨by simp, HB1.out⟩
end Go.Proofs.YtcgfilmmokmdjaaGreat
namespace Go.Proofs.YtcgfilmmokmdjaaGreat
open Go Go.RowKit
section
variable {P : Program} {ops : Array Oper} {md : Region.Mode}
def zJa (md : Region.Mode) (ops : Array Oper) (n : Nat) : Bool :=
 decide (n < ops.size) && Region.sinkB md ops n && Region.chainB md ops n &&
 ((List.range n).all fun i => ((ops[i]?).map fun o => o.after.all fun e => !Region.binds md e || decide (e.on < i)).getD false) &&
 ((List.range n).all fun i => (List.range n).all fun j => decide (i = j) || decide (zN ops i = none) || decide (zN ops i ≠ zN ops j)) &&
 Region.seqB md ops (ops.size - n) n ((List.range ops.size).map fun j => decide (j < n)).toArray
def onL (L : Nat → Bool) (i : Nat) : Nat → Bool := fun j => if j = i then true else L j
variable {Q : Exit → Act → World → Prop}
def zAD (J : Value → World → Prop) (ds : List Deferred) (d : Option Tmp) (a' : Act) (w' : World) : Prop :=
 a'.defers = ds ∧ (d = none → ∀ v, J v w') ∧ ∀ t, d = some t → J (a'.tmps.getD t undef) w'
theorem zKV {n : Nat} {a0 : Act} {I : (Nat → Bool) → (Nat → Value) → World → Prop} {l : List Oper} (hl : ops = l.toArray) (hB : zJa md ops n = true) (hN : ∀ i, i < n → ∀ t, zN ops i = some t → t < a0.tmps.size)
  (head : ∀ i o, i < n → ops[i]? = some o → ∀ L f w, L i = false → (∀ e ∈ o.after, Region.binds md e = true → L e.on = true) → I L f w →
   wpList P ops (Exit.then (zAD (fun v w' => I (onL L i) (yv f i v) w') (frm ops a0 f n).defers o.dst) Q) [o] (frm ops a0 f n) w)
  (tail : ∀ L f w, (∀ j, j < n → L j = true) → I L f w → wpList P ops Q (l.drop n) (frm ops a0 f n) w) :
  ∀ (fuel : Nat) (T : List Nat) (s : Array Bool) (L : Nat → Bool) (f : Nat → Value) (w : World), (∀ j, s.getD j false = L j) → T.Nodup → T.length = fuel → (∀ j, j < n → (s.getD j false = false ↔ j ∈ T)) → (∀ j ∈ T, j < n) → HeadInv md ops n s → I L f w →
   wpAny P md ops Q (fuel + (ops.size - n)) s (frm ops a0 f n) w := by
 simp only [zJa, Bool.and_eq_true, decide_eq_true_eq] at hB;obtain ⟨⟨⟨⟨⟨hn, hs⟩, hc⟩, hfw⟩, hdd⟩, hsq⟩ := hB;have hfw' : ∀ i o, i < n → ops[i]? = some o → ∀ e ∈ o.after, Region.binds md e = true → e.on < i := fun i o hi ho e he hb => by
  have := List.all_eq_true.1 hfw i (List.mem_range.2 hi);rw [ho] at this;simp only [Option.map_some, Option.getD_some] at this;have h2 := Array.all_eq_true_iff_forall_mem.1 this e he;rw [hb] at h2
  simpa using h2
 have hdd' : ∀ i j, i < n → j < n → i ≠ j → zN ops i = none ∨ zN ops i ≠ zN ops j := fun i j hi hj hij => by
  have := List.all_eq_true.1 (List.all_eq_true.1 hdd i (List.mem_range.2 hi)) j (List.mem_range.2 hj)
  simpa [hij] using this
 intro fuel
 induction fuel with
 | zero =>
  intro T s L f w hL hT hlen hsT hTn inv hI;have hT0 : T = [] := List.length_eq_zero_iff.1 hlen;subst hT0;have hall : ∀ j, j < n → s.getD j false = true := fun j hj => by
   cases h : s.getD j false with
   | true => rfl
   | false => exact absurd ((hsT j hj).1 h) (by simp)
  have hse : s = ((List.range ops.size).map fun j => decide (j < n)).toArray := by
   apply Array.ext
   ·
    simp [inv.size]
   intro j h1 h2;have hjs : j < ops.size := by rw [← inv.size]; exact h1
   simp only [List.getElem_toArray, List.getElem_map, List.getElem_range]
   by_cases e : j < n
   ·
    have := hall j e;rw [Array.getD_eq_getD_getElem?, Array.getElem?_eq_getElem h1] at this;simp only [Option.getD_some] at this;rw [this]; simp [e]
   have := inv.tail j (by omega) hjs;rw [Array.getD_eq_getD_getElem?, Array.getElem?_eq_getElem h1] at this;simp only [Option.getD_some] at this;rw [this]; simp [e]
  rw [Nat.zero_add];have hdl : (l.drop n).length = ops.size - n := by rw [hl]; simp
  have h3 := wpAny_of_seq (P := P) (md := md) (ops := ops) (Q' := Q) (l.drop n) n s (frm ops a0 f n) w (fun j => by rw [hl]; simp [List.getElem?_drop]) (by rw [hdl, hse]; exact hsq) (tail L f w (fun j hj => by rw [← hL]; exact hall j hj) hI)
  rwa [hdl] at h3
 | succ fuel ih =>
  intro T s L f w hL hT hlen hsT hTn inv hI;have hTne : T ≠ [] := fun e => by rw [e] at hlen; cases hlen
  obtain ⟨m, hm, hle⟩ := ux hTne;have hmn := hTn m hm;have hun : s.getD m false = false := (hsT m hmn).2 hm;have hms : m < s.size := by rw [inv.size]; omega
  obtain ⟨om, hom⟩ : ∃ o, ops[m]? = some o := ⟨_, Array.getElem?_eq_getElem (by omega)⟩
  have hready : m ∈ Region.ready md ops s := mem_ready.2 ⟨getD_in hms hun, om, hom, fun e he hbnd => by
   have h1 := hfw' m om hmn hom e he hbnd
   cases h2 : s.getD e.on false with
   | true => rfl
   | false =>
    have := hle _ ((hsT e.on (by omega)).1 h2)
    omega⟩
  rw [show fuel + 1 + (ops.size - n) = (fuel + (ops.size - n)) + 1 by omega];refine ⟨fun e => absurd hready (by rw [e]; simp), fun i hi => ?_⟩;obtain ⟨hiu, oi, hoi, hdeps⟩ := mem_ready.1 hi;have hin : i < n := Nat.lt_of_not_le fun h => tail_waits hs hc hn inv _ m rfl hmn (getD_in hms hun) i h hi
  have hiT : i ∈ T := (hsT i hin).1 (getD_both hiu);have hdo : zN ops i = oi.dst := by unfold zN; rw [hoi]; rfl
  unfold wpOp;rw [hoi];simp only [];have hh := head i oi hin hoi L f w (by rw [← hL]; exact getD_both hiu) (fun e he hbnd => by rw [← hL]; exact hdeps e he hbnd) hI;refine qk hh (fun v w' hR => ?_) (fun d v w' hR => ?_)
  ·
   obtain ⟨_, hv0, hv⟩ := hR;have hval : I (onL L i) (yv f i v) w' := by
    cases hd : oi.dst with
    | none => exact hv0 hd v
    | some t =>
     have h4 := hv t hd;have h5 : t < (frm ops a0 f n).tmps.size := by rw [uF]; exact hN i hin t (by rw [hdo, hd])
     rw [hd] at h4
     simpa [Act.put, h5] using h4
   rw [← hdo, tK ops a0 f i v n hin fun j hj hji => hdd' i j hin hj (Ne.symm hji)];refine ih (T.erase i) _ (onL L i) _ w' (fun j => ?_) (hT.erase i) (by rw [List.length_erase_of_mem hiT]; omega) (fun j hj => ?_) (fun j hj => hTn j (List.mem_of_mem_erase hj)) (inv.set hi hin) hval
   ·
    unfold onL
    by_cases e : j = i
    ·
     subst e;have hjs : j < s.size := by rw [inv.size]; omega
     simp [Array.getD_eq_getD_getElem?, hjs]
    rw [getD_set_ne false (Ne.symm e), hL j, if_neg e]
   rw [hT.mem_erase_iff]
   by_cases e : j = i
   ·
    subst e;have hjs : j < s.size := by rw [inv.size]; omega
    simp [Array.getD_eq_getD_getElem?, hjs]
   rw [getD_set_ne false (Ne.symm e), hsT j hj];simp [e]
  have h1 := hR.1;have h2 := congrArg List.length h1
  cases hod : oi.dst <;> simp [Act.put, hod] at h2
def zFx (P : Program) (Q : Exit → Act → World → Prop) (ops : Array Oper) (I : (Nat → Bool) → (Nat → Value) → World → Prop) (fr : (Nat → Value) → Act) : List Oper → Nat → Nat → Prop
 | o :: r, m + 1, i => (∀ L f w, L i = false → (∀ j, zCm o j = true → L j = true) → I L f w → wpList P ops (Exit.then (zAD (fun v w' => I (onL L i) (yv f i v) w') (fr f).defers o.dst) Q) [o] (fr f) w) ∧ zFx P Q ops I fr r m (i + 1)
 | _, _, _ => True
theorem zAZ {ops : Array Oper} {I : (Nat → Bool) → (Nat → Value) → World → Prop} {fr : (Nat → Value) → Act} : ∀ (l : List Oper) (m k : Nat), zFx P Q ops I fr l m k →
  ∀ i o, l[i]? = some o → i < m → ∀ L f w, L (k + i) = false → (∀ j, zCm o j = true → L j = true) → I L f w → wpList P ops (Exit.then (zAD (fun v w' => I (onL L (k + i)) (yv f (k + i) v) w') (fr f).defers o.dst) Q) [o] (fr f) w
 | [], _, _, _, i, o, ho, _ => by simp at ho
 | o :: r, 0, _, _, i, _, _, hS => by omega
 | o :: r, m + 1, k, h, 0, o', ho, _ => by
  simp at ho;subst ho;exact h.1
 | o :: r, m + 1, k, h, i + 1, o', ho, hm => by
  have := zAZ r m (k + 1) h.2 i o' (by simpa using ho) (by omega)
  rwa [show k + 1 + i = k + (i + 1) by omega] at this
theorem t6 {id : Nat} {a0 : Act} {w : World} {l : List Oper} (n : Nat) (I : (Nat → Bool) → (Nat → Value) → World → Prop) (N : Nat) (hm : P.follows .mixedOrders = true) (hB : zJa .any l.toArray n = true)
  (hsz : a0.tmps.size = N) (hN : zBD l.toArray n N = true) {fr : (Nat → Value) → Act} (hfr : ∀ f, frm l.toArray a0 f n = fr f)
  (start : ∀ f, I (fun _ => false) f w.drew)
  (head : zFx P Q l.toArray I fr l n 0)
  (tail : ∀ L f w1, (∀ j, j < n → L j = true) → I L f w1 → wpList P l.toArray Q (l.drop n) (fr f) w1) : (Code.region id l.toArray true).wp P Q a0 w := by
 have hn : n < l.toArray.size := by
  simp only [zJa, Bool.and_eq_true, decide_eq_true_eq] at hB;exact hB.1.1.1.1.1
 refine wp_region_any hm ?_;have h := zKV (md := .any) (Q := Q) (P := P) (n := n) (a0 := a0) (I := I) rfl hB
  (fun i hi t ht => by
   have h1 := List.all_eq_true.1 hN i (List.mem_range.2 hi)
   rw [ht] at h1
   rw [hsz]
   simpa using h1)
  (fun i o hi ho L f w1 h0 hd hI => by
   rw [hfr]
   have h2 := zAZ l n 0 head i o (by simpa using ho) hi L f w1 (by rwa [Nat.zero_add]) (fun j hj => by
    unfold zCm at hj
    obtain ⟨e, he, h3⟩ := Array.any_eq_true'.1 hj
    simp only [Bool.and_eq_true, beq_iff_eq] at h3
    rw [← h3.2]
    exact hd e he h3.1) hI
   rwa [Nat.zero_add] at h2)
  (fun L f w1 hA hI => by rw [hfr]; exact tail L f w1 hA hI)
  n (List.range n) (Array.replicate l.toArray.size false) (fun _ => false) (fun j => match zN l.toArray j with | some d => a0.tmps.getD d undef | none => undef) w.drew
  (fun j => getD_replicate_false _ _) List.nodup_range (by simp) (fun j hj => by rw [getD_replicate_false]; simp [hj]) (fun j hj => by simpa using hj)
  ⟨by simp, fun j oj _ hl => (by rw [getD_replicate_false] at hl; cases hl), fun t _ ht => getD_in (by simpa using ht) (getD_replicate_false _ _)⟩
  (start _)
 have e0 : frm l.toArray a0 (fun j => match zN l.toArray j with | some d => a0.tmps.getD d undef | none => undef) n = a0 := kT _ _ _;rw [e0, show n + (l.toArray.size - n) = l.toArray.size by omega] at h;exact h
end
end Go.Proofs.YtcgfilmmokmdjaaGreat
namespace Go.Proofs.YtcgfilmmokmdjaaGreat
open Go.RowKit
theorem zr {L : Nat → Bool} {i j : Nat} (h : j ≠ i) : onL L i j = L j := if_neg h
theorem xp {f : Nat → Value} {i j : Nat} {v : Value} (h : j ≠ i) : yv f i v j = f j := if_neg h
theorem zEn (L : Nat → Bool) (i : Nat) : onL L i i = true := if_pos rfl
theorem kK (f : Nat → Value) (i : Nat) (v : Value) : yv f i v i = v := if_pos rfl
structure RtS (T : TypeId) (m : Nat) (xs ys : List Value) (ps : List (Nat × Value)) (B0 : Nat) (w6 : World) (L : Nat → Bool) (f : Nat → Value) (W : World) : Prop where
 pur : ∀ q ∈ ps, L q.1 = true → f q.1 = q.2
 hb : Below B0 w6 W
 sz : B0 ≤ W.heap.size
 a0 : L 0 = true → L 6 = false → ∃ b, f 0 = .slice (some ⟨b, 0, none⟩) 0 0 ∧ W.ownsRow B0 T 14 (.slice (some ⟨b, 0, none⟩) 0 0) 0 [] ∧ b < W.heap.size ∧ (L 9 = true → f 9 ≠ .slice (some ⟨b, 0, none⟩) 2 2)
 a6 : L 6 = true → L 10 = false → ∃ a c, f 6 = .slice a m c ∧ W.ownsRow B0 T 14 (.slice a m c) m xs
 a9 : L 9 = true → L 10 = false → ∃ k, f 9 = .slice (some ⟨k, 0, none⟩) 2 2 ∧ B0 ≤ k ∧ k < W.heap.size ∧ Rd W 14 (.slice (some ⟨k, 0, none⟩) 2 2) 2 ys
 a10 : L 10 = true → ∃ a c, f 10 = .slice a (m + 2) c ∧ W.ownsRow B0 T 14 (.slice a (m + 2) c) (m + 2) (xs ++ ys)
 d6 : L 6 = true → L 0 = true
 d10 : L 10 = true → L 6 = true ∧ L 9 = true
section
variable {T : TypeId} {m : Nat} {xs ys : List Value} {ps : List (Nat × Value)} {B0 : Nat} {w6 W W' : World} {L : Nat → Bool} {f : Nat → Value}
theorem RtS.start (hs : B0 = w6.heap.size) (f : Nat → Value) : RtS T m xs ys ps B0 w6 (fun _ => false) f w6.drew := by
 subst hs;exact ⟨(fun _ _ h => by cases h), zi (Below.refl _ _), Nat.le_refl _, (fun h => by cases h), (fun h => by cases h), (fun h => by cases h), (fun h => by cases h), (fun h => by cases h), fun h => by cases h⟩
theorem RtS.pure (h : RtS T m xs ys ps B0 w6 L f W) {i : Nat} {v : Value} (h0 : 0 ≠ i) (h6 : 6 ≠ i) (h9 : 9 ≠ i) (h10 : 10 ≠ i) (hp : ∀ q ∈ ps, q.1 = i → v = q.2) : RtS T m xs ys ps B0 w6 (onL L i) (yv f i v) W := by
 refine ⟨fun q hq hL => ?_, h.hb, h.sz, ?_, ?_, ?_, ?_, ?_, ?_⟩
 ·
  by_cases e : q.1 = i
  ·
   rw [e, kK]; exact hp q hq e
  rw [xp e]; rw [zr e] at hL; exact h.pur q hq hL
 ·
  rw [zr h0, zr h6, zr h9, xp h0, xp h9]; exact h.a0
 ·
  rw [zr h6, zr h10, xp h6]; exact h.a6
 ·
  rw [zr h9, zr h10, xp h9]; exact h.a9
 ·
  rw [zr h10, xp h10]; exact h.a10
 ·
  rw [zr h6, zr h0]; exact h.d6
 rw [zr h10, zr h6, zr h9]; exact h.d10
theorem RtS.no10 (h : RtS T m xs ys ps B0 w6 L f W) (h6 : L 6 = false ∨ L 9 = false) : L 10 = false := by
 cases e : L 10 with
 | false => rfl
 | true => have := h.d10 e; rcases h6 with h6 | h6 <;> simp [h6] at this
theorem RtS.no6 (h : RtS T m xs ys ps B0 w6 L f W) (h0 : L 0 = false) : L 6 = false := by
 cases e : L 6 with
 | false => rfl
 | true => have := h.d6 e; rw [h0] at this; cases this
theorem RtS.zero (h : RtS T m xs ys ps B0 w6 L f W) (h0 : L 0 = false) (hp : ∀ q ∈ ps, q.1 ≠ 0) : RtS T m xs ys ps B0 w6 (onL L 0) (yv f 0 (.slice (some ⟨W.heap.size, 0, none⟩) 0 0)) (W.alloc (.cells #[] T)) := by
 have hA := (Below.refl W.heap.size W).alloc (Nat.le_refl _) (.cells #[] T);have n6 := h.no6 h0;have n10 := h.no10 (.inl n6);refine ⟨fun q hq hL => ?_, h.hb.alloc h.sz _, Nat.le_trans h.sz hA.size, fun _ _ => ⟨W.heap.size, kK .., World.ownsRow_made (size := 14) W #[] 0 h.sz (by decide) rfl, by simp, fun h9 e => ?_⟩, ?_, ?_, ?_, ?_, ?_⟩
 ·
  rw [xp (hp q hq)]; rw [zr (hp q hq)] at hL; exact h.pur q hq hL
 ·
  rw [zr (by decide)] at h9;rw [xp (by decide)] at e;obtain ⟨k, e9, _, hk, _⟩ := h.a9 h9 n10;rw [e9] at e;injection e with e;injection e with e;injection e with e;omega
 ·
  rw [zr (by decide), n6]; intro e; cases e
 ·
  rw [zr (by decide), zr (by decide), xp (by decide)];intro e1 e2;obtain ⟨k, e9, h1, hk, hr⟩ := h.a9 e1 e2;exact ⟨k, e9, h1, Nat.lt_of_lt_of_le hk hA.size, hr.below hA⟩
 ·
  rw [zr (by decide), n10]; intro e; cases e
 ·
  rw [zr (by decide), n6]; intro e; cases e
 rw [zr (by decide), n10]; intro e; cases e
theorem RtS.two (h : RtS T m xs ys ps B0 w6 L f W) (h9 : L 9 = false) (hy : ys.length = 28) (hp : ∀ q ∈ ps, q.1 ≠ 9) : RtS T m xs ys ps B0 w6 (onL L 9) (yv f 9 (.slice (some ⟨W.heap.size, 0, none⟩) 2 2)) (W.alloc (.cells ys.toArray T)) := by
 have hA := (Below.refl W.heap.size W).alloc (Nat.le_refl _) (.cells ys.toArray T);have n10 := h.no10 (.inr h9);refine ⟨fun q hq hL => ?_, h.hb.alloc h.sz _, Nat.le_trans h.sz hA.size, ?_, ?_, fun _ _ => ⟨W.heap.size, kK .., h.sz, by simp, Rd.new W 14 ys T 2 (by rw [hy]) (by decide)⟩, ?_, ?_, ?_⟩
 ·
  rw [xp (hp q hq)]; rw [zr (hp q hq)] at hL; exact h.pur q hq hL
 ·
  rw [zr (i := 9) (j := 0) (by decide), zr (i := 9) (j := 6) (by decide), xp (i := 9) (j := 0) (by decide), kK];intro e0 e6;obtain ⟨b, e1, ho, hb, _⟩ := h.a0 e0 e6;refine ⟨b, e1, zH ho hA, Nat.lt_of_lt_of_le hb hA.size, fun _ e => ?_⟩;injection e with e;injection e with e;injection e with e;omega
 ·
  rw [zr (i := 9) (j := 6) (by decide), zr (i := 9) (j := 10) (by decide), xp (i := 9) (j := 6) (by decide)];intro e6 e10;obtain ⟨a, c, e1, ho⟩ := h.a6 e6 e10;exact ⟨a, c, e1, zH ho hA⟩
 ·
  rw [zr (by decide), n10]; intro e; cases e
 ·
  rw [zr (by decide), zr (by decide)]; exact h.d6
 rw [zr (by decide), n10]; intro e; cases e
theorem RtS.app1 (h : RtS T m xs ys ps B0 w6 L f W) (h0 : L 0 = true) (h6 : L 6 = false) (hp : ∀ q ∈ ps, q.1 ≠ 6) : ∃ b, f 0 = .slice (some ⟨b, 0, none⟩) 0 0 ∧ W.ownsRow B0 T 14 (.slice (some ⟨b, 0, none⟩) 0 0) 0 [] ∧
  ∀ v W', W'.ownsRow B0 T 14 v m xs → W.grownBy W' (Value.slice (some ⟨b, 0, none⟩) 0 0).ownBlock → RtS T m xs ys ps B0 w6 (onL L 6) (yv f 6 v) W' := by
 have n10 := h.no10 (.inl h6);obtain ⟨b, e0, ho, hb, hne⟩ := h.a0 h0 h6;refine ⟨b, e0, ho, fun v W' hown hg => ?_⟩;obtain ⟨a, c, ev, _⟩ := zJ hown;have hW : Below B0 W W' := zK (Below.refl B0 W) ho h.sz hg;refine ⟨fun q hq hL => ?_, h.hb.trans hW, Nat.le_trans h.sz hW.size, ?_, ?_, ?_, ?_, ?_, ?_⟩
 ·
  rw [xp (hp q hq)]; rw [zr (hp q hq)] at hL; exact h.pur q hq hL
 ·
  rw [zEn]; intro _ e; cases e
 ·
  rw [kK]; intro _ _; exact ⟨a, c, ev, ev ▸ hown⟩
 ·
  rw [zr (i := 6) (j := 9) (by decide), zr (i := 6) (j := 10) (by decide), xp (i := 6) (j := 9) (by decide)];intro e9 e10;obtain ⟨k, e1, h1, hk, hr⟩ := h.a9 e9 e10;refine ⟨k, e1, h1, Nat.lt_of_lt_of_le hk hW.size, hr.grown hg fun x hx e => ?_⟩;injection hx with hx;subst hx;have e2 : some k = some b := e;injection e2 with e2;exact hne e9 (by rw [e1, e2])
 ·
  rw [zr (by decide), n10]; intro e; cases e
 ·
  intro _; rw [zr (i := 6) (j := 0) (by decide)]; exact h0
 rw [zr (by decide), n10]; intro e; cases e
theorem RtS.app2 (h : RtS T m xs ys ps B0 w6 L f W) (h6 : L 6 = true) (h9 : L 9 = true) (h10 : L 10 = false) (hp : ∀ q ∈ ps, q.1 ≠ 10) : ∃ a c k, f 6 = .slice a m c ∧ W.ownsRow B0 T 14 (.slice a m c) m xs ∧ f 9 = .slice (some ⟨k, 0, none⟩) 2 2 ∧ Rd W 14 (.slice (some ⟨k, 0, none⟩) 2 2) 2 ys ∧
  ∀ v W', W'.ownsRow B0 T 14 v (m + 2) (xs ++ ys) → W.grownBy W' (Value.slice a m c).ownBlock → RtS T m xs ys ps B0 w6 (onL L 10) (yv f 10 v) W' := by
 obtain ⟨a, c, e6, ho⟩ := h.a6 h6 h10;obtain ⟨k, e9, _, _, hr⟩ := h.a9 h9 h10;refine ⟨a, c, k, e6, ho, e9, hr, fun v W' hown hg => ?_⟩;obtain ⟨a', c', ev, _⟩ := zJ hown;have hW : Below B0 W W' := zK (Below.refl B0 W) ho h.sz hg;refine ⟨fun q hq hL => ?_, h.hb.trans hW, Nat.le_trans h.sz hW.size, ?_, ?_, ?_, ?_, ?_, ?_⟩
 ·
  rw [xp (hp q hq)]; rw [zr (hp q hq)] at hL; exact h.pur q hq hL
 ·
  rw [zr (i := 10) (j := 6) (by decide), h6]; intro _ e; cases e
 ·
  rw [zEn]; intro _ e; cases e
 ·
  rw [zEn]; intro _ e; cases e
 ·
  rw [kK]; intro _; exact ⟨a', c', ev, ev ▸ hown⟩
 ·
  rw [zr (i := 10) (j := 6) (by decide), zr (i := 10) (j := 0) (by decide)]; exact h.d6
 rw [zr (i := 10) (j := 6) (by decide), zr (i := 10) (j := 9) (by decide)]; intro _; exact ⟨h6, h9⟩
end
end Go.Proofs.YtcgfilmmokmdjaaGreat
namespace Go.Proofs.YtcgfilmmokmdjaaGreat
open Go.RowKit
def zIO (o : Nat) : List Value → List (Nat × Value)
 | [] => []
 | v :: r => (o, v) :: zIO (o + 1) r
def zHK (xs : List Value) (o : Nat) : List Value → List Value
 | [] => xs
 | v :: r => zHK (xs.set o v) (o + 1) r
theorem zDH : ∀ (vs m a b : List Value), m.length = vs.length → zHK (a ++ (m ++ b)) a.length vs = a ++ (vs ++ b)
 | [], m, a, b, h => by
  obtain rfl := List.length_eq_zero_iff.1 h
  rfl
 | v :: r, [], a, b, h => by cases h
 | v :: r, x :: m, a, b, h => by
  show zHK ((a ++ (x :: m ++ b)).set a.length v) (a.length + 1) r = _
  have e : (a ++ (x :: m ++ b)).set a.length v = (a ++ [v]) ++ (m ++ b) := by simp
  have := zDH r m (a ++ [v]) b (by simpa using h);rw [e];rw [List.length_append] at this
  simpa using this
theorem zB5 {α : Type} (sz : Nat) (f : α → List Value) (hf : ∀ x, (f x).length = sz) (es : List α) (k : Nat) (hk : k < es.length) (y : α) : zHK (es.flatMap f) (k * sz) (f y) = (es.set k y).flatMap f := by
 have e0 : es = es.take k ++ es[k] :: es.drop (k + 1) := by
  rw [← List.drop_eq_getElem_cons hk, List.take_append_drop]
 have e1 : es.flatMap f = (es.take k).flatMap f ++ (f es[k] ++ (es.drop (k + 1)).flatMap f) := by
  have h1 : es.flatMap f = (es.take k ++ es[k] :: es.drop (k + 1)).flatMap f := by rw [← e0]
  rw [h1, List.flatMap_append, List.flatMap_cons]
 have e2 : ((es.take k).flatMap f).length = k * sz := by
  rw [yK sz f _ (fun x _ => hf x), List.length_take, Nat.min_eq_left (by omega)]
 rw [e1, ← e2, zDH _ _ _ _ (by rw [hf, hf]), List.set_eq_take_append_cons_drop, if_pos hk];simp
theorem zD7 {B g n cap sz : Nat} {T : TypeId} : ∀ (vs : List Value) (o : Nat) (xs : List Value) (W : World), W.ownsRow B T sz (.slice (some ⟨g, 0, none⟩) n cap) n xs →
  (pts W g (zIO o vs)).ownsRow B T sz (.slice (some ⟨g, 0, none⟩) n cap) n (zHK xs o vs) ∧ W.grownBy (pts W g (zIO o vs)) (some g)
 | [], _, _, W, h => ⟨h, rfl, rfl, rfl, Nat.le_refl _, fun _ _ _ => rfl⟩
 | v :: r, o, xs, W, h => by
  have h1 := h.stored o v;have h2 := zD7 r (o + 1) _ _ h1.1;exact ⟨h2.1, zm h1.2 h2.2⟩
abbrev gpL (o : Nat) (n r md z : Int) (s : Sl) (l g : Int) : List (Nat × Value) := [(o, .int .i64 n), (o + 1, .int .i64 r), (o + 2, .int .i64 md), (o + 3, .int .i64 z), (o + 4, .slice (s.a 0) (s.n 0) (s.c 0)), (o + 5, .slice (s.a 1) (s.n 1) (s.c 1)), (o + 6, .slice (s.a 2) (s.n 2) (s.c 2)), (o + 7, .slice (s.a 3) (s.n 3) (s.c 3)), (o + 8, .slice (s.a 4) (s.n 4) (s.c 4)), (o + 9, .slice (s.a 5) (s.n 5) (s.c 5)), (o + 10, .slice (s.a 6) (s.n 6) (s.c 6)), (o + 11, .slice (s.a 7) (s.n 7) (s.c 7)), (o + 12, .int .i64 l), (o + 13, .int .i64 g)]
theorem zJo (o : Nat) (x : GP) : zIO o (gpC x) = gpL o x.1.num x.1.rev x.1.mode x.1.size x.2 x.1.m.live x.1.m.garb := rfl
theorem kL {W : World} {B g n cap : Nat} {T : TypeId} {L : List GP} (h : W.ownsRow B T 14 (.slice (some ⟨g, 0, none⟩) n cap) n (L.flatMap gpC)) (k : Nat) (hk : k < L.length) (y : GP) :
  (pts W g (gpL (k * 14) y.1.num y.1.rev y.1.mode y.1.size y.2 y.1.m.live y.1.m.garb)).ownsRow B T 14 (.slice (some ⟨g, 0, none⟩) n cap) n ((L.set k y).flatMap gpC) ∧
  W.grownBy (pts W g (gpL (k * 14) y.1.num y.1.rev y.1.mode y.1.size y.2 y.1.m.live y.1.m.garb)) (some g) := by
 have h1 := zD7 (gpC y) (k * 14) _ W h;rw [zB5 14 gpC qR L k hk y, zJo] at h1;exact h1
theorem tJ {w : World} {B : Nat} {e : TypeId} {sz n cap : Nat} {a : Option Addr} {xs : List Value} (h : w.ownsRow B e sz (.slice a n cap) n xs) (hn : 0 < n) : ∃ g, a = some ⟨g, 0, none⟩ ∧ B ≤ g ∧ g < w.heap.size := by
 rcases h.2 with ⟨e, h0⟩ | ⟨g, _, cur, e, hb, hg, _⟩
 ·
  omega
 injection e with e _ _;exact ⟨g, e, hb, (Array.getElem?_eq_some_iff.1 hg).1⟩
theorem wg {w : World} {B : Nat} {e : TypeId} {sz n cap g : Nat} {xs : List Value} (h : w.ownsRow B e sz (.slice (some ⟨g, 0, none⟩) n cap) n xs) (i : Nat) : w.frozen? ⟨g, i, none⟩ = false := by
 rcases h.2 with ⟨e, _⟩ | ⟨g', c2, cur, h', hb, hg, _⟩
 ·
  cases e
 injection h' with h' _ _;injection h' with h';injection h' with h';subst h';unfold World.frozen?;rw [hg];simp
theorem zCg {w : World} {B n cap g : Nat} {T : TypeId} {L : List GP} (h : w.ownsRow B T 14 (.slice (some ⟨g, 0, none⟩) n cap) n (L.flatMap gpC)) (hn : n = L.length) {k : Nat} (hk : k < n) : GAt w g (k * 14) (pat L k) := by
 subst hn;have hS : RdS 14 gpC w _ L := zC1 (fun x _ => qR x) (by decide) h;obtain ⟨_, _, e, _, _, _, hc⟩ := hS.shape (by decide) gp0;injection e with e1 e2 e3;obtain ⟨b, off, e4, hc⟩ := hc (by omega);rw [← e1] at e4;injection e4 with e4;injection e4 with e5 e6;subst e5 e6;have c := hc k hk;simp only [Nat.zero_add] at c;refine ⟨?_, c 1 _ rfl, c 2 _ rfl, c 3 _ rfl, c 4 _ rfl, c 5 _ rfl, c 6 _ rfl, c 7 _ rfl, c 8 _ rfl, c 9 _ rfl, c 10 _ rfl, c 11 _ rfl, c 12 _ rfl, c 13 _ rfl⟩;have := c 0 _ rfl; rwa [Nat.add_zero] at this
theorem BoxG.grownR {W W' : World} {b g : Nat} {n r md z : Int} {s : Sl} {l q : Int} (h : BoxG W b n r md z s l q) (hg : W.grownBy W' (some g)) (hne : b ≠ g) : BoxG W' b n r md z s l q := by
 have k : ∀ i u, W.cell? ⟨b, i, none⟩ = some u → W'.cell? ⟨b, i, none⟩ = some u := fun i u hu => hg.cell hu (fun e => hne (by injection e))
 refine ⟨k _ _ h.n0, k _ _ h.n1, k _ _ h.n2, k _ _ h.n3, fun j hj => k _ _ (h.c j hj), k _ _ h.cl, k _ _ h.cg, fun i => ?_⟩;have e := hg.block b h.lt (fun e => hne (by injection e));rw [← h.f i]; unfold World.frozen?; rw [e]
theorem BoxV.grownR {W W' : World} {b g : Nat} {i l : Int} {r : Bool} {a : Option Addr} {n c : Nat} (h : BoxV W b i l r a n c) (hg : W.grownBy W' (some g)) (hne : b ≠ g) : BoxV W' b i l r a n c := by
 have k : ∀ i u, W.cell? ⟨b, i, none⟩ = some u → W'.cell? ⟨b, i, none⟩ = some u := fun i u hu => hg.cell hu (fun e => hne (by injection e))
 refine ⟨k _ _ h.c0, k _ _ h.c1, k _ _ h.c2, k _ _ h.c3, fun i => ?_⟩;have e := hg.block b h.lt (fun e => hne (by injection e));rw [← h.f i]; unfold World.frozen?; rw [e]
def SRes (w0 : World) (p : Slt × Int) (e : Ending) (w' : World) : Prop := (∃ a n c L, e = .returned (.tuple #[zhq p.1.id p.1.lim p.1.ro a n c, .int .i64 p.2]) ∧ RdG w' (.slice a n c) L ∧ gns L = p.1.gens) ∧ Below w0.heap.size w0 w'
theorem RdG.nil (w : World) : RdG w (.slice none 0 0) [] := ⟨RdS.nil 14 gpC w, fun p hp => by cases hp⟩
theorem SRes.no {w0 w : World} {c : Int} (h : Below w0.heap.size w0 w) : SRes w0 (wS, c) (.returned (.tuple #[zhq 0 0 false Option.none 0 0, .int .i64 c])) w := ⟨⟨Option.none, 0, 0, [], rfl, RdG.nil _, rfl⟩, h⟩
theorem uc {L : List GP} {k : Nat} (h : LenS k (gns L)) (hk : k ≤ 10000) : ∀ p ∈ L, ∀ j, j < 8 → (p.1.m.st j).length ≤ 10000 := fun p hp j hj => Nat.le_trans (h p.1 (List.mem_map_of_mem hp) j hj) hk
theorem zHW (L : List GP) (k : Nat) : gns (L.take k) = (gns L).take k := List.map_take ..
theorem zFL (L M : List GP) : gns (L ++ M) = gns L ++ gns M := List.map_append ..
theorem zFk {L : List GP} {k : Nat} (hk : k < L.length) (y : GP) (j : Nat) : pat (L.set k y) j = if j = k then y else pat L j := by
 unfold pat;rw [List.getD_eq_getElem?_getD, List.getElem?_set]
 by_cases e : k = j
 ·
  subst e; simp [hk]
 rw [if_neg e, if_neg (fun e' => e e'.symm), List.getD_eq_getElem?_getD]
theorem kB {w : World} {B n : Nat} {v : Value} {T : TypeId} {L : List GP} (h : w.ownsRow B T 14 v n (L.flatMap gpC)) (hn : n = L.length) (hm : ∀ p ∈ L, RdM w p.2 p.1.m.st) : RdG w v L := by
 subst hn;exact ⟨zC1 (fun x _ => qR x) (by decide) h, hm⟩
def uv (L : List GP) (y : GP) : List GP := L.map fun x => if x.1.num = y.1.num then y else x
theorem zJS (L : List GP) (y : GP) : gns (uv L y) = uj (gns L) y.1 := by
 unfold uv uj gns;rw [List.map_map, List.map_map];refine List.map_congr_left fun x _ => ?_
 simp only [Function.comp_apply]
 split <;> rfl
theorem zEJ {L : List GP} {y p : GP} (h : p ∈ uv L y) : p ∈ L ∨ p = y := by
 obtain ⟨x, hx, e⟩ := List.mem_map.1 h
 by_cases c : x.1.num = y.1.num
 ·
  rw [if_pos c] at e; exact .inr e.symm
 rw [if_neg c] at e; exact .inl (e ▸ hx)
theorem uq (L : List GP) (y : GP) : (uv L y).length = L.length := List.length_map ..
def vR (L : List GP) (y : GP) (k : Nat) : List GP := uv (L.take k) y ++ L.drop k
theorem zGN (L : List GP) (y : GP) : vR L y 0 = L := rfl
theorem zIo (L : List GP) (y : GP) (k : Nat) (hk : k = L.length) : vR L y k = uv L y := by
 subst hk;unfold vR;rw [List.take_of_length_le (Nat.le_refl _), List.drop_of_length_le (Nat.le_refl _), List.append_nil]
theorem zD8 (L : List GP) (y : GP) (k : Nat) : (vR L y k).length = L.length := by
 unfold vR;rw [List.length_append, uq, List.length_take, List.length_drop]; omega
theorem zFm {L : List GP} {k : Nat} (hk : k < L.length) (y : GP) : pat (vR L y k) k = pat L k := by
 unfold pat vR;rw [List.getD_eq_getElem?_getD, List.getElem?_append_right (by rw [uq, List.length_take]; omega), uq, List.length_take, List.getElem?_drop, List.getD_eq_getElem?_getD]
 congr 2; omega
theorem zBw {L : List GP} {k : Nat} (hk : k < L.length) (y : GP) : vR L y (k + 1) = (vR L y k).set k (if (pat L k).1.num = y.1.num then y else pat L k) := by
 have e0 : L.drop k = pat L k :: L.drop (k + 1) := by
  rw [List.drop_eq_getElem_cons hk];unfold pat;rw [List.getD_eq_getElem?_getD, List.getElem?_eq_getElem hk]; rfl
 have e1 : L.take (k + 1) = L.take k ++ [pat L k] := by
  rw [List.take_add_one, List.getElem?_eq_getElem hk];unfold pat;rw [List.getD_eq_getElem?_getD, List.getElem?_eq_getElem hk]; rfl
 unfold vR;have hl : (uv (L.take k) y).length = k := by rw [uq, List.length_take]; omega
 rw [e0, e1, List.set_append_right _ _ (by omega), hl, Nat.sub_self];unfold uv;rw [List.map_append, List.append_assoc]
 rfl
theorem zG3 {L : List GP} {k : Nat} (hk : k < L.length) (y : GP) (h : (pat L k).1.num ≠ y.1.num) : vR L y (k + 1) = vR L y k := by
 rw [zBw hk, if_neg h];apply List.ext_getElem?;intro i;rw [List.getElem?_set]
 by_cases e : k = i
 ·
  subst e;have hk2 : k < (vR L y k).length := by rw [zD8]; exact hk
  have h1 := zFm hk y;have h2 : pat (vR L y k) k = (vR L y k)[k] := by
   unfold pat;rw [List.getD_eq_getElem?_getD, List.getElem?_eq_getElem hk2]; rfl
  simp only [hk2, if_true, List.getElem?_eq_getElem hk2];rw [← h2, h1]
 rw [if_neg e]
def qP (L : List GP) (num : Int) (k : Nat) : Bool := (L.take k).any fun x => decide (x.1.num = num)
theorem zGW {L : List GP} {k : Nat} (hk : k < L.length) (num : Int) : qP L num (k + 1) = (qP L num k || decide ((pat L k).1.num = num)) := by
 unfold qP pat;rw [List.take_add_one, List.getElem?_eq_getElem hk, List.any_append, List.getD_eq_getElem?_getD, List.getElem?_eq_getElem hk];simp
theorem zEL (L : List GP) (num : Int) (k : Nat) (hk : k = L.length) : qP L num k = (gns L).any fun x => decide (x.num = num) := by
 subst hk;unfold qP gns;rw [List.take_of_length_le (Nat.le_refl _), List.any_map]
 rfl
end Go.Proofs.YtcgfilmmokmdjaaGreat
