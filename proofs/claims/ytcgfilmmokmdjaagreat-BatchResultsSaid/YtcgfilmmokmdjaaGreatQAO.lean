/- A part of the walk. -/
import Derived.Test.YtcgfilmmokmdjaaGreatQAN
import Derived.Test.YtcgfilmmokmdjaaGreatSlv
import Derived.Test.YtcgfilmmokmdjaaGreatQAK
import Derived.Test.YtcgfilmmokmdjaaGreatQAM
import Derived.Test.YtcgfilmmokmdjaaGreatQAL
set_option linter.all false
set_option maxRecDepth 100000
set_option maxHeartbeats 32000000
namespace Go.Proofs.YtcgfilmmokmdjaaGreat
open Go.RowKit
theorem XV (i l : Int) (r : Bool) (a : Option Addr) (n c : Nat) (L : List GP) (w : World) (h : fq w (.slice a n c) L) (hs : ∀ p ∈ L, ∀ j, j < 8 → (p.1.m.st j).length ≤ 10000) :
  Calls Tryz.prog 84 #[zZ i l r a n c] w fun e w' => e = .returned (.bool (xe ⟨i, l, r, dZ L⟩)) ∧ Below w.heap.size w w' := by
 have gu := zh (fun W (hb : Below w.heap.size w W) => xR i l r a n c L W (h.below hb) hs);have eE := zh (eT.new w i l r a n c 31);have eD := zh (zN w i l r a n c 31);have hcs : xe ⟨i, l, r, dZ L⟩ = (zg ⟨i, l, r, dZ L⟩ && decide ((zS ⟨i, l, r, dZ L⟩).num < 8)) := rfl;rw [hcs];clear hcs
 cases hv : zg ⟨i, l, r, dZ L⟩
 ·
  rw [hv] at gu;clear h hs hv
  go_enter Tryz.func84, Tryz.ntmps84
  go_upto_region 1 with fail;obtain ⟨W, hW⟩ : ∃ W, w.alloc (.cells (zK i l r a n c) 31) = W := ⟨_, rfl⟩
  change Code.wp _ _ _ _ (w.alloc (.cells (zK i l r a n c) 31));rw [hW] at eE eD ⊢;clear hW;have rE := eE.out.lt;obtain ⟨k0, k1, k2, k3⟩ := eE.out.q;go_wp2_with fail;refine (gu.out _ eD.out).mono ?_;rintro e w1 ⟨rfl, hb1⟩;have eQ := zh (zA eD.out hb1);clear k0 k1 k2 k3 hb1;go_wp2_with fail;go_ret;exact ⟨rfl, eQ.out⟩
 rw [hv] at gu;have hV := (zR _).1 hv;have fR : L.length = n := by
  obtain ⟨_, _, e, _⟩ := h.shape;injection e with _ e _; exact e.symm
 have hl : (dZ L).length = n := by rw [zj, fR]
 have hn : 1 ≤ n ∧ n ≤ 8 := by have := hV.len; simp only [hl] at this; exact this
 obtain ⟨j, rfl⟩ : ∃ j, n = j + 1 := ⟨n - 1, by omega⟩
 rw [vP fR];have HR := zh h;clear hV fR hl hv h hs;obtain ⟨b, off, rfl, hg⟩ := HR.out.at (show j < j + 1 by omega);have HG := zh hg;clear hg HR;generalize pat L j = p at *;obtain ⟨⟨num, rev, md, sz, f, LV, GA⟩, s⟩ := p;dsimp only at *
 go_enter Tryz.func84, Tryz.ntmps84
 go_upto_region 1 with fail;obtain ⟨W, hW⟩ : ∃ W, w.alloc (.cells (zK i l r (some ⟨b, off, none⟩) (j + 1) c) 31) = W := ⟨_, rfl⟩
 change Code.wp _ _ _ _ (w.alloc (.cells (zK i l r (some ⟨b, off, none⟩) (j + 1) c) 31));rw [hW] at eE eD ⊢;clear hW;have rE := eE.out.lt;obtain ⟨k0, k1, k2, k3⟩ := eE.out.q;go_wp2_with fail;refine (gu.out _ eD.out).mono ?_;rintro e w1 ⟨rfl, hb1⟩;clear k0 k1 k2 k3;have eQ := zh (zA eD.out hb1);have fp := zh (eE.out.below hb1);have pX := zh (HG.out.below eQ.out);clear hb1 eD eE HG gu;have j3 : IntKind.i64.wrap (j : Int) = (j : Int) := aH _ (by omega);have i2 : (j : Int) < ((j + 1 : Nat) : Int) := by omega
 have v3 := fp.out.c3;have g0 := pX.out.n0;dsimp only at g0;go_wp2_with fail;go_ret;exact ⟨by simp, eQ.out⟩
end Go.Proofs.YtcgfilmmokmdjaaGreat
namespace Go.Proofs.YtcgfilmmokmdjaaGreat
open Go Go.RowKit
section
variable {P : Program} {ops : Array Oper} {md : Region.Mode}
def N5 (md : Region.Mode) (ops : Array Oper) (n : Nat) : Bool :=
 decide (n < ops.size) && Region.sinkB md ops n && Region.chainB md ops n &&
 ((List.range n).all fun i => ((ops[i]?).map fun o => o.after.all fun e => !Region.binds md e || decide (e.on < i)).getD false) &&
 ((List.range n).all fun i => (List.range n).all fun j => decide (i = j) || decide (zX ops i = none) || decide (zX ops i ≠ zX ops j)) &&
 Region.seqB md ops (ops.size - n) n ((List.range ops.size).map fun j => decide (j < n)).toArray
def o9 (L : Nat → Bool) (i : Nat) : Nat → Bool := fun j => if j = i then true else L j
variable {Q : Exit → Act → World → Prop}
def N6 (J : Value → World → Prop) (ds : List Deferred) (d : Option Tmp) (a' : Act) (w' : World) : Prop :=
 a'.defers = ds ∧ (d = none → ∀ v, J v w') ∧ ∀ t, d = some t → J (a'.tmps.getD t undef) w'
theorem zK6 {n : Nat} {a0 : Act} {I : (Nat → Bool) → (Nat → Value) → World → Prop} {l : List Oper} (hl : ops = l.toArray) (hB : N5 md ops n = true) (hN : ∀ i, i < n → ∀ t, zX ops i = some t → t < a0.tmps.size)
  (head : ∀ i o, i < n → ops[i]? = some o → ∀ L f w, L i = false → (∀ e ∈ o.after, Region.binds md e = true → L e.on = true) → I L f w →
   wpList P ops (Exit.then (N6 (fun v w' => I (o9 L i) (xH f i v) w') (fA ops a0 f n).defers o.dst) Q) [o] (fA ops a0 f n) w)
  (tail : ∀ L f w, (∀ j, j < n → L j = true) → I L f w → wpList P ops Q (l.drop n) (fA ops a0 f n) w) :
  ∀ (fuel : Nat) (T : List Nat) (s : Array Bool) (L : Nat → Bool) (f : Nat → Value) (w : World), (∀ j, s.getD j false = L j) → T.Nodup → T.length = fuel → (∀ j, j < n → (s.getD j false = false ↔ j ∈ T)) → (∀ j ∈ T, j < n) → HeadInv md ops n s → I L f w →
   wpAny P md ops Q (fuel + (ops.size - n)) s (fA ops a0 f n) w := by
 simp only [N5, aM, aT] at hB;obtain ⟨⟨⟨⟨⟨hn, hs⟩, hc⟩, hfw⟩, hdd⟩, EK⟩ := hB;have ou : ∀ i o, i < n → ops[i]? = some o → ∀ e ∈ o.after, Region.binds md e = true → e.on < i := fun i o hi ho e he hb => by
  have := List.all_eq_true.1 hfw i (List.mem_range.2 hi);rw [ho] at this;simp only [dB, bw] at this;have h2 := Array.all_eq_true_iff_forall_mem.1 this e he;rw [hb] at h2
  simpa using h2
 have rF : ∀ i j, i < n → j < n → i ≠ j → zX ops i = none ∨ zX ops i ≠ zX ops j := fun i j hi hj hij => by
  have := List.all_eq_true.1 (List.all_eq_true.1 hdd i (List.mem_range.2 hi)) j (List.mem_range.2 hj)
  simpa [hij] using this
 intro fuel
 induction fuel with
 | zero =>
  intro T s L f w hL hT hlen lq o5 inv hI;have EL : T = [] := List.length_eq_zero_iff.1 hlen;subst EL;have hall : ∀ j, j < n → s.getD j false = true := fun j hj => by
   cases h : s.getD j false with
   | true => rfl
   | false => exact absurd ((lq j hj).1 h) (by simp)
  have DW : s = ((List.range ops.size).map fun j => decide (j < n)).toArray := by
   apply Array.ext
   ·
    simp [inv.size]
   intro j h1 h2;have il : j < ops.size := by rw [← inv.size]; exact h1
   simp only [aV, dK, dO]
   by_cases e : j < n
   ·
    have := hall j e;rw [bu, bC h1] at this;simp only [bw] at this;rw [this]; simp [e]
   have := inv.tail j (by omega) il;rw [bu, bC h1] at this;simp only [bw] at this;rw [this]; simp [e]
  rw [aJ];have iz : (l.drop n).length = ops.size - n := by rw [hl]; simp
  have h3 := wpAny_of_seq (P := P) (md := md) (ops := ops) (Q' := Q) (l.drop n) n s (fA ops a0 f n) w (fun j => by rw [hl]; simp [cM]) (by rw [iz, DW]; exact EK) (tail L f w (fun j hj => by rw [← hL]; exact hall j hj) hI)
  rwa [iz] at h3
 | succ fuel ih =>
  intro T s L f w hL hT hlen lq o5 inv hI;have rG : T ≠ [] := fun e => by rw [e] at hlen; cases hlen
  obtain ⟨m, hm, hle⟩ := tV rG;have hmn := o5 m hm;have hun : s.getD m false = false := (lq m hmn).2 hm;have Db : m < s.size := by rw [inv.size]; omega
  obtain ⟨om, Bl⟩ : ∃ o, ops[m]? = some o := ⟨_, bC (by omega)⟩
  have jq : m ∈ Region.ready md ops s := mem_ready.2 ⟨getD_in Db hun, om, Bl, fun e he jb => by
   have h1 := ou m om hmn Bl e he jb
   cases h2 : s.getD e.on false with
   | true => rfl
   | false =>
    have := hle _ ((lq e.on (by omega)).1 h2)
    omega⟩
  rw [show fuel + 1 + (ops.size - n) = (fuel + (ops.size - n)) + 1 by omega];refine ⟨fun e => absurd jq (by rw [e]; simp), fun i hi => ?_⟩;obtain ⟨Cy, oi, hoi, lS⟩ := mem_ready.1 hi;have hin : i < n := Nat.lt_of_not_le fun h => tail_waits hs hc hn inv _ m rfl hmn (getD_in Db hun) i h hi
  have EM : i ∈ T := (lq i hin).1 (getD_both Cy);have mO : zX ops i = oi.dst := by unfold zX; rw [hoi]; rfl
  unfold wpOp;rw [hoi];simp only [];have hh := head i oi hin hoi L f w (by rw [← hL]; exact getD_both Cy) (fun e he jb => by rw [← hL]; exact lS e he jb) hI;refine kT hh (fun v w' hR => ?_) (fun d v w' hR => ?_)
  ·
   obtain ⟨_, hv0, hv⟩ := hR;have hval : I (o9 L i) (xH f i v) w' := by
    cases hd : oi.dst with
    | none => exact hv0 hd v
    | some t =>
     have h4 := hv t hd;have h5 : t < (fA ops a0 f n).tmps.size := by rw [uU]; exact hN i hin t (by rw [mO, hd])
     rw [hd] at h4
     simpa [Act.put, h5] using h4
   rw [← mO, tq ops a0 f i v n hin fun j hj hji => rF i j hin hj (aO hji)];refine ih (T.erase i) _ (o9 L i) _ w' (fun j => ?_) (hT.erase i) (by rw [List.length_erase_of_mem EM]; omega) (fun j hj => ?_) (fun j hj => o5 j (List.mem_of_mem_erase hj)) (inv.set hi hin) hval
   ·
    unfold o9
    by_cases e : j = i
    ·
     subst e;have il : j < s.size := by rw [inv.size]; omega
     simp [bu, il]
    rw [bB false (aO e), hL j, ah e]
   rw [hT.mem_erase_iff]
   by_cases e : j = i
   ·
    subst e;have il : j < s.size := by rw [inv.size]; omega
    simp [bu, il]
   rw [bB false (aO e), lq j hj];simp [e]
  have h1 := hR.1;have h2 := aS List.length h1
  cases EN : oi.dst <;> simp [Act.put, EN] at h2
def N7 (P : Program) (Q : Exit → Act → World → Prop) (ops : Array Oper) (I : (Nat → Bool) → (Nat → Value) → World → Prop) (fr : (Nat → Value) → Act) : List Oper → Nat → Nat → Prop
 | o :: r, m + 1, i => (∀ L f w, L i = false → (∀ j, EO o j = true → L j = true) → I L f w → wpList P ops (Exit.then (N6 (fun v w' => I (o9 L i) (xH f i v) w') (fr f).defers o.dst) Q) [o] (fr f) w) ∧ N7 P Q ops I fr r m (i + 1)
 | _, _, _ => True
theorem RE {ops : Array Oper} {I : (Nat → Bool) → (Nat → Value) → World → Prop} {fr : (Nat → Value) → Act} : ∀ (l : List Oper) (m k : Nat), N7 P Q ops I fr l m k →
  ∀ i o, l[i]? = some o → i < m → ∀ L f w, L (k + i) = false → (∀ j, EO o j = true → L j = true) → I L f w → wpList P ops (Exit.then (N6 (fun v w' => I (o9 L (k + i)) (xH f (k + i) v) w') (fr f).defers o.dst) Q) [o] (fr f) w
 | [], _, _, _, i, o, ho, _ => by simp at ho
 | o :: r, 0, _, _, i, _, _, hS => by omega
 | o :: r, m + 1, k, h, 0, o', ho, _ => by
  simp at ho;subst ho;exact h.1
 | o :: r, m + 1, k, h, i + 1, o', ho, hm => by
  have := RE r m (k + 1) h.2 i o' (by simpa using ho) (by omega)
  rwa [show k + 1 + i = k + (i + 1) by omega] at this
theorem qW {id : Nat} {a0 : Act} {w : World} {l : List Oper} (n : Nat) (I : (Nat → Bool) → (Nat → Value) → World → Prop) (N : Nat) (hm : P.follows .mixedOrders = true) (hB : N5 .any l.toArray n = true)
  (hsz : a0.tmps.size = N) (hN : La l.toArray n N = true) {fr : (Nat → Value) → Act} (hfr : ∀ f, fA l.toArray a0 f n = fr f)
  (start : ∀ f, I (fun _ => false) f w.drew)
  (head : N7 P Q l.toArray I fr l n 0)
  (tail : ∀ L f w1, (∀ j, j < n → L j = true) → I L f w1 → wpList P l.toArray Q (l.drop n) (fr f) w1) : (Code.region id l.toArray true).wp P Q a0 w := by
 have hn : n < l.toArray.size := by
  simp only [N5, aM, aT] at hB;exact hB.1.1.1.1.1
 refine wp_region_any hm ?_;have h := zK6 (md := .any) (Q := Q) (P := P) (n := n) (a0 := a0) (I := I) rfl hB
  (fun i hi t ht => by
   have h1 := List.all_eq_true.1 hN i (List.mem_range.2 hi)
   rw [ht] at h1
   rw [hsz]
   simpa using h1)
  (fun i o hi ho L f w1 h0 hd hI => by
   rw [hfr]
   have h2 := RE l n 0 head i o (by simpa using ho) hi L f w1 (by rwa [aJ]) (fun j hj => by
    unfold EO at hj
    obtain ⟨e, he, h3⟩ := Array.any_eq_true'.1 hj
    simp only [aM, cz] at h3
    rw [← h3.2]
    exact hd e he h3.1) hI
   rwa [aJ] at h2)
  (fun L f w1 hA hI => by rw [hfr]; exact tail L f w1 hA hI)
  n (List.range n) (Array.replicate l.toArray.size false) (fun _ => false) (fun j => match zX l.toArray j with | some d => a0.tmps.getD d undef | none => undef) w.drew
  (fun j => getD_replicate_false _ _) List.nodup_range (by simp) (fun j hj => by rw [getD_replicate_false]; simp [hj]) (fun j hj => by simpa using hj)
  ⟨by simp, fun j oj _ hl => (by rw [getD_replicate_false] at hl; cases hl), fun t _ ht => getD_in (by simpa using ht) (getD_replicate_false _ _)⟩
  (start _)
 have e0 : fA l.toArray a0 (fun j => match zX l.toArray j with | some d => a0.tmps.getD d undef | none => undef) n = a0 := Jv _ _ _;rw [e0, show n + (l.toArray.size - n) = l.toArray.size by omega] at h;exact h
end
end Go.Proofs.YtcgfilmmokmdjaaGreat
namespace Go.Proofs.YtcgfilmmokmdjaaGreat
open Go.RowKit
theorem zw {L : Nat → Bool} {i j : Nat} (h : j ≠ i) : o9 L i j = L j := ah h
theorem wF {f : Nat → Value} {i j : Nat} {v : Value} (h : j ≠ i) : xH f i v j = f j := ah h
theorem RF (L : Nat → Bool) (i : Nat) : o9 L i i = true := ag rfl
theorem JE (f : Nat → Value) (i : Nat) (v : Value) : xH f i v i = v := ag rfl
structure oB (T : TypeId) (m : Nat) (xs ys : List Value) (ps : List (Nat × Value)) (B0 : Nat) (w6 : World) (L : Nat → Bool) (f : Nat → Value) (W : World) : Prop where
 Ca : ∀ q ∈ ps, L q.1 = true → f q.1 = q.2
 hb : Below B0 w6 W
 sz : B0 ≤ W.heap.size
 a0 : L 0 = true → L 6 = false → ∃ b, f 0 = .slice (some ⟨b, 0, none⟩) 0 0 ∧ W.ownsRow B0 T 14 (.slice (some ⟨b, 0, none⟩) 0 0) 0 [] ∧ b < W.heap.size ∧ (L 9 = true → f 9 ≠ .slice (some ⟨b, 0, none⟩) 2 2)
 a6 : L 6 = true → L 10 = false → ∃ a c, f 6 = .slice a m c ∧ W.ownsRow B0 T 14 (.slice a m c) m xs
 a9 : L 9 = true → L 10 = false → ∃ k, f 9 = .slice (some ⟨k, 0, none⟩) 2 2 ∧ B0 ≤ k ∧ k < W.heap.size ∧ Rd W 14 (.slice (some ⟨k, 0, none⟩) 2 2) 2 ys
 Ls : L 10 = true → ∃ a c, f 10 = .slice a (m + 2) c ∧ W.ownsRow B0 T 14 (.slice a (m + 2) c) (m + 2) (xs ++ ys)
 d6 : L 6 = true → L 0 = true
 d10 : L 10 = true → L 6 = true ∧ L 9 = true
section
variable {T : TypeId} {m : Nat} {xs ys : List Value} {ps : List (Nat × Value)} {B0 : Nat} {w6 W W' : World} {L : Nat → Bool} {f : Nat → Value}
theorem oB.start (hs : B0 = w6.heap.size) (f : Nat → Value) : oB T m xs ys ps B0 w6 (fun _ => false) f w6.drew := by
 subst hs;exact ⟨(fun _ _ h => by cases h), zz (aj _ _), ai _, (fun h => by cases h), (fun h => by cases h), (fun h => by cases h), (fun h => by cases h), (fun h => by cases h), fun h => by cases h⟩
theorem oB.pure (h : oB T m xs ys ps B0 w6 L f W) {i : Nat} {v : Value} (h0 : 0 ≠ i) (h6 : 6 ≠ i) (h9 : 9 ≠ i) (h10 : 10 ≠ i) (hp : ∀ q ∈ ps, q.1 = i → v = q.2) : oB T m xs ys ps B0 w6 (o9 L i) (xH f i v) W := by
 refine ⟨fun q hq hL => ?_, h.hb, h.sz, ?_, ?_, ?_, ?_, ?_, ?_⟩
 ·
  by_cases e : q.1 = i
  ·
   rw [e, JE]; exact hp q hq e
  rw [wF e]; rw [zw e] at hL; exact h.Ca q hq hL
 ·
  rw [zw h0, zw h6, zw h9, wF h0, wF h9]; exact h.a0
 ·
  rw [zw h6, zw h10, wF h6]; exact h.a6
 ·
  rw [zw h9, zw h10, wF h9]; exact h.a9
 ·
  rw [zw h10, wF h10]; exact h.Ls
 ·
  rw [zw h6, zw h0]; exact h.d6
 rw [zw h10, zw h6, zw h9]; exact h.d10
theorem oB.H_ (h : oB T m xs ys ps B0 w6 L f W) (h6 : L 6 = false ∨ L 9 = false) : L 10 = false := by
 cases e : L 10 with
 | false => rfl
 | true => have := h.d10 e; rcases h6 with h6 | h6 <;> simp [h6] at this
theorem oB.no6 (h : oB T m xs ys ps B0 w6 L f W) (h0 : L 0 = false) : L 6 = false := by
 cases e : L 6 with
 | false => rfl
 | true => have := h.d6 e; rw [h0] at this; cases this
theorem oB.zero (h : oB T m xs ys ps B0 w6 L f W) (h0 : L 0 = false) (hp : ∀ q ∈ ps, q.1 ≠ 0) : oB T m xs ys ps B0 w6 (o9 L 0) (xH f 0 (.slice (some ⟨W.heap.size, 0, none⟩) 0 0)) (W.alloc (.cells #[] T)) := by
 have hA := (aj W.heap.size W).alloc (ai _) (.cells #[] T);have n6 := h.no6 h0;have n10 := h.H_ (.inl n6);refine ⟨fun q hq hL => ?_, h.hb.alloc h.sz _, ak h.sz hA.size, fun _ _ => ⟨W.heap.size, JE .., dr (size := 14) W #[] 0 h.sz (by decide) rfl, by simp, fun h9 e => ?_⟩, ?_, ?_, ?_, ?_, ?_⟩
 ·
  rw [wF (hp q hq)]; rw [zw (hp q hq)] at hL; exact h.Ca q hq hL
 ·
  rw [zw (by decide)] at h9;rw [wF (by decide)] at e;obtain ⟨k, e9, _, hk, _⟩ := h.a9 h9 n10;rw [e9] at e;injection e with e;injection e with e;injection e with e;omega
 ·
  rw [zw (by decide), n6]; intro e; cases e
 ·
  rw [zw (by decide), zw (by decide), wF (by decide)];intro e1 e2;obtain ⟨k, e9, h1, hk, hr⟩ := h.a9 e1 e2;exact ⟨k, e9, h1, cS hk hA.size, hr.below hA⟩
 ·
  rw [zw (by decide), n10]; intro e; cases e
 ·
  rw [zw (by decide), n6]; intro e; cases e
 rw [zw (by decide), n10]; intro e; cases e
theorem oB.two (h : oB T m xs ys ps B0 w6 L f W) (h9 : L 9 = false) (hy : ys.length = 28) (hp : ∀ q ∈ ps, q.1 ≠ 9) : oB T m xs ys ps B0 w6 (o9 L 9) (xH f 9 (.slice (some ⟨W.heap.size, 0, none⟩) 2 2)) (W.alloc (.cells ys.toArray T)) := by
 have hA := (aj W.heap.size W).alloc (ai _) (.cells ys.toArray T);have n10 := h.H_ (.inr h9);refine ⟨fun q hq hL => ?_, h.hb.alloc h.sz _, ak h.sz hA.size, ?_, ?_, fun _ _ => ⟨W.heap.size, JE .., h.sz, by simp, Rd.new W 14 ys T 2 (by rw [hy]) (by decide)⟩, ?_, ?_, ?_⟩
 ·
  rw [wF (hp q hq)]; rw [zw (hp q hq)] at hL; exact h.Ca q hq hL
 ·
  rw [zw (i := 9) (j := 0) (by decide), zw (i := 9) (j := 6) (by decide), wF (i := 9) (j := 0) (by decide), JE];intro e0 e6;obtain ⟨b, e1, ho, hb, _⟩ := h.a0 e0 e6;refine ⟨b, e1, zH ho hA, cS hb hA.size, fun _ e => ?_⟩;injection e with e;injection e with e;injection e with e;omega
 ·
  rw [zw (i := 9) (j := 6) (by decide), zw (i := 9) (j := 10) (by decide), wF (i := 9) (j := 6) (by decide)];intro e6 rI;obtain ⟨a, c, e1, ho⟩ := h.a6 e6 rI;exact ⟨a, c, e1, zH ho hA⟩
 ·
  rw [zw (by decide), n10]; intro e; cases e
 ·
  rw [zw (by decide), zw (by decide)]; exact h.d6
 rw [zw (by decide), n10]; intro e; cases e
theorem oB.RH (h : oB T m xs ys ps B0 w6 L f W) (h0 : L 0 = true) (h6 : L 6 = false) (hp : ∀ q ∈ ps, q.1 ≠ 6) : ∃ b, f 0 = .slice (some ⟨b, 0, none⟩) 0 0 ∧ W.ownsRow B0 T 14 (.slice (some ⟨b, 0, none⟩) 0 0) 0 [] ∧
  ∀ v W', W'.ownsRow B0 T 14 v m xs → W.grownBy W' (Value.slice (some ⟨b, 0, none⟩) 0 0).ownBlock → oB T m xs ys ps B0 w6 (o9 L 6) (xH f 6 v) W' := by
 have n10 := h.H_ (.inl h6);obtain ⟨b, e0, ho, hb, hne⟩ := h.a0 h0 h6;refine ⟨b, e0, ho, fun v W' hown hg => ?_⟩;obtain ⟨a, c, ev, _⟩ := zO hown;have hW : Below B0 W W' := zM (aj B0 W) ho h.sz hg;refine ⟨fun q hq hL => ?_, h.hb.trans hW, ak h.sz hW.size, ?_, ?_, ?_, ?_, ?_, ?_⟩
 ·
  rw [wF (hp q hq)]; rw [zw (hp q hq)] at hL; exact h.Ca q hq hL
 ·
  rw [RF]; intro _ e; cases e
 ·
  rw [JE]; intro _ _; exact ⟨a, c, ev, ev ▸ hown⟩
 ·
  rw [zw (i := 6) (j := 9) (by decide), zw (i := 6) (j := 10) (by decide), wF (i := 6) (j := 9) (by decide)];intro e9 rI;obtain ⟨k, e1, h1, hk, hr⟩ := h.a9 e9 rI;refine ⟨k, e1, h1, cS hk hW.size, hr.grown hg fun x hx e => ?_⟩;injection hx with hx;subst hx;have e2 : some k = some b := e;injection e2 with e2;exact hne e9 (by rw [e1, e2])
 ·
  rw [zw (by decide), n10]; intro e; cases e
 ·
  intro _; rw [zw (i := 6) (j := 0) (by decide)]; exact h0
 rw [zw (by decide), n10]; intro e; cases e
theorem oB.RI (h : oB T m xs ys ps B0 w6 L f W) (h6 : L 6 = true) (h9 : L 9 = true) (h10 : L 10 = false) (hp : ∀ q ∈ ps, q.1 ≠ 10) : ∃ a c k, f 6 = .slice a m c ∧ W.ownsRow B0 T 14 (.slice a m c) m xs ∧ f 9 = .slice (some ⟨k, 0, none⟩) 2 2 ∧ Rd W 14 (.slice (some ⟨k, 0, none⟩) 2 2) 2 ys ∧
  ∀ v W', W'.ownsRow B0 T 14 v (m + 2) (xs ++ ys) → W.grownBy W' (Value.slice a m c).ownBlock → oB T m xs ys ps B0 w6 (o9 L 10) (xH f 10 v) W' := by
 obtain ⟨a, c, e6, ho⟩ := h.a6 h6 h10;obtain ⟨k, e9, _, _, hr⟩ := h.a9 h9 h10;refine ⟨a, c, k, e6, ho, e9, hr, fun v W' hown hg => ?_⟩;obtain ⟨a', c', ev, _⟩ := zO hown;have hW : Below B0 W W' := zM (aj B0 W) ho h.sz hg;refine ⟨fun q hq hL => ?_, h.hb.trans hW, ak h.sz hW.size, ?_, ?_, ?_, ?_, ?_, ?_⟩
 ·
  rw [wF (hp q hq)]; rw [zw (hp q hq)] at hL; exact h.Ca q hq hL
 ·
  rw [zw (i := 10) (j := 6) (by decide), h6]; intro _ e; cases e
 ·
  rw [RF]; intro _ e; cases e
 ·
  rw [RF]; intro _ e; cases e
 ·
  rw [JE]; intro _; exact ⟨a', c', ev, ev ▸ hown⟩
 ·
  rw [zw (i := 10) (j := 6) (by decide), zw (i := 10) (j := 0) (by decide)]; exact h.d6
 rw [zw (i := 10) (j := 6) (by decide), zw (i := 10) (j := 9) (by decide)]; intro _; exact ⟨h6, h9⟩
end
end Go.Proofs.YtcgfilmmokmdjaaGreat
namespace Go.Proofs.YtcgfilmmokmdjaaGreat
open Go.RowKit
def Lt (o : Nat) : List Value → List (Nat × Value)
 | [] => []
 | v :: r => (o, v) :: Lt (o + 1) r
def JF (xs : List Value) (o : Nat) : List Value → List Value
 | [] => xs
 | v :: r => JF (xs.set o v) (o + 1) r
theorem XW : ∀ (vs m a b : List Value), m.length = vs.length → JF (a ++ (m ++ b)) a.length vs = a ++ (vs ++ b)
 | [], m, a, b, h => by
  obtain rfl := List.length_eq_zero_iff.1 h
  rfl
 | v :: r, [], a, b, h => by cases h
 | v :: r, x :: m, a, b, h => by
  show JF ((a ++ (x :: m ++ b)).set a.length v) (a.length + 1) r = _
  have e : (a ++ (x :: m ++ b)).set a.length v = (a ++ [v]) ++ (m ++ b) := by simp
  have := XW r m (a ++ [v]) b (by simpa using h);rw [e];rw [aA] at this
  simpa using this
theorem XX {α : Type} (sz : Nat) (f : α → List Value) (hf : ∀ x, (f x).length = sz) (es : List α) (k : Nat) (hk : k < es.length) (y : α) : JF (es.flatMap f) (k * sz) (f y) = (es.set k y).flatMap f := by
 have e0 : es = es.take k ++ es[k] :: es.drop (k + 1) := by
  rw [← cR hk, bJ]
 have e1 : es.flatMap f = (es.take k).flatMap f ++ (f es[k] ++ (es.drop (k + 1)).flatMap f) := by
  have h1 : es.flatMap f = (es.take k ++ es[k] :: es.drop (k + 1)).flatMap f := by rw [← e0]
  rw [h1, b_, cO]
 have e2 : ((es.take k).flatMap f).length = k * sz := by
  rw [yS sz f _ (fun x _ => hf x), ay, bH (by omega)]
 rw [e1, ← e2, XW _ _ _ _ (by rw [hf, hf]), dS, ag hk];simp
theorem XY {B g n cap sz : Nat} {T : TypeId} : ∀ (vs : List Value) (o : Nat) (xs : List Value) (W : World), W.ownsRow B T sz (.slice (some ⟨g, 0, none⟩) n cap) n xs →
  (pts W g (Lt o vs)).ownsRow B T sz (.slice (some ⟨g, 0, none⟩) n cap) n (JF xs o vs) ∧ W.grownBy (pts W g (Lt o vs)) (some g)
 | [], _, _, W, h => ⟨h, rfl, rfl, rfl, ai _, fun _ _ _ => rfl⟩
 | v :: r, o, xs, W, h => by
  have h1 := h.stored o v;have h2 := XY r (o + 1) _ _ h1.1;exact ⟨h2.1, zp h1.2 h2.2⟩
abbrev o_ (o : Nat) (n r md z : Int) (s : Sl) (l g : Int) : List (Nat × Value) := [(o, .int .i64 n), (o + 1, .int .i64 r), (o + 2, .int .i64 md), (o + 3, .int .i64 z), (o + 4, .slice (s.a 0) (s.n 0) (s.c 0)), (o + 5, .slice (s.a 1) (s.n 1) (s.c 1)), (o + 6, .slice (s.a 2) (s.n 2) (s.c 2)), (o + 7, .slice (s.a 3) (s.n 3) (s.c 3)), (o + 8, .slice (s.a 4) (s.n 4) (s.c 4)), (o + 9, .slice (s.a 5) (s.n 5) (s.c 5)), (o + 10, .slice (s.a 6) (s.n 6) (s.c 6)), (o + 11, .slice (s.a 7) (s.n 7) (s.c 7)), (o + 12, .int .i64 l), (o + 13, .int .i64 g)]
theorem zKN (o : Nat) (x : GP) : Lt o (gU x) = o_ o x.1.num x.1.rev x.1.mode x.1.size x.2 x.1.m.live x.1.m.dW := rfl
theorem RJ {W : World} {B g n cap : Nat} {T : TypeId} {L : List GP} (h : W.ownsRow B T 14 (.slice (some ⟨g, 0, none⟩) n cap) n (L.flatMap gU)) (k : Nat) (hk : k < L.length) (y : GP) :
  (pts W g (o_ (k * 14) y.1.num y.1.rev y.1.mode y.1.size y.2 y.1.m.live y.1.m.dW)).ownsRow B T 14 (.slice (some ⟨g, 0, none⟩) n cap) n ((L.set k y).flatMap gU) ∧
  W.grownBy (pts W g (o_ (k * 14) y.1.num y.1.rev y.1.mode y.1.size y.2 y.1.m.live y.1.m.dW)) (some g) := by
 have h1 := XY (gU y) (k * 14) _ W h;rw [XX 14 gU qz L k hk y, zKN] at h1;exact h1
theorem uJ {w : World} {B : Nat} {e : TypeId} {sz n cap : Nat} {a : Option Addr} {xs : List Value} (h : w.ownsRow B e sz (.slice a n cap) n xs) (hn : 0 < n) : ∃ g, a = some ⟨g, 0, none⟩ ∧ B ≤ g ∧ g < w.heap.size := by
 rcases h.2 with ⟨e, h0⟩ | ⟨g, _, cur, e, hb, hg, _⟩
 ·
  omega
 injection e with e _ _;exact ⟨g, e, hb, (Array.getElem?_eq_some_iff.1 hg).1⟩
theorem wO {w : World} {B : Nat} {e : TypeId} {sz n cap g : Nat} {xs : List Value} (h : w.ownsRow B e sz (.slice (some ⟨g, 0, none⟩) n cap) n xs) (i : Nat) : w.frozen? ⟨g, i, none⟩ = false := by
 rcases h.2 with ⟨e, _⟩ | ⟨g', c2, cur, h', hb, hg, _⟩
 ·
  cases e
 injection h' with h' _ _;injection h' with h';injection h' with h';subst h';unfold World.frozen?;rw [hg];simp
theorem N8 {w : World} {B n cap g : Nat} {T : TypeId} {L : List GP} (h : w.ownsRow B T 14 (.slice (some ⟨g, 0, none⟩) n cap) n (L.flatMap gU)) (hn : n = L.length) {k : Nat} (hk : k < n) : nw w g (k * 14) (pat L k) := by
 subst hn;have hS : iy 14 gU w _ L := O4 (fun x _ => qz x) (by decide) h;obtain ⟨_, _, e, _, _, _, hc⟩ := hS.shape (by decide) H4;injection e with e1 e2 e3;obtain ⟨b, off, e4, hc⟩ := hc (by omega);rw [← e1] at e4;injection e4 with e4;injection e4 with e5 e6;subst e5 e6;have c := hc k hk;simp only [aJ] at c;refine ⟨?_, c 1 _ rfl, c 2 _ rfl, c 3 _ rfl, c 4 _ rfl, c 5 _ rfl, c 6 _ rfl, c 7 _ rfl, c 8 _ rfl, c 9 _ rfl, c 10 _ rfl, c 11 _ rfl, c 12 _ rfl, c 13 _ rfl⟩;have := c 0 _ rfl; rwa [bn] at this
theorem eA.nh {W W' : World} {b g : Nat} {n r md z : Int} {s : Sl} {l q : Int} (h : eA W b n r md z s l q) (hg : W.grownBy W' (some g)) (hne : b ≠ g) : eA W' b n r md z s l q := by
 have k : ∀ i u, W.cell? ⟨b, i, none⟩ = some u → W'.cell? ⟨b, i, none⟩ = some u := fun i u hu => hg.cell hu (fun e => hne (by injection e))
 refine ⟨k _ _ h.n0, k _ _ h.n1, k _ _ h.n2, k _ _ h.n3, fun j hj => k _ _ (h.c j hj), k _ _ h.cl, k _ _ h.cg, fun i => ?_⟩;have e := hg.block b h.lt (fun e => hne (by injection e));rw [← h.f i]; unfold World.frozen?; rw [e]
theorem eT.nh {W W' : World} {b g : Nat} {i l : Int} {r : Bool} {a : Option Addr} {n c : Nat} (h : eT W b i l r a n c) (hg : W.grownBy W' (some g)) (hne : b ≠ g) : eT W' b i l r a n c := by
 have k : ∀ i u, W.cell? ⟨b, i, none⟩ = some u → W'.cell? ⟨b, i, none⟩ = some u := fun i u hu => hg.cell hu (fun e => hne (by injection e))
 refine ⟨k _ _ h.c0, k _ _ h.c1, k _ _ h.c2, k _ _ h.c3, fun i => ?_⟩;have e := hg.block b h.lt (fun e => hne (by injection e));rw [← h.f i]; unfold World.frozen?; rw [e]
def iu (w0 : World) (p : eL × Int) (e : Ending) (w' : World) : Prop := (∃ a n c L, e = .returned (.tuple #[zZ p.1.id p.1.lim p.1.ro a n c, .int .i64 p.2]) ∧ fq w' (.slice a n c) L ∧ dZ L = p.1.dU) ∧ Below w0.heap.size w0 w'
theorem fq.nil (w : World) : fq w (.slice none 0 0) [] := ⟨iy.nil 14 gU w, fun p hp => by cases hp⟩
theorem iu.no {w0 w : World} {c : Int} (h : Below w0.heap.size w0 w) : iu w0 (xP, c) (.returned (.tuple #[zZ 0 0 false Option.none 0 0, .int .i64 c])) w := ⟨⟨Option.none, 0, 0, [], rfl, fq.nil _, rfl⟩, h⟩
theorem wm {L : List GP} {k : Nat} (h : eV k (dZ L)) (hk : k ≤ 10000) : ∀ p ∈ L, ∀ j, j < 8 → (p.1.m.st j).length ≤ 10000 := fun p hp j hj => ak (h p.1 (cZ hp) j hj) hk
theorem zH5 (L : List GP) (k : Nat) : dZ (L.take k) = (dZ L).take k := List.map_take ..
theorem XZ (L M : List GP) : dZ (L ++ M) = dZ L ++ dZ M := bV ..
theorem X0 {L : List GP} {k : Nat} (hk : k < L.length) (y : GP) (j : Nat) : pat (L.set k y) j = if j = k then y else pat L j := by
 unfold pat;rw [ax, dH]
 by_cases e : k = j
 ·
  subst e; simp [hk]
 rw [ah e, ah (fun e' => e e'.symm), ax]
theorem uz {w : World} {B n : Nat} {v : Value} {T : TypeId} {L : List GP} (h : w.ownsRow B T 14 v n (L.flatMap gU)) (hn : n = L.length) (hm : ∀ p ∈ L, fw w p.2 p.1.m.st) : fq w v L := by
 subst hn;exact ⟨O4 (fun x _ => qz x) (by decide) h, hm⟩
def tT (L : List GP) (y : GP) : List GP := L.map fun x => if x.1.num = y.1.num then y else x
theorem zJ3 (L : List GP) (y : GP) : dZ (tT L y) = uV (dZ L) y.1 := by
 unfold tT uV dZ;rw [List.map_map, List.map_map];refine List.map_congr_left fun x _ => ?_
 simp only [Function.comp_apply]
 split <;> rfl
theorem X2 {L : List GP} {y p : GP} (h : p ∈ tT L y) : p ∈ L ∨ p = y := by
 obtain ⟨x, hx, e⟩ := List.mem_map.1 h
 by_cases c : x.1.num = y.1.num
 ·
  rw [ag c] at e; exact .inr e.symm
 rw [ah c] at e; exact .inl (e ▸ hx)
theorem tN (L : List GP) (y : GP) : (tT L y).length = L.length := aI ..
def vZ (L : List GP) (y : GP) (k : Nat) : List GP := tT (L.take k) y ++ L.drop k
theorem zGy (L : List GP) (y : GP) : vZ L y 0 = L := rfl
theorem zJM (L : List GP) (y : GP) (k : Nat) (hk : k = L.length) : vZ L y k = tT L y := by
 subst hk;unfold vZ;rw [aR (ai _), bQ (ai _), bW]
theorem X3 (L : List GP) (y : GP) (k : Nat) : (vZ L y k).length = L.length := by
 unfold vZ;rw [aA, tN, ay, aK]; omega
theorem X4 {L : List GP} {k : Nat} (hk : k < L.length) (y : GP) : pat (vZ L y k) k = pat L k := by
 unfold pat vZ;rw [ax, dD (by rw [tN, ay]; omega), tN, ay, cM, ax]
 congr 2; omega
theorem X5 {L : List GP} {k : Nat} (hk : k < L.length) (y : GP) : vZ L y (k + 1) = (vZ L y k).set k (if (pat L k).1.num = y.1.num then y else pat L k) := by
 have e0 : L.drop k = pat L k :: L.drop (k + 1) := by
  rw [cR hk];unfold pat;rw [ax, aB hk]; rfl
 have e1 : L.take (k + 1) = L.take k ++ [pat L k] := by
  rw [cV, aB hk];unfold pat;rw [ax, aB hk]; rfl
 unfold vZ;have hl : (tT (L.take k) y).length = k := by rw [tN, ay]; omega
 rw [e0, e1, List.set_append_right _ _ (by omega), hl, Nat.sub_self];unfold tT;rw [bV, bp]
 rfl
theorem zHd {L : List GP} {k : Nat} (hk : k < L.length) (y : GP) (h : (pat L k).1.num ≠ y.1.num) : vZ L y (k + 1) = vZ L y k := by
 rw [X5 hk, ah h];apply List.ext_getElem?;intro i;rw [dH]
 by_cases e : k = i
 ·
  subst e;have hk2 : k < (vZ L y k).length := by rw [X3]; exact hk
  have h1 := X4 hk y;have h2 : pat (vZ L y k) k = (vZ L y k)[k] := by
   unfold pat;rw [ax, aB hk2]; rfl
  simp only [hk2, if_true, aB hk2];rw [← h2, h1]
 rw [ah e]
def qx (L : List GP) (num : Int) (k : Nat) : Bool := (L.take k).any fun x => decide (x.1.num = num)
theorem zG8 {L : List GP} {k : Nat} (hk : k < L.length) (num : Int) : qx L num (k + 1) = (qx L num k || decide ((pat L k).1.num = num)) := by
 unfold qx pat;rw [cV, aB hk, List.any_append, ax, aB hk];simp
theorem X6 (L : List GP) (num : Int) (k : Nat) (hk : k = L.length) : qx L num k = (dZ L).any fun x => decide (x.num = num) := by
 subst hk;unfold qx dZ;rw [aR (ai _), List.any_map]
 rfl
theorem Lu : xj Tryz.prog 29 113 14 240 := by
 obtain ⟨i, hi, hz, hs, hb⟩ := cn (P := Tryz.prog) (e := 113) (z := za 0 0 0 0 Sl.nil 0 0) (size := 14) (bytes := 240) (by kernel_rfl);exact ⟨Tryz.underlying29, by decide, i, _, hi, hz, hs, hb, rfl⟩
theorem k7 (x : GP) : ∀ u ∈ gU x, u.oneCell' = true := by
 intro u hu;simp only [gU, cB, cC, or_false] at hu;rcases hu with h | h | h | h | h | h | h | h | h | h | h | h | h | h <;> rw [h] <;> rfl
theorem RK (L : List GP) : ∀ u ∈ L.flatMap gU, u.oneCell' = true := fun u hu => by
 obtain ⟨x, _, h⟩ := List.mem_flatMap.1 hu;exact k7 x u h
theorem ua (w : World) (i l : Int) (r : Bool) (a : Option Addr) (n c : Nat) (t : TypeId) : ∃ W, (w.alloc (.cells (zK i l r a n c) t)).alloc (.cells (zK 0 0 false none 0 0) t) = W ∧ eT W w.heap.size i l r a n c ∧ eT W (w.heap.size + 1) 0 0 false none 0 0 ∧ Below w.heap.size w W := by
 refine ⟨_, rfl, (eT.new w i l r a n c t).below (zN _ 0 0 false none 0 0 t), ?_, zA (zN w i l r a n c t) (zN _ 0 0 false none 0 0 t)⟩;have := eT.new (w.alloc (.cells (zK i l r a n c) t)) 0 0 false none 0 0 t
 rwa [cH] at this
theorem eT.eu {W : World} {b d : Nat} {i l : Int} {r : Bool} {a : Option Addr} {n c : Nat} (h : eT W b i l r a n c) (hp : b ≠ d) (vs : List (Nat × Value)) : eT (pts W d vs) b i l r a n c :=
 ⟨(zt (p := ⟨b, 0, none⟩) hp vs W).trans h.c0, (zt (p := ⟨b, 1, none⟩) hp vs W).trans h.c1, (zt (p := ⟨b, 2, none⟩) hp vs W).trans h.c2, (zt (p := ⟨b, 3, none⟩) hp vs W).trans h.c3, fun i => (xT _ vs W).trans (h.f i)⟩
theorem eT.Cb {W : World} {b : Nat} {i l : Int} {r : Bool} {a : Option Addr} {n c : Nat} (h : eT W b i l r a n c) (a' : Option Addr) (n' c' : Nat) : eT (W.setCell ⟨b, 3, none⟩ (.slice a' n' c')) b i l r a' n' c' := by
 have a3 := h.c3;have ne : ∀ i, i ≠ 3 → ∀ u, W.cell? ⟨b, i, none⟩ = some u → (W.setCell ⟨b, 3, none⟩ (.slice a' n' c')).cell? ⟨b, i, none⟩ = some u := fun i hi u hu => (cA (h := fun e => hi (by injection e with _ e _; exact e.symm)) ..).trans hu
 exact ⟨ne 0 (by decide) _ h.c0, ne 1 (by decide) _ h.c1, ne 2 (by decide) _ h.c2, by simp [go_sem, a3], fun i => by rw [← h.f i]; simp⟩
theorem zKF (i l : Int) (r : Bool) (a : Option Addr) (n c : Nat) (L : List GP) (w : World) (h : fq w (.slice a n c) L) (hs : ∀ p ∈ L, ∀ j, j < 8 → (p.1.m.st j).length ≤ 10000) (hv : zg ⟨i, l, r, dZ L⟩ = false) :
  Calls Tryz.prog 45 #[zZ i l r a n c] w (iu w (xO ⟨i, l, r, dZ L⟩)) := by
 have gu := zh (fun W (hb : Below w.heap.size w W) => xR i l r a n c L W (h.below hb) hs);have HC := zh (show xO ⟨i, l, r, dZ L⟩ = (xP, 1) by unfold xO; rw [hv]; rfl);rw [hv] at gu;clear h hs hv
 go_enter Tryz.func45, Tryz.ntmps45
 go_upto_region 1 with fail;change Code.wp _ _ _ _ ((w.alloc (.cells (zK i l r a n c) 31)).alloc (.cells (zK 0 0 false none 0 0) 31));obtain ⟨W, hW, fc, hbr, fB⟩ := ua w i l r a n c 31;rw [hW];have HX := zh fc;have HR := zh hbr;have HB := zh fB;clear hW fc hbr fB;obtain ⟨k0, k1, k2, k3⟩ := HX.out.q;go_wp2_with fail;refine (gu.out _ HB.out).mono ?_;rintro e w1 ⟨rfl, hb⟩;replace HX := zh (HX.out.below hb);replace HR := zh (HR.out.below hb);replace HB := zh (zA HB.out hb);clear hb;clear k0 k1 k2 k3;obtain ⟨z0, z1, z2, z3⟩ := HR.out.q;have zf := HR.out.f;go_wp2_with fail;change bodyPost _ _ _ _ _ (pts w1 (w.heap.size + 1) (zJ 0 0 false none 0 0));have hby := HR.out.all 0 0 false none 0 0;have ek := zh (zD (B := w.heap.size) (b := (w.heap.size + 1)) (by omega) (zJ 0 0 false none 0 0) HB.out);generalize pts w1 (w.heap.size + 1) (zJ 0 0 false none 0 0) = V at *
 exact aw (v := .tuple #[zZ 0 0 false none 0 0, .int .i64 1]) (by simp [results, Tryz.results45, go_sem, hby.c0, hby.c1, hby.c2, hby.c3]) rfl (by rw [HC.out]; exact iu.no ek.out)
theorem zHG (i l : Int) (r : Bool) (a : Option Addr) (n c : Nat) (L : List GP) (w : World) (h : fq w (.slice a n c) L) (hs : ∀ p ∈ L, ∀ j, j < 8 → (p.1.m.st j).length ≤ 10000) (hv : zg ⟨i, l, r, dZ L⟩ = true) (mZ : ¬ (zS ⟨i, l, r, dZ L⟩).num < 8) :
  Calls Tryz.prog 45 #[zZ i l r a n c] w (iu w (xO ⟨i, l, r, dZ L⟩)) := by
 have gu := zh (fun W (hb : Below w.heap.size w W) => xR i l r a n c L W (h.below hb) hs);have Cc := zh (fun W (hb : Below w.heap.size w W) => XV i l r a n c L W (h.below hb) hs);have HC := zh (show xO ⟨i, l, r, dZ L⟩ = (xP, 9) by unfold xO; rw [ag hv, ah mZ]);rw [hv] at gu;rw [show xe ⟨i, l, r, dZ L⟩ = false by unfold xe; rw [hv]; simpa using mZ] at Cc;clear h hs hv mZ
 go_enter Tryz.func45, Tryz.ntmps45
 go_upto_region 1 with fail;change Code.wp _ _ _ _ ((w.alloc (.cells (zK i l r a n c) 31)).alloc (.cells (zK 0 0 false none 0 0) 31));obtain ⟨W, hW, fc, hbr, fB⟩ := ua w i l r a n c 31;rw [hW];have HX := zh fc;have HR := zh hbr;have HB := zh fB;clear hW fc hbr fB;obtain ⟨k0, k1, k2, k3⟩ := HX.out.q;go_wp2_with fail;refine (gu.out _ HB.out).mono ?_;rintro e w1 ⟨rfl, hb⟩;replace HX := zh (HX.out.below hb);replace HR := zh (HR.out.below hb);replace HB := zh (zA HB.out hb);clear hb;clear k0 k1 k2 k3;obtain ⟨k0, k1, k2, k3⟩ := HX.out.q;go_wp2_with fail;refine (Cc.out _ HB.out).mono ?_;rintro e w2 ⟨rfl, hb⟩;replace HX := zh (HX.out.below hb);replace HR := zh (HR.out.below hb);replace HB := zh (zA HB.out hb);clear hb;clear k0 k1 k2 k3;obtain ⟨z0, z1, z2, z3⟩ := HR.out.q;have zf := HR.out.f;go_wp2_with fail;change bodyPost _ _ _ _ _ (pts w2 (w.heap.size + 1) (zJ 0 0 false none 0 0))
 have hby := HR.out.all 0 0 false none 0 0;have ek := zh (zD (B := w.heap.size) (b := (w.heap.size + 1)) (by omega) (zJ 0 0 false none 0 0) HB.out);generalize pts w2 (w.heap.size + 1) (zJ 0 0 false none 0 0) = V at *;exact aw (v := .tuple #[zZ 0 0 false none 0 0, .int .i64 9]) (by simp [results, Tryz.results45, go_sem, hby.c0, hby.c1, hby.c2, hby.c3]) rfl (by rw [HC.out]; exact iu.no ek.out)
theorem zJx (i l : Int) (r : Bool) (a : Option Addr) (n c : Nat) (L : List GP) (w : World) (h : fq w (.slice a n c) L) (hs : ∀ p ∈ L, ∀ j, j < 8 → (p.1.m.st j).length ≤ 10000) (hv : zg ⟨i, l, r, dZ L⟩ = true) (mZ : (zS ⟨i, l, r, dZ L⟩).num < 8) :
  Calls Tryz.prog 45 #[zZ i l r a n c] w (iu w (xO ⟨i, l, r, dZ L⟩)) := by
 have gu := zh (fun W (hb : Below w.heap.size w W) => xR i l r a n c L W (h.below hb) hs);have Cc := zh (fun W (hb : Below w.heap.size w W) => XV i l r a n c L W (h.below hb) hs);have hV := (zR _).1 hv;obtain ⟨EZ, Ia, _⟩ := hV.sR;have fR : L.length = n := by
  obtain ⟨_, _, e, _⟩ := h.shape;injection e with _ e _; exact e.symm
 have hl : (dZ L).length = n := by rw [zj, fR]
 have hn : 1 ≤ n ∧ n ≤ 8 := by have := hV.len; simp only [hl] at this; exact this
 obtain ⟨j, rfl⟩ : ∃ j, n = j + 1 := ⟨n - 1, by omega⟩
 have hC : xO ⟨i, l, r, dZ L⟩ = (⟨i, l, r, (dZ L).take j ++ [{ zS ⟨i, l, r, dZ L⟩ with mode := 2 }, fresh ((zS ⟨i, l, r, dZ L⟩).num + 1)]⟩, 0) := by
  unfold xO; rw [ag hv, ag mZ]
  show ((⟨i, l, r, (dZ L).take ((dZ L).length - 1) ++ _⟩ : eL), (0 : Int)) = _
  rw [hl]; rfl
 rw [hv] at gu;rw [show xe ⟨i, l, r, dZ L⟩ = true by unfold xe; rw [hv]; simpa using mZ] at Cc;have hmem := yd (l := L) (i := j) (by omega);have jt := EZ.num;have l9 := zh (h.m _ hmem);have F2 := zh (fun W (hb : Below w.heap.size w W) => zEe (pat L j).1 (pat L j).2 W ((h.m _ hmem).below hb) (hs _ hmem));rw [vP fR] at hC EZ Ia mZ jt;rw [show xK (pat L j).1 1 = (0, { (pat L j).1 with mode := 1 + 1 }) from by unfold xK; rw [ag ((yD _).2 EZ), ag Ia]] at F2;have Lv := zh (fun p (hp : p ∈ L.take j) => h.m p (bN hp))
 have nM := zh (show Rd w 14 (.slice a j c) j ((L.take j).flatMap gU) from by
  have h0 := iy.take h.r j (by omega)
  have hlt : (L.take j).length = j := by rw [ay]; omega
  have h1 := h0.2
  rwa [hlt] at h1)
 have HC := zh hC;have Qa := zh (show (dZ (L.take j)) = (dZ L).take j from zH5 L j);have Hlt := zh (show (L.take j).length = j by rw [ay]; omega);have hcap : j ≤ c := by
  obtain ⟨_, _, e, h1, _⟩ := h.shape;injection e with _ _ e;rw [e]; omega
 have jO := zh h;clear hV fR hl hv hs hmem hC EZ h;obtain ⟨b, off, rfl, hg⟩ := jO.out.at (show j < j + 1 by omega);have HG := zh hg;clear hg jO;generalize pat L j = p at *;generalize dZ L = GL at *;generalize L.take j = LT at *;obtain ⟨⟨num, rev, md, sz, ⟨f, LV, GA⟩⟩, s⟩ := p;dsimp only at *;subst Ia;have C8 := yq (P := Tryz.prog) Lu (a := some ⟨b, off, none⟩) (n := j + 1) (cap := c) (fun x hx => ⟨b, off, by injection hx with hx; exact hx.symm⟩) j hcap
 go_enter Tryz.func45, Tryz.ntmps45
 go_upto_region 1 with fail;change Code.wp _ _ _ _ ((w.alloc (.cells (zK i l r (some ⟨b, off, none⟩) (j + 1) c) 31)).alloc (.cells (zK 0 0 false none 0 0) 31));obtain ⟨W, hW, fc, hbr, fB⟩ := ua w i l r (some ⟨b, off, none⟩) (j + 1) c 31;rw [hW];have HX := zh fc;have HR := zh hbr;have HB := zh fB;clear hW fc hbr fB;have hB0 : w.heap.size + 2 ≤ W.heap.size := by have := HR.out.lt; omega
 obtain ⟨k0, k1, k2, k3⟩ := HX.out.q;go_wp2_with fail;refine (gu.out _ HB.out).mono ?_;rintro e w1 ⟨rfl, hb⟩;replace HX := zh (HX.out.below hb);replace HR := zh (HR.out.below hb);replace HB := zh (zA HB.out hb);have hB1 := ak hB0 hb.size;clear hb gu;clear k0 k1 k2 k3;obtain ⟨k0, k1, k2, k3⟩ := HX.out.q;go_wp2_with fail;refine (Cc.out _ HB.out).mono ?_;rintro e w2 ⟨rfl, hb⟩;replace HX := zh (HX.out.below hb);replace HR := zh (HR.out.below hb);replace HB := zh (zA HB.out hb);have hB2 := ak hB1 hb.size;clear hb Cc;clear k0 k1 k2 k3;have j3 : IntKind.i64.wrap (j : Int) = (j : Int) := aH _ (by omega);have i2 : (j : Int) < ((j + 1 : Nat) : Int) := by omega
 replace HG := zh (HG.out.below HB.out);have k3 := HX.out.c3;obtain ⟨g0, g1, g2, g3, g4, g5, g6, g7, g8, g9, g10, g11, g12, g13⟩ := HG.out.q
 try dsimp only at g0 g1 g2 g3 g4 g5 g6 g7 g8 g9 g10 g11 g12 g13
 go_wp2_with fail;refine (F2.out _ HB.out).mono ?_;rintro e w3 ⟨⟨t, rfl, hro⟩, hb⟩;dsimp only at hro ⊢;clear g0 g1 g2 g3 g4 g5 g6 g7 g8 g9 g10 g11 g12 g13;clear k3;have FN := ak hB2 hb.size;replace HX := zh (HX.out.below hb);replace HR := zh (HR.out.below hb);replace HB := zh (zA HB.out hb);have E2 := zh hro;clear hro hb F2 HG;go_upto_region 7 with fail;change Code.wp _ _ _ _ (w3.alloc (.cells (zW num rev 2 sz t LV GA) 113));have eH := zQ w3 num rev 2 sz t LV GA 113;have XO := zh (eA.new w3 num rev 2 sz t LV GA 113);replace HX := zh (HX.out.below eH);replace HR := zh (HR.out.below eH);replace HB := zh (zA HB.out eH);replace E2 := zh (E2.out.keep eH);have pM := ak FN eH.size;clear eH;generalize w3.alloc (.cells (zW num rev 2 sz t LV GA) 113) = w4 at *;generalize w3.heap.size = b4 at *;have q0 := XO.out.n0;go_wp2_with fail;refine (Xt (num + 1) (by omega) w4).mono ?_;rintro e w5 ⟨rfl, hb⟩
 clear q0;have N9 := ak pM hb.size;replace HX := zh (HX.out.below hb);replace HR := zh (HR.out.below hb);replace HB := zh (zA HB.out hb);replace E2 := zh (E2.out.keep hb);replace XO := zh (XO.out.below hb);clear hb;go_upto_region 8 with fail;change Code.wp _ _ _ _ (w5.alloc (.cells (zW (num + 1) 0 1 16 Sl.nil 0 0) 113));have eH := zQ w5 (num + 1) 0 1 16 Sl.nil 0 0 113;have XF := zh (eA.new w5 (num + 1) 0 1 16 Sl.nil 0 0 113);replace HX := zh (HX.out.below eH);replace HR := zh (HR.out.below eH);replace HB := zh (zA HB.out eH);replace E2 := zh (E2.out.keep eH);replace XO := zh (XO.out.below eH);have JG := ak N9 eH.size;clear eH;generalize w5.alloc (.cells (zW (num + 1) 0 1 16 Sl.nil 0 0) 113) = w6 at *;generalize w5.heap.size = b6 at *;have RM := zh (nM.out.below HB.out);have jm := zh (RK LT)
 have Lx := zh (show ∀ u ∈ (gU (⟨num, rev, 2, sz, ⟨f, LV, GA⟩⟩, t) ++ gU (fresh (num + 1), Sl.nil)), u.oneCell' = true from fun u hu => by rcases List.mem_append.1 hu with h | h <;> exact k7 _ u h);refine qW 12 (fun L f' W => oB 113 j (LT.flatMap gU) (gU (⟨num, rev, 2, sz, ⟨f, LV, GA⟩⟩, t) ++ gU (fresh (num + 1), Sl.nil)) [(1, .pointer (some ⟨w.heap.size, 3, none⟩)), (2, .slice (some ⟨b, off, none⟩) (j + 1) c), (3, .int .i64 ((j : Int) + 1)), (4, .int .i64 (j : Int)), (5, .slice (some ⟨b, off, none⟩) j c), (7, za num rev 2 sz t LV GA), (8, za (num + 1) 0 1 16 Sl.nil 0 0), (11, .pointer (some ⟨w.heap.size, 3, none⟩))] w6.heap.size w6 L f' W) 50 (by kernel_rfl) (by kernel_rfl) (by rfl) (by kernel_rfl) (fun f => by simp [fA, zX, Act.put]; exact rfl) (fun f => oB.start rfl f) ?_ ?_
 ·
  refine ⟨?_, ?_, ?_, ?_, ?_, ?_, ?_, ?_, ?_, ?_, ?_, ?_, trivial⟩
  ·
   intro L f' w7 h0 hd hI;have jS := zh hI;clear hI hd;dsimp only;go_wp2_with fail;exact ⟨rfl, (fun h => by cases h), fun t ht => by injection ht with ht; subst ht; exact jS.out.zero h0 (by simp)⟩
  ·
   intro L f' w7 h0 hd hI;have jS := zh hI;clear hI hd;dsimp only;go_wp2_with fail;exact ⟨rfl, (fun h => by cases h), fun t ht => by injection ht with ht; subst ht; exact jS.out.pure (v := .pointer (some ⟨w.heap.size, 3, none⟩)) (by decide) (by decide) (by decide) (by decide) (by simp)⟩
  ·
   intro L f' w7 h0 hd hI;have jS := zh hI;have d1 : f' 1 = .pointer (some ⟨w.heap.size, 3, none⟩) := hI.Ca (1, .pointer (some ⟨w.heap.size, 3, none⟩)) (by simp) (hd 1 (by kernel_rfl));have z3 := (HX.out.below hI.hb).c3;clear hI hd;dsimp only;rw [d1];go_wp2_with fail;exact ⟨rfl, (fun h => by cases h), fun t ht => by injection ht with ht; subst ht; exact jS.out.pure (v := .slice (some ⟨b, off, none⟩) (j + 1) c) (by decide) (by decide) (by decide) (by decide) (by simp)⟩
  ·
   intro L f' w7 h0 hd hI;have jS := zh hI;clear hI hd;dsimp only;go_wp2_with fail;exact ⟨rfl, (fun h => by cases h), fun t ht => by injection ht with ht; subst ht; exact jS.out.pure (v := .int .i64 ((j : Int) + 1)) (by decide) (by decide) (by decide) (by decide) (by simp)⟩
  ·
   intro L f' w7 h0 hd hI;have jS := zh hI;have d3 : f' 3 = .int .i64 ((j : Int) + 1) := hI.Ca (3, .int .i64 ((j : Int) + 1)) (by simp) (hd 3 (by kernel_rfl));clear hI hd;dsimp only;rw [d3];go_wp2_with fail;exact ⟨rfl, (fun h => by cases h), fun t ht => by injection ht with ht; subst ht; exact jS.out.pure (v := .int .i64 (j : Int)) (by decide) (by decide) (by decide) (by decide) (by simp)⟩
  ·
   intro L f' w7 h0 hd hI;have jS := zh hI;have d2 : f' 2 = .slice (some ⟨b, off, none⟩) (j + 1) c := hI.Ca (2, .slice (some ⟨b, off, none⟩) (j + 1) c) (by simp) (hd 2 (by kernel_rfl));have d4 : f' 4 = .int .i64 (j : Int) := hI.Ca (4, .int .i64 (j : Int)) (by simp) (hd 4 (by kernel_rfl));clear hI hd;dsimp only;rw [d2];rw [d4];go_wp2_with fail;exact ⟨rfl, (fun h => by cases h), fun t ht => by injection ht with ht; subst ht; exact jS.out.pure (v := .slice (some ⟨b, off, none⟩) j c) (by decide) (by decide) (by decide) (by decide) (by simp)⟩
  ·
   intro L f' w7 h0 hd hI;have jS := zh hI;have d5 : f' 5 = .slice (some ⟨b, off, none⟩) j c := hI.Ca (5, .slice (some ⟨b, off, none⟩) j c) (by simp) (hd 5 (by kernel_rfl));obtain ⟨bz, e0, hown, hk⟩ := hI.RH (hd 0 (by kernel_rfl)) h0 (by simp);have gB := RM.out.below hI.hb;have hsz := hI.sz;have HK := zh hk;clear hI hd hk;dsimp only;rw [d5, e0];refine zd rfl (.tmp 37) (.tmp 42) 29 rfl Lu w6.heap.size rfl hown rfl gB jm.out (by unfold maxLen; omega) (by omega) hsz ?_;intro v' w8 hown' Ib _;rw [aJ, bT] at hown';have HQ := zh (HK.out _ _ hown' Ib);exact ⟨rfl, (fun h => by cases h), fun t ht => by injection ht with ht; subst ht; exact HQ.out⟩
  ·
   intro L f' w7 h0 hd hI;have jS := zh hI;have zo := XO.out.below hI.hb;obtain ⟨g0, g1, g2, g3, g4, g5, g6, g7, g8, g9, g10, g11, g12, g13⟩ := zo.q;clear zo;clear hI hd;dsimp only;go_wp2_with fail;exact ⟨rfl, (fun h => by cases h), fun t ht => by injection ht with ht; subst ht; exact jS.out.pure (v := za num rev 2 sz t LV GA) (by decide) (by decide) (by decide) (by decide) (by simp)⟩
  ·
   intro L f' w7 h0 hd hI;have jS := zh hI;have zo := XF.out.below hI.hb;obtain ⟨g0, g1, g2, g3, g4, g5, g6, g7, g8, g9, g10, g11, g12, g13⟩ := zo.q;clear zo;clear hI hd;dsimp only;go_wp2_with fail;exact ⟨rfl, (fun h => by cases h), fun t ht => by injection ht with ht; subst ht; exact jS.out.pure (v := za (num + 1) 0 1 16 Sl.nil 0 0) (by decide) (by decide) (by decide) (by decide) (by simp)⟩
  ·
   intro L f' w7 h0 hd hI;have jS := zh hI;have d7 : f' 7 = za num rev 2 sz t LV GA := hI.Ca (7, za num rev 2 sz t LV GA) (by simp) (hd 7 (by kernel_rfl));have d8 : f' 8 = za (num + 1) 0 1 16 Sl.nil 0 0 := hI.Ca (8, za (num + 1) 0 1 16 Sl.nil 0 0) (by simp) (hd 8 (by kernel_rfl));clear hI hd;dsimp only;rw [d7, d8];go_wp2_with fail;exact ⟨rfl, (fun h => by cases h), fun t ht => by injection ht with ht; subst ht; exact jS.out.two h0 rfl (by simp)⟩
  ·
   intro L f' w7 h0 hd hI;have jS := zh hI;obtain ⟨ra, rc, kz, e6, hown, e9, gB, hk⟩ := hI.RI (hd 6 (by kernel_rfl)) (hd 9 (by kernel_rfl)) h0 (by simp);have hsz := hI.sz;have HK := zh hk;clear hI hd hk;dsimp only;rw [e6, e9];refine zd rfl (.tmp 43) (.tmp 46) 29 rfl Lu w6.heap.size rfl hown rfl gB Lx.out (by unfold maxLen; omega) (by omega) hsz ?_;intro v' w8 hown' Ib _;have HQ := zh (HK.out _ _ hown' Ib);exact ⟨rfl, (fun h => by cases h), fun t ht => by injection ht with ht; subst ht; exact HQ.out⟩
  intro L f' w7 h0 hd hI;have jS := zh hI;clear hI hd;dsimp only;go_wp2_with fail;exact ⟨rfl, (fun h => by cases h), fun t ht => by injection ht with ht; subst ht; exact jS.out.pure (v := .pointer (some ⟨w.heap.size, 3, none⟩)) (by decide) (by decide) (by decide) (by decide) (by simp)⟩
 intro L f' w7 hA hI;obtain ⟨ra, rc, rI, hown⟩ := hI.Ls (hA 10 (by decide));have d11 : f' 11 = .pointer (some ⟨w.heap.size, 3, none⟩) := hI.Ca (11, .pointer (some ⟨w.heap.size, 3, none⟩)) (by simp) (hA 11 (by decide));have N_ := zh hI.hb;have hsz := hI.sz;have pd := zh hown;clear hI hA hown
 try dsimp only
 rw [rI, d11];replace HX := zh (HX.out.below N_.out);replace HR := zh (HR.out.below N_.out);replace HB := zh (zA HB.out N_.out);replace E2 := zh (E2.out.keep N_.out);have z3 := HX.out.c3;have zf := HX.out.f;go_upto_region 9 with fail;clear z3 zf;have n_ := zh (show eT (pts w7 w.heap.size [(3, .slice ra (j + 2) rc)]) w.heap.size i l r ra (j + 2) rc from HX.out.Cb ra (j + 2) rc);have F3 := zh (HR.out.eu (d := w.heap.size) (by omega) [(3, .slice ra (j + 2) rc)]);have lZ := zh (zD (B := w.heap.size) (b := w.heap.size) (ai _) [(3, .slice ra (j + 2) rc)] HB.out);have mD := zh (xw (b := w.heap.size) (by omega) pd.out [(3, .slice ra (j + 2) rc)]);have HM8 := zh (show ∀ p ∈ LT, fw (pts w7 w.heap.size [(3, .slice ra (j + 2) rc)]) p.2 p.1.m.st from fun p hp => (Lv.out p hp).below lZ.out);have HT8 := zh (E2.out.pts (b := w.heap.size) (by omega) [(3, .slice ra (j + 2) rc)])
 change Code.wp _ _ _ _ (pts w7 w.heap.size [(3, .slice ra (j + 2) rc)]);generalize pts w7 w.heap.size [(3, .slice ra (j + 2) rc)] = w8 at *;obtain ⟨k0, k1, k2, k3⟩ := n_.out.q;obtain ⟨z0, z1, z2, z3⟩ := F3.out.q;have zf := F3.out.f;go_wp2_with fail;change bodyPost _ _ _ _ _ (pts w8 (w.heap.size + 1) (zJ i l r ra (j + 2) rc))
 have H5 := zh (show fq (pts w8 (w.heap.size + 1) (zJ i l r ra (j + 2) rc)) (.slice ra (j + 2) rc) (LT ++ [(⟨num, rev, 2, sz, ⟨f, LV, GA⟩⟩, t), (fresh (num + 1), Sl.nil)]) from uz (B := w6.heap.size) (T := 113) (by
  rw [b_, show [((⟨num, rev, 2, sz, ⟨f, LV, GA⟩⟩ : Gn), t), (fresh (num + 1), Sl.nil)].flatMap gU = (gU (⟨num, rev, 2, sz, ⟨f, LV, GA⟩⟩, t) ++ gU (fresh (num + 1), Sl.nil)) from rfl]
  exact xw (b := w.heap.size + 1) (by omega) mD.out _) (by rw [aA, Hlt.out]; rfl) (fun p hp => by
  rcases List.mem_append.1 hp with hp | hp
  ·
   exact (Lv.out p hp).below (zD (B := w.heap.size) (b := w.heap.size + 1) (by omega) (zJ i l r ra (j + 2) rc) lZ.out)
  simp only [cB, cC, or_false] at hp
  rcases hp with rfl | rfl
  ·
   exact (HT8.out.pts (b := w.heap.size + 1) (by omega) (zJ i l r ra (j + 2) rc)).rd l9.out (zD (B := w.heap.size) (b := w.heap.size + 1) (by omega) (zJ i l r ra (j + 2) rc) lZ.out)
  exact kA _))
 have hby := F3.out.all i l r ra (j + 2) rc;have ek := zh (zD (B := w.heap.size) (b := (w.heap.size + 1)) (by omega) (zJ i l r ra (j + 2) rc) lZ.out);generalize pts w8 (w.heap.size + 1) (zJ i l r ra (j + 2) rc) = V at *;exact aw (v := .tuple #[zZ i l r ra (j + 2) rc, .int .i64 0]) (by simp [results, Tryz.results45, go_sem, hby.c0, hby.c1, hby.c2, hby.c3]) rfl (by rw [HC.out]; exact ⟨⟨ra, j + 2, rc, LT ++ [(⟨num, rev, 2, sz, ⟨f, LV, GA⟩⟩, t), (fresh (num + 1), Sl.nil)], rfl, H5.out, by rw [XZ, Qa.out]; rfl⟩, ek.out⟩)
theorem zEl (i l : Int) (r : Bool) (a : Option Addr) (n c : Nat) (L : List GP) (w : World) (h : fq w (.slice a n c) L) (hs : ∀ p ∈ L, ∀ j, j < 8 → (p.1.m.st j).length ≤ 10000) : Calls Tryz.prog 45 #[zZ i l r a n c] w (iu w (xO ⟨i, l, r, dZ L⟩)) := by
 cases hv : zg ⟨i, l, r, dZ L⟩
 ·
  exact zKF i l r a n c L w h hs hv
 by_cases mZ : (zS ⟨i, l, r, dZ L⟩).num < 8
 ·
  exact zJx i l r a n c L w h hs hv mZ
 exact zHG i l r a n c L w h hs hv mZ
end Go.Proofs.YtcgfilmmokmdjaaGreat
