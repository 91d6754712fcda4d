/- Several texts in one, each over the last: What holds in a region `x, e := f(..)` that draws its order: the call c, the move and the two extracts behind it, the box (c + 4) and its store (c + 5). DiskDurable: the walk. Printed by mkDhb.py. -/
import Derived.Test.YtkabcpmnbjllcaaDoorDru
import Derived.Test.YtkabcpmnbjllcaaDoorKH
import Derived.Test.YtkabcpmnbjllcaaDoorDta
namespace Go.Proofs.YtkabcpmnbjllcaaDoor
open Go.RowKit

/-- A disk. -/
def dvS (c lf : Int) (fl : List Fil) : Sta := ⟨fun v w => ∃ fv', v = diskVal c lf fv' ∧ RdF w fv' fl, fun _ _ _ hb ⟨fv', e, h⟩ => ⟨fv', e, h.below hb⟩⟩
theorem RefDk.rd {w w' : World} {xs : List FX} {x : Dk} {e : Ending} (h : RefDk w xs x e w') (hx : PartsX w xs) : ∃ fv, e = .returned (diskVal x.cap x.left fv) ∧ RdF w' fv x.files ∧ Below w.heap.size w w' := by
  obtain ⟨⟨fv, xs', e1, e2, e3⟩, e4⟩ := h
  exact ⟨fv, e1, ⟨feX xs', by rw [feX_fst, e2], e3.rd (KeepB.refl _ _) (hx.below e4)⟩, e4⟩
/-- An operation cut. -/
def cutS (oc : Opr) : Sta := ⟨fun v w => ∃ da dn dc ka kn kc, v = opVal oc (.slice da dn dc) (.slice ka kn kc) ∧ RdB w (.slice da dn dc) oc.data ∧ RdK w (.slice ka kn kc) oc.keep, fun _ _ _ hb ⟨da, dn, dc, ka, kn, kc, e, h1, h2⟩ => ⟨da, dn, dc, ka, kn, kc, e, RdL.below h1 hb, h2.below hb⟩⟩
theorem StD.rdf {B : Nat} {W : World} {c l : Int} {fv : Value} {d : Dk} (h : StD B W (diskVal c l fv) d) : RdF W fv d.files := by
  obtain ⟨fv', e, hf⟩ := h.rd
  injection e with e
  have e2 := congrArg (fun a : Array Value => a.toList) e
  simp at e2
  rw [e2.2.2]
  exact hf
theorem RowB.rdF {w W : World} {xs : List FX} {B : Nat} {fv : Value} {l : List Fil} (h : RowB w [] W B fv xs) (hf : filX xs = l) : RdF W fv l := ⟨feX xs, by rw [feX_fst, hf], rdFE_x h.reads h.parts'⟩
structure MbS (c : Nat) (T : TypeId) (B0 : Nat) (w6 : World) (S : List Sta) (RS : Dk × Int) (G : World → World → Value → Prop) (L : Nat → Bool) (f : Nat → Value) (W : World) : Prop where
  hb : Below B0 w6 W
  sz : B0 ≤ W.heap.size
  pre : ∀ j, j < c → L j = true → L (c + 5) = false → (stA S j).p (f j) W
  res : L c = true → ∃ Wc w' fv', f c = .tuple #[diskVal RS.1.cap RS.1.left fv', .int .i64 RS.2] ∧ (∃ a n k, fv' = .slice a n k) ∧ G Wc w' fv' ∧ B0 ≤ Wc.heap.size ∧ KeepB Wc.heap.size w' W ∧
    (L (c + 4) = true → ∀ xb, f (c + 4) = .pointer (some ⟨xb, 0, none⟩) → xb < Wc.heap.size ∨ w'.heap.size ≤ xb) ∧ (L (c + 1) = true → f (c + 1) = f c) ∧ (L (c + 2) = true → f (c + 2) = diskVal RS.1.cap RS.1.left fv') ∧ (L (c + 3) = true → f (c + 3) = .int .i64 RS.2) ∧
    (L (c + 5) = true → ∃ xb, f (c + 4) = .pointer (some ⟨xb, 0, none⟩) ∧ BoxD W xb RS.1.cap RS.1.left fv')
  d5 : L (c + 5) = true → (∀ j, j < c → L j = true) ∧ L c = true ∧ L (c + 4) = true
  d6 : L c = false → L (c + 1) = false ∧ L (c + 2) = false ∧ L (c + 3) = false
  box : L (c + 4) = true → ∃ xb, f (c + 4) = .pointer (some ⟨xb, 0, none⟩) ∧ B0 ≤ xb ∧ (L (c + 5) = false → BoxD W xb 0 0 (.slice none 0 0))
section
variable {c : Nat} {T : TypeId} {B0 : Nat} {w6 W W' : World} {S : List Sta} {RS : Dk × Int} {G : World → World → Value → Prop} {L : Nat → Bool} {f : Nat → Value}
theorem MbS.start (hs : B0 = w6.heap.size) (f : Nat → Value) : MbS c T B0 w6 S RS G (fun _ => false) f w6.drew := by
  subst hs
  exact ⟨below_drew (Below.refl _ _), Nat.le_refl _, (fun _ _ h => by cases h), (fun h => by cases h), (fun h => by cases h), (fun _ => ⟨rfl, rfl, rfl⟩), fun h => by cases h⟩
theorem MbS.n5 (h : MbS c T B0 w6 S RS G L f W) {i : Nat} (hi : i < c) (h0 : L i = false) : L (c + 5) = false := by
  cases e : L (c + 5) with
  | false => rfl
  | true => have := (h.d5 e).1 i hi; rw [h0] at this; cases this
/-- What an operation before the call has left. -/
theorem MbS.had (h : MbS c T B0 w6 S RS G L f W) {i j : Nat} (hi : i < c) (h0 : L i = false) (hj : j < c) (hd : L j = true) : (stA S j).p (f j) W := h.pre j hj hd (h.n5 hi h0)
/-- An operation before the call. -/
theorem MbS.step (h : MbS c T B0 w6 S RS G L f W) {i : Nat} (hi : i < c) (h0 : L i = false) (hW : Below W.heap.size W W') {v : Value} (hv : (stA S i).p v W') : MbS c T B0 w6 S RS G (onL L i) (updF f i v) W' := by
  have hL : ∀ j, c ≤ j → onL L i j = L j := fun j hj => onR_ne (by omega)
  have hf : ∀ j, c ≤ j → updF f i v j = f j := fun j hj => upR_ne (by omega)
  have n5 := h.n5 hi h0
  refine ⟨h.hb.trans (hW.mono h.sz), Nat.le_trans h.sz hW.size, fun j hj hd h5 => ?_, ?_, ?_, ?_, ?_⟩
  · by_cases e : j = i
    · subst e; rw [upR_eq]; exact hv
    · rw [upR_ne e]; rw [onR_ne e] at hd; exact (stA S j).m _ _ _ hW (h.pre j hj hd n5)
  · rw [hL c (by omega), hL (c + 1) (by omega), hL (c + 2) (by omega), hL (c + 3) (by omega), hL (c + 4) (by omega), hL (c + 5) (by omega), hf c (by omega), hf (c + 1) (by omega), hf (c + 2) (by omega), hf (c + 3) (by omega), hf (c + 4) (by omega)]
    intro e
    obtain ⟨Wc, w', fv', e1, e2, e3, e4, e5, e6, e7, e8, e9, e10⟩ := h.res e
    exact ⟨Wc, w', fv', e1, e2, e3, e4, e5.trans (KeepB.below hW), e6, e7, e8, e9, fun e => (e10 e).imp fun xb hx => ⟨hx.1, hx.2.below hW⟩⟩
  · rw [hL (c + 5) (by omega), n5]; intro e; cases e
  · rw [hL c (by omega), hL (c + 1) (by omega), hL (c + 2) (by omega), hL (c + 3) (by omega)]; exact h.d6
  · rw [hL (c + 4) (by omega), hL (c + 5) (by omega), hf (c + 4) (by omega)]
    intro e
    obtain ⟨xb, e1, e2, e3⟩ := h.box e
    exact ⟨xb, e1, e2, fun e => (e3 e).below hW⟩
theorem MbS.call (h : MbS c T B0 w6 S RS G L f W) (hW : Below W.heap.size W W') (h6 : L c = false) {fv' : Value} (hsl : ∃ a n k, fv' = .slice a n k) (hg : G W W' fv') : MbS c T B0 w6 S RS G (onL L c) (updF f c (.tuple #[diskVal RS.1.cap RS.1.left fv', .int .i64 RS.2])) W' := by
  obtain ⟨n7, n8, n9⟩ := h.d6 h6
  have n11 : L (c + 5) = false := by
    cases e : L (c + 5) with
    | false => rfl
    | true => have := (h.d5 e).2.1; rw [h6] at this; cases this
  refine ⟨h.hb.trans (hW.mono h.sz), Nat.le_trans h.sz hW.size, fun j hj hd h5 => ?_, fun _ => ⟨W, W', fv', upR_eq .., hsl, hg, h.sz, KeepB.refl _ _, ?_, ?_, ?_, ?_, ?_⟩, ?_, ?_, ?_⟩
  · rw [upR_ne (by omega)]; rw [onR_ne (by omega)] at hd; exact (stA S j).m _ _ _ hW (h.pre j hj hd n11)
  · rw [onR_ne (by omega), upR_ne (by omega)]
    intro e xb hx
    obtain ⟨xb', e1, _, e3⟩ := h.box e
    rw [e1] at hx
    obtain rfl := ptr_inj hx
    exact .inl (e3 n11).lt
  · rw [onR_ne (by omega), n7]; intro e; cases e
  · rw [onR_ne (by omega), n8]; intro e; cases e
  · rw [onR_ne (by omega), n9]; intro e; cases e
  · rw [onR_ne (by omega), n11]; intro e; cases e
  · rw [onR_ne (by omega), n11]; intro e; cases e
  · rw [onR_eq]; intro e; cases e
  · rw [onR_ne (by omega), onR_ne (by omega), upR_ne (by omega)]
    intro e
    obtain ⟨xb, e1, e2, e3⟩ := h.box e
    exact ⟨xb, e1, e2, fun e => (e3 e).below hW⟩
theorem MbS.mv (h : MbS c T B0 w6 S RS G L f W) (h6 : L c = true) : MbS c T B0 w6 S RS G (onL L (c + 1)) (updF f (c + 1) (f c)) W := by
  refine ⟨h.hb, h.sz, fun j hj hd h5 => ?_, ?_, ?_, ?_, ?_⟩
  · rw [upR_ne (by omega)]; rw [onR_ne (by omega)] at hd h5; exact h.pre j hj hd h5
  · rw [onR_ne (i := c + 1) (j := c) (by omega), onR_ne (i := c + 1) (j := c + 4) (by omega), onR_eq, onR_ne (i := c + 1) (j := c + 2) (by omega), onR_ne (i := c + 1) (j := c + 3) (by omega), onR_ne (i := c + 1) (j := c + 5) (by omega), upR_ne (i := c + 1) (j := c) (by omega), upR_ne (i := c + 1) (j := c + 4) (by omega), upR_eq, upR_ne (i := c + 1) (j := c + 2) (by omega), upR_ne (i := c + 1) (j := c + 3) (by omega)]
    intro e
    obtain ⟨Wc, w', fv', e1, e2, e3, e4, e5, e6, _, e8⟩ := h.res e
    exact ⟨Wc, w', fv', e1, e2, e3, e4, e5, e6, fun _ => rfl, e8⟩
  · rw [onR_ne (i := c + 1) (j := c + 5) (by omega), onR_ne (i := c + 1) (j := c) (by omega), onR_ne (i := c + 1) (j := c + 4) (by omega)]
    intro e
    exact ⟨fun j hj => (onR_ne (by omega)).trans ((h.d5 e).1 j hj), (h.d5 e).2⟩
  · rw [onR_ne (by omega)]; intro e; rw [h6] at e; cases e
  · rw [onR_ne (by omega), onR_ne (by omega), upR_ne (by omega)]; exact h.box
theorem MbS.ex (h : MbS c T B0 w6 S RS G L f W) (h6 : L c = true) (h7 : L (c + 1) = true) : ∃ fv', f (c + 1) = .tuple #[diskVal RS.1.cap RS.1.left fv', .int .i64 RS.2] ∧ (∃ a n k, fv' = .slice a n k) ∧
    MbS c T B0 w6 S RS G (onL L (c + 2)) (updF f (c + 2) (diskVal RS.1.cap RS.1.left fv')) W ∧ MbS c T B0 w6 S RS G (onL L (c + 3)) (updF f (c + 3) (.int .i64 RS.2)) W := by
  obtain ⟨Wc, w', fv', e1, e2, e3, e4, e5, e6, e7, e8, e9, e10⟩ := h.res h6
  refine ⟨fv', (e7 h7).trans e1, e2, ?_, ?_⟩
  · refine ⟨h.hb, h.sz, fun j hj hd h5 => ?_, ?_, ?_, ?_, ?_⟩
    · rw [upR_ne (by omega)]; rw [onR_ne (by omega)] at hd h5; exact h.pre j hj hd h5
    · rw [onR_ne (i := c + 2) (j := c) (by omega), onR_ne (i := c + 2) (j := c + 4) (by omega), onR_ne (i := c + 2) (j := c + 1) (by omega), onR_eq, onR_ne (i := c + 2) (j := c + 3) (by omega), onR_ne (i := c + 2) (j := c + 5) (by omega), upR_ne (i := c + 2) (j := c) (by omega), upR_ne (i := c + 2) (j := c + 4) (by omega), upR_ne (i := c + 2) (j := c + 1) (by omega), upR_eq, upR_ne (i := c + 2) (j := c + 3) (by omega)]
      intro _
      exact ⟨Wc, w', fv', e1, e2, e3, e4, e5, e6, e7, fun _ => rfl, e9, e10⟩
    · rw [onR_ne (i := c + 2) (j := c + 5) (by omega), onR_ne (i := c + 2) (j := c) (by omega), onR_ne (i := c + 2) (j := c + 4) (by omega)]
      intro e
      exact ⟨fun j hj => (onR_ne (by omega)).trans ((h.d5 e).1 j hj), (h.d5 e).2⟩
    · rw [onR_ne (by omega)]; intro e; rw [h6] at e; cases e
    · rw [onR_ne (by omega), onR_ne (by omega), upR_ne (by omega)]; exact h.box
  · refine ⟨h.hb, h.sz, fun j hj hd h5 => ?_, ?_, ?_, ?_, ?_⟩
    · rw [upR_ne (by omega)]; rw [onR_ne (by omega)] at hd h5; exact h.pre j hj hd h5
    · rw [onR_ne (i := c + 3) (j := c) (by omega), onR_ne (i := c + 3) (j := c + 4) (by omega), onR_ne (i := c + 3) (j := c + 1) (by omega), onR_ne (i := c + 3) (j := c + 2) (by omega), onR_eq, onR_ne (i := c + 3) (j := c + 5) (by omega), upR_ne (i := c + 3) (j := c) (by omega), upR_ne (i := c + 3) (j := c + 4) (by omega), upR_ne (i := c + 3) (j := c + 1) (by omega), upR_ne (i := c + 3) (j := c + 2) (by omega), upR_eq]
      intro _
      exact ⟨Wc, w', fv', e1, e2, e3, e4, e5, e6, e7, e8, fun _ => rfl, e10⟩
    · rw [onR_ne (i := c + 3) (j := c + 5) (by omega), onR_ne (i := c + 3) (j := c) (by omega), onR_ne (i := c + 3) (j := c + 4) (by omega)]
      intro e
      exact ⟨fun j hj => (onR_ne (by omega)).trans ((h.d5 e).1 j hj), (h.d5 e).2⟩
    · rw [onR_ne (by omega)]; intro e; rw [h6] at e; cases e
    · rw [onR_ne (by omega), onR_ne (by omega), upR_ne (by omega)]; exact h.box
theorem MbS.boxed (h : MbS c T B0 w6 S RS G L f W) (h10 : L (c + 4) = false) : MbS c T B0 w6 S RS G (onL L (c + 4)) (updF f (c + 4) (.pointer (some ⟨W.heap.size, 0, none⟩))) (W.alloc (.cells #[.int .i64 0, .int .i64 0, .slice none 0 0] T)) := by
  have hA := (Below.refl W.heap.size W).alloc (Nat.le_refl _) (.cells #[.int .i64 0, .int .i64 0, .slice none 0 0] T)
  have n11 : L (c + 5) = false := by
    cases e : L (c + 5) with
    | false => rfl
    | true => have := (h.d5 e).2.2; rw [h10] at this; cases this
  refine ⟨h.hb.alloc h.sz _, Nat.le_trans h.sz hA.size, fun j hj hd h5 => ?_, ?_, ?_, ?_, fun _ => ⟨W.heap.size, upR_eq .., h.sz, fun _ => BoxD.new W 0 0 (.slice none 0 0) T⟩⟩
  · rw [upR_ne (by omega)]; rw [onR_ne (by omega)] at hd; exact (stA S j).m _ _ _ hA (h.pre j hj hd n11)
  · rw [onR_ne (i := c + 4) (j := c) (by omega), onR_eq, onR_ne (i := c + 4) (j := c + 1) (by omega), onR_ne (i := c + 4) (j := c + 2) (by omega), onR_ne (i := c + 4) (j := c + 3) (by omega), onR_ne (i := c + 4) (j := c + 5) (by omega), upR_ne (i := c + 4) (j := c) (by omega), upR_eq, upR_ne (i := c + 4) (j := c + 1) (by omega), upR_ne (i := c + 4) (j := c + 2) (by omega), upR_ne (i := c + 4) (j := c + 3) (by omega)]
    intro e
    obtain ⟨Wc, w', fv', e1, e2, e3, e4, e5, _, e7, e8, e9, _⟩ := h.res e
    refine ⟨Wc, w', fv', e1, e2, e3, e4, e5.trans (KeepB.below hA), fun _ xb hx => ?_, e7, e8, e9, fun e => by rw [n11] at e; cases e⟩
    obtain rfl := ptr_inj hx
    exact .inr e5.size
  · rw [onR_ne (i := c + 4) (j := c + 5) (by omega), n11]; intro e; cases e
  · rw [onR_ne (by omega), onR_ne (by omega), onR_ne (by omega), onR_ne (by omega)]; exact h.d6
theorem MbS.store (h : MbS c T B0 w6 S RS G L f W) (hdn : ∀ j, j < c → L j = true) (h8 : L (c + 2) = true) (h10 : L (c + 4) = true) (h11 : L (c + 5) = false) : ∃ xb fv', f (c + 4) = .pointer (some ⟨xb, 0, none⟩) ∧ f (c + 2) = diskVal RS.1.cap RS.1.left fv' ∧ (∃ a n k, fv' = .slice a n k) ∧ BoxD W xb 0 0 (.slice none 0 0) ∧
    ∀ v, MbS c T B0 w6 S RS G (onL L (c + 5)) (updF f (c + 5) v) (((W.setCell ⟨xb, 0, none⟩ (.int .i64 RS.1.cap)).setCell ⟨xb, 1, none⟩ (.int .i64 RS.1.left)).setCell ⟨xb, 2, none⟩ fv') := by
  have h6 : L c = true := by
    cases e : L c with
    | true => rfl
    | false => have := (h.d6 e).2.1; rw [h8] at this; cases this
  obtain ⟨Wc, w', fv', e1, e2, e3, e4, e5, e6, e7, e8, e9, _⟩ := h.res h6
  obtain ⟨xb, g1, g2, g3⟩ := h.box h10
  have g3 := g3 h11
  refine ⟨xb, fv', g1, e8 h8, e2, g3, fun v => ⟨((h.hb.setCell (p := ⟨xb, 0, none⟩) g2 _).setCell (p := ⟨xb, 1, none⟩) g2 _).setCell (p := ⟨xb, 2, none⟩) g2 _, by have := h.sz; simpa using this, fun j hj hd h5 => ?_, ?_, ?_, ?_, ?_⟩⟩
  · rw [onR_eq] at h5; cases h5
  · rw [onR_ne (i := c + 5) (j := c) (by omega), onR_ne (i := c + 5) (j := c + 4) (by omega), onR_ne (i := c + 5) (j := c + 1) (by omega), onR_ne (i := c + 5) (j := c + 2) (by omega), onR_ne (i := c + 5) (j := c + 3) (by omega), onR_eq, upR_ne (i := c + 5) (j := c) (by omega), upR_ne (i := c + 5) (j := c + 4) (by omega), upR_ne (i := c + 5) (j := c + 1) (by omega), upR_ne (i := c + 5) (j := c + 2) (by omega), upR_ne (i := c + 5) (j := c + 3) (by omega)]
    intro _
    refine ⟨Wc, w', fv', e1, e2, e3, e4, ?_, e6, e7, e8, e9, fun _ => ⟨xb, g1, g3.all RS.1.cap RS.1.left fv'⟩⟩
    rcases e6 h10 xb g1 with hx | hx
    · exact e5.trans (KeepB.all3 hx _ _ _)
    · exact e5.new3 hx _ _ _
  · intro _
    exact ⟨fun j hj => (onR_ne (by omega)).trans (hdn j hj), (onR_ne (by omega)).trans h6, (onR_ne (by omega)).trans h10⟩
  · rw [onR_ne (i := c + 5) (j := c) (by omega), h6]; intro e; cases e
  · rw [onR_ne (i := c + 5) (j := c + 4) (by omega), onR_eq, upR_ne (i := c + 5) (j := c + 4) (by omega)]
    intro _
    exact ⟨xb, g1, g2, fun e => by cases e⟩
theorem MbS.ends (h : MbS c T B0 w6 S RS G L f W) (h6 : L c = true) (h9 : L (c + 3) = true) (h11 : L (c + 5) = true) : ∃ Wc w' fv' xb, f (c + 3) = .int .i64 RS.2 ∧ f (c + 4) = .pointer (some ⟨xb, 0, none⟩) ∧ BoxD W xb RS.1.cap RS.1.left fv' ∧ (∃ a n k, fv' = .slice a n k) ∧ G Wc w' fv' ∧ B0 ≤ Wc.heap.size ∧ KeepB Wc.heap.size w' W := by
  obtain ⟨Wc, w', fv', e1, e2, e3, e4, e5, e6, e7, e8, e9, e10⟩ := h.res h6
  obtain ⟨xb, g1, g2⟩ := e10 h11
  exact ⟨Wc, w', fv', xb, e9 h9, g1, g2, e2, e3, e4, e5⟩
theorem MbS.hadC (h : MbS c T B0 w6 S RS G L f W) (h6 : L c = false) {j : Nat} (hj : j < c) (hd : L j = true) : (stA S j).p (f j) W := h.pre j hj hd (by
  cases e : L (c + 5) with
  | false => rfl
  | true => have := (h.d5 e).2.1; rw [h6] at this; cases this)
end
end Go.Proofs.YtkabcpmnbjllcaaDoor

namespace Go.Proofs.YtkabcpmnbjllcaaDoor
open Go.RowKit

/-- What holds in a region `x := f(..)` that draws its order: the call c, the box behind it. -/
structure MdS (c : Nat) (T : TypeId) (B0 : Nat) (w6 : World) (S : List Sta) (D : Dk) (G : World → World → Value → Prop) (L : Nat → Bool) (f : Nat → Value) (W : World) : Prop where
  hb : Below B0 w6 W
  sz : B0 ≤ W.heap.size
  pre : ∀ j, j < c → L j = true → (stA S j).p (f j) W
  res : L c = true → ∃ Wc w' fv', f c = diskVal D.cap D.left fv' ∧ (∃ a n k, fv' = .slice a n k) ∧ G Wc w' fv' ∧ B0 ≤ Wc.heap.size ∧ KeepB Wc.heap.size w' W ∧
    (L (c + 1) = true → ∀ xb, f (c + 1) = .pointer (some ⟨xb, 0, none⟩) → xb < Wc.heap.size ∨ w'.heap.size ≤ xb)
  box : L (c + 1) = true → ∃ xb, f (c + 1) = .pointer (some ⟨xb, 0, none⟩) ∧ B0 ≤ xb ∧ BoxD W xb 0 0 (.slice none 0 0)
section
variable {c : Nat} {T : TypeId} {B0 : Nat} {w6 W W' : World} {S : List Sta} {D : Dk} {G : World → World → Value → Prop} {L : Nat → Bool} {f : Nat → Value}
theorem MdS.start (hs : B0 = w6.heap.size) (f : Nat → Value) : MdS c T B0 w6 S D G (fun _ => false) f w6.drew := by
  subst hs
  exact ⟨below_drew (Below.refl _ _), Nat.le_refl _, (fun _ _ h => by cases h), (fun h => by cases h), fun h => by cases h⟩
theorem MdS.step (h : MdS c T B0 w6 S D G L f W) {i : Nat} (hi : i < c) (hW : Below W.heap.size W W') {v : Value} (hv : (stA S i).p v W') : MdS c T B0 w6 S D G (onL L i) (updF f i v) W' := by
  refine ⟨h.hb.trans (hW.mono h.sz), Nat.le_trans h.sz hW.size, fun j hj hd => ?_, ?_, ?_⟩
  · by_cases e : j = i
    · subst e; rw [upR_eq]; exact hv
    · rw [upR_ne e]; rw [onR_ne e] at hd; exact (stA S j).m _ _ _ hW (h.pre j hj hd)
  · rw [onR_ne (i := i) (j := c) (by omega), onR_ne (i := i) (j := c + 1) (by omega), upR_ne (i := i) (j := c) (by omega), upR_ne (i := i) (j := c + 1) (by omega)]
    intro e
    obtain ⟨Wc, w', fv', e1, e2, e3, e4, e5, e6⟩ := h.res e
    exact ⟨Wc, w', fv', e1, e2, e3, e4, e5.trans (KeepB.below hW), e6⟩
  · rw [onR_ne (i := i) (j := c + 1) (by omega), upR_ne (i := i) (j := c + 1) (by omega)]
    intro e
    obtain ⟨xb, e1, e2, e3⟩ := h.box e
    exact ⟨xb, e1, e2, e3.below hW⟩
theorem MdS.call (h : MdS c T B0 w6 S D G L f W) (hW : Below W.heap.size W W') {fv' : Value} (hsl : ∃ a n k, fv' = .slice a n k) (hg : G W W' fv') : MdS c T B0 w6 S D G (onL L c) (updF f c (diskVal D.cap D.left fv')) W' := by
  refine ⟨h.hb.trans (hW.mono h.sz), Nat.le_trans h.sz hW.size, fun j hj hd => ?_, fun _ => ⟨W, W', fv', upR_eq .., hsl, hg, h.sz, KeepB.refl _ _, ?_⟩, ?_⟩
  · rw [upR_ne (by omega)]; rw [onR_ne (by omega)] at hd; exact (stA S j).m _ _ _ hW (h.pre j hj hd)
  · rw [onR_ne (i := c) (j := c + 1) (by omega), upR_ne (i := c) (j := c + 1) (by omega)]
    intro e xb hx
    obtain ⟨xb', e1, _, e3⟩ := h.box e
    rw [e1] at hx
    obtain rfl := ptr_inj hx
    exact .inl e3.lt
  · rw [onR_ne (i := c) (j := c + 1) (by omega), upR_ne (i := c) (j := c + 1) (by omega)]
    intro e
    obtain ⟨xb, e1, e2, e3⟩ := h.box e
    exact ⟨xb, e1, e2, e3.below hW⟩
theorem MdS.boxed (h : MdS c T B0 w6 S D G L f W) : MdS c T B0 w6 S D G (onL L (c + 1)) (updF f (c + 1) (.pointer (some ⟨W.heap.size, 0, none⟩))) (W.alloc (.cells #[.int .i64 0, .int .i64 0, .slice none 0 0] T)) := by
  have hA := (Below.refl W.heap.size W).alloc (Nat.le_refl _) (.cells #[.int .i64 0, .int .i64 0, .slice none 0 0] T)
  refine ⟨h.hb.alloc h.sz _, Nat.le_trans h.sz hA.size, fun j hj hd => ?_, ?_, fun _ => ⟨W.heap.size, upR_eq .., h.sz, BoxD.new W 0 0 (.slice none 0 0) T⟩⟩
  · rw [upR_ne (by omega)]; rw [onR_ne (by omega)] at hd; exact (stA S j).m _ _ _ hA (h.pre j hj hd)
  · rw [onR_ne (i := c + 1) (j := c) (by omega), onR_eq, upR_ne (i := c + 1) (j := c) (by omega), upR_eq]
    intro e
    obtain ⟨Wc, w', fv', e1, e2, e3, e4, e5, _⟩ := h.res e
    refine ⟨Wc, w', fv', e1, e2, e3, e4, e5.trans (KeepB.below hA), fun _ xb hx => ?_⟩
    obtain rfl := ptr_inj hx
    exact .inr e5.size
/-- Behind the region: the box takes the disk. -/
theorem MdS.ends (h : MdS c T B0 w6 S D G L f W) (h3 : L c = true) (h4 : L (c + 1) = true) : ∃ Wc w' fv' xb, f c = diskVal D.cap D.left fv' ∧ f (c + 1) = .pointer (some ⟨xb, 0, none⟩) ∧ B0 ≤ xb ∧ BoxD W xb 0 0 (.slice none 0 0) ∧ (∃ a n k, fv' = .slice a n k) ∧ G Wc w' fv' ∧ B0 ≤ Wc.heap.size ∧
    ∀ u0 u1 u2, KeepB Wc.heap.size w' (((W.setCell ⟨xb, 0, none⟩ u0).setCell ⟨xb, 1, none⟩ u1).setCell ⟨xb, 2, none⟩ u2) := by
  obtain ⟨Wc, w', fv', e1, e2, e3, e4, e5, e6⟩ := h.res h3
  obtain ⟨xb, g1, g2, g3⟩ := h.box h4
  refine ⟨Wc, w', fv', xb, e1, g1, g2, g3, e2, e3, e4, fun u0 u1 u2 => ?_⟩
  rcases e6 h4 xb g1 with hx | hx
  · exact e5.trans (KeepB.all3 hx _ _ _)
  · exact e5.new3 hx _ _ _
end
/-- A slice of the program's keeps, of names. -/
def kpR (l : List Kp) : Sta := ⟨fun v w => RdK w v l, fun _ _ _ hb h => h.below hb⟩
def namS (l : List (List UInt8)) : Sta := ⟨fun v w => RdL strV w v l, fun _ _ _ hb h => RdL.below h hb⟩
theorem sync_lite {d : Dk} {k : Nat} (hs : SmallD d k) {s : List UInt8} (h : (syncD d s).2 = 0) (hk : k + 1 ≤ 5000) : LiteD (syncD d s).1 := (syncD_vld h).lite (show SmallD (changeD d ⟨5, s, [], 0, [], []⟩).1 (k + 1) from changeD_small hs _) hk
theorem crash_lite {d : Dk} (hv : VldD d) (hc : I64 d.cap) (ks : List Kp) : LiteD (crashD d ks) := by
  refine (crashD_vld hv ks).lite (k := 0) ?_ (by decide)
  unfold crashD
  rw [if_pos ((validD_iff d).2 hv)]
  exact ⟨hc, by unfold I64; dsimp only; omega, fun f hf => by
    obtain ⟨g, _, rfl⟩ := List.mem_map.1 hf
    exact Nat.zero_le _⟩
theorem RdL.atN {w : World} {a : Option Addr} {n cap : Nat} {l : List (List UInt8)} (h : RdL strV w (.slice a n cap) l) {j : Nat} (hj : j < l.length) : ∃ b off, a = some ⟨b, off, none⟩ ∧ w.cell? ⟨b, off + j, none⟩ = some (.string (strB (l.getD j []))) := by
  obtain ⟨_, _, e, _, _, _, h6⟩ := h.shape []
  injection e with e1 e2 e3
  subst e1 e2 e3
  obtain ⟨b, off, e4, hc⟩ := h6 (by omega)
  exact ⟨b, off, e4, hc j hj⟩
set_option maxRecDepth 100000 in
set_option maxHeartbeats 12800000 in
theorem durable_go (s : List UInt8) (hs : s.length ≤ 9223372036854775807) (lv kv : Value) (l : List (Opr × Value × Value)) (ks : List Kp) (w : World) (hl : RdO w lv l) (hk : RdK w kv ks) :
    Calls Tryd.prog 7 #[lv, .string (strB s), kv] w fun e w' => e = .returned (.bool true) ∧ Below w.heap.size w w' := by
  obtain ⟨la, lc, rfl, _, _⟩ := hl.shape
  obtain ⟨ka, kc, rfl, _⟩ := hk.shape
  have HMd := Lib.hid ((made_any 0 (-1) _ l w hl (by unfold I64; omega) (by unfold I64; omega)).mono fun e w' hh => hh.rd (PartsX.nil w))
  have HP := Lib.hid (made_plain (l.map (·.1)))
  have HVm := Lib.hid (madeD_vld 0 (-1) (l.map (·.1)))
  have HSm := Lib.hid (madeD_small (limit := 0) (left := -1) (by unfold I64; omega) (by unfold I64; omega) (l.map (·.1)))
  clear hl
  generalize madeD 0 (-1) (l.map (·.1)) = md at *
  generalize l.length = ln at *
  have HKc := Lib.hid (fun h => slice_kp hk 10 h (by decide))
  have HK0 := Lib.hid hk
  clear hk
  have hkl : (ks.take 10).length ≤ 10 := by rw [List.length_take]; omega
  have HLi := Lib.hid (HVm.out.lite HSm.out (by decide))
  have HGi := Lib.hid (fun fv W (h : RdF W fv md.files) => given_any md fv W h HLi.out.len (fun f hf => by have := HSm.out.pend f hf; omega))
  have HSy := Lib.hid (fun fv W (h : RdF W fv md.files) => (sync_any md s fv W h HLi.out hs).mono fun _ _ h => h.op)
  have HDu := Lib.hid (fun h ks => durable HP.out (s := s) h ks)
  have HLx := Lib.hid (fun h => sync_lite HSm.out (s := s) h (by decide))
  have HLy := Lib.hid (fun h ks => crash_lite (d := (syncD md s).1) (syncD_vld h) (HLx.out h).cap ks)
  have HVx := Lib.hid (fun (h : (syncD md s).2 = 0) => syncD_vld h)
  have HSz := Lib.hid (fun (d : Dk) fv W (hL : LiteD d) (h : RdF W fv d.files) => size_any d s fv W h hL hs)
  have HRd := Lib.hid (fun (d : Dk) n fv W (hL : LiteD d) (h : RdF W fv d.files) => read_any d s 0 n fv W h hL hs)
  clear HP HVm HSm HLi
  generalize syncD md s = RS at *
  generalize strB s = sv at *
  obtain ⟨mc, ml, mf⟩ := md
  obtain ⟨⟨xc, xl, xf⟩, er⟩ := RS
  dsimp only [diskVal] at *
  go_enter Tryd.func7, Tryd.ntmps7
  go_upto_if 24 with fail
  go_cut [2] (fun v wx => (∃ a n c, v = .slice a n c ∧ Hid (RdK w (.slice a n c) (ks.take 10))) ∧ w = wx)
  case first =>
    by_cases hk10 : 10 < ks.length
    · have hd : decide ((10 : Int) < (ks.length : Int)) = true := by simp; omega
      obtain ⟨kq, hs1, hr1⟩ := HKc.out (by omega)
      change ∀ W kh, (Instr.slice 75 (.slice ka ks.length kc) none (some (.int kh 10)) none).run Tryd.prog W = .ok (.slice kq 10 kc) W at hs1
      have HK := Lib.hid hr1
      clear hr1 HKc HK0 hkl
      generalize ks.take 10 = K at *
      generalize ks.length = kn at *
      go_wp2_with fail
      go_meet
      case rel => exact ⟨⟨_, _, _, rfl, HK⟩, rfl⟩
    · have hd : decide ((10 : Int) < (ks.length : Int)) = false := by simp; omega
      have HKT := Lib.hid (show RdK w (.slice ka ks.length kc) (ks.take 10) by rw [List.take_of_length_le (by omega)]; exact HK0.out)
      clear HKc hkl HK0
      generalize ks.take 10 = K at *
      generalize ks.length = kn at *
      go_wp2_with fail
      go_meet
      case rel => exact ⟨⟨_, _, _, rfl, HKT⟩, rfl⟩
  case rest =>
    obtain ⟨⟨kq, kn, kcc, rfl, HK⟩, hwx⟩ := hcut
    subst hwx
    have HKL := Lib.hid hkl
    clear HKc HK0 hkl
    generalize ks.take 10 = K at *
    go_wp2_with fail
    refine HMd.out.mono ?_
    rintro e w1 ⟨mv, rfl, hr1, hb1⟩
    obtain ⟨ma, mk, rfl, _⟩ := hr1.shape
    have HB1 := Lib.hid hb1
    have HR1 := Lib.hid hr1
    clear hr1 hb1 HMd
    dsimp only [diskVal]
    go_wp2_with fail
    refine (HGi.out _ _ HR1.out).mono ?_
    rintro e w2 ⟨gv, rfl, hr2, hb2⟩
    obtain ⟨ga, gk, rfl, _⟩ := hr2.shape
    have HB2 := Lib.hid (bstep HB1.out hb2)
    have X0 := Lib.hid (BoxR.new (d := ⟨mc, ml, mf⟩) hr2)
    have HB3 := Lib.hid (HB2.out.alloc HB2.out.size (.cells #[.int .i64 mc, .int .i64 ml, .slice ga mf.length gk] 33))
    dsimp only at X0
    clear hr2 hb2 HB1 HB2 HR1 HGi
    generalize mf.length = mn at *
    go_upto_region 4 with fail
    generalize w2.alloc (.cells #[.int .i64 mc, .int .i64 ml, .slice ga mn gk] 33) = w3 at *
    generalize w2.heap.size = b0 at *
    have x0 := X0.out.x.c0
    have x1 := X0.out.x.c1
    have x2 := X0.out.x.c2
    go_wp2_with fail
    refine (HSy.out _ _ X0.out.r).mono ?_
    rintro e w4 ⟨xa, xn, xk, rfl, -, hxf, hb4⟩
    have HB4 := Lib.hid (bstep HB3.out hb4)
    have X1 := Lib.hid (BoxR.new (d := ⟨xc, xl, xf⟩) hxf)
    have HB5 := Lib.hid (HB4.out.alloc HB4.out.size (.cells #[.int .i64 xc, .int .i64 xl, .slice xa xn xk] 33))
    have hb5 := HB4.out.size
    dsimp only at X1
    clear hxf hb4 x0 x1 x2 X0 HB3 HB4 HSy
    go_upto_region 5 with fail
    generalize w4.alloc (.cells #[.int .i64 xc, .int .i64 xl, .slice xa xn xk] 33) = w5 at *
    generalize w4.heap.size = b1 at *
    by_cases hz : er = 0
    · subst hz
      go_upto_region 7 with fail
      have hKb := HK.out.below HB5.out
      have HKp := Lib.hid (fun W (hW : Below w5.heap.size w5 W) => keeps_any _ K W (hKb.below hW) (by have := HKL.out; omega))
      have HCr := Lib.hid (fun kv W (hW : Below w5.heap.size w5 W) (hk : RdK W kv K) => (crash_any ⟨xc, xl, xf⟩ K _ kv W (X1.out.r.below hW) (HLx.out rfl) hk (by have := HKL.out; omega)).mono fun _ _ h => DkR.of h)
      have hLy := HLy.out rfl K
      have HCy := Lib.hid hLy
      obtain ⟨c, hc, e1, e2, e3, e4, e5⟩ := HDu.out rfl K
      have HE := Lib.hid (And.intro e1 (And.intro e2 (And.intro e3 (And.intro e4 e5))))
      clear hKb hLy e1 e2 e3 e4 e5 HLy HDu
      generalize crashD ⟨xc, xl, xf⟩ K = yd at *
      obtain ⟨yc, yl, yf⟩ := yd
      dsimp only [diskVal] at *
      refine wp_region_inv 5 (fun L f W => MdS 3 33 w5.heap.size w5 [eqS (.agg #[.int .i64 xc, .int .i64 xl, .slice xa xn xk]), eqS (.slice kq kn kcc), kpR K] ⟨yc, yl, yf⟩ (fun Wc w' fv' => StD Wc.heap.size w' (diskVal yc yl fv') ⟨yc, yl, yf⟩) L f W) 117 (by kernel_rfl) (by kernel_rfl) (by rfl) (by kernel_rfl) (fun f => by simp [frm, dstOf, Act.put]; exact rfl) (fun f => MdS.start rfl f) ?_ ?_
      · refine ⟨?_, ?_, ?_, ?_, ?_, trivial⟩
        · intro L f w7 h0 hd hI
          have HI1 := Lib.hid hI
          have z0 := (X1.out.below hI.hb).x.c0
          have z1 := (X1.out.below hI.hb).x.c1
          have z2 := (X1.out.below hI.hb).x.c2
          clear hI hd
          dsimp only
          go_wp2_with fail
          exact ⟨rfl, (fun h => by cases h), fun t ht => by injection ht with ht; subst ht; exact HI1.out.step (i := 0) (v := .agg #[.int .i64 xc, .int .i64 xl, .slice xa xn xk]) (by decide) (Below.refl _ _) rfl⟩
        · intro L f w7 h0 hd hI
          have HI1 := Lib.hid hI
          clear hI hd
          dsimp only
          go_wp2_with fail
          exact ⟨rfl, (fun h => by cases h), fun t ht => by injection ht with ht; subst ht; exact HI1.out.step (i := 1) (v := .slice kq kn kcc) (by decide) (Below.refl _ _) rfl⟩
        · intro L f w7 h0 hd hI
          have HI1 := Lib.hid hI
          have d1 : f 1 = .slice kq kn kcc := hI.pre 1 (by decide) (hd 1 (by kernel_rfl))
          have HC7 := Lib.hid (HKp.out w7 hI.hb)
          clear hI hd
          dsimp only
          rw [d1]
          go_wp2_with fail
          refine HC7.out.mono ?_
          rintro e w8 ⟨kv', rfl, hk', hb'⟩
          have HQ := Lib.hid (HI1.out.step (i := 2) (v := kv') (by decide) hb' hk'.rd)
          clear hk' hb'
          go_wp2_with fail
          exact ⟨rfl, (fun h => by cases h), fun t ht => by injection ht with ht; subst ht; exact HQ.out⟩
        · intro L f w7 h0 hd hI
          have HI1 := Lib.hid hI
          have d0 : f 0 = .agg #[.int .i64 xc, .int .i64 xl, .slice xa xn xk] := hI.pre 0 (by decide) (hd 0 (by kernel_rfl))
          have d2 : RdK w7 (f 2) K := hI.pre 2 (by decide) (hd 2 (by kernel_rfl))
          obtain ⟨ka2, kc2, e2, _⟩ := d2.shape
          rw [e2] at d2
          have HC7 := Lib.hid (HCr.out _ w7 hI.hb d2)
          clear hI hd d2
          dsimp only
          rw [d0, e2]
          go_wp2_with fail
          refine HC7.out.mono ?_
          rintro e w8 ⟨va, vn, vc, rfl, hst, -, hb'⟩
          have HQ := Lib.hid (HI1.out.call hb' ⟨_, _, _, rfl⟩ hst)
          clear hst hb'
          go_wp2_with fail
          exact ⟨rfl, (fun h => by cases h), fun t ht => by injection ht with ht; subst ht; exact HQ.out⟩
        · intro L f w7 h0 hd hI
          have HI1 := Lib.hid hI
          clear hI hd
          dsimp only
          go_wp2_with fail
          exact ⟨rfl, (fun h => by cases h), fun t ht => by injection ht with ht; subst ht; exact HI1.out.boxed⟩
      · intro L f w7 hA hI
        obtain ⟨Wc, w', fv', yb, d3, d4, hyb, hbx, ⟨va, vn, vc, rfl⟩, hG, hWc, hkp⟩ := hI.ends (hA 3 (by decide)) (hA 4 (by decide))
        have HB6 := Lib.hid (bstep HB5.out hI.hb)
        have X6 := Lib.hid (X1.out.below hI.hb)
        have y0 := hbx.c0
        have y1 := hbx.c1
        have y2 := hbx.c2
        have yff := hbx.f
        have hx5 := X1.out.x.lt
        have Y7 := Lib.hid (show BoxR _ yb ⟨yc, yl, yf⟩ (.slice va vn vc) from ⟨hbx.all yc yl (.slice va vn vc), (hG.keep (hkp (.int .i64 yc) (.int .i64 yl) (.slice va vn vc)) (Nat.le_refl _)).rdf⟩)
        have X7 := Lib.hid (show BoxD (((w7.setCell ⟨yb, 0, none⟩ (.int .i64 yc)).setCell ⟨yb, 1, none⟩ (.int .i64 yl)).setCell ⟨yb, 2, none⟩ (.slice va vn vc)) b1 xc xl (.slice xa xn xk) from ((X6.out.x.set_ne (p := ⟨yb, 0, none⟩) (by dsimp only; omega) _).set_ne (p := ⟨yb, 1, none⟩) (by dsimp only; omega) _).set_ne (p := ⟨yb, 2, none⟩) (by dsimp only; omega) _)
        have hS7 : Below w5.heap.size w5 (((w7.setCell ⟨yb, 0, none⟩ (.int .i64 yc)).setCell ⟨yb, 1, none⟩ (.int .i64 yl)).setCell ⟨yb, 2, none⟩ (.slice va vn vc)) := hI.hb.all3 (b := yb) hyb _ _ _
        have XR7 := Lib.hid (show RdF (((w7.setCell ⟨yb, 0, none⟩ (.int .i64 yc)).setCell ⟨yb, 1, none⟩ (.int .i64 yl)).setCell ⟨yb, 2, none⟩ (.slice va vn vc)) (.slice xa xn xk) xf from X1.out.r.below hS7)
        have HB7 := Lib.hid (bstep HB5.out hS7)
        rw [d3, d4]
        dsimp only [diskVal]
        clear hI hA d3 d4 hbx hG hWc hkp X6 X1 HB5 HB6 HKp HCr HK hS7 hx5 hyb
        go_upto_region 8 with fail
        clear y0 y1 y2 yff
        generalize (((w7.setCell ⟨yb, 0, none⟩ (.int .i64 yc)).setCell ⟨yb, 1, none⟩ (.int .i64 yl)).setCell ⟨yb, 2, none⟩ (.slice va vn vc)) = w8 at *
        have HE1 := HE.out.1
        have HE2 := HE.out.2.1
        have HE3 := HE.out.2.2.1
        have HE4 := HE.out.2.2.2.1
        have HE5 := HE.out.2.2.2.2
        try dsimp only at HE1 HE2 HE3 HE4 HE5
        have HSX := Lib.hid (show ∀ W, RdF W (.slice xa xn xk) xf → Calls Tryd.prog 29 #[.agg #[.int .i64 xc, .int .i64 xl, .slice xa xn xk], .string sv] W fun e w' => e = .returned (.tuple #[.int .i64 (c.length : Int), .int .i64 0]) ∧ Below W.heap.size W w' from fun W h => by have := HSz.out ⟨xc, xl, xf⟩ _ W (HLx.out rfl) h; rw [HE1] at this; exact this)
        have HRX := Lib.hid (show ∀ W, RdF W (.slice xa xn xk) xf → Calls Tryd.prog 32 #[.agg #[.int .i64 xc, .int .i64 xl, .slice xa xn xk], .string sv, .int .i64 0, .int .i64 (c.length : Int)] W fun e w' => ∃ v', e = .returned (.tuple #[v', .int .i64 0]) ∧ OwnU w' W.heap.size v' c ∧ Below W.heap.size W w' from fun W h => by have := HRd.out ⟨xc, xl, xf⟩ (c.length : Int) _ W (HLx.out rfl) h; rw [HE2] at this; exact this)
        have HSY := Lib.hid (show ∀ W, RdF W (.slice va vn vc) yf → Calls Tryd.prog 29 #[.agg #[.int .i64 yc, .int .i64 yl, .slice va vn vc], .string sv] W fun e w' => e = .returned (.tuple #[.int .i64 (c.length : Int), .int .i64 0]) ∧ Below W.heap.size W w' from fun W h => by have := HSz.out ⟨yc, yl, yf⟩ _ W HCy.out h; rw [HE3] at this; exact this)
        have HRY := Lib.hid (show ∀ W, RdF W (.slice va vn vc) yf → Calls Tryd.prog 32 #[.agg #[.int .i64 yc, .int .i64 yl, .slice va vn vc], .string sv, .int .i64 0, .int .i64 (c.length : Int)] W fun e w' => ∃ v', e = .returned (.tuple #[v', .int .i64 0]) ∧ OwnU w' W.heap.size v' c ∧ Below W.heap.size W w' from fun W h => by have := HRd.out ⟨yc, yl, yf⟩ (c.length : Int) _ W HCy.out h; rw [HE4] at this; exact this)
        have HNX := Lib.hid (show ∀ W, RdF W (.slice xa xn xk) xf → Calls Tryd.prog 33 #[.agg #[.int .i64 xc, .int .i64 xl, .slice xa xn xk]] W fun e w' => ∃ v', e = .returned v' ∧ OwnN w' W.heap.size v' (namesD ⟨xc, xl, xf⟩) ∧ Below W.heap.size W w' from fun W h => names_any ⟨xc, xl, xf⟩ _ W h (HLx.out rfl))
        have HNY := Lib.hid (show ∀ W, RdF W (.slice va vn vc) yf → Calls Tryd.prog 33 #[.agg #[.int .i64 yc, .int .i64 yl, .slice va vn vc]] W fun e w' => ∃ v', e = .returned v' ∧ OwnN w' W.heap.size v' (namesD ⟨xc, xl, xf⟩) ∧ Below W.heap.size W w' from fun W h => by have := names_any ⟨yc, yl, yf⟩ _ W h HCy.out; rw [HE5] at this; exact this)
        have hnl : (namesD ⟨xc, xl, xf⟩).length ≤ 1000 := by
          have := (HLx.out rfl).len
          unfold namesD
          split
          · rw [List.length_map]; exact this
          · exact Nat.zero_le _
        clear HE1 HE2 HE3 HE4 HE5 HE HSz HRd HLx HCy HVx hc
        generalize namesD ⟨xc, xl, xf⟩ = NM at *
        have X := X7
        have XR := XR7
        have Y := Lib.hid Y7.out.x
        have YR := Lib.hid Y7.out.r
        have HB := HB7
        try dsimp only at Y YR
        clear X7 XR7 Y7 HB7
        have x0 := X.out.c0
        have x1 := X.out.c1
        have x2 := X.out.c2
        go_wp2_with fail
        refine (HSX.out _ XR.out).mono ?_
        rintro e w9 ⟨rfl, hbv⟩
        have HBn := Lib.hid (bstep HB.out hbv)
        have Xn := Lib.hid (X.out.below hbv)
        have XRn := Lib.hid (XR.out.below hbv)
        have Yn := Lib.hid (Y.out.below hbv)
        have YRn := Lib.hid (YR.out.below hbv)
        clear hbv x0 x1 x2 HB X XR Y YR
        have HB := HBn
        have X := Xn
        have XR := XRn
        have Y := Yn
        have YR := YRn
        clear HBn Xn XRn Yn YRn
        have x0 := X.out.c0
        have x1 := X.out.c1
        have x2 := X.out.c2
        go_wp2_with fail
        refine (HRX.out _ XR.out).mono ?_
        rintro e w10 ⟨v1, rfl, ho, hbv⟩
        have HBn := Lib.hid (bstep HB.out hbv)
        have Xn := Lib.hid (X.out.below hbv)
        have XRn := Lib.hid (XR.out.below hbv)
        have Yn := Lib.hid (Y.out.below hbv)
        have YRn := Lib.hid (YR.out.below hbv)
        obtain ⟨p1, k1, ev1, _⟩ := own_form ho
        subst ev1
        have HO1 := Lib.hid ho.rd
        clear ho
        clear hbv x0 x1 x2 HB X XR Y YR
        have HB := HBn
        have X := Xn
        have XR := XRn
        have Y := Yn
        have YR := YRn
        clear HBn Xn XRn Yn YRn
        have x0 := Y.out.c0
        have x1 := Y.out.c1
        have x2 := Y.out.c2
        go_wp2_with fail
        refine (HSY.out _ YR.out).mono ?_
        rintro e w11 ⟨rfl, hbv⟩
        have HBn := Lib.hid (bstep HB.out hbv)
        have Xn := Lib.hid (X.out.below hbv)
        have XRn := Lib.hid (XR.out.below hbv)
        have Yn := Lib.hid (Y.out.below hbv)
        have YRn := Lib.hid (YR.out.below hbv)
        have HO1n := Lib.hid (RdL.below HO1.out hbv)
        clear HO1
        have HO1 := HO1n
        clear HO1n
        clear hbv x0 x1 x2 HB X XR Y YR
        have HB := HBn
        have X := Xn
        have XR := XRn
        have Y := Yn
        have YR := YRn
        clear HBn Xn XRn Yn YRn
        have x0 := Y.out.c0
        have x1 := Y.out.c1
        have x2 := Y.out.c2
        go_wp2_with fail
        refine (HRY.out _ YR.out).mono ?_
        rintro e w12 ⟨v2, rfl, ho, hbv⟩
        have HBn := Lib.hid (bstep HB.out hbv)
        have Xn := Lib.hid (X.out.below hbv)
        have XRn := Lib.hid (XR.out.below hbv)
        have Yn := Lib.hid (Y.out.below hbv)
        have YRn := Lib.hid (YR.out.below hbv)
        obtain ⟨p2, k2, ev2, _⟩ := own_form ho
        subst ev2
        have HO2 := Lib.hid ho.rd
        have HO1n := Lib.hid (RdL.below HO1.out hbv)
        clear HO1 ho
        have HO1 := HO1n
        clear HO1n
        clear hbv x0 x1 x2 HB X XR Y YR
        have HB := HBn
        have X := Xn
        have XR := XRn
        have Y := Yn
        have YR := YRn
        clear HBn Xn XRn Yn YRn
        generalize (c.map byteV).length = c1n at *
        generalize c.length = cn at *
        go_upto_region 12 with fail
        refine wp_region_rel [eqS (.agg #[.int .i64 xc, .int .i64 xl, .slice xa xn xk]), namS NM, eqS (.agg #[.int .i64 yc, .int .i64 yl, .slice va vn vc]), namS NM] [] 117 (by kernel_rfl) (by kernel_rfl) (by rfl) (by kernel_rfl) (fun f => by simp [frm, dstOf, Act.put]; exact rfl) ?_ ?_
        · refine ⟨?_, ?_, ?_, ?_, trivial⟩
          · intro f w1 hb hd
            clear hd
            dsimp only
            have z0 := (X.out.below hb).c0
            have z1 := (X.out.below hb).c1
            have z2 := (X.out.below hb).c2
            go_wp2_with fail
            exact ⟨rfl, Below.refl _ _, fun t ht => by injection ht with ht; subst ht; exact ⟨rfl, fun h => by simp at h⟩⟩
          · intro f w1 hb hd
            have d0 : f 0 = .agg #[.int .i64 xc, .int .i64 xl, .slice xa xn xk] := hd 0 (by kernel_rfl)
            clear hd
            dsimp only
            rw [d0]
            go_wp2_with fail
            refine (HNX.out w1 (XR.out.below hb)).mono ?_
            rintro e w2 ⟨v', rfl, ho, hbe⟩
            have HOr := Lib.hid (show RdL strV w2 v' NM from own_rdl ho)
            clear ho
            go_wp2_with fail
            exact ⟨rfl, hbe, fun t ht => by injection ht with ht; subst ht; exact ⟨HOr.out, fun h => by simp at h⟩⟩
          · intro f w1 hb hd
            clear hd
            dsimp only
            have z0 := (Y.out.below hb).c0
            have z1 := (Y.out.below hb).c1
            have z2 := (Y.out.below hb).c2
            go_wp2_with fail
            exact ⟨rfl, Below.refl _ _, fun t ht => by injection ht with ht; subst ht; exact ⟨rfl, fun h => by simp at h⟩⟩
          · intro f w1 hb hd
            have d2 : f 2 = .agg #[.int .i64 yc, .int .i64 yl, .slice va vn vc] := hd 2 (by kernel_rfl)
            clear hd
            dsimp only
            rw [d2]
            go_wp2_with fail
            refine (HNY.out w1 (YR.out.below hb)).mono ?_
            rintro e w2 ⟨v', rfl, ho, hbe⟩
            have HOr := Lib.hid (show RdL strV w2 v' NM from own_rdl ho)
            clear ho
            go_wp2_with fail
            exact ⟨rfl, hbe, fun t ht => by injection ht with ht; subst ht; exact ⟨HOr.out, fun h => by simp at h⟩⟩
        · intro f w1 hb hA _
          have d0 : f 0 = .agg #[.int .i64 xc, .int .i64 xl, .slice xa xn xk] := hA 0 (show 0 < 4 by decide)
          have d1 := hA 1 (show 1 < 4 by decide)
          have d2 : f 2 = .agg #[.int .i64 yc, .int .i64 yl, .slice va vn vc] := hA 2 (show 2 < 4 by decide)
          have d3 := hA 3 (show 3 < 4 by decide)
          clear hA
          try dsimp only at *
          rw [d0]
          rw [d2]
          clear d0 d2
          have d1 : RdL strV w1 (f 1) NM := d1
          have d3 : RdL strV w1 (f 3) NM := d3
          obtain ⟨pa, pc, e1, _⟩ := d1.shape []
          obtain ⟨qa, qc, e3, _⟩ := d3.shape []
          rw [e1] at d1
          rw [e3] at d3
          have HP := Lib.hid d1
          have HQ := Lib.hid d3
          have HB12 := Lib.hid (bstep HB.out hb)
          have HO1n := Lib.hid (RdL.below HO1.out hb)
          have HO2n := Lib.hid (RdL.below HO2.out hb)
          rw [e1, e3]
          clear d1 d3 e1 e3 hb HB X XR Y YR HO1 HO2 HNX HNY HSX HRX HSY HRY
          generalize hnn : NM.length = nn at *
          have Hnn := Lib.hid hnn
          clear hnn
          generalize w1 = w13 at *
          go_wp2_with fail
          go_loopw [21, 80] (fun kv iv W => ∃ j : Nat, iv = .int .i64 (j : Int) ∧ j ≤ nn ∧ Hid (Below w13.heap.size w13 W)) (fun _ iv _ => nn - (intOf iv).toNat)
          case atStart => exact ⟨0, rfl, Nat.zero_le _, Lib.hid (Below.refl _ _)⟩
          case round =>
            obtain ⟨j, rfl, hj, HBj⟩ := hrel
            by_cases hlj : j < nn
            · have j1 : (j : Int) < (nn : Int) := by omega
              obtain ⟨pb, poff, rfl, p0⟩ := (RdL.below HP.out HBj.out).atN (by rw [Hnn.out]; exact hlj)
              obtain ⟨qb, qoff, rfl, q0⟩ := (RdL.below HQ.out HBj.out).atN (by rw [Hnn.out]; exact hlj)
              generalize strB (NM.getD j []) = snm at *
              go_upto_region 18 with fail
              refine wp_region_relz [eqS (.slice (some ⟨pb, poff, none⟩) nn pc), eqS (.int .i64 (j : Int)), eqS (.pointer (some ⟨pb, poff + j, none⟩)), eqS (.string snm), eqS (.slice (some ⟨qb, qoff, none⟩) nn qc), eqS (.int .i64 (j : Int)), eqS (.pointer (some ⟨qb, qoff + j, none⟩)), eqS (.string snm), eqS (.bool false)] 117 (by kernel_rfl) (by kernel_rfl) (by kernel_rfl) (by rfl) (by kernel_rfl) (fun f => by simp [frm, dstOf, Act.put]; exact rfl) ?_ ?_
              · refine ⟨?_, ?_, ?_, ?_, ?_, ?_, ?_, ?_, ?_, trivial⟩
                · intro f w1 hb hd
                  clear hd
                  dsimp only
                  go_wp2_with fail
                  exact ⟨rfl, Below.refl _ _, fun t ht => by injection ht with ht; subst ht; exact ⟨rfl, fun h => by simp at h⟩⟩
                · intro f w1 hb hd
                  clear hd
                  dsimp only
                  go_wp2_with fail
                  exact ⟨rfl, Below.refl _ _, fun t ht => by injection ht with ht; subst ht; exact ⟨rfl, fun h => by simp at h⟩⟩
                · intro f w1 hb hd
                  have d0 : f 0 = .slice (some ⟨pb, poff, none⟩) nn pc := hd 0 (by kernel_rfl)
                  have d1 : f 1 = .int .i64 (j : Int) := hd 1 (by kernel_rfl)
                  clear hd
                  dsimp only
                  rw [d0]
                  rw [d1]
                  go_wp2_with fail
                  exact ⟨rfl, Below.refl _ _, fun t ht => by injection ht with ht; subst ht; exact ⟨rfl, fun h => by simp at h⟩⟩
                · intro f w1 hb hd
                  have d2 : f 2 = .pointer (some ⟨pb, poff + j, none⟩) := hd 2 (by kernel_rfl)
                  clear hd
                  dsimp only
                  rw [d2]
                  have z0 := Below.keeps hb _ _ p0
                  go_wp2_with fail
                  exact ⟨rfl, Below.refl _ _, fun t ht => by injection ht with ht; subst ht; exact ⟨rfl, fun h => by simp at h⟩⟩
                · intro f w1 hb hd
                  clear hd
                  dsimp only
                  go_wp2_with fail
                  exact ⟨rfl, Below.refl _ _, fun t ht => by injection ht with ht; subst ht; exact ⟨rfl, fun h => by simp at h⟩⟩
                · intro f w1 hb hd
                  clear hd
                  dsimp only
                  go_wp2_with fail
                  exact ⟨rfl, Below.refl _ _, fun t ht => by injection ht with ht; subst ht; exact ⟨rfl, fun h => by simp at h⟩⟩
                · intro f w1 hb hd
                  have d4 : f 4 = .slice (some ⟨qb, qoff, none⟩) nn qc := hd 4 (by kernel_rfl)
                  have d5 : f 5 = .int .i64 (j : Int) := hd 5 (by kernel_rfl)
                  clear hd
                  dsimp only
                  rw [d4]
                  rw [d5]
                  go_wp2_with fail
                  exact ⟨rfl, Below.refl _ _, fun t ht => by injection ht with ht; subst ht; exact ⟨rfl, fun h => by simp at h⟩⟩
                · intro f w1 hb hd
                  have d6 : f 6 = .pointer (some ⟨qb, qoff + j, none⟩) := hd 6 (by kernel_rfl)
                  clear hd
                  dsimp only
                  rw [d6]
                  have z0 := Below.keeps hb _ _ q0
                  go_wp2_with fail
                  exact ⟨rfl, Below.refl _ _, fun t ht => by injection ht with ht; subst ht; exact ⟨rfl, fun h => by simp at h⟩⟩
                · intro f w1 hb hd
                  have d3 : f 3 = .string snm := hd 3 (by kernel_rfl)
                  have d7 : f 7 = .string snm := hd 7 (by kernel_rfl)
                  clear hd
                  dsimp only
                  rw [d3]
                  rw [d7]
                  go_wp2_with fail
                  exact ⟨rfl, Below.refl _ _, fun t ht => by injection ht with ht; subst ht; exact ⟨rfl, fun h => by simp at h⟩⟩
              · intro f w1 hb hA
                have d0 : f 0 = .slice (some ⟨pb, poff, none⟩) nn pc := hA 0 (show 0 < 9 by decide)
                have d1 : f 1 = .int .i64 (j : Int) := hA 1 (show 1 < 9 by decide)
                have d2 : f 2 = .pointer (some ⟨pb, poff + j, none⟩) := hA 2 (show 2 < 9 by decide)
                have d3 : f 3 = .string snm := hA 3 (show 3 < 9 by decide)
                have d4 : f 4 = .slice (some ⟨qb, qoff, none⟩) nn qc := hA 4 (show 4 < 9 by decide)
                have d5 : f 5 = .int .i64 (j : Int) := hA 5 (show 5 < 9 by decide)
                have d6 : f 6 = .pointer (some ⟨qb, qoff + j, none⟩) := hA 6 (show 6 < 9 by decide)
                have d7 : f 7 = .string snm := hA 7 (show 7 < 9 by decide)
                have d8 : f 8 = .bool false := hA 8 (show 8 < 9 by decide)
                clear hA
                try dsimp only at *
                rw [d0]
                rw [d1]
                rw [d2]
                rw [d3]
                rw [d4]
                rw [d5]
                rw [d6]
                rw [d7]
                rw [d8]
                clear d0 d1 d2 d3 d4 d5 d6 d7 d8
                have HBe := Lib.hid (bstep HBj.out hb)
                clear hb
                go_wp2_with fail
                exact ⟨⟨j + 1, by go_num, by omega, HBe⟩, by simp [intOf]; omega⟩
            · have j1 : ¬ (j : Int) < (nn : Int) := by omega
              have hc1 := run_to_string (P := Tryd.prog) 47 9 5 Tryd.underlying47 Tryd.underlying5 Tryd.underlying9 (RdL.below HO1n.out HBj.out)
              have hc2 := run_to_string (P := Tryd.prog) 47 9 5 Tryd.underlying47 Tryd.underlying5 Tryd.underlying9 (RdL.below HO2n.out HBj.out)
              generalize strB c = cs at *
              go_wp2_with fail
              refine (awake_any _).mono ?_
              rintro e w15 ⟨rfl, hb15⟩
              have HB15 := Lib.hid (bstep HB12.out (bstep HBj.out hb15))
              clear hb15
              go_wp2_with fail
              go_ret
              exact ⟨rfl, HB15.out⟩
    · go_wp2_with fail
      refine (awake_any _).mono ?_
      rintro e w15 ⟨rfl, hb15⟩
      have HB15 := Lib.hid (bstep HB5.out hb15)
      clear hb15
      go_wp2_with fail
      go_ret
      exact ⟨rfl, HB15.out⟩
theorem durable_walk (a : Option Addr) (n cap : Nat) (s : ByteArray) (b : Option Addr) (m cap2 : Nat) (w : World) (h : ∃ l, RdO w (.slice a n cap) l) (hs : s.size ≤ maxLen) (hk : ∃ l, RdK w (.slice b m cap2) l) :
    Calls Tryd.prog 7 #[.slice a n cap, .string s, .slice b m cap2] w fun e w' => e = .returned (.bool true) ∧ Below w.heap.size w w' := by
  obtain ⟨l, hl⟩ := h
  obtain ⟨ks, hk⟩ := hk
  exact durable_go s.data.toList (by rw [Array.length_toList]; exact hs) _ _ l ks w hl hk
end Go.Proofs.YtkabcpmnbjllcaaDoor
