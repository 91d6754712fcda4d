/- Several texts in one, each over the last: What holds in a region `x, e := f(..)` that draws its order: the call c, the move and the two extracts behind it, the box (c + 4) and its store (c + 5). DiskHistories: the walk. Printed by mkDha.py. -/
import Derived.Test.YtkabcpmnbjllcaaDoorDru
import Derived.Test.YtkabcpmnbjllcaaDoorKH
import Derived.Test.YtkabcpmnbjllcaaDoorKG
namespace Go.Proofs.YtkabcpmnbjllcaaDoor
open Go.RowKit

/-- A disk. -/
def dvS (c lf : Int) (fl : List Fil) : Sta := ⟨fun v w => ∃ fv', v = diskVal c lf fv' ∧ RdF w fv' fl, fun _ _ _ hb ⟨fv', e, h⟩ => ⟨fv', e, h.below hb⟩⟩
theorem RefDk.rd {w w' : World} {xs : List FX} {x : Dk} {e : Ending} (h : RefDk w xs x e w') (hx : PartsX w xs) : ∃ fv, e = .returned (diskVal x.cap x.left fv) ∧ RdF w' fv x.files ∧ Below w.heap.size w w' := by
  obtain ⟨⟨fv, xs', e1, e2, e3⟩, e4⟩ := h
  exact ⟨fv, e1, ⟨feX xs', by rw [feX_fst, e2], e3.rd (KeepB.refl _ _) (hx.below e4)⟩, e4⟩
/-- An operation cut. -/
def cutS (oc : Opr) : Sta := ⟨fun v w => ∃ da dn dc ka kn kc, v = opVal oc (.slice da dn dc) (.slice ka kn kc) ∧ RdB w (.slice da dn dc) oc.data ∧ RdK w (.slice ka kn kc) oc.keep, fun _ _ _ hb ⟨da, dn, dc, ka, kn, kc, e, h1, h2⟩ => ⟨da, dn, dc, ka, kn, kc, e, RdL.below h1 hb, h2.below hb⟩⟩
theorem StD.rdf {B : Nat} {W : World} {c l : Int} {fv : Value} {d : Dk} (h : StD B W (diskVal c l fv) d) : RdF W fv d.files := by
  obtain ⟨fv', e, hf⟩ := h.rd
  injection e with e
  have e2 := congrArg (fun a : Array Value => a.toList) e
  simp at e2
  rw [e2.2.2]
  exact hf
theorem RowB.rdF {w W : World} {xs : List FX} {B : Nat} {fv : Value} {l : List Fil} (h : RowB w [] W B fv xs) (hf : filX xs = l) : RdF W fv l := ⟨feX xs, by rw [feX_fst, hf], rdFE_x h.reads h.parts'⟩
structure MbS (c : Nat) (T : TypeId) (B0 : Nat) (w6 : World) (S : List Sta) (RS : Dk × Int) (G : World → World → Value → Prop) (L : Nat → Bool) (f : Nat → Value) (W : World) : Prop where
  hb : Below B0 w6 W
  sz : B0 ≤ W.heap.size
  pre : ∀ j, j < c → L j = true → L (c + 5) = false → (stA S j).p (f j) W
  res : L c = true → ∃ Wc w' fv', f c = .tuple #[diskVal RS.1.cap RS.1.left fv', .int .i64 RS.2] ∧ (∃ a n k, fv' = .slice a n k) ∧ G Wc w' fv' ∧ B0 ≤ Wc.heap.size ∧ KeepB Wc.heap.size w' W ∧
    (L (c + 4) = true → ∀ xb, f (c + 4) = .pointer (some ⟨xb, 0, none⟩) → xb < Wc.heap.size ∨ w'.heap.size ≤ xb) ∧ (L (c + 1) = true → f (c + 1) = f c) ∧ (L (c + 2) = true → f (c + 2) = diskVal RS.1.cap RS.1.left fv') ∧ (L (c + 3) = true → f (c + 3) = .int .i64 RS.2) ∧
    (L (c + 5) = true → ∃ xb, f (c + 4) = .pointer (some ⟨xb, 0, none⟩) ∧ BoxD W xb RS.1.cap RS.1.left fv')
  d5 : L (c + 5) = true → (∀ j, j < c → L j = true) ∧ L c = true ∧ L (c + 4) = true
  d6 : L c = false → L (c + 1) = false ∧ L (c + 2) = false ∧ L (c + 3) = false
  box : L (c + 4) = true → ∃ xb, f (c + 4) = .pointer (some ⟨xb, 0, none⟩) ∧ B0 ≤ xb ∧ (L (c + 5) = false → BoxD W xb 0 0 (.slice none 0 0))
section
variable {c : Nat} {T : TypeId} {B0 : Nat} {w6 W W' : World} {S : List Sta} {RS : Dk × Int} {G : World → World → Value → Prop} {L : Nat → Bool} {f : Nat → Value}
theorem MbS.start (hs : B0 = w6.heap.size) (f : Nat → Value) : MbS c T B0 w6 S RS G (fun _ => false) f w6.drew := by
  subst hs
  exact ⟨below_drew (Below.refl _ _), Nat.le_refl _, (fun _ _ h => by cases h), (fun h => by cases h), (fun h => by cases h), (fun _ => ⟨rfl, rfl, rfl⟩), fun h => by cases h⟩
theorem MbS.n5 (h : MbS c T B0 w6 S RS G L f W) {i : Nat} (hi : i < c) (h0 : L i = false) : L (c + 5) = false := by
  cases e : L (c + 5) with
  | false => rfl
  | true => have := (h.d5 e).1 i hi; rw [h0] at this; cases this
/-- What an operation before the call has left. -/
theorem MbS.had (h : MbS c T B0 w6 S RS G L f W) {i j : Nat} (hi : i < c) (h0 : L i = false) (hj : j < c) (hd : L j = true) : (stA S j).p (f j) W := h.pre j hj hd (h.n5 hi h0)
/-- An operation before the call. -/
theorem MbS.step (h : MbS c T B0 w6 S RS G L f W) {i : Nat} (hi : i < c) (h0 : L i = false) (hW : Below W.heap.size W W') {v : Value} (hv : (stA S i).p v W') : MbS c T B0 w6 S RS G (onL L i) (updF f i v) W' := by
  have hL : ∀ j, c ≤ j → onL L i j = L j := fun j hj => onR_ne (by omega)
  have hf : ∀ j, c ≤ j → updF f i v j = f j := fun j hj => upR_ne (by omega)
  have n5 := h.n5 hi h0
  refine ⟨h.hb.trans (hW.mono h.sz), Nat.le_trans h.sz hW.size, fun j hj hd h5 => ?_, ?_, ?_, ?_, ?_⟩
  · by_cases e : j = i
    · subst e; rw [upR_eq]; exact hv
    · rw [upR_ne e]; rw [onR_ne e] at hd; exact (stA S j).m _ _ _ hW (h.pre j hj hd n5)
  · rw [hL c (by omega), hL (c + 1) (by omega), hL (c + 2) (by omega), hL (c + 3) (by omega), hL (c + 4) (by omega), hL (c + 5) (by omega), hf c (by omega), hf (c + 1) (by omega), hf (c + 2) (by omega), hf (c + 3) (by omega), hf (c + 4) (by omega)]
    intro e
    obtain ⟨Wc, w', fv', e1, e2, e3, e4, e5, e6, e7, e8, e9, e10⟩ := h.res e
    exact ⟨Wc, w', fv', e1, e2, e3, e4, e5.trans (KeepB.below hW), e6, e7, e8, e9, fun e => (e10 e).imp fun xb hx => ⟨hx.1, hx.2.below hW⟩⟩
  · rw [hL (c + 5) (by omega), n5]; intro e; cases e
  · rw [hL c (by omega), hL (c + 1) (by omega), hL (c + 2) (by omega), hL (c + 3) (by omega)]; exact h.d6
  · rw [hL (c + 4) (by omega), hL (c + 5) (by omega), hf (c + 4) (by omega)]
    intro e
    obtain ⟨xb, e1, e2, e3⟩ := h.box e
    exact ⟨xb, e1, e2, fun e => (e3 e).below hW⟩
theorem MbS.call (h : MbS c T B0 w6 S RS G L f W) (hW : Below W.heap.size W W') (h6 : L c = false) {fv' : Value} (hsl : ∃ a n k, fv' = .slice a n k) (hg : G W W' fv') : MbS c T B0 w6 S RS G (onL L c) (updF f c (.tuple #[diskVal RS.1.cap RS.1.left fv', .int .i64 RS.2])) W' := by
  obtain ⟨n7, n8, n9⟩ := h.d6 h6
  have n11 : L (c + 5) = false := by
    cases e : L (c + 5) with
    | false => rfl
    | true => have := (h.d5 e).2.1; rw [h6] at this; cases this
  refine ⟨h.hb.trans (hW.mono h.sz), Nat.le_trans h.sz hW.size, fun j hj hd h5 => ?_, fun _ => ⟨W, W', fv', upR_eq .., hsl, hg, h.sz, KeepB.refl _ _, ?_, ?_, ?_, ?_, ?_⟩, ?_, ?_, ?_⟩
  · rw [upR_ne (by omega)]; rw [onR_ne (by omega)] at hd; exact (stA S j).m _ _ _ hW (h.pre j hj hd n11)
  · rw [onR_ne (by omega), upR_ne (by omega)]
    intro e xb hx
    obtain ⟨xb', e1, _, e3⟩ := h.box e
    rw [e1] at hx
    obtain rfl := ptr_inj hx
    exact .inl (e3 n11).lt
  · rw [onR_ne (by omega), n7]; intro e; cases e
  · rw [onR_ne (by omega), n8]; intro e; cases e
  · rw [onR_ne (by omega), n9]; intro e; cases e
  · rw [onR_ne (by omega), n11]; intro e; cases e
  · rw [onR_ne (by omega), n11]; intro e; cases e
  · rw [onR_eq]; intro e; cases e
  · rw [onR_ne (by omega), onR_ne (by omega), upR_ne (by omega)]
    intro e
    obtain ⟨xb, e1, e2, e3⟩ := h.box e
    exact ⟨xb, e1, e2, fun e => (e3 e).below hW⟩
theorem MbS.mv (h : MbS c T B0 w6 S RS G L f W) (h6 : L c = true) : MbS c T B0 w6 S RS G (onL L (c + 1)) (updF f (c + 1) (f c)) W := by
  refine ⟨h.hb, h.sz, fun j hj hd h5 => ?_, ?_, ?_, ?_, ?_⟩
  · rw [upR_ne (by omega)]; rw [onR_ne (by omega)] at hd h5; exact h.pre j hj hd h5
  · rw [onR_ne (i := c + 1) (j := c) (by omega), onR_ne (i := c + 1) (j := c + 4) (by omega), onR_eq, onR_ne (i := c + 1) (j := c + 2) (by omega), onR_ne (i := c + 1) (j := c + 3) (by omega), onR_ne (i := c + 1) (j := c + 5) (by omega), upR_ne (i := c + 1) (j := c) (by omega), upR_ne (i := c + 1) (j := c + 4) (by omega), upR_eq, upR_ne (i := c + 1) (j := c + 2) (by omega), upR_ne (i := c + 1) (j := c + 3) (by omega)]
    intro e
    obtain ⟨Wc, w', fv', e1, e2, e3, e4, e5, e6, _, e8⟩ := h.res e
    exact ⟨Wc, w', fv', e1, e2, e3, e4, e5, e6, fun _ => rfl, e8⟩
  · rw [onR_ne (i := c + 1) (j := c + 5) (by omega), onR_ne (i := c + 1) (j := c) (by omega), onR_ne (i := c + 1) (j := c + 4) (by omega)]
    intro e
    exact ⟨fun j hj => (onR_ne (by omega)).trans ((h.d5 e).1 j hj), (h.d5 e).2⟩
  · rw [onR_ne (by omega)]; intro e; rw [h6] at e; cases e
  · rw [onR_ne (by omega), onR_ne (by omega), upR_ne (by omega)]; exact h.box
theorem MbS.ex (h : MbS c T B0 w6 S RS G L f W) (h6 : L c = true) (h7 : L (c + 1) = true) : ∃ fv', f (c + 1) = .tuple #[diskVal RS.1.cap RS.1.left fv', .int .i64 RS.2] ∧ (∃ a n k, fv' = .slice a n k) ∧
    MbS c T B0 w6 S RS G (onL L (c + 2)) (updF f (c + 2) (diskVal RS.1.cap RS.1.left fv')) W ∧ MbS c T B0 w6 S RS G (onL L (c + 3)) (updF f (c + 3) (.int .i64 RS.2)) W := by
  obtain ⟨Wc, w', fv', e1, e2, e3, e4, e5, e6, e7, e8, e9, e10⟩ := h.res h6
  refine ⟨fv', (e7 h7).trans e1, e2, ?_, ?_⟩
  · refine ⟨h.hb, h.sz, fun j hj hd h5 => ?_, ?_, ?_, ?_, ?_⟩
    · rw [upR_ne (by omega)]; rw [onR_ne (by omega)] at hd h5; exact h.pre j hj hd h5
    · rw [onR_ne (i := c + 2) (j := c) (by omega), onR_ne (i := c + 2) (j := c + 4) (by omega), onR_ne (i := c + 2) (j := c + 1) (by omega), onR_eq, onR_ne (i := c + 2) (j := c + 3) (by omega), onR_ne (i := c + 2) (j := c + 5) (by omega), upR_ne (i := c + 2) (j := c) (by omega), upR_ne (i := c + 2) (j := c + 4) (by omega), upR_ne (i := c + 2) (j := c + 1) (by omega), upR_eq, upR_ne (i := c + 2) (j := c + 3) (by omega)]
      intro _
      exact ⟨Wc, w', fv', e1, e2, e3, e4, e5, e6, e7, fun _ => rfl, e9, e10⟩
    · rw [onR_ne (i := c + 2) (j := c + 5) (by omega), onR_ne (i := c + 2) (j := c) (by omega), onR_ne (i := c + 2) (j := c + 4) (by omega)]
      intro e
      exact ⟨fun j hj => (onR_ne (by omega)).trans ((h.d5 e).1 j hj), (h.d5 e).2⟩
    · rw [onR_ne (by omega)]; intro e; rw [h6] at e; cases e
    · rw [onR_ne (by omega), onR_ne (by omega), upR_ne (by omega)]; exact h.box
  · refine ⟨h.hb, h.sz, fun j hj hd h5 => ?_, ?_, ?_, ?_, ?_⟩
    · rw [upR_ne (by omega)]; rw [onR_ne (by omega)] at hd h5; exact h.pre j hj hd h5
    · rw [onR_ne (i := c + 3) (j := c) (by omega), onR_ne (i := c + 3) (j := c + 4) (by omega), onR_ne (i := c + 3) (j := c + 1) (by omega), onR_ne (i := c + 3) (j := c + 2) (by omega), onR_eq, onR_ne (i := c + 3) (j := c + 5) (by omega), upR_ne (i := c + 3) (j := c) (by omega), upR_ne (i := c + 3) (j := c + 4) (by omega), upR_ne (i := c + 3) (j := c + 1) (by omega), upR_ne (i := c + 3) (j := c + 2) (by omega), upR_eq]
      intro _
      exact ⟨Wc, w', fv', e1, e2, e3, e4, e5, e6, e7, e8, fun _ => rfl, e10⟩
    · rw [onR_ne (i := c + 3) (j := c + 5) (by omega), onR_ne (i := c + 3) (j := c) (by omega), onR_ne (i := c + 3) (j := c + 4) (by omega)]
      intro e
      exact ⟨fun j hj => (onR_ne (by omega)).trans ((h.d5 e).1 j hj), (h.d5 e).2⟩
    · rw [onR_ne (by omega)]; intro e; rw [h6] at e; cases e
    · rw [onR_ne (by omega), onR_ne (by omega), upR_ne (by omega)]; exact h.box
theorem MbS.boxed (h : MbS c T B0 w6 S RS G L f W) (h10 : L (c + 4) = false) : MbS c T B0 w6 S RS G (onL L (c + 4)) (updF f (c + 4) (.pointer (some ⟨W.heap.size, 0, none⟩))) (W.alloc (.cells #[.int .i64 0, .int .i64 0, .slice none 0 0] T)) := by
  have hA := (Below.refl W.heap.size W).alloc (Nat.le_refl _) (.cells #[.int .i64 0, .int .i64 0, .slice none 0 0] T)
  have n11 : L (c + 5) = false := by
    cases e : L (c + 5) with
    | false => rfl
    | true => have := (h.d5 e).2.2; rw [h10] at this; cases this
  refine ⟨h.hb.alloc h.sz _, Nat.le_trans h.sz hA.size, fun j hj hd h5 => ?_, ?_, ?_, ?_, fun _ => ⟨W.heap.size, upR_eq .., h.sz, fun _ => BoxD.new W 0 0 (.slice none 0 0) T⟩⟩
  · rw [upR_ne (by omega)]; rw [onR_ne (by omega)] at hd; exact (stA S j).m _ _ _ hA (h.pre j hj hd n11)
  · rw [onR_ne (i := c + 4) (j := c) (by omega), onR_eq, onR_ne (i := c + 4) (j := c + 1) (by omega), onR_ne (i := c + 4) (j := c + 2) (by omega), onR_ne (i := c + 4) (j := c + 3) (by omega), onR_ne (i := c + 4) (j := c + 5) (by omega), upR_ne (i := c + 4) (j := c) (by omega), upR_eq, upR_ne (i := c + 4) (j := c + 1) (by omega), upR_ne (i := c + 4) (j := c + 2) (by omega), upR_ne (i := c + 4) (j := c + 3) (by omega)]
    intro e
    obtain ⟨Wc, w', fv', e1, e2, e3, e4, e5, _, e7, e8, e9, _⟩ := h.res e
    refine ⟨Wc, w', fv', e1, e2, e3, e4, e5.trans (KeepB.below hA), fun _ xb hx => ?_, e7, e8, e9, fun e => by rw [n11] at e; cases e⟩
    obtain rfl := ptr_inj hx
    exact .inr e5.size
  · rw [onR_ne (i := c + 4) (j := c + 5) (by omega), n11]; intro e; cases e
  · rw [onR_ne (by omega), onR_ne (by omega), onR_ne (by omega), onR_ne (by omega)]; exact h.d6
theorem MbS.store (h : MbS c T B0 w6 S RS G L f W) (hdn : ∀ j, j < c → L j = true) (h8 : L (c + 2) = true) (h10 : L (c + 4) = true) (h11 : L (c + 5) = false) : ∃ xb fv', f (c + 4) = .pointer (some ⟨xb, 0, none⟩) ∧ f (c + 2) = diskVal RS.1.cap RS.1.left fv' ∧ (∃ a n k, fv' = .slice a n k) ∧ BoxD W xb 0 0 (.slice none 0 0) ∧
    ∀ v, MbS c T B0 w6 S RS G (onL L (c + 5)) (updF f (c + 5) v) (((W.setCell ⟨xb, 0, none⟩ (.int .i64 RS.1.cap)).setCell ⟨xb, 1, none⟩ (.int .i64 RS.1.left)).setCell ⟨xb, 2, none⟩ fv') := by
  have h6 : L c = true := by
    cases e : L c with
    | true => rfl
    | false => have := (h.d6 e).2.1; rw [h8] at this; cases this
  obtain ⟨Wc, w', fv', e1, e2, e3, e4, e5, e6, e7, e8, e9, _⟩ := h.res h6
  obtain ⟨xb, g1, g2, g3⟩ := h.box h10
  have g3 := g3 h11
  refine ⟨xb, fv', g1, e8 h8, e2, g3, fun v => ⟨((h.hb.setCell (p := ⟨xb, 0, none⟩) g2 _).setCell (p := ⟨xb, 1, none⟩) g2 _).setCell (p := ⟨xb, 2, none⟩) g2 _, by have := h.sz; simpa using this, fun j hj hd h5 => ?_, ?_, ?_, ?_, ?_⟩⟩
  · rw [onR_eq] at h5; cases h5
  · rw [onR_ne (i := c + 5) (j := c) (by omega), onR_ne (i := c + 5) (j := c + 4) (by omega), onR_ne (i := c + 5) (j := c + 1) (by omega), onR_ne (i := c + 5) (j := c + 2) (by omega), onR_ne (i := c + 5) (j := c + 3) (by omega), onR_eq, upR_ne (i := c + 5) (j := c) (by omega), upR_ne (i := c + 5) (j := c + 4) (by omega), upR_ne (i := c + 5) (j := c + 1) (by omega), upR_ne (i := c + 5) (j := c + 2) (by omega), upR_ne (i := c + 5) (j := c + 3) (by omega)]
    intro _
    refine ⟨Wc, w', fv', e1, e2, e3, e4, ?_, e6, e7, e8, e9, fun _ => ⟨xb, g1, g3.all RS.1.cap RS.1.left fv'⟩⟩
    rcases e6 h10 xb g1 with hx | hx
    · exact e5.trans (KeepB.all3 hx _ _ _)
    · exact e5.new3 hx _ _ _
  · intro _
    exact ⟨fun j hj => (onR_ne (by omega)).trans (hdn j hj), (onR_ne (by omega)).trans h6, (onR_ne (by omega)).trans h10⟩
  · rw [onR_ne (i := c + 5) (j := c) (by omega), h6]; intro e; cases e
  · rw [onR_ne (i := c + 5) (j := c + 4) (by omega), onR_eq, upR_ne (i := c + 5) (j := c + 4) (by omega)]
    intro _
    exact ⟨xb, g1, g2, fun e => by cases e⟩
theorem MbS.ends (h : MbS c T B0 w6 S RS G L f W) (h6 : L c = true) (h9 : L (c + 3) = true) (h11 : L (c + 5) = true) : ∃ Wc w' fv' xb, f (c + 3) = .int .i64 RS.2 ∧ f (c + 4) = .pointer (some ⟨xb, 0, none⟩) ∧ BoxD W xb RS.1.cap RS.1.left fv' ∧ (∃ a n k, fv' = .slice a n k) ∧ G Wc w' fv' ∧ B0 ≤ Wc.heap.size ∧ KeepB Wc.heap.size w' W := by
  obtain ⟨Wc, w', fv', e1, e2, e3, e4, e5, e6, e7, e8, e9, e10⟩ := h.res h6
  obtain ⟨xb, g1, g2⟩ := e10 h11
  exact ⟨Wc, w', fv', xb, e9 h9, g1, g2, e2, e3, e4, e5⟩
theorem MbS.hadC (h : MbS c T B0 w6 S RS G L f W) (h6 : L c = false) {j : Nat} (hj : j < c) (hd : L j = true) : (stA S j).p (f j) W := h.pre j hj hd (by
  cases e : L (c + 5) with
  | false => rfl
  | true => have := (h.d5 e).2.1; rw [h6] at this; cases this)
end
end Go.Proofs.YtkabcpmnbjllcaaDoor

namespace Go.Proofs.YtkabcpmnbjllcaaDoor
open Go.RowKit

/-- What two loads and the first store have left. -/
structure TwL (w8 : World) (b0 : Nat) (v0 v1 : Value) (c l : Int) (u : Value) (L : Nat → Bool) (f : Nat → Value) (W : World) : Prop where
  w : W = if L 2 then ((w8.drew.setCell ⟨b0, 0, none⟩ (.int .i64 c)).setCell ⟨b0, 1, none⟩ (.int .i64 l)).setCell ⟨b0, 2, none⟩ u else w8.drew
  f0 : L 0 = true → f 0 = v0
  f1 : L 1 = true → f 1 = v1
theorem TwL.l0 {w8 : World} {b0 : Nat} {v0 v1 : Value} {c l : Int} {u : Value} {L : Nat → Bool} {f : Nat → Value} {W : World} (h : TwL w8 b0 v0 v1 c l u L f W) : TwL w8 b0 v0 v1 c l u (onL L 0) (updF f 0 v0) W :=
  ⟨by rw [onR_ne (i := 0) (j := 2) (by decide)]; exact h.w, fun _ => upR_eq .., fun e => by rw [onR_ne (i := 0) (j := 1) (by decide)] at e; rw [upR_ne (i := 0) (j := 1) (by decide)]; exact h.f1 e⟩
theorem TwL.l1 {w8 : World} {b0 : Nat} {v0 v1 : Value} {c l : Int} {u : Value} {L : Nat → Bool} {f : Nat → Value} {W : World} (h : TwL w8 b0 v0 v1 c l u L f W) : TwL w8 b0 v0 v1 c l u (onL L 1) (updF f 1 v1) W :=
  ⟨by rw [onR_ne (i := 1) (j := 2) (by decide)]; exact h.w, fun e => by rw [onR_ne (i := 1) (j := 0) (by decide)] at e; rw [upR_ne (i := 1) (j := 0) (by decide)]; exact h.f0 e, fun _ => upR_eq ..⟩
theorem TwL.st {w8 : World} {b0 : Nat} {v0 v1 : Value} {c l : Int} {u : Value} {L : Nat → Bool} {f : Nat → Value} {W : World} (h : TwL w8 b0 v0 v1 c l u L f W) (h2 : L 2 = false) : W = w8.drew ∧ ∀ v, TwL w8 b0 v0 v1 c l u (onL L 2) (updF f 2 v) (((W.setCell ⟨b0, 0, none⟩ (.int .i64 c)).setCell ⟨b0, 1, none⟩ (.int .i64 l)).setCell ⟨b0, 2, none⟩ u) := by
  have hw := h.w
  rw [h2, if_neg (by simp)] at hw
  refine ⟨hw, fun v => ⟨?_, fun e => ?_, fun e => ?_⟩⟩
  · rw [onR_eq, if_pos rfl, hw]
  · rw [onR_ne (i := 2) (j := 0) (by decide)] at e; rw [upR_ne (i := 2) (j := 0) (by decide)]; exact h.f0 e
  · rw [onR_ne (i := 2) (j := 1) (by decide)] at e; rw [upR_ne (i := 2) (j := 1) (by decide)]; exact h.f1 e
theorem BoxD.set3 {w : World} {b b0 : Nat} {c l : Int} {fv : Value} (h : BoxD w b c l fv) (hne : b ≠ b0) (u0 u1 u2 : Value) : BoxD (((w.setCell ⟨b0, 0, none⟩ u0).setCell ⟨b0, 1, none⟩ u1).setCell ⟨b0, 2, none⟩ u2) b c l fv :=
  ((h.set_ne (p := ⟨b0, 0, none⟩) hne u0).set_ne (p := ⟨b0, 1, none⟩) hne u1).set_ne (p := ⟨b0, 2, none⟩) hne u2
/-- What the loop of DiskHistories knows. -/
structure HiS (w : World) (b0 BB : Nat) (d : Dk) (v u : Value) (xs : List FX) (W : World) : Prop where
  x : BoxR W b0 d v
  y : BoxD W (b0 + 1) d.cap d.left u
  row : RowB w [] W BB u xs
  fil : filX xs = d.files
  hb : Below w.heap.size w W
  sz : BB ≤ W.heap.size
/-- Both boxes take the next disk. -/
theorem HiS.both {w w6 : World} {b0 BB SB : Nat} {c l ec el : Int} {ef : List Fil} {v u v' u' : Value} {xs' : List FX} (hx : BoxD w6 b0 c l v) (hy : BoxD w6 (b0 + 1) c l u) (hs : StD SB w6 (diskVal ec el v') ⟨ec, el, ef⟩) (hr : RowB w [] w6 BB u' xs') (hf : filX xs' = ef)
    (hb : Below w.heap.size w w6) (hz : BB ≤ w6.heap.size) (h1 : w.heap.size ≤ b0) (h2 : b0 + 1 < BB) (h3 : BB ≤ SB) {w7 : World} (hw : w7 = ((w6.drew.setCell ⟨b0, 0, none⟩ (.int .i64 ec)).setCell ⟨b0, 1, none⟩ (.int .i64 el)).setCell ⟨b0, 2, none⟩ v') :
    HiS w b0 BB ⟨ec, el, ef⟩ v' u' xs' (((w7.setCell ⟨b0 + 1, 0, none⟩ (.int .i64 ec)).setCell ⟨b0 + 1, 1, none⟩ (.int .i64 el)).setCell ⟨b0 + 1, 2, none⟩ u') ∧ BoxD w7 (b0 + 1) c l u := by
  subst hw
  have hD : Below w6.heap.size w6 w6.drew := below_drew (Below.refl _ _)
  refine ⟨⟨⟨?_, ?_⟩, ?_, ?_, hf, ?_, ?_⟩, (hy.below hD).set3 (by omega) _ _ _⟩
  · exact ((hx.below hD).all ec el v').set3 (by omega) _ _ _
  · exact (hs.keep (((KeepB.below hD).trans (KeepB.all3 (b0 := b0) (by omega) (.int .i64 ec) (.int .i64 el) v')).trans (KeepB.all3 (b0 := b0 + 1) (by omega) (.int .i64 ec) (.int .i64 el) u')) (Nat.le_refl _)).rdf
  · exact ((hy.below hD).set3 (by omega) _ _ _).all ec el u'
  · exact ((hr.below hD).all3 (b := b0) (by omega) _ _ _).all3 (b := b0 + 1) (by omega) _ _ _
  · exact ((bstep hb hD).all3 (b := b0) (by omega) _ _ _).all3 (b := b0 + 1) (by omega) _ _ _
  · simp; exact hz
theorem HiS.below {w W W' : World} {b0 BB : Nat} {d : Dk} {v u : Value} {xs : List FX} (h : HiS w b0 BB d v u xs W) (hb : Below W.heap.size W W') : HiS w b0 BB d v u xs W' :=
  ⟨h.x.below hb, h.y.below hb, h.row.below hb, h.fil, bstep h.hb hb, Nat.le_trans h.sz hb.size⟩
set_option maxRecDepth 100000 in
set_option maxHeartbeats 12800000 in
theorem hist_go (limit left : Int) (lv : Value) (l : List (Opr × Value × Value)) (w : World) (hl : RdO w lv l) (hi1 : I64 limit) (hi2 : I64 left) :
    Calls Tryd.prog 11 #[.int .i64 limit, .int .i64 left, lv] w fun e w' => e = .returned (.bool true) ∧ Below w.heap.size w w' := by
  obtain ⟨la, lc, rfl, hl1, hl2⟩ := hl.shape
  have HL := Lib.hid hl
  have HNp := Lib.hid (fun W => new_any limit W)
  have HNw := Lib.hid (fun W => rnew_any limit W)
  have HS0 := Lib.hid (show SmallD ⟨max limit 0, max left (-1), []⟩ 0 from ⟨by unfold I64 at *; dsimp only; omega, by unfold I64 at *; dsimp only; omega, fun f hf => by cases hf⟩)
  have HV0 := Lib.hid (show VldD ⟨max limit 0, max left (-1), []⟩ from armD_new limit left)
  have HAp := Lib.hid (fun W => arm_any ⟨max limit 0, -1, []⟩ left (.slice none 0 0) W (RdF_nil _) ((show VldD ⟨max limit 0, -1, []⟩ from ⟨by dsimp only; omega, (show (-1 : Int) ≤ -1 by omega), Nat.zero_le _, fun f hf => (by cases hf), List.Pairwise.nil⟩).lite (k := 0) ⟨by unfold I64 at *; dsimp only; omega, by unfold I64; dsimp only; omega, fun f hf => by cases hf⟩ (by decide)))
  have HAr := Lib.hid (fun c lf W => rarm_any c lf left (.slice none 0 0) W ⟨_, _, _, rfl⟩)
  dsimp only [diskVal, armD] at HNp HNw HAp HAr
  clear hl hi1 hi2
  generalize l.length = ln at *
  generalize max limit 0 = mx at *
  generalize max left (-1) = ml at *
  go_enter Tryd.func11, Tryd.ntmps11
  go_wp2_with fail
  refine (HNp.out _).mono ?_
  rintro e w1 ⟨rfl, hb1⟩
  have HB1 := Lib.hid hb1
  clear hb1
  go_wp2_with fail
  refine (HAp.out _).mono ?_
  rintro e w2 ⟨v2, rfl, hs2, hb2⟩
  obtain ⟨fa0, fn0, fc0, rfl, hr2⟩ := hs2.sl
  have HB2 := Lib.hid (bstep HB1.out hb2)
  have HR2 := Lib.hid hr2
  clear hb2 hs2 hr2 HB1
  dsimp only [diskVal]
  go_wp2_with fail
  refine (HNw.out _).mono ?_
  rintro e w3 ⟨rfl, hb3⟩
  have HB3 := Lib.hid (bstep HB2.out hb3)
  have HR3 := Lib.hid (HR2.out.below hb3)
  clear hb3 HB2 HR2
  go_wp2_with fail
  refine (HAr.out _ _ _).mono ?_
  rintro e w4 ⟨rfl, hb4⟩
  have HB4 := Lib.hid (bstep HB3.out hb4)
  have HR4 := Lib.hid (HR3.out.below hb4)
  clear hb4 HB3 HR3
  go_upto_region 2 with fail
  have X0 := Lib.hid (show BoxR ((w4.alloc (.cells #[.int .i64 mx, .int .i64 ml, .slice fa0 fn0 fc0] 33)).alloc (.cells #[.int .i64 mx, .int .i64 ml, .slice none 0 0] 24)) w4.heap.size ⟨mx, ml, []⟩ (.slice fa0 fn0 fc0) from ⟨⟨by simp, by simp, by simp, fun i => by simp⟩, HR4.out.below (((Below.refl w4.heap.size w4).alloc (Nat.le_refl _) _).alloc (by simp) _)⟩)
  have Y0 := Lib.hid (show BoxD ((w4.alloc (.cells #[.int .i64 mx, .int .i64 ml, .slice fa0 fn0 fc0] 33)).alloc (.cells #[.int .i64 mx, .int .i64 ml, .slice none 0 0] 24)) (w4.heap.size + 1) mx ml (.slice none 0 0) from ⟨by simp, by simp, by simp, fun i => by simp⟩)
  have HB0 := Lib.hid (show Below w.heap.size w ((w4.alloc (.cells #[.int .i64 mx, .int .i64 ml, .slice fa0 fn0 fc0] 33)).alloc (.cells #[.int .i64 mx, .int .i64 ml, .slice none 0 0] 24)) from (HB4.out.alloc HB4.out.size _).alloc (by have := HB4.out.size; simp; omega) _)
  have hbz : ((w4.alloc (.cells #[.int .i64 mx, .int .i64 ml, .slice fa0 fn0 fc0] 33)).alloc (.cells #[.int .i64 mx, .int .i64 ml, .slice none 0 0] 24)).heap.size = w4.heap.size + 2 := by simp
  have hb0 := HB4.out.size
  clear HB4 HR4 HNp HNw HAp HAr
  generalize (w4.alloc (.cells #[.int .i64 mx, .int .i64 ml, .slice fa0 fn0 fc0] 33)).alloc (.cells #[.int .i64 mx, .int .i64 ml, .slice none 0 0] 24) = W0 at *
  generalize w4.heap.size = b0 at *
  generalize hBB : W0.heap.size = BB at *
  have HZ0 := Lib.hid (Nat.le_of_eq hBB.symm)
  have HR0 := Lib.hid (RowB.nil w W0 BB (by omega))
  clear hBB
  go_wp2_with fail
  go_loopw [9] (fun iv W => ∃ (k : Nat) (d : Dk) (fa : Option Addr) (fn fc : Nat) (gv : Value) (xs : List FX), iv = .int .i64 (k : Int) ∧ k ≤ ln ∧ k ≤ 20 ∧ Hid (VldD d) ∧ Hid (SmallD d k) ∧ Hid (HiS w b0 BB d (.slice fa fn fc) gv xs W)) (fun iv _ => ln - (intOf iv).toNat)
  case atStart => exact ⟨0, ⟨mx, ml, []⟩, fa0, fn0, fc0, _, [], rfl, Nat.zero_le _, Nat.zero_le _, HV0, HS0, Lib.hid ⟨X0.out, Y0.out, HR0.out, rfl, HB0.out, HZ0.out⟩⟩
  case round =>
    obtain ⟨k, d, fa, fn, fc, gv, xs, rfl, hkl, hk20, HV, HS, HH⟩ := hrel
    have X := Lib.hid HH.out.x
    have Y := Lib.hid HH.out.y
    have HR := Lib.hid HH.out.row
    have HF := Lib.hid HH.out.fil
    have HB := Lib.hid HH.out.hb
    have HZ := Lib.hid HH.out.sz
    clear HH
    clear HV0 HS0 X0 Y0 HR0 HB0 HZ0
    obtain ⟨ga, gc, egv, _⟩ := own_form HR.out.own
    subst egv
    generalize hgn : (feX xs).length = gn at *
    clear hgn
    by_cases hlt : k < ln ∧ k < 20
    · obtain ⟨hlt1, hlt2⟩ := hlt
      have i1 : (k : Int) < (ln : Int) := by omega
      have i2 : (k : Int) < 20 := by omega
      obtain ⟨bb, boff, rfl, hin, c0, c1, c2, c3, c4, c5⟩ := (HL.out.below HB.out).at hlt1
      generalize l.getD k op0 = q at *
      obtain ⟨o, dv, kv⟩ := q
      obtain ⟨hdv, hkv, hwf⟩ := hin
      dsimp only at *
      obtain ⟨da, dc, rfl, _⟩ := hdv.shape0
      obtain ⟨ka, kc, rfl, _⟩ := hkv.shape
      have hLd := HV.out.lite HS.out (by omega)
      have HCl := Lib.hid (fun W (h : Below wr.heap.size wr W) => And.intro (Below.keeps h _ _ c0) (And.intro (Below.keeps h _ _ c1) (And.intro (Below.keeps h _ _ c2) (And.intro (Below.keeps h _ _ c3) (And.intro (Below.keeps h _ _ c4) (Below.keeps h _ _ c5))))))
      have HCu := Lib.hid (fun W (hW : Below wr.heap.size wr W) => cut_any o _ _ W (RdL.below hdv hW) (hkv.below hW))
      have HCh := Lib.hid (fun W (hW : Below wr.heap.size wr W) dv kv (h1 : RdB W dv (cutO o).data) (h2 : RdK W kv (cutO o).keep) => (change_any d (cutO o) _ dv kv W (X.out.r.below hW) hLd h1 h2 hwf.lite).mono fun _ _ h => h.op)
      have HWa := Lib.hid (fun W (hW : Below wr.heap.size wr W) dv kv (h1 : RdB W dv (cutO o).data) (h2 : RdK W kv (cutO o).keep) => want_any d (cutO o) _ dv kv xs W (RdS.below HR.out.reads hW) (HR.out.parts'.below hW) HF.out hLd (fun f hf => by have := HS.out.pend f hf; omega) h1 h2 hwf.lite hwf.off)
      have HVn := Lib.hid (fun he => changeD_vld HV.out (cutO o) he)
      have HSn := Lib.hid (changeD_small HS.out (cutO o))
      clear hdv hkv hwf hLd c0 c1 c2 c3 c4 c5
      generalize changeD d (cutO o) = RS at *
      generalize cutO o = oc at *
      obtain ⟨kd, nm, nt, off, data, keep⟩ := o
      obtain ⟨cc, cl, fl⟩ := d
      dsimp only [opVal, diskVal] at *
      generalize strB nm = snm at *
      generalize strB nt = sto at *
      generalize data.length = dl at *
      generalize keep.length = kl at *
      obtain ⟨⟨ec, el, ef⟩, er⟩ := RS
      dsimp only at *
      go_upto_region 5 with fail
      refine wp_region_inv 12 (fun L f W => MbS 6 33 wr.heap.size wr [eqS (.agg #[.int .i64 cc, .int .i64 cl, .slice fa fn fc]), eqS (.slice (some ⟨bb, boff, none⟩) ln lc), eqS (.int .i64 (k : Int)), eqS (.pointer (some ⟨bb, boff + k * 6, none⟩)), eqS (.agg #[.int .i64 kd, .string snm, .string sto, .int .i64 off, .slice da dl dc, .slice ka kl kc]), cutS oc] (⟨ec, el, ef⟩, er) (fun Wc w' fv' => StD Wc.heap.size w' (diskVal ec el fv') ⟨ec, el, ef⟩) L f W) 70 (by kernel_rfl) (by kernel_rfl) (by rfl) (by kernel_rfl) (fun f => by simp [frm, dstOf, Act.put]; exact rfl) (fun f => MbS.start rfl f) ?_ ?_
      · refine ⟨?_, ?_, ?_, ?_, ?_, ?_, ?_, ?_, ?_, ?_, ?_, ?_, trivial⟩
        · intro L f w7 h0 hd hI
          have HI1 := Lib.hid hI
          have z0 := (X.out.below hI.hb).x.c0
          have z1 := (X.out.below hI.hb).x.c1
          have z2 := (X.out.below hI.hb).x.c2
          clear hI hd
          dsimp only
          go_wp2_with fail
          exact ⟨rfl, (fun h => by cases h), fun t ht => by injection ht with ht; subst ht; exact HI1.out.step (i := 0) (v := .agg #[.int .i64 cc, .int .i64 cl, .slice fa fn fc]) (by decide) h0 (Below.refl _ _) rfl⟩
        · intro L f w7 h0 hd hI
          have HI1 := Lib.hid hI
          clear hI hd
          dsimp only
          go_wp2_with fail
          exact ⟨rfl, (fun h => by cases h), fun t ht => by injection ht with ht; subst ht; exact HI1.out.step (i := 1) (v := .slice (some ⟨bb, boff, none⟩) ln lc) (by decide) h0 (Below.refl _ _) rfl⟩
        · intro L f w7 h0 hd hI
          have HI1 := Lib.hid hI
          clear hI hd
          dsimp only
          go_wp2_with fail
          exact ⟨rfl, (fun h => by cases h), fun t ht => by injection ht with ht; subst ht; exact HI1.out.step (i := 2) (v := .int .i64 (k : Int)) (by decide) h0 (Below.refl _ _) rfl⟩
        · intro L f w7 h0 hd hI
          have HI1 := Lib.hid hI
          have d1 : f 1 = .slice (some ⟨bb, boff, none⟩) ln lc := hI.had (i := 3) (j := 1) (by decide) h0 (by decide) (hd 1 (by kernel_rfl))
          have d2 : f 2 = .int .i64 (k : Int) := hI.had (i := 3) (j := 2) (by decide) h0 (by decide) (hd 2 (by kernel_rfl))
          clear hI hd
          dsimp only
          rw [d1]
          rw [d2]
          go_wp2_with fail
          exact ⟨rfl, (fun h => by cases h), fun t ht => by injection ht with ht; subst ht; exact HI1.out.step (i := 3) (v := .pointer (some ⟨bb, boff + k * 6, none⟩)) (by decide) h0 (Below.refl _ _) rfl⟩
        · intro L f w7 h0 hd hI
          have HI1 := Lib.hid hI
          have d3 : f 3 = .pointer (some ⟨bb, boff + k * 6, none⟩) := hI.had (i := 4) (j := 3) (by decide) h0 (by decide) (hd 3 (by kernel_rfl))
          obtain ⟨c0, c1, c2, c3, c4, c5⟩ := HCl.out w7 hI.hb
          clear hI hd
          dsimp only
          rw [d3]
          go_wp2_with fail
          exact ⟨rfl, (fun h => by cases h), fun t ht => by injection ht with ht; subst ht; exact HI1.out.step (i := 4) (v := .agg #[.int .i64 kd, .string snm, .string sto, .int .i64 off, .slice da dl dc, .slice ka kl kc]) (by decide) h0 (Below.refl _ _) rfl⟩
        · intro L f w7 h0 hd hI
          have HI1 := Lib.hid hI
          have d4 : f 4 = .agg #[.int .i64 kd, .string snm, .string sto, .int .i64 off, .slice da dl dc, .slice ka kl kc] := hI.had (i := 5) (j := 4) (by decide) h0 (by decide) (hd 4 (by kernel_rfl))
          have HC7 := Lib.hid (HCu.out w7 hI.hb)
          clear hI hd
          dsimp only
          rw [d4]
          go_wp2_with fail
          refine HC7.out.mono ?_
          rintro e w8 ⟨da', dn', dc', ka', kn', kc', rfl, hd', hk', hb'⟩
          have HQ := Lib.hid (HI1.out.step (i := 5) (v := opVal oc (.slice da' dn' dc') (.slice ka' kn' kc')) (by decide) h0 hb' ⟨_, _, _, _, _, _, rfl, hd', hk'⟩)
          clear hd' hk' hb'
          go_wp2_with fail
          exact ⟨rfl, (fun h => by cases h), fun t ht => by injection ht with ht; subst ht; exact HQ.out⟩
        · intro L f w7 h0 hd hI
          have HI1 := Lib.hid hI
          have d0 : f 0 = .agg #[.int .i64 cc, .int .i64 cl, .slice fa fn fc] := hI.hadC (j := 0) h0 (by decide) (hd 0 (by kernel_rfl))
          obtain ⟨da', dn', dc', ka', kn', kc', d5, hd', hk'⟩ := hI.hadC (j := 5) h0 (by decide) (hd 5 (by kernel_rfl))
          have HC7 := Lib.hid (HCh.out w7 hI.hb _ _ hd' hk')
          clear hd' hk'
          dsimp only [opVal] at d5
          clear hI hd
          dsimp only
          rw [d0]
          rw [d5]
          go_wp2_with fail
          refine HC7.out.mono ?_
          rintro e w8 ⟨va, vn, vc, rfl, hst, -, hb'⟩
          have HQ := Lib.hid (HI1.out.call hb' h0 ⟨_, _, _, rfl⟩ hst)
          clear hst hb'
          go_wp2_with fail
          exact ⟨rfl, (fun h => by cases h), fun t ht => by injection ht with ht; subst ht; exact HQ.out⟩
        · intro L f w7 h0 hd hI
          have HI1 := Lib.hid hI
          have h6 := hd 6 (by kernel_rfl)
          clear hI hd
          dsimp only
          go_wp2_with fail
          exact ⟨rfl, (fun h => by cases h), fun t ht => by injection ht with ht; subst ht; exact HI1.out.mv h6⟩
        · intro L f w7 h0 hd hI
          have h7 := hd 7 (by kernel_rfl)
          have h6 : L 6 = true := by
            cases e : L 6 with
            | true => rfl
            | false => have := (hI.d6 e).1; rw [h7] at this; cases this
          obtain ⟨fv', d7, ⟨va, vn, vc, rfl⟩, hq2, hq3⟩ := hI.ex h6 h7
          have HQ := Lib.hid hq2
          clear hI hd hq2 hq3
          dsimp only
          dsimp only [diskVal] at d7
          rw [d7]
          go_wp2_with fail
          exact ⟨rfl, (fun h => by cases h), fun t ht => by injection ht with ht; subst ht; exact HQ.out⟩
        · intro L f w7 h0 hd hI
          have h7 := hd 7 (by kernel_rfl)
          have h6 : L 6 = true := by
            cases e : L 6 with
            | true => rfl
            | false => have := (hI.d6 e).1; rw [h7] at this; cases this
          obtain ⟨fv', d7, ⟨va, vn, vc, rfl⟩, hq2, hq3⟩ := hI.ex h6 h7
          have HQ := Lib.hid hq3
          clear hI hd hq2 hq3
          dsimp only
          dsimp only [diskVal] at d7
          rw [d7]
          go_wp2_with fail
          exact ⟨rfl, (fun h => by cases h), fun t ht => by injection ht with ht; subst ht; exact HQ.out⟩
        · intro L f w7 h0 hd hI
          have HI1 := Lib.hid hI
          clear hI hd
          dsimp only
          go_wp2_with fail
          exact ⟨rfl, (fun h => by cases h), fun t ht => by injection ht with ht; subst ht; exact HI1.out.boxed h0⟩
        · intro L f w7 h0 hd hI
          have hdn : ∀ j, j < 6 → L j = true := by
            intro j hj
            have hj2 : j = 0 ∨ j = 1 ∨ j = 2 ∨ j = 3 ∨ j = 4 ∨ j = 5 := by omega
            rcases hj2 with rfl | rfl | rfl | rfl | rfl | rfl
            · exact hd 0 (by kernel_rfl)
            · exact hd 1 (by kernel_rfl)
            · exact hd 2 (by kernel_rfl)
            · exact hd 3 (by kernel_rfl)
            · exact hd 4 (by kernel_rfl)
            · exact hd 5 (by kernel_rfl)
          obtain ⟨xb, fv', d10, d8, ⟨va, vn, vc, rfl⟩, hbx, hnx⟩ := hI.store hdn (hd 8 (by kernel_rfl)) (hd 10 (by kernel_rfl)) h0
          have HN := Lib.hid hnx
          have z0 := hbx.c0
          have z1 := hbx.c1
          have z2 := hbx.c2
          have zf := hbx.f
          clear hI hd hdn hnx hbx
          dsimp only
          dsimp only [diskVal] at d8
          rw [d8, d10]
          go_wp2_with fail
          exact ⟨rfl, fun _ v => HN.out v, fun t ht => by cases ht⟩
      · intro L f w7 hA hI
        obtain ⟨Wc, w', fv', xb, d9, d10, hbx, ⟨va, vn, vc, rfl⟩, hG, hWc, hkp⟩ := hI.ends (hA 6 (by decide)) (hA 9 (by decide)) (hA 11 (by decide))
        rw [d9, d10]
        have HI8 := Lib.hid hI.hb
        have KX := Lib.hid hbx
        have HSt := Lib.hid (StD.keep hG hkp (Nat.le_refl _))
        dsimp only at HSt KX
        have hSB : BB ≤ Wc.heap.size := Nat.le_trans HZ.out hWc
        have hxb : b0 + 1 < xb := by
          obtain ⟨xb', e1, e2, _⟩ := hI.box (hA 10 (by decide))
          rw [d10] at e1
          obtain rfl := ptr_inj e1
          exact Nat.lt_of_lt_of_le Y.out.lt e2
        clear hI hA d9 d10 hbx hG hWc hkp HCh
        generalize Wc.heap.size = SB at *
        go_upto_region 6 with fail
        generalize w7 = w5 at *
        have X5 := Lib.hid (X.out.x.below HI8.out)
        have Y5 := Lib.hid (Y.out.below HI8.out)
        have XR5 := Lib.hid (X.out.r.below HI8.out)
        have HR5 := Lib.hid (HR.out.below HI8.out)
        have HB5 := Lib.hid (bstep HB.out HI8.out)
        have HZ5 := Lib.hid (Nat.le_trans HZ.out HI8.out.size)
        clear X Y HR HB HZ
        refine wp_region_inv 12 (fun L f W => MbS 6 24 w5.heap.size w5 [eqS (.agg #[.int .i64 cc, .int .i64 cl, .slice ga gn gc]), eqS (.slice (some ⟨bb, boff, none⟩) ln lc), eqS (.int .i64 (k : Int)), eqS (.pointer (some ⟨bb, boff + k * 6, none⟩)), eqS (.agg #[.int .i64 kd, .string snm, .string sto, .int .i64 off, .slice da dl dc, .slice ka kl kc]), cutS oc] (⟨ec, el, ef⟩, er) (fun Wc w' fv' => ∃ xs', filX xs' = ef ∧ RowR Wc xs w' fv' xs') L f W) 70 (by kernel_rfl) (by kernel_rfl) (by rfl) (by kernel_rfl) (fun f => by simp [frm, dstOf, Act.put]; exact rfl) (fun f => MbS.start rfl f) ?_ ?_
        · refine ⟨?_, ?_, ?_, ?_, ?_, ?_, ?_, ?_, ?_, ?_, ?_, ?_, trivial⟩
          · intro L f w7 h0 hd hI
            have HI1 := Lib.hid hI
            have z0 := (Y5.out.below hI.hb).c0
            have z1 := (Y5.out.below hI.hb).c1
            have z2 := (Y5.out.below hI.hb).c2
            clear hI hd
            dsimp only
            go_wp2_with fail
            exact ⟨rfl, (fun h => by cases h), fun t ht => by injection ht with ht; subst ht; exact HI1.out.step (i := 0) (v := .agg #[.int .i64 cc, .int .i64 cl, .slice ga gn gc]) (by decide) h0 (Below.refl _ _) rfl⟩
          · intro L f w7 h0 hd hI
            have HI1 := Lib.hid hI
            clear hI hd
            dsimp only
            go_wp2_with fail
            exact ⟨rfl, (fun h => by cases h), fun t ht => by injection ht with ht; subst ht; exact HI1.out.step (i := 1) (v := .slice (some ⟨bb, boff, none⟩) ln lc) (by decide) h0 (Below.refl _ _) rfl⟩
          · intro L f w7 h0 hd hI
            have HI1 := Lib.hid hI
            clear hI hd
            dsimp only
            go_wp2_with fail
            exact ⟨rfl, (fun h => by cases h), fun t ht => by injection ht with ht; subst ht; exact HI1.out.step (i := 2) (v := .int .i64 (k : Int)) (by decide) h0 (Below.refl _ _) rfl⟩
          · intro L f w7 h0 hd hI
            have HI1 := Lib.hid hI
            have d1 : f 1 = .slice (some ⟨bb, boff, none⟩) ln lc := hI.had (i := 3) (j := 1) (by decide) h0 (by decide) (hd 1 (by kernel_rfl))
            have d2 : f 2 = .int .i64 (k : Int) := hI.had (i := 3) (j := 2) (by decide) h0 (by decide) (hd 2 (by kernel_rfl))
            clear hI hd
            dsimp only
            rw [d1]
            rw [d2]
            go_wp2_with fail
            exact ⟨rfl, (fun h => by cases h), fun t ht => by injection ht with ht; subst ht; exact HI1.out.step (i := 3) (v := .pointer (some ⟨bb, boff + k * 6, none⟩)) (by decide) h0 (Below.refl _ _) rfl⟩
          · intro L f w7 h0 hd hI
            have HI1 := Lib.hid hI
            have d3 : f 3 = .pointer (some ⟨bb, boff + k * 6, none⟩) := hI.had (i := 4) (j := 3) (by decide) h0 (by decide) (hd 3 (by kernel_rfl))
            obtain ⟨c0, c1, c2, c3, c4, c5⟩ := HCl.out w7 (bstep HI8.out hI.hb)
            clear hI hd
            dsimp only
            rw [d3]
            go_wp2_with fail
            exact ⟨rfl, (fun h => by cases h), fun t ht => by injection ht with ht; subst ht; exact HI1.out.step (i := 4) (v := .agg #[.int .i64 kd, .string snm, .string sto, .int .i64 off, .slice da dl dc, .slice ka kl kc]) (by decide) h0 (Below.refl _ _) rfl⟩
          · intro L f w7 h0 hd hI
            have HI1 := Lib.hid hI
            have d4 : f 4 = .agg #[.int .i64 kd, .string snm, .string sto, .int .i64 off, .slice da dl dc, .slice ka kl kc] := hI.had (i := 5) (j := 4) (by decide) h0 (by decide) (hd 4 (by kernel_rfl))
            have HC7 := Lib.hid (HCu.out w7 (bstep HI8.out hI.hb))
            clear hI hd
            dsimp only
            rw [d4]
            go_wp2_with fail
            refine HC7.out.mono ?_
            rintro e w8 ⟨da', dn', dc', ka', kn', kc', rfl, hd', hk', hb'⟩
            have HQ := Lib.hid (HI1.out.step (i := 5) (v := opVal oc (.slice da' dn' dc') (.slice ka' kn' kc')) (by decide) h0 hb' ⟨_, _, _, _, _, _, rfl, hd', hk'⟩)
            clear hd' hk' hb'
            go_wp2_with fail
            exact ⟨rfl, (fun h => by cases h), fun t ht => by injection ht with ht; subst ht; exact HQ.out⟩
          · intro L f w7 h0 hd hI
            have HI1 := Lib.hid hI
            have d0 : f 0 = .agg #[.int .i64 cc, .int .i64 cl, .slice ga gn gc] := hI.hadC (j := 0) h0 (by decide) (hd 0 (by kernel_rfl))
            obtain ⟨da', dn', dc', ka', kn', kc', d5, hd', hk'⟩ := hI.hadC (j := 5) h0 (by decide) (hd 5 (by kernel_rfl))
            have HC7 := Lib.hid (HWa.out w7 (bstep HI8.out hI.hb) _ _ hd' hk')
            clear hd' hk'
            dsimp only [opVal] at d5
            clear hI hd
            dsimp only
            rw [d0]
            rw [d5]
            go_wp2_with fail
            refine HC7.out.mono ?_
            rintro e w8 ⟨⟨fv', xs', rfl, hfs, hrow⟩, hb'⟩
            obtain ⟨oa, ok, eo, _⟩ := own_form hrow.1
            have HQ := Lib.hid (HI1.out.call hb' h0 ⟨_, _, _, eo⟩ ⟨xs', hfs, hrow⟩)
            subst eo
            clear hfs hrow hb'
            go_wp2_with fail
            exact ⟨rfl, (fun h => by cases h), fun t ht => by injection ht with ht; subst ht; exact HQ.out⟩
          · intro L f w7 h0 hd hI
            have HI1 := Lib.hid hI
            have h6 := hd 6 (by kernel_rfl)
            clear hI hd
            dsimp only
            go_wp2_with fail
            exact ⟨rfl, (fun h => by cases h), fun t ht => by injection ht with ht; subst ht; exact HI1.out.mv h6⟩
          · intro L f w7 h0 hd hI
            have h7 := hd 7 (by kernel_rfl)
            have h6 : L 6 = true := by
              cases e : L 6 with
              | true => rfl
              | false => have := (hI.d6 e).1; rw [h7] at this; cases this
            obtain ⟨fv', d7, ⟨va, vn, vc, rfl⟩, hq2, hq3⟩ := hI.ex h6 h7
            have HQ := Lib.hid hq2
            clear hI hd hq2 hq3
            dsimp only
            dsimp only [diskVal] at d7
            rw [d7]
            go_wp2_with fail
            exact ⟨rfl, (fun h => by cases h), fun t ht => by injection ht with ht; subst ht; exact HQ.out⟩
          · intro L f w7 h0 hd hI
            have h7 := hd 7 (by kernel_rfl)
            have h6 : L 6 = true := by
              cases e : L 6 with
              | true => rfl
              | false => have := (hI.d6 e).1; rw [h7] at this; cases this
            obtain ⟨fv', d7, ⟨va, vn, vc, rfl⟩, hq2, hq3⟩ := hI.ex h6 h7
            have HQ := Lib.hid hq3
            clear hI hd hq2 hq3
            dsimp only
            dsimp only [diskVal] at d7
            rw [d7]
            go_wp2_with fail
            exact ⟨rfl, (fun h => by cases h), fun t ht => by injection ht with ht; subst ht; exact HQ.out⟩
          · intro L f w7 h0 hd hI
            have HI1 := Lib.hid hI
            clear hI hd
            dsimp only
            go_wp2_with fail
            exact ⟨rfl, (fun h => by cases h), fun t ht => by injection ht with ht; subst ht; exact HI1.out.boxed h0⟩
          · intro L f w7 h0 hd hI
            have hdn : ∀ j, j < 6 → L j = true := by
              intro j hj
              have hj2 : j = 0 ∨ j = 1 ∨ j = 2 ∨ j = 3 ∨ j = 4 ∨ j = 5 := by omega
              rcases hj2 with rfl | rfl | rfl | rfl | rfl | rfl
              · exact hd 0 (by kernel_rfl)
              · exact hd 1 (by kernel_rfl)
              · exact hd 2 (by kernel_rfl)
              · exact hd 3 (by kernel_rfl)
              · exact hd 4 (by kernel_rfl)
              · exact hd 5 (by kernel_rfl)
            obtain ⟨xb, fv', d10, d8, ⟨va, vn, vc, rfl⟩, hbx, hnx⟩ := hI.store hdn (hd 8 (by kernel_rfl)) (hd 10 (by kernel_rfl)) h0
            have HN := Lib.hid hnx
            have z0 := hbx.c0
            have z1 := hbx.c1
            have z2 := hbx.c2
            have zf := hbx.f
            clear hI hd hdn hnx hbx
            dsimp only
            dsimp only [diskVal] at d8
            rw [d8, d10]
            go_wp2_with fail
            exact ⟨rfl, fun _ v => HN.out v, fun t ht => by cases ht⟩
        · intro L f w7 hA hI
          obtain ⟨Wc, w', fv', yb, d9, d10, hbx, ⟨ua, un, uc, rfl⟩, hG, hWc, hkp⟩ := hI.ends (hA 6 (by decide)) (hA 9 (by decide)) (hA 11 (by decide))
          rw [d9, d10]
          obtain ⟨xs', hfs, hrow⟩ := hG
          have HI9 := Lib.hid hI.hb
          have KY := Lib.hid hbx
          have HRn := Lib.hid (RowB.next HR5.out hrow HI9.out (Nat.le_trans HZ5.out hWc) hkp)
          have HFn := Lib.hid hfs
          dsimp only at HFn KY
          have hyb : b0 + 1 < yb := by
            obtain ⟨xb', e1, e2, _⟩ := hI.box (hA 10 (by decide))
            rw [d10] at e1
            obtain rfl := ptr_inj e1
            exact Nat.lt_of_lt_of_le Y5.out.lt e2
          clear hI hA d9 d10 hbx hrow hWc hkp hfs HWa HCu HCl
          generalize w7 = w6 at *
          have KX6 := Lib.hid (KX.out.below HI9.out)
          have HSt6 := Lib.hid (HSt.out.keep (KeepB.below HI9.out) (Nat.le_refl _))
          have X6 := Lib.hid (X5.out.below HI9.out)
          have XR6 := Lib.hid (XR5.out.below HI9.out)
          have Y6 := Lib.hid (Y5.out.below HI9.out)
          have HR6 := Lib.hid (HR5.out.below HI9.out)
          have HB6 := Lib.hid (bstep HB5.out HI9.out)
          have HZ6 := Lib.hid (Nat.le_trans HZ5.out HI9.out.size)
          clear KX HSt X5 XR5 Y5 HR5 HB5 HZ5 HI8 HI9
          have hzz : (er != er) = false := by simp
          by_cases hz : er = 0
          · subst hz
            have HVz := Lib.hid (HVn.out rfl)
            go_upto_region 10 with fail
            refine wp_region_inv 3 (fun L f W => TwL w6 b0 (.agg #[.int .i64 ec, .int .i64 el, .slice va vn vc]) (.agg #[.int .i64 ec, .int .i64 el, .slice ua un uc]) ec el (.slice va vn vc) L f W) 70 (by kernel_rfl) (by kernel_rfl) (by rfl) (by kernel_rfl) (fun f => by simp [frm, dstOf, Act.put]; exact rfl) (fun f => ⟨rfl, (fun h => by cases h), (fun h => by cases h)⟩) ?_ ?_
            · refine ⟨?_, ?_, ?_, trivial⟩
              · intro L f w7 h0 hd hI
                have HI1 := Lib.hid hI
                have hk : BoxD w7 xb ec el (.slice va vn vc) := by
                  have hD : Below w6.heap.size w6 w6.drew := below_drew (Below.refl _ _)
                  rw [hI.w]
                  split
                  · exact (KX6.out.below hD).set3 (by omega) _ _ _
                  · exact KX6.out.below hD
                have z0 := hk.c0
                have z1 := hk.c1
                have z2 := hk.c2
                clear hI hd hk
                dsimp only
                go_wp2_with fail
                exact ⟨rfl, (fun h => by cases h), fun t ht => by injection ht with ht; subst ht; exact HI1.out.l0⟩
              · intro L f w7 h0 hd hI
                have HI1 := Lib.hid hI
                have hk : BoxD w7 yb ec el (.slice ua un uc) := by
                  have hD : Below w6.heap.size w6 w6.drew := below_drew (Below.refl _ _)
                  rw [hI.w]
                  split
                  · exact (KY.out.below hD).set3 (by omega) _ _ _
                  · exact KY.out.below hD
                have z0 := hk.c0
                have z1 := hk.c1
                have z2 := hk.c2
                clear hI hd hk
                dsimp only
                go_wp2_with fail
                exact ⟨rfl, (fun h => by cases h), fun t ht => by injection ht with ht; subst ht; exact HI1.out.l1⟩
              · intro L f w7 h0 hd hI
                have d0 := hI.f0 (hd 0 (by kernel_rfl))
                obtain ⟨hw, hN⟩ := hI.st h0
                have HN := Lib.hid hN
                have hx : BoxD w7 b0 cc cl (.slice fa fn fc) := by rw [hw]; exact X6.out.below (below_drew (Below.refl _ _))
                have z0 := hx.c0
                have z1 := hx.c1
                have z2 := hx.c2
                have zf := hx.f
                clear hI hd hN hx hw
                dsimp only
                rw [d0]
                go_wp2_with fail
                exact ⟨rfl, fun _ v => HN.out v, fun t ht => by cases ht⟩
            · intro L f w7 hA hI
              have d1 := hI.f1 (hA 1 (by decide))
              have hw := hI.w
              rw [if_pos (hA 2 (by decide))] at hw
              obtain ⟨hh, hy⟩ := HiS.both X6.out Y6.out HSt6.out HRn.out HFn.out HB6.out HZ6.out hb0 (by omega) hSB hw
              have HH := Lib.hid hh
              clear hh hw
              have z0 := hy.c0
              have z1 := hy.c1
              have z2 := hy.c2
              have zf := hy.f
              rw [d1]
              clear hI hA d1 hy KX6 KY HSt6 X6 XR6 Y6 HR6 HB6 HZ6 HRn HFn HF HV HS HVn
              go_upto_region 11 with fail
              clear z0 z1 z2 zf
              generalize ((w7.setCell ⟨b0 + 1, 0, none⟩ (.int .i64 ec)).setCell ⟨b0 + 1, 1, none⟩ (.int .i64 el)).setCell ⟨b0 + 1, 2, none⟩ (.slice ua un uc) = W9 at *
              have HLi := Lib.hid (HVz.out.lite HSn.out (by omega))
              have HTo := Lib.hid (fun W (h : Below W9.heap.size W9 W) => told_any ⟨ec, el, ef⟩ _ W (HH.out.x.r.below h) HLi.out.len (fun f hf => by have := (HSn.out.pend f hf); omega))
              have HSa := Lib.hid (fun W v1 (hW : Below W9.heap.size W9 W) (h1 : RdF W v1 ef) => rsame_any ec el ef v1 _ W h1 ((HH.out.row.rdF HH.out.fil).below hW) (by have := HLi.out.len; dsimp only at this; omega) (fun j hj => by have := HSn.out.pend _ (atN_mem hj); dsimp only at this; omega))
              have HdV := Lib.hid (show ∀ W, Below W9.heap.size W9 W → _ from fun W (hW : Below W9.heap.size W9 W) => dvalid_any ec el _ ef W (HH.out.x.r.below hW) HLi.out.fs)
              rw [(validD_iff _).2 HVz.out] at HdV
              dsimp only [diskVal] at HTo HSa HdV
              clear HLi
              refine wp_region_relz [eqS (.agg #[.int .i64 ec, .int .i64 el, .slice va vn vc]), dvS ec el ef, eqS (.agg #[.int .i64 ec, .int .i64 el, .slice ua un uc]), eqS (.bool true), eqS (.bool false), eqS (.bool false), eqS (.agg #[.int .i64 ec, .int .i64 el, .slice va vn vc]), eqS (.bool true), eqS (.bool false), eqS (.bool false)] 70 (by kernel_rfl) (by kernel_rfl) (by kernel_rfl) (by rfl) (by kernel_rfl) (fun f => by simp [frm, dstOf, Act.put]; exact rfl) ?_ ?_
              · refine ⟨?_, ?_, ?_, ?_, ?_, ?_, ?_, ?_, ?_, ?_, trivial⟩
                · intro f w1 hb hd
                  clear hd
                  dsimp only
                  have z0 := (HH.out.x.below hb).x.c0
                  have z1 := (HH.out.x.below hb).x.c1
                  have z2 := (HH.out.x.below hb).x.c2
                  go_wp2_with fail
                  exact ⟨rfl, Below.refl _ _, fun t ht => by injection ht with ht; subst ht; exact ⟨rfl, fun h => by simp at h⟩⟩
                · intro f w1 hb hd
                  have d0 : f 0 = .agg #[.int .i64 ec, .int .i64 el, .slice va vn vc] := hd 0 (by kernel_rfl)
                  clear hd
                  dsimp only
                  rw [d0]
                  go_wp2_with fail
                  refine (HTo.out w1 hb).mono ?_
                  rintro e w2 ⟨fv', rfl, hr', hbe⟩
                  obtain ⟨q1, q2, q3, _⟩ := hr'.shape
                  have HR9 := Lib.hid hr'
                  clear hr'
                  subst q3
                  go_wp2_with fail
                  exact ⟨rfl, hbe, fun t ht => by injection ht with ht; subst ht; exact ⟨⟨_, rfl, HR9.out⟩, fun h => by simp at h⟩⟩
                · intro f w1 hb hd
                  clear hd
                  dsimp only
                  have z0 := (HH.out.y.below hb).c0
                  have z1 := (HH.out.y.below hb).c1
                  have z2 := (HH.out.y.below hb).c2
                  go_wp2_with fail
                  exact ⟨rfl, Below.refl _ _, fun t ht => by injection ht with ht; subst ht; exact ⟨rfl, fun h => by simp at h⟩⟩
                · intro f w1 hb hd
                  have d1 := hd 1 (by kernel_rfl)
                  obtain ⟨vg, eg, rg⟩ : ∃ fv', f 1 = .agg #[.int .i64 ec, .int .i64 el, fv'] ∧ RdF w1 fv' ef := d1
                  obtain ⟨ag, kg, ug, _⟩ := rg.shape
                  subst ug
                  have d2 : f 2 = .agg #[.int .i64 ec, .int .i64 el, .slice ua un uc] := hd 2 (by kernel_rfl)
                  clear hd
                  dsimp only
                  rw [d2]
                  rw [eg]
                  go_wp2_with fail
                  refine (HSa.out w1 _ hb rg).mono ?_
                  rintro e w2 ⟨rfl, hbe⟩
                  go_wp2_with fail
                  exact ⟨rfl, hbe, fun t ht => by injection ht with ht; subst ht; exact ⟨rfl, fun h => by simp at h⟩⟩
                · intro f w1 hb hd
                  have d3 := hd 3 (by kernel_rfl)
                  have d3 : f 3 = .bool true := d3
                  clear hd
                  dsimp only
                  rw [d3]
                  go_wp2_with fail
                  exact ⟨rfl, Below.refl _ _, fun t ht => by injection ht with ht; subst ht; exact ⟨rfl, fun h => by simp at h⟩⟩
                · intro f w1 hb hd
                  have d4 := hd 4 (by kernel_rfl)
                  have d4 : f 4 = .bool false := d4
                  clear hd
                  dsimp only
                  rw [d4]
                  go_wp2_with fail
                  exact ⟨rfl, Below.refl _ _, fun t ht => by injection ht with ht; subst ht; exact ⟨rfl, fun h => by simp at h⟩⟩
                · intro f w1 hb hd
                  have d5 := hd 5 (by kernel_rfl)
                  have d5 : f 5 = .bool false := d5
                  clear hd
                  dsimp only
                  rw [d5]
                  have z0 := (HH.out.x.below hb).x.c0
                  have z1 := (HH.out.x.below hb).x.c1
                  have z2 := (HH.out.x.below hb).x.c2
                  go_wp2_with fail
                  exact ⟨rfl, Below.refl _ _, fun t ht => by injection ht with ht; subst ht; exact ⟨rfl, fun h => by simp at h⟩⟩
                · intro f w1 hb hd
                  have d5 := hd 5 (by kernel_rfl)
                  have d5 : f 5 = .bool false := d5
                  have d6 : f 6 = .agg #[.int .i64 ec, .int .i64 el, .slice va vn vc] := hd 6 (by kernel_rfl)
                  clear hd
                  dsimp only
                  rw [d6]
                  rw [d5]
                  go_wp2_with fail
                  refine (HdV.out w1 hb).mono ?_
                  rintro e w2 ⟨rfl, hbe⟩
                  go_wp2_with fail
                  exact ⟨rfl, hbe, fun t ht => by injection ht with ht; subst ht; exact ⟨rfl, fun h => by simp at h⟩⟩
                · intro f w1 hb hd
                  have d5 := hd 5 (by kernel_rfl)
                  have d5 : f 5 = .bool false := d5
                  have d7 := hd 7 (by kernel_rfl)
                  have d7 : f 7 = .bool true := d7
                  clear hd
                  dsimp only
                  rw [d5, d7]
                  go_wp2_with fail
                  exact ⟨rfl, Below.refl _ _, fun t ht => by injection ht with ht; subst ht; exact ⟨rfl, fun h => by simp at h⟩⟩
                · intro f w1 hb hd
                  have d5 := hd 5 (by kernel_rfl)
                  have d5 : f 5 = .bool false := d5
                  have d8 := hd 8 (by kernel_rfl)
                  have d8 : f 8 = .bool false := d8
                  clear hd
                  dsimp only
                  rw [d5, d8]
                  go_wp2_with fail
                  exact ⟨rfl, Below.refl _ _, fun t ht => by injection ht with ht; subst ht; exact ⟨rfl, fun h => by simp at h⟩⟩
              · intro f w1 hb hA
                have d0 : f 0 = .agg #[.int .i64 ec, .int .i64 el, .slice va vn vc] := hA 0 (show 0 < 10 by decide)
                have d1 := hA 1 (show 1 < 10 by decide)
                have d2 : f 2 = .agg #[.int .i64 ec, .int .i64 el, .slice ua un uc] := hA 2 (show 2 < 10 by decide)
                have d3 := hA 3 (show 3 < 10 by decide)
                have d4 := hA 4 (show 4 < 10 by decide)
                have d5 := hA 5 (show 5 < 10 by decide)
                have d6 : f 6 = .agg #[.int .i64 ec, .int .i64 el, .slice va vn vc] := hA 6 (show 6 < 10 by decide)
                have d7 := hA 7 (show 7 < 10 by decide)
                have d8 := hA 8 (show 8 < 10 by decide)
                have d9 := hA 9 (show 9 < 10 by decide)
                clear hA
                try dsimp only at *
                rw [d0]
                rw [d2]
                rw [d6]
                clear d0 d2 d6
                have d5 : f 5 = .bool false := d5
                have d9 : f 9 = .bool false := d9
                rw [d5, d9]
                have HBe := Lib.hid hb
                clear d1 d3 d4 d7 d8 hb HTo HSa HdV
                go_wp2_with fail
                exact ⟨⟨k + 1, ⟨ec, el, ef⟩, _, _, _, _, _, by go_num, by omega, by omega, HVz, HSn, Lib.hid (HH.out.below HBe.out)⟩, by simp [intOf]; omega⟩
          · have hz1 : (er == 0) = false := beq_eq_false_iff_ne.2 hz
            have HVz := HV
            have HSz := Lib.hid (HS.out.more (Nat.le_succ k))
            have HH := Lib.hid (show HiS w b0 BB ⟨cc, cl, fl⟩ (.slice fa fn fc) (.slice ga gn gc) xs w6 from ⟨⟨X6.out, XR6.out⟩, Y6.out, HR6.out, HF.out, HB6.out, HZ6.out⟩)
            clear HVn HSn HV HS KX6 KY HSt6 X6 XR6 Y6 HR6 HB6 HZ6 HRn HFn HF
            go_upto_region 11 with fail
            have HLi := Lib.hid (HVz.out.lite HSz.out (by omega))
            have HTo := Lib.hid (fun W (h : Below w6.heap.size w6 W) => told_any ⟨cc, cl, fl⟩ _ W (HH.out.x.r.below h) HLi.out.len (fun f hf => by have := (HSz.out.pend f hf); omega))
            have HSa := Lib.hid (fun W v1 (hW : Below w6.heap.size w6 W) (h1 : RdF W v1 fl) => rsame_any cc cl fl v1 _ W h1 ((HH.out.row.rdF HH.out.fil).below hW) (by have := HLi.out.len; dsimp only at this; omega) (fun j hj => by have := HSz.out.pend _ (atN_mem hj); dsimp only at this; omega))
            have HdV := Lib.hid (show ∀ W, Below w6.heap.size w6 W → _ from fun W (hW : Below w6.heap.size w6 W) => dvalid_any cc cl _ fl W (HH.out.x.r.below hW) HLi.out.fs)
            rw [(validD_iff _).2 HVz.out] at HdV
            dsimp only [diskVal] at HTo HSa HdV
            clear HLi
            refine wp_region_relz [eqS (.agg #[.int .i64 cc, .int .i64 cl, .slice fa fn fc]), dvS cc cl fl, eqS (.agg #[.int .i64 cc, .int .i64 cl, .slice ga gn gc]), eqS (.bool true), eqS (.bool false), eqS (.bool false), eqS (.agg #[.int .i64 cc, .int .i64 cl, .slice fa fn fc]), eqS (.bool true), eqS (.bool false), eqS (.bool false)] 70 (by kernel_rfl) (by kernel_rfl) (by kernel_rfl) (by rfl) (by kernel_rfl) (fun f => by simp [frm, dstOf, Act.put]; exact rfl) ?_ ?_
            · refine ⟨?_, ?_, ?_, ?_, ?_, ?_, ?_, ?_, ?_, ?_, trivial⟩
              · intro f w1 hb hd
                clear hd
                dsimp only
                have z0 := (HH.out.x.below hb).x.c0
                have z1 := (HH.out.x.below hb).x.c1
                have z2 := (HH.out.x.below hb).x.c2
                go_wp2_with fail
                exact ⟨rfl, Below.refl _ _, fun t ht => by injection ht with ht; subst ht; exact ⟨rfl, fun h => by simp at h⟩⟩
              · intro f w1 hb hd
                have d0 : f 0 = .agg #[.int .i64 cc, .int .i64 cl, .slice fa fn fc] := hd 0 (by kernel_rfl)
                clear hd
                dsimp only
                rw [d0]
                go_wp2_with fail
                refine (HTo.out w1 hb).mono ?_
                rintro e w2 ⟨fv', rfl, hr', hbe⟩
                obtain ⟨q1, q2, q3, _⟩ := hr'.shape
                have HR9 := Lib.hid hr'
                clear hr'
                subst q3
                go_wp2_with fail
                exact ⟨rfl, hbe, fun t ht => by injection ht with ht; subst ht; exact ⟨⟨_, rfl, HR9.out⟩, fun h => by simp at h⟩⟩
              · intro f w1 hb hd
                clear hd
                dsimp only
                have z0 := (HH.out.y.below hb).c0
                have z1 := (HH.out.y.below hb).c1
                have z2 := (HH.out.y.below hb).c2
                go_wp2_with fail
                exact ⟨rfl, Below.refl _ _, fun t ht => by injection ht with ht; subst ht; exact ⟨rfl, fun h => by simp at h⟩⟩
              · intro f w1 hb hd
                have d1 := hd 1 (by kernel_rfl)
                obtain ⟨vg, eg, rg⟩ : ∃ fv', f 1 = .agg #[.int .i64 cc, .int .i64 cl, fv'] ∧ RdF w1 fv' fl := d1
                obtain ⟨ag, kg, ug, _⟩ := rg.shape
                subst ug
                have d2 : f 2 = .agg #[.int .i64 cc, .int .i64 cl, .slice ga gn gc] := hd 2 (by kernel_rfl)
                clear hd
                dsimp only
                rw [d2]
                rw [eg]
                go_wp2_with fail
                refine (HSa.out w1 _ hb rg).mono ?_
                rintro e w2 ⟨rfl, hbe⟩
                go_wp2_with fail
                exact ⟨rfl, hbe, fun t ht => by injection ht with ht; subst ht; exact ⟨rfl, fun h => by simp at h⟩⟩
              · intro f w1 hb hd
                have d3 := hd 3 (by kernel_rfl)
                have d3 : f 3 = .bool true := d3
                clear hd
                dsimp only
                rw [d3]
                go_wp2_with fail
                exact ⟨rfl, Below.refl _ _, fun t ht => by injection ht with ht; subst ht; exact ⟨rfl, fun h => by simp at h⟩⟩
              · intro f w1 hb hd
                have d4 := hd 4 (by kernel_rfl)
                have d4 : f 4 = .bool false := d4
                clear hd
                dsimp only
                rw [d4]
                go_wp2_with fail
                exact ⟨rfl, Below.refl _ _, fun t ht => by injection ht with ht; subst ht; exact ⟨rfl, fun h => by simp at h⟩⟩
              · intro f w1 hb hd
                have d5 := hd 5 (by kernel_rfl)
                have d5 : f 5 = .bool false := d5
                clear hd
                dsimp only
                rw [d5]
                have z0 := (HH.out.x.below hb).x.c0
                have z1 := (HH.out.x.below hb).x.c1
                have z2 := (HH.out.x.below hb).x.c2
                go_wp2_with fail
                exact ⟨rfl, Below.refl _ _, fun t ht => by injection ht with ht; subst ht; exact ⟨rfl, fun h => by simp at h⟩⟩
              · intro f w1 hb hd
                have d5 := hd 5 (by kernel_rfl)
                have d5 : f 5 = .bool false := d5
                have d6 : f 6 = .agg #[.int .i64 cc, .int .i64 cl, .slice fa fn fc] := hd 6 (by kernel_rfl)
                clear hd
                dsimp only
                rw [d6]
                rw [d5]
                go_wp2_with fail
                refine (HdV.out w1 hb).mono ?_
                rintro e w2 ⟨rfl, hbe⟩
                go_wp2_with fail
                exact ⟨rfl, hbe, fun t ht => by injection ht with ht; subst ht; exact ⟨rfl, fun h => by simp at h⟩⟩
              · intro f w1 hb hd
                have d5 := hd 5 (by kernel_rfl)
                have d5 : f 5 = .bool false := d5
                have d7 := hd 7 (by kernel_rfl)
                have d7 : f 7 = .bool true := d7
                clear hd
                dsimp only
                rw [d5, d7]
                go_wp2_with fail
                exact ⟨rfl, Below.refl _ _, fun t ht => by injection ht with ht; subst ht; exact ⟨rfl, fun h => by simp at h⟩⟩
              · intro f w1 hb hd
                have d5 := hd 5 (by kernel_rfl)
                have d5 : f 5 = .bool false := d5
                have d8 := hd 8 (by kernel_rfl)
                have d8 : f 8 = .bool false := d8
                clear hd
                dsimp only
                rw [d5, d8]
                go_wp2_with fail
                exact ⟨rfl, Below.refl _ _, fun t ht => by injection ht with ht; subst ht; exact ⟨rfl, fun h => by simp at h⟩⟩
            · intro f w1 hb hA
              have d0 : f 0 = .agg #[.int .i64 cc, .int .i64 cl, .slice fa fn fc] := hA 0 (show 0 < 10 by decide)
              have d1 := hA 1 (show 1 < 10 by decide)
              have d2 : f 2 = .agg #[.int .i64 cc, .int .i64 cl, .slice ga gn gc] := hA 2 (show 2 < 10 by decide)
              have d3 := hA 3 (show 3 < 10 by decide)
              have d4 := hA 4 (show 4 < 10 by decide)
              have d5 := hA 5 (show 5 < 10 by decide)
              have d6 : f 6 = .agg #[.int .i64 cc, .int .i64 cl, .slice fa fn fc] := hA 6 (show 6 < 10 by decide)
              have d7 := hA 7 (show 7 < 10 by decide)
              have d8 := hA 8 (show 8 < 10 by decide)
              have d9 := hA 9 (show 9 < 10 by decide)
              clear hA
              try dsimp only at *
              rw [d0]
              rw [d2]
              rw [d6]
              clear d0 d2 d6
              have d5 : f 5 = .bool false := d5
              have d9 : f 9 = .bool false := d9
              rw [d5, d9]
              have HBe := Lib.hid hb
              clear d1 d3 d4 d7 d8 hb HTo HSa HdV
              go_wp2_with fail
              exact ⟨⟨k + 1, ⟨cc, cl, fl⟩, _, _, _, _, _, by go_num, by omega, by omega, HVz, HSz, Lib.hid (HH.out.below HBe.out)⟩, by simp [intOf]; omega⟩
    · by_cases hl2 : k < ln
      · have i1 : (k : Int) < (ln : Int) := by omega
        have i2 : ¬ (k : Int) < 20 := by omega
        clear hlt
        go_wp2_with fail
        refine (awake_any _).mono ?_
        rintro e w15 ⟨rfl, hb15⟩
        have HB15 := Lib.hid (bstep HB.out hb15)
        clear hb15
        go_wp2_with fail
        go_ret
        exact ⟨rfl, HB15.out⟩
      · have i1 : ¬ (k : Int) < (ln : Int) := by omega
        clear hlt
        go_wp2_with fail
        refine (awake_any _).mono ?_
        rintro e w15 ⟨rfl, hb15⟩
        have HB15 := Lib.hid (bstep HB.out hb15)
        clear hb15
        go_wp2_with fail
        go_ret
        exact ⟨rfl, HB15.out⟩
theorem hist_walk (limit left : Int) (a : Option Addr) (n cap : Nat) (w : World) (h1 : (Lit.int .i64 limit).wf = true) (h2 : (Lit.int .i64 left).wf = true) (h : ∃ l, RdO w (.slice a n cap) l) :
    Calls Tryd.prog 11 #[.int .i64 limit, .int .i64 left, .slice a n cap] w fun e w' => e = .returned (.bool true) ∧ Below w.heap.size w w' := by
  obtain ⟨l, hl⟩ := h
  exact hist_go limit left _ l w hl (bounds_of_i64 h1) (bounds_of_i64 h2)
end Go.Proofs.YtkabcpmnbjllcaaDoor
