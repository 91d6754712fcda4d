/- Several texts in one, each over the last: What holds in a region `x, e := f(..)` that draws its order: the call c, the move and the two extracts behind it, the box (c + 4) and its store (c + 5). DiskOps: the walk. Printed by mkDhc.py. -/
import Derived.Test.YtkabcpmnbjllcaaDoorDru
import Derived.Test.YtkabcpmnbjllcaaDoorKM
import Derived.Test.YtkabcpmnbjllcaaDoorKG
import Derived.Test.YtkabcpmnbjllcaaDoorKH
import Derived.Test.YtkabcpmnbjllcaaDoorDcu
namespace Go.Proofs.YtkabcpmnbjllcaaDoor
open Go.RowKit

/-- A disk. -/
def dvS (c lf : Int) (fl : List Fil) : Sta := ⟨fun v w => ∃ fv', v = diskVal c lf fv' ∧ RdF w fv' fl, fun _ _ _ hb ⟨fv', e, h⟩ => ⟨fv', e, h.below hb⟩⟩
theorem RefDk.rd {w w' : World} {xs : List FX} {x : Dk} {e : Ending} (h : RefDk w xs x e w') (hx : PartsX w xs) : ∃ fv, e = .returned (diskVal x.cap x.left fv) ∧ RdF w' fv x.files ∧ Below w.heap.size w w' := by
  obtain ⟨⟨fv, xs', e1, e2, e3⟩, e4⟩ := h
  exact ⟨fv, e1, ⟨feX xs', by rw [feX_fst, e2], e3.rd (KeepB.refl _ _) (hx.below e4)⟩, e4⟩
theorem StD.rdf {B : Nat} {W : World} {c l : Int} {fv : Value} {d : Dk} (h : StD B W (diskVal c l fv) d) : RdF W fv d.files := by
  obtain ⟨fv', e, hf⟩ := h.rd
  injection e with e
  have e2 := congrArg (fun a : Array Value => a.toList) e
  simp at e2
  rw [e2.2.2]
  exact hf
structure MbS (c : Nat) (T : TypeId) (B0 : Nat) (w6 : World) (S : List Sta) (RS : Dk × Int) (G : World → World → Value → Prop) (L : Nat → Bool) (f : Nat → Value) (W : World) : Prop where
  hb : Below B0 w6 W
  sz : B0 ≤ W.heap.size
  pre : ∀ j, j < c → L j = true → L (c + 5) = false → (stA S j).p (f j) W
  res : L c = true → ∃ Wc w' fv', f c = .tuple #[diskVal RS.1.cap RS.1.left fv', .int .i64 RS.2] ∧ (∃ a n k, fv' = .slice a n k) ∧ G Wc w' fv' ∧ B0 ≤ Wc.heap.size ∧ KeepB Wc.heap.size w' W ∧
    (L (c + 4) = true → ∀ xb, f (c + 4) = .pointer (some ⟨xb, 0, none⟩) → xb < Wc.heap.size ∨ w'.heap.size ≤ xb) ∧ (L (c + 1) = true → f (c + 1) = f c) ∧ (L (c + 2) = true → f (c + 2) = diskVal RS.1.cap RS.1.left fv') ∧ (L (c + 3) = true → f (c + 3) = .int .i64 RS.2) ∧
    (L (c + 5) = true → ∃ xb, f (c + 4) = .pointer (some ⟨xb, 0, none⟩) ∧ BoxD W xb RS.1.cap RS.1.left fv')
  d5 : L (c + 5) = true → (∀ j, j < c → L j = true) ∧ L c = true ∧ L (c + 4) = true
  d6 : L c = false → L (c + 1) = false ∧ L (c + 2) = false ∧ L (c + 3) = false
  box : L (c + 4) = true → ∃ xb, f (c + 4) = .pointer (some ⟨xb, 0, none⟩) ∧ B0 ≤ xb ∧ (L (c + 5) = false → BoxD W xb 0 0 (.slice none 0 0))
section
variable {c : Nat} {T : TypeId} {B0 : Nat} {w6 W W' : World} {S : List Sta} {RS : Dk × Int} {G : World → World → Value → Prop} {L : Nat → Bool} {f : Nat → Value}
theorem MbS.start (hs : B0 = w6.heap.size) (f : Nat → Value) : MbS c T B0 w6 S RS G (fun _ => false) f w6.drew := by
  subst hs
  exact ⟨below_drew (Below.refl _ _), Nat.le_refl _, (fun _ _ h => by cases h), (fun h => by cases h), (fun h => by cases h), (fun _ => ⟨rfl, rfl, rfl⟩), fun h => by cases h⟩
theorem MbS.n5 (h : MbS c T B0 w6 S RS G L f W) {i : Nat} (hi : i < c) (h0 : L i = false) : L (c + 5) = false := by
  cases e : L (c + 5) with
  | false => rfl
  | true => have := (h.d5 e).1 i hi; rw [h0] at this; cases this
/-- What an operation before the call has left. -/
theorem MbS.had (h : MbS c T B0 w6 S RS G L f W) {i j : Nat} (hi : i < c) (h0 : L i = false) (hj : j < c) (hd : L j = true) : (stA S j).p (f j) W := h.pre j hj hd (h.n5 hi h0)
/-- An operation before the call. -/
theorem MbS.step (h : MbS c T B0 w6 S RS G L f W) {i : Nat} (hi : i < c) (h0 : L i = false) (hW : Below W.heap.size W W') {v : Value} (hv : (stA S i).p v W') : MbS c T B0 w6 S RS G (onL L i) (updF f i v) W' := by
  have hL : ∀ j, c ≤ j → onL L i j = L j := fun j hj => onR_ne (by omega)
  have hf : ∀ j, c ≤ j → updF f i v j = f j := fun j hj => upR_ne (by omega)
  have n5 := h.n5 hi h0
  refine ⟨h.hb.trans (hW.mono h.sz), Nat.le_trans h.sz hW.size, fun j hj hd h5 => ?_, ?_, ?_, ?_, ?_⟩
  · by_cases e : j = i
    · subst e; rw [upR_eq]; exact hv
    · rw [upR_ne e]; rw [onR_ne e] at hd; exact (stA S j).m _ _ _ hW (h.pre j hj hd n5)
  · rw [hL c (by omega), hL (c + 1) (by omega), hL (c + 2) (by omega), hL (c + 3) (by omega), hL (c + 4) (by omega), hL (c + 5) (by omega), hf c (by omega), hf (c + 1) (by omega), hf (c + 2) (by omega), hf (c + 3) (by omega), hf (c + 4) (by omega)]
    intro e
    obtain ⟨Wc, w', fv', e1, e2, e3, e4, e5, e6, e7, e8, e9, e10⟩ := h.res e
    exact ⟨Wc, w', fv', e1, e2, e3, e4, e5.trans (KeepB.below hW), e6, e7, e8, e9, fun e => (e10 e).imp fun xb hx => ⟨hx.1, hx.2.below hW⟩⟩
  · rw [hL (c + 5) (by omega), n5]; intro e; cases e
  · rw [hL c (by omega), hL (c + 1) (by omega), hL (c + 2) (by omega), hL (c + 3) (by omega)]; exact h.d6
  · rw [hL (c + 4) (by omega), hL (c + 5) (by omega), hf (c + 4) (by omega)]
    intro e
    obtain ⟨xb, e1, e2, e3⟩ := h.box e
    exact ⟨xb, e1, e2, fun e => (e3 e).below hW⟩
theorem MbS.call (h : MbS c T B0 w6 S RS G L f W) (hW : Below W.heap.size W W') (h6 : L c = false) {fv' : Value} (hsl : ∃ a n k, fv' = .slice a n k) (hg : G W W' fv') : MbS c T B0 w6 S RS G (onL L c) (updF f c (.tuple #[diskVal RS.1.cap RS.1.left fv', .int .i64 RS.2])) W' := by
  obtain ⟨n7, n8, n9⟩ := h.d6 h6
  have n11 : L (c + 5) = false := by
    cases e : L (c + 5) with
    | false => rfl
    | true => have := (h.d5 e).2.1; rw [h6] at this; cases this
  refine ⟨h.hb.trans (hW.mono h.sz), Nat.le_trans h.sz hW.size, fun j hj hd h5 => ?_, fun _ => ⟨W, W', fv', upR_eq .., hsl, hg, h.sz, KeepB.refl _ _, ?_, ?_, ?_, ?_, ?_⟩, ?_, ?_, ?_⟩
  · rw [upR_ne (by omega)]; rw [onR_ne (by omega)] at hd; exact (stA S j).m _ _ _ hW (h.pre j hj hd n11)
  · rw [onR_ne (by omega), upR_ne (by omega)]
    intro e xb hx
    obtain ⟨xb', e1, _, e3⟩ := h.box e
    rw [e1] at hx
    obtain rfl := ptr_inj hx
    exact .inl (e3 n11).lt
  · rw [onR_ne (by omega), n7]; intro e; cases e
  · rw [onR_ne (by omega), n8]; intro e; cases e
  · rw [onR_ne (by omega), n9]; intro e; cases e
  · rw [onR_ne (by omega), n11]; intro e; cases e
  · rw [onR_ne (by omega), n11]; intro e; cases e
  · rw [onR_eq]; intro e; cases e
  · rw [onR_ne (by omega), onR_ne (by omega), upR_ne (by omega)]
    intro e
    obtain ⟨xb, e1, e2, e3⟩ := h.box e
    exact ⟨xb, e1, e2, fun e => (e3 e).below hW⟩
theorem MbS.mv (h : MbS c T B0 w6 S RS G L f W) (h6 : L c = true) : MbS c T B0 w6 S RS G (onL L (c + 1)) (updF f (c + 1) (f c)) W := by
  refine ⟨h.hb, h.sz, fun j hj hd h5 => ?_, ?_, ?_, ?_, ?_⟩
  · rw [upR_ne (by omega)]; rw [onR_ne (by omega)] at hd h5; exact h.pre j hj hd h5
  · rw [onR_ne (i := c + 1) (j := c) (by omega), onR_ne (i := c + 1) (j := c + 4) (by omega), onR_eq, onR_ne (i := c + 1) (j := c + 2) (by omega), onR_ne (i := c + 1) (j := c + 3) (by omega), onR_ne (i := c + 1) (j := c + 5) (by omega), upR_ne (i := c + 1) (j := c) (by omega), upR_ne (i := c + 1) (j := c + 4) (by omega), upR_eq, upR_ne (i := c + 1) (j := c + 2) (by omega), upR_ne (i := c + 1) (j := c + 3) (by omega)]
    intro e
    obtain ⟨Wc, w', fv', e1, e2, e3, e4, e5, e6, _, e8⟩ := h.res e
    exact ⟨Wc, w', fv', e1, e2, e3, e4, e5, e6, fun _ => rfl, e8⟩
  · rw [onR_ne (i := c + 1) (j := c + 5) (by omega), onR_ne (i := c + 1) (j := c) (by omega), onR_ne (i := c + 1) (j := c + 4) (by omega)]
    intro e
    exact ⟨fun j hj => (onR_ne (by omega)).trans ((h.d5 e).1 j hj), (h.d5 e).2⟩
  · rw [onR_ne (by omega)]; intro e; rw [h6] at e; cases e
  · rw [onR_ne (by omega), onR_ne (by omega), upR_ne (by omega)]; exact h.box
theorem MbS.ex (h : MbS c T B0 w6 S RS G L f W) (h6 : L c = true) (h7 : L (c + 1) = true) : ∃ fv', f (c + 1) = .tuple #[diskVal RS.1.cap RS.1.left fv', .int .i64 RS.2] ∧ (∃ a n k, fv' = .slice a n k) ∧
    MbS c T B0 w6 S RS G (onL L (c + 2)) (updF f (c + 2) (diskVal RS.1.cap RS.1.left fv')) W ∧ MbS c T B0 w6 S RS G (onL L (c + 3)) (updF f (c + 3) (.int .i64 RS.2)) W := by
  obtain ⟨Wc, w', fv', e1, e2, e3, e4, e5, e6, e7, e8, e9, e10⟩ := h.res h6
  refine ⟨fv', (e7 h7).trans e1, e2, ?_, ?_⟩
  · refine ⟨h.hb, h.sz, fun j hj hd h5 => ?_, ?_, ?_, ?_, ?_⟩
    · rw [upR_ne (by omega)]; rw [onR_ne (by omega)] at hd h5; exact h.pre j hj hd h5
    · rw [onR_ne (i := c + 2) (j := c) (by omega), onR_ne (i := c + 2) (j := c + 4) (by omega), onR_ne (i := c + 2) (j := c + 1) (by omega), onR_eq, onR_ne (i := c + 2) (j := c + 3) (by omega), onR_ne (i := c + 2) (j := c + 5) (by omega), upR_ne (i := c + 2) (j := c) (by omega), upR_ne (i := c + 2) (j := c + 4) (by omega), upR_ne (i := c + 2) (j := c + 1) (by omega), upR_eq, upR_ne (i := c + 2) (j := c + 3) (by omega)]
      intro _
      exact ⟨Wc, w', fv', e1, e2, e3, e4, e5, e6, e7, fun _ => rfl, e9, e10⟩
    · rw [onR_ne (i := c + 2) (j := c + 5) (by omega), onR_ne (i := c + 2) (j := c) (by omega), onR_ne (i := c + 2) (j := c + 4) (by omega)]
      intro e
      exact ⟨fun j hj => (onR_ne (by omega)).trans ((h.d5 e).1 j hj), (h.d5 e).2⟩
    · rw [onR_ne (by omega)]; intro e; rw [h6] at e; cases e
    · rw [onR_ne (by omega), onR_ne (by omega), upR_ne (by omega)]; exact h.box
  · refine ⟨h.hb, h.sz, fun j hj hd h5 => ?_, ?_, ?_, ?_, ?_⟩
    · rw [upR_ne (by omega)]; rw [onR_ne (by omega)] at hd h5; exact h.pre j hj hd h5
    · rw [onR_ne (i := c + 3) (j := c) (by omega), onR_ne (i := c + 3) (j := c + 4) (by omega), onR_ne (i := c + 3) (j := c + 1) (by omega), onR_ne (i := c + 3) (j := c + 2) (by omega), onR_eq, onR_ne (i := c + 3) (j := c + 5) (by omega), upR_ne (i := c + 3) (j := c) (by omega), upR_ne (i := c + 3) (j := c + 4) (by omega), upR_ne (i := c + 3) (j := c + 1) (by omega), upR_ne (i := c + 3) (j := c + 2) (by omega), upR_eq]
      intro _
      exact ⟨Wc, w', fv', e1, e2, e3, e4, e5, e6, e7, e8, fun _ => rfl, e10⟩
    · rw [onR_ne (i := c + 3) (j := c + 5) (by omega), onR_ne (i := c + 3) (j := c) (by omega), onR_ne (i := c + 3) (j := c + 4) (by omega)]
      intro e
      exact ⟨fun j hj => (onR_ne (by omega)).trans ((h.d5 e).1 j hj), (h.d5 e).2⟩
    · rw [onR_ne (by omega)]; intro e; rw [h6] at e; cases e
    · rw [onR_ne (by omega), onR_ne (by omega), upR_ne (by omega)]; exact h.box
theorem MbS.boxed (h : MbS c T B0 w6 S RS G L f W) (h10 : L (c + 4) = false) : MbS c T B0 w6 S RS G (onL L (c + 4)) (updF f (c + 4) (.pointer (some ⟨W.heap.size, 0, none⟩))) (W.alloc (.cells #[.int .i64 0, .int .i64 0, .slice none 0 0] T)) := by
  have hA := (Below.refl W.heap.size W).alloc (Nat.le_refl _) (.cells #[.int .i64 0, .int .i64 0, .slice none 0 0] T)
  have n11 : L (c + 5) = false := by
    cases e : L (c + 5) with
    | false => rfl
    | true => have := (h.d5 e).2.2; rw [h10] at this; cases this
  refine ⟨h.hb.alloc h.sz _, Nat.le_trans h.sz hA.size, fun j hj hd h5 => ?_, ?_, ?_, ?_, fun _ => ⟨W.heap.size, upR_eq .., h.sz, fun _ => BoxD.new W 0 0 (.slice none 0 0) T⟩⟩
  · rw [upR_ne (by omega)]; rw [onR_ne (by omega)] at hd; exact (stA S j).m _ _ _ hA (h.pre j hj hd n11)
  · rw [onR_ne (i := c + 4) (j := c) (by omega), onR_eq, onR_ne (i := c + 4) (j := c + 1) (by omega), onR_ne (i := c + 4) (j := c + 2) (by omega), onR_ne (i := c + 4) (j := c + 3) (by omega), onR_ne (i := c + 4) (j := c + 5) (by omega), upR_ne (i := c + 4) (j := c) (by omega), upR_eq, upR_ne (i := c + 4) (j := c + 1) (by omega), upR_ne (i := c + 4) (j := c + 2) (by omega), upR_ne (i := c + 4) (j := c + 3) (by omega)]
    intro e
    obtain ⟨Wc, w', fv', e1, e2, e3, e4, e5, _, e7, e8, e9, _⟩ := h.res e
    refine ⟨Wc, w', fv', e1, e2, e3, e4, e5.trans (KeepB.below hA), fun _ xb hx => ?_, e7, e8, e9, fun e => by rw [n11] at e; cases e⟩
    obtain rfl := ptr_inj hx
    exact .inr e5.size
  · rw [onR_ne (i := c + 4) (j := c + 5) (by omega), n11]; intro e; cases e
  · rw [onR_ne (by omega), onR_ne (by omega), onR_ne (by omega), onR_ne (by omega)]; exact h.d6
theorem MbS.store (h : MbS c T B0 w6 S RS G L f W) (hdn : ∀ j, j < c → L j = true) (h8 : L (c + 2) = true) (h10 : L (c + 4) = true) (h11 : L (c + 5) = false) : ∃ xb fv', f (c + 4) = .pointer (some ⟨xb, 0, none⟩) ∧ f (c + 2) = diskVal RS.1.cap RS.1.left fv' ∧ (∃ a n k, fv' = .slice a n k) ∧ BoxD W xb 0 0 (.slice none 0 0) ∧
    ∀ v, MbS c T B0 w6 S RS G (onL L (c + 5)) (updF f (c + 5) v) (((W.setCell ⟨xb, 0, none⟩ (.int .i64 RS.1.cap)).setCell ⟨xb, 1, none⟩ (.int .i64 RS.1.left)).setCell ⟨xb, 2, none⟩ fv') := by
  have h6 : L c = true := by
    cases e : L c with
    | true => rfl
    | false => have := (h.d6 e).2.1; rw [h8] at this; cases this
  obtain ⟨Wc, w', fv', e1, e2, e3, e4, e5, e6, e7, e8, e9, _⟩ := h.res h6
  obtain ⟨xb, g1, g2, g3⟩ := h.box h10
  have g3 := g3 h11
  refine ⟨xb, fv', g1, e8 h8, e2, g3, fun v => ⟨((h.hb.setCell (p := ⟨xb, 0, none⟩) g2 _).setCell (p := ⟨xb, 1, none⟩) g2 _).setCell (p := ⟨xb, 2, none⟩) g2 _, by have := h.sz; simpa using this, fun j hj hd h5 => ?_, ?_, ?_, ?_, ?_⟩⟩
  · rw [onR_eq] at h5; cases h5
  · rw [onR_ne (i := c + 5) (j := c) (by omega), onR_ne (i := c + 5) (j := c + 4) (by omega), onR_ne (i := c + 5) (j := c + 1) (by omega), onR_ne (i := c + 5) (j := c + 2) (by omega), onR_ne (i := c + 5) (j := c + 3) (by omega), onR_eq, upR_ne (i := c + 5) (j := c) (by omega), upR_ne (i := c + 5) (j := c + 4) (by omega), upR_ne (i := c + 5) (j := c + 1) (by omega), upR_ne (i := c + 5) (j := c + 2) (by omega), upR_ne (i := c + 5) (j := c + 3) (by omega)]
    intro _
    refine ⟨Wc, w', fv', e1, e2, e3, e4, ?_, e6, e7, e8, e9, fun _ => ⟨xb, g1, g3.all RS.1.cap RS.1.left fv'⟩⟩
    rcases e6 h10 xb g1 with hx | hx
    · exact e5.trans (KeepB.all3 hx _ _ _)
    · exact e5.new3 hx _ _ _
  · intro _
    exact ⟨fun j hj => (onR_ne (by omega)).trans (hdn j hj), (onR_ne (by omega)).trans h6, (onR_ne (by omega)).trans h10⟩
  · rw [onR_ne (i := c + 5) (j := c) (by omega), h6]; intro e; cases e
  · rw [onR_ne (i := c + 5) (j := c + 4) (by omega), onR_eq, upR_ne (i := c + 5) (j := c + 4) (by omega)]
    intro _
    exact ⟨xb, g1, g2, fun e => by cases e⟩
theorem MbS.ends (h : MbS c T B0 w6 S RS G L f W) (h6 : L c = true) (h9 : L (c + 3) = true) (h11 : L (c + 5) = true) : ∃ Wc w' fv' xb, f (c + 3) = .int .i64 RS.2 ∧ f (c + 4) = .pointer (some ⟨xb, 0, none⟩) ∧ BoxD W xb RS.1.cap RS.1.left fv' ∧ (∃ a n k, fv' = .slice a n k) ∧ G Wc w' fv' ∧ B0 ≤ Wc.heap.size ∧ KeepB Wc.heap.size w' W := by
  obtain ⟨Wc, w', fv', e1, e2, e3, e4, e5, e6, e7, e8, e9, e10⟩ := h.res h6
  obtain ⟨xb, g1, g2⟩ := e10 h11
  exact ⟨Wc, w', fv', xb, e9 h9, g1, g2, e2, e3, e4, e5⟩
theorem MbS.hadC (h : MbS c T B0 w6 S RS G L f W) (h6 : L c = false) {j : Nat} (hj : j < c) (hd : L j = true) : (stA S j).p (f j) W := h.pre j hj hd (by
  cases e : L (c + 5) with
  | false => rfl
  | true => have := (h.d5 e).2.1; rw [h6] at this; cases this)
end
end Go.Proofs.YtkabcpmnbjllcaaDoor

namespace Go.Proofs.YtkabcpmnbjllcaaDoor
open Go.RowKit

theorem i64_and255 (n : Int) : bits .and .i64 n 255 = n % 256 := by
  have hm : (BitVec.ofInt 64 255).toNat = 2 ^ 8 - 1 := by decide
  have key : (BitVec.ofInt 64 n &&& BitVec.ofInt 64 255).toNat = (n % ((2 ^ 64 : Nat) : Int)).toNat % 2 ^ 8 := by
    rw [BitVec.toNat_and, BitVec.toNat_ofInt, hm, Nat.and_two_pow_sub_one_eq_mod]
  show IntKind.i64.wrap ((BitVec.ofInt 64 n &&& BitVec.ofInt 64 255).toNat : Nat) = n % 256
  rw [key, IntKind.wrap_i64]
  omega
/-- Nothing but the block ob has changed. -/
structure ExO (ob : Nat) (W W' : World) : Prop where
  size : W.heap.size ≤ W'.heap.size
  same : ∀ b, b < W.heap.size → b ≠ ob → W'.heap[b]? = W.heap[b]?
section
variable {ob : Nat} {W W' W2 : World}
theorem ExO.refl (ob : Nat) (W : World) : ExO ob W W := ⟨Nat.le_refl _, fun _ _ _ => rfl⟩
theorem ExO.trans (h : ExO ob W W') (h' : ExO ob W' W2) : ExO ob W W2 := ⟨Nat.le_trans h.size h'.size, fun b hb hn => (h'.same b (Nat.lt_of_lt_of_le hb h.size) hn).trans (h.same b hb hn)⟩
theorem ExO.of (h : Below W.heap.size W W') : ExO ob W W' := ⟨h.size, fun b hb _ => h.block b hb⟩
theorem ExO.set (i : Nat) (u : Value) : ExO ob W (W.setCell ⟨ob, i, none⟩ u) := ⟨by simp, fun b _ hn => Below.heap_setCell W ⟨ob, i, none⟩ u b (by dsimp only; omega)⟩
theorem ExO.cell (h : ExO ob W W') {b i : Nat} {u : Value} (hc : W.cell? ⟨b, i, none⟩ = some u) (hn : b ≠ ob) : W'.cell? ⟨b, i, none⟩ = some u := (World.cell?_of_block (a := ⟨b, i, none⟩) (h.same b (World.block_lt_of_cell? W _ hc) hn)).trans hc
theorem ExO.keepB (h : ExO ob W W') {B : Nat} (hB : ob < B) : KeepB B W W' := ⟨h.size, fun b hb hl => h.same b hl (by omega)⟩
end
/-- The disk's row reads so, whatever becomes of the block ob. -/
def Stab (ob : Nat) (W : World) (v : Value) (l : List Fil) : Prop := ∀ W', ExO ob W W' → RdF W' v l
theorem Stab.below {ob : Nat} {W W' : World} {v : Value} {l : List Fil} (h : Stab ob W v l) (hb : Below W.heap.size W W') : Stab ob W' v l := fun _ h' => h _ ((ExO.of hb).trans h')
theorem RefDk.stab {w w' : World} {x : Dk} {e : Ending} (h : RefDk w [] x e w') {ob : Nat} (hB : ob < w.heap.size) : ∃ a n k, e = .returned (diskVal x.cap x.left (.slice a n k)) ∧ Stab ob w' (.slice a n k) x.files ∧ Below w.heap.size w w' := by
  obtain ⟨⟨fv, xs', e1, e2, e3⟩, e4⟩ := h
  obtain ⟨a, k, ev, _⟩ := own_form e3.1
  subst ev
  exact ⟨a, _, k, e1, fun W' h' => ⟨feX xs', by rw [feX_fst, e2], e3.rd (h'.keepB hB) (PartsX.nil W')⟩, e4⟩
/-- A disk made in this call. -/
def mdS (ob : Nat) (d : Dk) : Sta := ⟨fun v w => ∃ a n k, v = .agg #[.int .i64 d.cap, .int .i64 d.left, .slice a n k] ∧ Stab ob w (.slice a n k) d.files, fun _ _ _ hb ⟨a, n, k, e, h⟩ => ⟨a, n, k, e, h.below hb⟩⟩
/-- The array of the three disks. -/
structure Arr3 (ob b : Nat) (c1 l1 c2 l2 c3 l3 : Int) (v1 v2 v3 : Value) (f2 f3 : List Fil) (w : World) : Prop where
  ne : ob < b
  e0 : w.cell? ⟨b, 0, none⟩ = some (.int .i64 c1)
  e1 : w.cell? ⟨b, 1, none⟩ = some (.int .i64 l1)
  e2 : w.cell? ⟨b, 2, none⟩ = some v1
  e3 : w.cell? ⟨b, 3, none⟩ = some (.int .i64 c2)
  e4 : w.cell? ⟨b, 4, none⟩ = some (.int .i64 l2)
  e5 : w.cell? ⟨b, 5, none⟩ = some v2
  e6 : w.cell? ⟨b, 6, none⟩ = some (.int .i64 c3)
  e7 : w.cell? ⟨b, 7, none⟩ = some (.int .i64 l3)
  e8 : w.cell? ⟨b, 8, none⟩ = some v3
  s2 : Stab ob w v2 f2
  s3 : Stab ob w v3 f3
def arr3S (ob : Nat) (c1 l1 c2 l2 c3 l3 : Int) (v1 : Value) (f2 f3 : List Fil) : Sta := ⟨fun v w => ∃ b a2 n2 k2 a3 n3 k3, v = .slice (some ⟨b, 0, none⟩) 3 3 ∧ Arr3 ob b c1 l1 c2 l2 c3 l3 v1 (.slice a2 n2 k2) (.slice a3 n3 k3) f2 f3 w,
  fun _ _ _ hb ⟨b, a2, n2, k2, a3, n3, k3, e, h⟩ => ⟨b, a2, n2, k2, a3, n3, k3, e, h.ne, Below.keeps hb _ _ h.e0, Below.keeps hb _ _ h.e1, Below.keeps hb _ _ h.e2, Below.keeps hb _ _ h.e3, Below.keeps hb _ _ h.e4, Below.keeps hb _ _ h.e5, Below.keeps hb _ _ h.e6, Below.keeps hb _ _ h.e7, Below.keeps hb _ _ h.e8, h.s2.below hb, h.s3.below hb⟩⟩
theorem Arr3.new (ob : Nat) (W : World) (c1 l1 c2 l2 c3 l3 : Int) (v1 v2 v3 : Value) (f2 f3 : List Fil) (T : TypeId) (h2 : Stab ob W v2 f2) (h3 : Stab ob W v3 f3) (hob : ob < W.heap.size) :
    Arr3 ob W.heap.size c1 l1 c2 l2 c3 l3 v1 v2 v3 f2 f3 (W.alloc (.cells #[.int .i64 c1, .int .i64 l1, v1, .int .i64 c2, .int .i64 l2, v2, .int .i64 c3, .int .i64 l3, v3] T)) := by
  have hA := (Below.refl W.heap.size W).alloc (Nat.le_refl _) (.cells #[.int .i64 c1, .int .i64 l1, v1, .int .i64 c2, .int .i64 l2, v2, .int .i64 c3, .int .i64 l3, v3] T)
  exact ⟨hob, by simp, by simp, by simp, by simp, by simp, by simp, by simp, by simp, by simp, h2.below hA, h3.below hA⟩
theorem BoxO.all6 {w : World} {b : Nat} {kd : Int} {nm nt : ByteArray} {off : Int} {dv kv : Value} (h : BoxO w b kd nm nt off dv kv) (kd' : Int) (nm' nt' : ByteArray) (off' : Int) (dv' kv' : Value) :
    BoxO ((((((w.setCell ⟨b, 0, none⟩ (.int .i64 kd')).setCell ⟨b, 1, none⟩ (.string nm')).setCell ⟨b, 2, none⟩ (.string nt')).setCell ⟨b, 3, none⟩ (.int .i64 off')).setCell ⟨b, 4, none⟩ dv').setCell ⟨b, 5, none⟩ kv') b kd' nm' nt' off' dv' kv' := by
  refine ⟨?_, ?_, ?_, ?_, ?_, ?_, fun i => by simp [h.f i]⟩
  · exact cell_set_off (cell_set_off (cell_set_off (cell_set_off (cell_set_off (cell_set_same h.c0 _) (by decide) _) (by decide) _) (by decide) _) (by decide) _) (by decide) _
  · exact cell_set_off (cell_set_off (cell_set_off (cell_set_off (cell_set_same (cell_set_off h.c1 (by decide) _) _) (by decide) _) (by decide) _) (by decide) _) (by decide) _
  · exact cell_set_off (cell_set_off (cell_set_off (cell_set_same (cell_set_off (cell_set_off h.c2 (by decide) _) (by decide) _) _) (by decide) _) (by decide) _) (by decide) _
  · exact cell_set_off (cell_set_off (cell_set_same (cell_set_off (cell_set_off (cell_set_off h.c3 (by decide) _) (by decide) _) (by decide) _) _) (by decide) _) (by decide) _
  · exact cell_set_off (cell_set_same (cell_set_off (cell_set_off (cell_set_off (cell_set_off h.c4 (by decide) _) (by decide) _) (by decide) _) (by decide) _) _) (by decide) _
  · exact cell_set_same (cell_set_off (cell_set_off (cell_set_off (cell_set_off (cell_set_off h.c5 (by decide) _) (by decide) _) (by decide) _) (by decide) _) (by decide) _) _
theorem BoxO.set0 {w : World} {b : Nat} {kd : Int} {nm nt : ByteArray} {off : Int} {dv kv : Value} (h : BoxO w b kd nm nt off dv kv) (kd' : Int) : BoxO (w.setCell ⟨b, 0, none⟩ (.int .i64 kd')) b kd' nm nt off dv kv :=
  ⟨cell_set_same h.c0 _, cell_set_off h.c1 (by decide) _, cell_set_off h.c2 (by decide) _, cell_set_off h.c3 (by decide) _, cell_set_off h.c4 (by decide) _, cell_set_off h.c5 (by decide) _, fun i => by simp [h.f i]⟩
/-- What an operation hands back is an empty disk or a valid one. -/
theorem changeD_or (d : Dk) (o : Opr) : (changeD d o).1 = dk0 ∨ VldD (changeD d o).1 := by
  have c1 : ∀ s, (createD d s).1 = dk0 ∨ (createD d s).2 = 0 := fun s => by
    unfold createD; repeat' split
    all_goals first | exact .inl rfl | exact .inr rfl
  have cw : ∀ i w, (writtenD d i w).1 = dk0 ∨ (writtenD d i w).2 = 0 := fun i w => by
    unfold writtenD; dsimp only; repeat' split
    all_goals first | exact .inl rfl | exact .inr rfl
  have c2 : ∀ s b, (appendD d s b).1 = dk0 ∨ (appendD d s b).2 = 0 := fun s b => by
    unfold appendD; split
    · exact .inl rfl
    · exact cw _ _
  have c3 : ∀ s k b, (putD d s k b).1 = dk0 ∨ (putD d s k b).2 = 0 := fun s k b => by
    unfold putD; split
    · exact .inl rfl
    · split
      · exact .inl rfl
      · exact cw _ _
  have c4 : ∀ s k, (truncD d s k).1 = dk0 ∨ (truncD d s k).2 = 0 := fun s k => by
    unfold truncD; split
    · exact .inl rfl
    · split
      · exact .inl rfl
      · exact cw _ _
  have c5 : ∀ s, (syncD d s).1 = dk0 ∨ (syncD d s).2 = 0 := fun s => by
    unfold syncD; split
    · exact .inl rfl
    · exact .inr rfl
  have c6 : ∀ s t, (renameD d s t).1 = dk0 ∨ (renameD d s t).2 = 0 := fun s t => by
    unfold renameD; split
    · exact .inl rfl
    · split
      · exact .inl rfl
      · exact .inr rfl
  have c7 : ∀ s, (removeD d s).1 = dk0 ∨ (removeD d s).2 = 0 := fun s => by
    unfold removeD; split
    · exact .inl rfl
    · exact .inr rfl
  have c9 : ∀ s k, (flipD d s k).1 = dk0 ∨ (flipD d s k).2 = 0 := fun s k => by
    unfold flipD; dsimp only; repeat' split
    all_goals first | exact .inl rfl | exact .inr rfl
  unfold changeD
  dsimp only
  split
  · exact (c1 _).imp id createD_vld
  · split
    · exact (c2 _ _).imp id appendD_vld
    · split
      · exact (c3 _ _ _).imp id putD_vld
      · split
        · exact (c4 _ _).imp id truncD_vld
        · split
          · exact (c5 _).imp id syncD_vld
          · split
            · exact (c6 _ _).imp id renameD_vld
            · split
              · exact (c7 _).imp id removeD_vld
              · split
                · by_cases hv : validD d = true
                  · exact .inr (crashD_vld ((validD_iff d).1 hv) _)
                  · exact .inl (by unfold crashD; rw [if_neg hv])
                · exact (c9 _ _).imp id flipD_vld
theorem changeD_lite {d : Dk} {k : Nat} (hs : SmallD d k) (hk : k + 1 ≤ 5000) (o : Opr) : LiteD (changeD d o).1 := by
  rcases changeD_or d o with h | h
  · rw [h]; exact ⟨by unfold I64 dk0; simp, by unfold I64 dk0; simp, Nat.zero_le _, fun f hf => by cases hf⟩
  · exact h.lite (changeD_small hs o) hk
set_option maxRecDepth 100000 in
set_option maxHeartbeats 12800000 in
theorem ops_go (d : Dk) (fv : Value) (limit left : Int) (lv : Value) (l : List (Opr × Value × Value)) (o : Opr) (dv kv : Value) (w : World) (h : RdF w fv d.files) (hwf : DkWf d) (h1 : I64 limit) (h2 : I64 left) (hl : RdO w lv l) (hd : RdB w dv o.data) (hk : RdK w kv o.keep) (ho : OpWf o) :
    Calls Tryd.prog 10 #[diskVal d.cap d.left fv, lv, .int .i64 limit, .int .i64 left, opVal o dv kv] w fun e w' => e = .returned (.bool true) ∧ Below w.heap.size w w' := by
  obtain ⟨a, cap, rfl, _, _, _⟩ := h.shape
  obtain ⟨la, lc, rfl, _, _⟩ := hl.shape
  obtain ⟨da, dc, rfl, _⟩ := hd.shape0
  obtain ⟨ka, kc, rfl, _⟩ := hk.shape
  have HLt := Lib.hid (fun W (hW : Below w.heap.size w W) => light_any d _ W (h.below hW))
  have HAw := Lib.hid (fun W => awake_any W)
  have HM1 := Lib.hid (fun W (hW : Below w.heap.size w W) (hb : w.heap.size + 1 < W.heap.size) => (made_any limit left _ l W (hl.below hW) h1 h2).mono fun e w' hh => hh.stab hb)
  have HM2 := Lib.hid (fun W (hW : Below w.heap.size w W) (hb : w.heap.size + 1 < W.heap.size) => (made_any (limit % 256) (-1) _ l W (hl.below hW) (by unfold I64; omega) (by unfold I64; omega)).mono fun e w' hh => hh.stab hb)
  have HL1 := Lib.hid (And.intro (madeD_lite h1 h2 (l.map (·.1))) (madeD_small h1 h2 (l.map (·.1))))
  have HL2 := Lib.hid (And.intro (madeD_lite (limit := limit % 256) (left := -1) (by unfold I64; omega) (by unfold I64; omega) (l.map (·.1))) (madeD_small (limit := limit % 256) (left := -1) (by unfold I64; omega) (by unfold I64; omega) (l.map (·.1))))
  have HL0 := Lib.hid (fun (hq : LightD d) => And.intro (hwf.lite hq) (show SmallD d 14 from ⟨(hwf.lite hq).cap, (hwf.lite hq).left, fun f hf => by have := hq.pend f hf; omega⟩))
  have HR := Lib.hid h
  have HCu := Lib.hid (fun W => cutw_any o _ _ w W hd hk)
  have HO := Lib.hid (fun (k : Nat) (hk : k < 10) => show LiteO ⟨(k : Int), o.name, o.to, o.off, o.data.take 200, o.keep.take 10⟩ from ⟨by unfold I64; dsimp only; omega, ho.name, ho.nt, ho.lite.data, ho.lite.keep⟩)
  have Hoff := Lib.hid ho.off
  have ha255 := i64_and255 limit
  clear h hl hwf h1 h2 hd hk ho
  generalize madeD limit left (l.map (·.1)) = m1 at *
  generalize madeD (limit % 256) (-1) (l.map (·.1)) = m2 at *
  generalize limit % 256 = lim8 at *
  generalize d.files.length = n at *
  generalize l.length = ln at *
  have hLL : ∀ P : Prop, P = LightD d → True := fun _ _ => trivial
  generalize LightD d = LD at *
  clear hLL
  obtain ⟨c, lf, fl⟩ := d
  obtain ⟨kd0, nm, nt, off, data, keep⟩ := o
  obtain ⟨c1, l1, f1⟩ := m1
  obtain ⟨c2, l2, f2⟩ := m2
  dsimp only [diskVal, opVal, cutO] at *
  generalize data.take 200 = D at *
  generalize keep.take 10 = K at *
  generalize data.length = dn at *
  generalize keep.length = kn at *
  generalize hsn : strB nm = snm at *
  generalize hst : strB nt = sto at *
  have HB0 := Lib.hid (show Below w.heap.size w ((w.alloc (.cells #[.int .i64 c, .int .i64 lf, .slice a n cap] 24)).alloc (.cells #[.int .i64 kd0, .string snm, .string sto, .int .i64 off, .slice da dn dc, .slice ka kn kc] 85)) from ((Below.refl _ _).alloc (Nat.le_refl _) _).alloc (by simp) _)
  have X := Lib.hid (show BoxD ((w.alloc (.cells #[.int .i64 c, .int .i64 lf, .slice a n cap] 24)).alloc (.cells #[.int .i64 kd0, .string snm, .string sto, .int .i64 off, .slice da dn dc, .slice ka kn kc] 85)) w.heap.size c lf (.slice a n cap) from ⟨by simp, by simp, by simp, fun i => by simp⟩)
  have O0 := Lib.hid (show BoxO ((w.alloc (.cells #[.int .i64 c, .int .i64 lf, .slice a n cap] 24)).alloc (.cells #[.int .i64 kd0, .string snm, .string sto, .int .i64 off, .slice da dn dc, .slice ka kn kc] 85)) (w.heap.size + 1) kd0 snm sto off (.slice da dn dc) (.slice ka kn kc) from ⟨by simp, by simp, by simp, by simp, by simp, by simp, fun i => by simp⟩)
  have hob : w.heap.size + 1 < ((w.alloc (.cells #[.int .i64 c, .int .i64 lf, .slice a n cap] 24)).alloc (.cells #[.int .i64 kd0, .string snm, .string sto, .int .i64 off, .slice da dn dc, .slice ka kn kc] 85)).heap.size := by simp
  go_enter Tryd.func10, Tryd.ntmps10
  go_upto_region 1 with fail
  generalize (w.alloc (.cells #[.int .i64 c, .int .i64 lf, .slice a n cap] 24)).alloc (.cells #[.int .i64 kd0, .string snm, .string sto, .int .i64 off, .slice da dn dc, .slice ka kn kc] 85) = W0 at *
  have x0 := X.out.c0
  have x1 := X.out.c1
  have x2 := X.out.c2
  go_wp2_with fail
  refine (HLt.out W0 HB0.out).mono ?_
  rintro e w1 ⟨b, rfl, hb, hb1⟩
  have HB1 := Lib.hid (bstep HB0.out hb1)
  have X1 := Lib.hid (X.out.below hb1)
  have O1 := Lib.hid (O0.out.below hb1)
  have hob1 := Nat.lt_of_lt_of_le hob hb1.size
  clear hb1 x0 x1 x2 X O0 HB0 hob
  cases b
  · go_wp2_with fail
    refine (HAw.out _).mono ?_
    rintro e w2 ⟨rfl, hb2⟩
    have HB2 := Lib.hid (bstep HB1.out hb2)
    clear hb2
    go_wp2_with fail
    go_ret
    exact ⟨rfl, HB2.out⟩
  · have hLt := HL0.out (hb rfl)
    have HL0' := Lib.hid hLt
    clear hLt hb HL0
    go_upto_region 3 with fail
    have y0 := O1.out.c0
    have y1 := O1.out.c1
    have y2 := O1.out.c2
    have y3 := O1.out.c3
    have y4 := O1.out.c4
    have y5 := O1.out.c5
    go_wp2_with fail
    refine (HCu.out _).mono ?_
    rintro e w2 ⟨da', dn', dc', ka', kn', kc', rfl, hd', hk', hb2⟩
    have HB2 := Lib.hid (bstep HB1.out hb2)
    have X2 := Lib.hid (X1.out.below hb2)
    have O2 := Lib.hid (O1.out.below hb2)
    have hob2 := Nat.lt_of_lt_of_le hob1 hb2.size
    have HD := Lib.hid hd'
    have HK := Lib.hid hk'
    clear hd' hk' hb2 y0 y1 y2 y3 y4 y5 O1 X1 HB1 hob1 HCu
    generalize hOB : w.heap.size + 1 = ob at *
    have O3 := Lib.hid (O2.out.all6 kd0 snm sto off (.slice da' dn' dc') (.slice ka' kn' kc'))
    have X3 := Lib.hid ((((((X2.out.set_ne (p := ⟨ob, 0, none⟩) (by dsimp only; omega) (.int .i64 kd0)).set_ne (p := ⟨ob, 1, none⟩) (by dsimp only; omega) (.string snm)).set_ne (p := ⟨ob, 2, none⟩) (by dsimp only; omega) (.string sto)).set_ne (p := ⟨ob, 3, none⟩) (by dsimp only; omega) (.int .i64 off)).set_ne (p := ⟨ob, 4, none⟩) (by dsimp only; omega) (.slice da' dn' dc')).set_ne (p := ⟨ob, 5, none⟩) (by dsimp only; omega) (.slice ka' kn' kc'))
    have hle : w.heap.size ≤ ob := by omega
    have HB3 := Lib.hid ((((((HB2.out.setCell (p := ⟨ob, 0, none⟩) hle (.int .i64 kd0)).setCell (p := ⟨ob, 1, none⟩) hle (.string snm)).setCell (p := ⟨ob, 2, none⟩) hle (.string sto)).setCell (p := ⟨ob, 3, none⟩) hle (.int .i64 off)).setCell (p := ⟨ob, 4, none⟩) hle (.slice da' dn' dc')).setCell (p := ⟨ob, 5, none⟩) hle (.slice ka' kn' kc'))
    have hob3 : ob < ((((((w2.setCell ⟨ob, 0, none⟩ (.int .i64 kd0)).setCell ⟨ob, 1, none⟩ (.string snm)).setCell ⟨ob, 2, none⟩ (.string sto)).setCell ⟨ob, 3, none⟩ (.int .i64 off)).setCell ⟨ob, 4, none⟩ (.slice da' dn' dc')).setCell ⟨ob, 5, none⟩ (.slice ka' kn' kc')).heap.size := by simpa using hob2
    have y0 := O2.out.c0
    have y1 := O2.out.c1
    have y2 := O2.out.c2
    have y3 := O2.out.c3
    have y4 := O2.out.c4
    have y5 := O2.out.c5
    have yf := O2.out.f
    go_upto_region 4 with fail
    clear y0 y1 y2 y3 y4 y5 yf O2 X2 HB2 hob2
    generalize ((((((w2.setCell ⟨ob, 0, none⟩ (.int .i64 kd0)).setCell ⟨ob, 1, none⟩ (.string snm)).setCell ⟨ob, 2, none⟩ (.string sto)).setCell ⟨ob, 3, none⟩ (.int .i64 off)).setCell ⟨ob, 4, none⟩ (.slice da' dn' dc')).setCell ⟨ob, 5, none⟩ (.slice ka' kn' kc')) = w3 at *
    refine wp_region_relz [eqS (.agg #[.int .i64 c, .int .i64 lf, .slice a n cap]), eqS (.int .i64 limit), eqS (.int .i64 left), eqS (.slice la ln lc), mdS ob ⟨c1, l1, f1⟩, eqS (.int .i64 limit), eqS (.int .i64 lim8), eqS (.slice la ln lc), mdS ob ⟨c2, l2, f2⟩, arr3S ob c lf c1 l1 c2 l2 (.slice a n cap) f1 f2, eqS (.int .i64 3), eqS (.int .i64 0)] 70 (by kernel_rfl) (by kernel_rfl) (by kernel_rfl) (by rfl) (by kernel_rfl) (fun f => by simp [frm, dstOf, Act.put]; exact rfl) ?_ ?_
    · refine ⟨?_, ?_, ?_, ?_, ?_, ?_, ?_, ?_, ?_, ?_, ?_, ?_, trivial⟩
      · intro f w1 hb hd
        clear hd
        dsimp only
        have z0 := (X3.out.below hb).c0
        have z1 := (X3.out.below hb).c1
        have z2 := (X3.out.below hb).c2
        go_wp2_with fail
        exact ⟨rfl, Below.refl _ _, fun t ht => by injection ht with ht; subst ht; exact ⟨rfl, fun h => by simp at h⟩⟩
      · intro f w1 hb hd
        clear hd
        dsimp only
        go_wp2_with fail
        exact ⟨rfl, Below.refl _ _, fun t ht => by injection ht with ht; subst ht; exact ⟨rfl, fun h => by simp at h⟩⟩
      · intro f w1 hb hd
        clear hd
        dsimp only
        go_wp2_with fail
        exact ⟨rfl, Below.refl _ _, fun t ht => by injection ht with ht; subst ht; exact ⟨rfl, fun h => by simp at h⟩⟩
      · intro f w1 hb hd
        clear hd
        dsimp only
        go_wp2_with fail
        exact ⟨rfl, Below.refl _ _, fun t ht => by injection ht with ht; subst ht; exact ⟨rfl, fun h => by simp at h⟩⟩
      · intro f w1 hb hd
        have d1 : f 1 = .int .i64 limit := hd 1 (by kernel_rfl)
        have d2 : f 2 = .int .i64 left := hd 2 (by kernel_rfl)
        have d3 : f 3 = .slice la ln lc := hd 3 (by kernel_rfl)
        clear hd
        dsimp only
        rw [d1]
        rw [d2]
        rw [d3]
        go_wp2_with fail
        refine (HM1.out w1 (bstep HB3.out hb) (Nat.lt_of_lt_of_le hob3 hb.size)).mono ?_
        rintro e w2 ⟨a9, n9, k9, rfl, hs9, hbe⟩
        have HS9 := Lib.hid hs9
        clear hs9
        go_wp2_with fail
        exact ⟨rfl, hbe, fun t ht => by injection ht with ht; subst ht; exact ⟨⟨_, _, _, rfl, HS9.out⟩, fun h => by simp at h⟩⟩
      · intro f w1 hb hd
        clear hd
        dsimp only
        go_wp2_with fail
        exact ⟨rfl, Below.refl _ _, fun t ht => by injection ht with ht; subst ht; exact ⟨rfl, fun h => by simp at h⟩⟩
      · intro f w1 hb hd
        have d5 : f 5 = .int .i64 limit := hd 5 (by kernel_rfl)
        clear hd
        dsimp only
        rw [d5]
        go_wp2_with fail
        exact ⟨rfl, Below.refl _ _, fun t ht => by injection ht with ht; subst ht; exact ⟨rfl, fun h => by simp at h⟩⟩
      · intro f w1 hb hd
        clear hd
        dsimp only
        go_wp2_with fail
        exact ⟨rfl, Below.refl _ _, fun t ht => by injection ht with ht; subst ht; exact ⟨rfl, fun h => by simp at h⟩⟩
      · intro f w1 hb hd
        have d6 : f 6 = .int .i64 lim8 := hd 6 (by kernel_rfl)
        have d7 : f 7 = .slice la ln lc := hd 7 (by kernel_rfl)
        clear hd
        dsimp only
        rw [d6]
        rw [d7]
        go_wp2_with fail
        refine (HM2.out w1 (bstep HB3.out hb) (Nat.lt_of_lt_of_le hob3 hb.size)).mono ?_
        rintro e w2 ⟨a9, n9, k9, rfl, hs9, hbe⟩
        have HS9 := Lib.hid hs9
        clear hs9
        go_wp2_with fail
        exact ⟨rfl, hbe, fun t ht => by injection ht with ht; subst ht; exact ⟨⟨_, _, _, rfl, HS9.out⟩, fun h => by simp at h⟩⟩
      · intro f w1 hb hd
        have d0 : f 0 = .agg #[.int .i64 c, .int .i64 lf, .slice a n cap] := hd 0 (by kernel_rfl)
        have d4 := hd 4 (by kernel_rfl)
        obtain ⟨ap, np, kp, ep, sp⟩ : ∃ a n k, f 4 = .agg #[.int .i64 c1, .int .i64 l1, .slice a n k] ∧ Stab ob w1 (.slice a n k) f1 := d4
        have d8 := hd 8 (by kernel_rfl)
        obtain ⟨aq, nq, kq, eq, sq⟩ : ∃ a n k, f 8 = .agg #[.int .i64 c2, .int .i64 l2, .slice a n k] ∧ Stab ob w1 (.slice a n k) f2 := d8
        clear hd
        dsimp only
        rw [d0]
        rw [ep, eq]
        have HA8 := Lib.hid ((Below.refl w1.heap.size w1).alloc (Nat.le_refl _) (.cells #[.int .i64 c, .int .i64 lf, .slice a n cap, .int .i64 c1, .int .i64 l1, .slice ap np kp, .int .i64 c2, .int .i64 l2, .slice aq nq kq] 24))
        have HC8 := Lib.hid (Arr3.new ob w1 c lf c1 l1 c2 l2 (.slice a n cap) _ _ f1 f2 24 sp sq (Nat.lt_of_lt_of_le hob3 hb.size))
        clear ep eq sp sq
        go_wp2_with fail
        exact ⟨rfl, HA8.out, fun t ht => by injection ht with ht; subst ht; exact ⟨⟨_, _, _, _, _, _, _, rfl, HC8.out⟩, fun h => by simp at h⟩⟩
      · intro f w1 hb hd
        have d9 := hd 9 (by kernel_rfl)
        obtain ⟨b5, _, _, _, _, _, _, e5, -⟩ : ∃ b a2 n2 k2 a3 n3 k3, f 9 = .slice (some ⟨b, 0, none⟩) 3 3 ∧ _ := d9
        clear hd
        dsimp only
        rw [e5]
        clear e5
        go_wp2_with fail
        exact ⟨rfl, Below.refl _ _, fun t ht => by injection ht with ht; subst ht; exact ⟨rfl, fun h => by simp at h⟩⟩
      · intro f w1 hb hd
        clear hd
        dsimp only
        go_wp2_with fail
        exact ⟨rfl, Below.refl _ _, fun t ht => by injection ht with ht; subst ht; exact ⟨rfl, fun h => by simp at h⟩⟩
    · intro f w1 hb hA
      have d0 : f 0 = .agg #[.int .i64 c, .int .i64 lf, .slice a n cap] := hA 0 (show 0 < 12 by decide)
      have d1 : f 1 = .int .i64 limit := hA 1 (show 1 < 12 by decide)
      have d2 : f 2 = .int .i64 left := hA 2 (show 2 < 12 by decide)
      have d3 : f 3 = .slice la ln lc := hA 3 (show 3 < 12 by decide)
      have d4 := hA 4 (show 4 < 12 by decide)
      have d5 : f 5 = .int .i64 limit := hA 5 (show 5 < 12 by decide)
      have d6 : f 6 = .int .i64 lim8 := hA 6 (show 6 < 12 by decide)
      have d7 : f 7 = .slice la ln lc := hA 7 (show 7 < 12 by decide)
      have d8 := hA 8 (show 8 < 12 by decide)
      have d9 := hA 9 (show 9 < 12 by decide)
      have d10 := hA 10 (show 10 < 12 by decide)
      have d11 : f 11 = .int .i64 0 := hA 11 (show 11 < 12 by decide)
      clear hA
      try dsimp only at *
      rw [d0]
      rw [d1]
      rw [d2]
      rw [d3]
      rw [d5]
      rw [d6]
      rw [d7]
      rw [d11]
      clear d0 d1 d2 d3 d5 d6 d7 d11
      obtain ⟨gb, a2, n2, k2, a3, n3, k3, e9, hA3⟩ : ∃ b a2 n2 k2 a3 n3 k3, f 9 = .slice (some ⟨b, 0, none⟩) 3 3 ∧ Arr3 ob b c lf c1 l1 c2 l2 (.slice a n cap) (.slice a2 n2 k2) (.slice a3 n3 k3) f1 f2 w1 := d9
      have d10 : f 10 = .int .i64 3 := d10
      rw [e9, d10]
      have HB5 := Lib.hid (bstep HB3.out hb)
      have O5 := Lib.hid (O3.out.below hb)
      have hgb := hA3.ne
      have HDs := Lib.hid (show ∀ k, k < 3 → ∃ (dk : Dk) (va : Option Addr) (vn vk : Nat), w1.cell? ⟨gb, k * 3, none⟩ = some (.int .i64 dk.cap) ∧ w1.cell? ⟨gb, k * 3 + 1, none⟩ = some (.int .i64 dk.left) ∧ w1.cell? ⟨gb, k * 3 + 2, none⟩ = some (.slice va vn vk) ∧ (∀ W, ExO ob w1 W → Below w.heap.size w W → RdF W (.slice va vn vk) dk.files) ∧ LiteD dk ∧ SmallD dk 14 from fun k hk => by
        rcases k with _ | _ | _ | k
        · exact ⟨⟨c, lf, fl⟩, _, _, _, hA3.e0, hA3.e1, hA3.e2, fun W _ hW => HR.out.below hW, HL0'.out.1, HL0'.out.2⟩
        · exact ⟨⟨c1, l1, f1⟩, _, _, _, hA3.e3, hA3.e4, hA3.e5, fun W hx _ => hA3.s2 W hx, HL1.out.1, HL1.out.2⟩
        · exact ⟨⟨c2, l2, f2⟩, _, _, _, hA3.e6, hA3.e7, hA3.e8, fun W hx _ => hA3.s3 W hx, HL2.out.1, HL2.out.2⟩
        · omega)
      clear hA3 e9 d10 d4 d8 hb HB3 O3 X3 HL0' HL1 HL2 HR HM1 HM2 HLt ha255
      generalize f 4 = f4 at *
      generalize f 8 = f8 at *
      generalize w1 = w5 at *
      go_wp2_with fail
      go_loopw [35] (fun iv W => ∃ (k : Nat) (kd : Int), iv = .int .i64 (k : Int) ∧ k ≤ 3 ∧ Hid (BoxO W ob kd snm sto off (.slice da' dn' dc') (.slice ka' kn' kc')) ∧ Hid (ExO ob w5 W) ∧ Hid (Below w.heap.size w W)) (fun iv _ => 3 - (intOf iv).toNat)
      case atStart => exact ⟨0, kd0, rfl, Nat.zero_le _, O5, Lib.hid (ExO.refl _ _), HB5⟩
      case round =>
        obtain ⟨k, kd, rfl, hk, O, HE, HB⟩ := hrel
        clear O5 HB5
        by_cases hlt : k < 3
        · have i1 : (k : Int) < 3 := by omega
          obtain ⟨dk, va, vn, vk, g0, g1, g2, hst, hld, hsm⟩ := HDs.out k hlt
          replace g0 := HE.out.cell g0 (by omega)
          replace g1 := HE.out.cell g1 (by omega)
          replace g2 := HE.out.cell g2 (by omega)
          have HRd := Lib.hid hst
          have HLd := Lib.hid hld
          have HSd := Lib.hid hsm
          clear hst hld hsm
          obtain ⟨dc0, dl0, df⟩ := dk
          dsimp only at *
          have HA := (Below.refl wr.heap.size wr).alloc (Nat.le_refl _) (.cells #[.int .i64 dc0, .int .i64 dl0, .slice va vn vk] 24)
          have Z := Lib.hid (BoxD.new wr dc0 dl0 (.slice va vn vk) 24)
          have O6 := Lib.hid (O.out.below HA)
          have hzb := O.out.lt
          have HE6 := Lib.hid (HE.out.trans (ExO.of HA))
          have HB6 := Lib.hid (bstep HB.out HA)
          clear HA
          go_upto_region 7 with fail
          clear g0 g1 g2 O HE HB
          generalize wr.alloc (.cells #[.int .i64 dc0, .int .i64 dl0, .slice va vn vk] 24) = w6 at *
          generalize wr.heap.size = zb at *
          go_wp2_with fail
          go_loopw [13] (fun iv W => ∃ (j : Nat) (kd : Int), iv = .int .i64 (j : Int) ∧ j ≤ 10 ∧ Hid (BoxO W ob kd snm sto off (.slice da' dn' dc') (.slice ka' kn' kc')) ∧ Hid (BoxD W zb dc0 dl0 (.slice va vn vk)) ∧ Hid (ExO ob w5 W) ∧ Hid (Below w.heap.size w W)) (fun iv _ => 10 - (intOf iv).toNat)
          case atStart => exact ⟨0, kd, rfl, Nat.zero_le _, O6, Z, HE6, HB6⟩
          case round =>
            obtain ⟨j, kd2, rfl, hj, O, Zw, HE, HB⟩ := hrel
            clear O6 Z HE6 HB6
            by_cases hlj : j < 10
            · have j1 : (j : Int) < 10 := by omega
              have O7 := Lib.hid (O.out.set0 (j : Int))
              have Z7 := Lib.hid (Zw.out.set_ne (p := ⟨ob, 0, none⟩) (by dsimp only; omega) (.int .i64 (j : Int)))
              have HE7 := Lib.hid (HE.out.trans (ExO.set (ob := ob) (W := wr) 0 (.int .i64 (j : Int))))
              have HB7 := Lib.hid (HB.out.setCell (p := ⟨ob, 0, none⟩) hle (.int .i64 (j : Int)))
              have y0 := O.out.c0
              have yf := O.out.f
              go_upto_region 11 with fail
              clear y0 yf O Zw HE HB
              generalize wr.setCell ⟨ob, 0, none⟩ (.int .i64 (j : Int)) = w7 at *
              have hRw := HRd.out w7 HE7.out HB7.out
              obtain ⟨xs, hfx, hfe, hpx⟩ := rdF_x hRw
              have HRw := Lib.hid hRw
              have HGi := Lib.hid (fun W (hW : Below w7.heap.size w7 W) => given_any ⟨dc0, dl0, df⟩ _ W (hRw.below hW) HLd.out.len (fun f hf => by have := HSd.out.pend f hf; omega))
              have HCh := Lib.hid (fun W gv (hW : Below w7.heap.size w7 W) (h : RdF W gv df) => (change_any ⟨dc0, dl0, df⟩ ⟨(j : Int), nm, nt, off, D, K⟩ gv _ _ W h HLd.out (RdL.below HD.out (bstep HB7.out hW)) (HK.out.below (bstep HB7.out hW)) (HO.out j hlj)).mono fun _ _ h => h.op)
              have HWa := Lib.hid (fun W (hW : Below w7.heap.size w7 W) => (want_any ⟨dc0, dl0, df⟩ ⟨(j : Int), nm, nt, off, D, K⟩ _ _ _ xs W (RdS.below hfe.row hW) (hpx.below hW) hfx HLd.out (fun f hf => by have := HSd.out.pend f hf; omega) (RdL.below HD.out (bstep HB7.out hW)) (HK.out.below (bstep HB7.out hW)) (HO.out j hlj) Hoff.out).mono fun e w' hh => show ∃ a n k, e = .returned (.tuple #[.agg #[.int .i64 (changeD ⟨dc0, dl0, df⟩ ⟨(j : Int), nm, nt, off, D, K⟩).1.cap, .int .i64 (changeD ⟨dc0, dl0, df⟩ ⟨(j : Int), nm, nt, off, D, K⟩).1.left, .slice a n k], .int .i64 (changeD ⟨dc0, dl0, df⟩ ⟨(j : Int), nm, nt, off, D, K⟩).2]) ∧ RdF w' (.slice a n k) (changeD ⟨dc0, dl0, df⟩ ⟨(j : Int), nm, nt, off, D, K⟩).1.files ∧ Below W.heap.size W w' from by
                obtain ⟨⟨fv', xs', e1, e2, e3⟩, e4⟩ := hh
                have hF : RdF w' fv' (changeD ⟨dc0, dl0, df⟩ ⟨(j : Int), nm, nt, off, D, K⟩).1.files := ⟨feX xs', by rw [feX_fst, e2], e3.rd (KeepB.refl _ _) ((hpx.below hW).below e4)⟩
                obtain ⟨oa, ok, eo, _⟩ := hF.shape
                subst eo
                exact ⟨oa, _, ok, e1, hF, e4⟩)
              have HLx := Lib.hid (And.intro (changeD_lite HSd.out (by decide) ⟨(j : Int), nm, nt, off, D, K⟩) (changeD_small HSd.out ⟨(j : Int), nm, nt, off, D, K⟩))
              dsimp only [opVal, diskVal] at HCh HWa HGi
              rw [hsn, hst] at HCh HWa
              clear hRw hfx hfe hpx
              generalize changeD ⟨dc0, dl0, df⟩ ⟨(j : Int), nm, nt, off, D, K⟩ = RS at *
              obtain ⟨⟨ec, el, ef⟩, er⟩ := RS
              dsimp only at *
              refine wp_region_inv 9 (fun L f W => MbS 3 33 w7.heap.size w7 [eqS (.agg #[.int .i64 dc0, .int .i64 dl0, .slice va vn vk]), dvS dc0 dl0 df, eqS (.agg #[.int .i64 (j : Int), .string snm, .string sto, .int .i64 off, .slice da' dn' dc', .slice ka' kn' kc'])] (⟨ec, el, ef⟩, er) (fun Wc w' fv' => StD Wc.heap.size w' (diskVal ec el fv') ⟨ec, el, ef⟩) L f W) 70 (by kernel_rfl) (by kernel_rfl) (by rfl) (by kernel_rfl) (fun f => by simp [frm, dstOf, Act.put]; exact rfl) (fun f => MbS.start rfl f) ?_ ?_
              · refine ⟨?_, ?_, ?_, ?_, ?_, ?_, ?_, ?_, ?_, trivial⟩
                · intro L f w8 h0 hd hI
                  have HI1 := Lib.hid hI
                  have z0 := (Z7.out.below hI.hb).c0
                  have z1 := (Z7.out.below hI.hb).c1
                  have z2 := (Z7.out.below hI.hb).c2
                  clear hI hd
                  dsimp only
                  go_wp2_with fail
                  exact ⟨rfl, (fun h => by cases h), fun t ht => by injection ht with ht; subst ht; exact HI1.out.step (i := 0) (v := .agg #[.int .i64 dc0, .int .i64 dl0, .slice va vn vk]) (by decide) h0 (Below.refl _ _) rfl⟩
                · intro L f w8 h0 hd hI
                  have HI1 := Lib.hid hI
                  have d0 : f 0 = .agg #[.int .i64 dc0, .int .i64 dl0, .slice va vn vk] := hI.had (i := 1) (j := 0) (by decide) h0 (by decide) (hd 0 (by kernel_rfl))
                  have HC7 := Lib.hid (HGi.out w8 hI.hb)
                  clear hI hd
                  dsimp only
                  rw [d0]
                  go_wp2_with fail
                  refine HC7.out.mono ?_
                  rintro e w9 ⟨gv, rfl, hr', hb'⟩
                  obtain ⟨q1, q2, q3, _⟩ := hr'.shape
                  subst q3
                  have HQ := Lib.hid (HI1.out.step (i := 1) (v := .agg #[.int .i64 dc0, .int .i64 dl0, .slice q1 df.length q2]) (by decide) h0 hb' ⟨_, rfl, hr'⟩)
                  clear hr' hb'
                  go_wp2_with fail
                  exact ⟨rfl, (fun h => by cases h), fun t ht => by injection ht with ht; subst ht; exact HQ.out⟩
                · intro L f w8 h0 hd hI
                  have HI1 := Lib.hid hI
                  have z0 := (O7.out.below hI.hb).c0
                  have z1 := (O7.out.below hI.hb).c1
                  have z2 := (O7.out.below hI.hb).c2
                  have z3 := (O7.out.below hI.hb).c3
                  have z4 := (O7.out.below hI.hb).c4
                  have z5 := (O7.out.below hI.hb).c5
                  clear hI hd
                  dsimp only
                  go_wp2_with fail
                  exact ⟨rfl, (fun h => by cases h), fun t ht => by injection ht with ht; subst ht; exact HI1.out.step (i := 2) (v := .agg #[.int .i64 (j : Int), .string snm, .string sto, .int .i64 off, .slice da' dn' dc', .slice ka' kn' kc']) (by decide) h0 (Below.refl _ _) rfl⟩
                · intro L f w8 h0 hd hI
                  have HI1 := Lib.hid hI
                  obtain ⟨gv, d1, hr1⟩ := hI.hadC (j := 1) h0 (by decide) (hd 1 (by kernel_rfl))
                  have d2 : f 2 = .agg #[.int .i64 (j : Int), .string snm, .string sto, .int .i64 off, .slice da' dn' dc', .slice ka' kn' kc'] := hI.hadC (j := 2) h0 (by decide) (hd 2 (by kernel_rfl))
                  obtain ⟨q1, q2, q3, _⟩ := hr1.shape
                  subst q3
                  have HC7 := Lib.hid (HCh.out w8 _ hI.hb hr1)
                  clear hr1
                  dsimp only [diskVal] at d1
                  clear hI hd
                  dsimp only
                  rw [d1]
                  rw [d2]
                  go_wp2_with fail
                  refine HC7.out.mono ?_
                  rintro e w9 ⟨va', vn', vc', rfl, hst', -, hb'⟩
                  have HQ := Lib.hid (HI1.out.call hb' h0 ⟨_, _, _, rfl⟩ hst')
                  clear hst' hb'
                  go_wp2_with fail
                  exact ⟨rfl, (fun h => by cases h), fun t ht => by injection ht with ht; subst ht; exact HQ.out⟩
                · intro L f w8 h0 hd hI
                  have HI1 := Lib.hid hI
                  have h6 := hd 3 (by kernel_rfl)
                  clear hI hd
                  dsimp only
                  go_wp2_with fail
                  exact ⟨rfl, (fun h => by cases h), fun t ht => by injection ht with ht; subst ht; exact HI1.out.mv h6⟩
                · intro L f w8 h0 hd hI
                  have h7 := hd 4 (by kernel_rfl)
                  have h6 : L 3 = true := by
                    cases e : L 3 with
                    | true => rfl
                    | false => have := (hI.d6 e).1; rw [h7] at this; cases this
                  obtain ⟨fv', d7, ⟨va, vn, vc, rfl⟩, hq2, hq3⟩ := hI.ex h6 h7
                  have HQ := Lib.hid hq2
                  clear hI hd hq2 hq3
                  dsimp only
                  dsimp only [diskVal] at d7
                  rw [d7]
                  go_wp2_with fail
                  exact ⟨rfl, (fun h => by cases h), fun t ht => by injection ht with ht; subst ht; exact HQ.out⟩
                · intro L f w8 h0 hd hI
                  have h7 := hd 4 (by kernel_rfl)
                  have h6 : L 3 = true := by
                    cases e : L 3 with
                    | true => rfl
                    | false => have := (hI.d6 e).1; rw [h7] at this; cases this
                  obtain ⟨fv', d7, ⟨va, vn, vc, rfl⟩, hq2, hq3⟩ := hI.ex h6 h7
                  have HQ := Lib.hid hq3
                  clear hI hd hq2 hq3
                  dsimp only
                  dsimp only [diskVal] at d7
                  rw [d7]
                  go_wp2_with fail
                  exact ⟨rfl, (fun h => by cases h), fun t ht => by injection ht with ht; subst ht; exact HQ.out⟩
                · intro L f w8 h0 hd hI
                  have HI1 := Lib.hid hI
                  clear hI hd
                  dsimp only
                  go_wp2_with fail
                  exact ⟨rfl, (fun h => by cases h), fun t ht => by injection ht with ht; subst ht; exact HI1.out.boxed h0⟩
                · intro L f w8 h0 hd hI
                  have hdn : ∀ j, j < 3 → L j = true := by
                    intro j hj
                    have hj2 : j = 0 ∨ j = 1 ∨ j = 2 := by omega
                    rcases hj2 with rfl | rfl | rfl
                    · exact hd 0 (by kernel_rfl)
                    · exact hd 1 (by kernel_rfl)
                    · exact hd 2 (by kernel_rfl)
                  obtain ⟨xb, fv', d10, d8, ⟨va, vn, vc, rfl⟩, hbx, hnx⟩ := hI.store hdn (hd 5 (by kernel_rfl)) (hd 7 (by kernel_rfl)) h0
                  have HN := Lib.hid hnx
                  have z0 := hbx.c0
                  have z1 := hbx.c1
                  have z2 := hbx.c2
                  have zf := hbx.f
                  clear hI hd hdn hnx hbx
                  dsimp only
                  dsimp only [diskVal] at d8
                  rw [d8, d10]
                  go_wp2_with fail
                  exact ⟨rfl, fun _ v => HN.out v, fun t ht => by cases ht⟩
              · intro L f w8 hA hI
                obtain ⟨Wc, w', fv', xb, d9, d10, hbx, ⟨va', vn', vc', rfl⟩, hG, hWc, hkp⟩ := hI.ends (hA 3 (by decide)) (hA 6 (by decide)) (hA 8 (by decide))
                rw [d9, d10]
                have HI8 := Lib.hid hI.hb
                have KX := Lib.hid hbx
                have HXr := Lib.hid ((StD.keep hG hkp (Nat.le_refl _)).rdf)
                dsimp only at HXr KX
                clear hI hA d9 d10 hbx hG hWc hkp HCh
                go_upto_region 12 with fail
                generalize w8 = w9 at *
                have O9 := Lib.hid (O7.out.below HI8.out)
                have Z9 := Lib.hid (Z7.out.below HI8.out)
                have HE9 := Lib.hid (HE7.out.trans (ExO.of HI8.out))
                have HB9 := Lib.hid (bstep HB7.out HI8.out)
                have HWb := Lib.hid (HWa.out w9 HI8.out)
                clear O7 Z7 HE7 HB7 HWa
                have y0 := O9.out.c0
                have y1 := O9.out.c1
                have y2 := O9.out.c2
                have y3 := O9.out.c3
                have y4 := O9.out.c4
                have y5 := O9.out.c5
                have z0 := Z9.out.c0
                have z1 := Z9.out.c1
                have z2 := Z9.out.c2
                go_wp2_with fail
                refine HWb.out.mono ?_
                rintro e w10 ⟨ua, un, uk, rfl, hru, hb10⟩
                have hA := (Below.refl w10.heap.size w10).alloc (Nat.le_refl _) (.cells #[.int .i64 ec, .int .i64 el, .slice ua un uk] 24)
                have hb11 := hb10.trans (hA.mono hb10.size)
                have KY := Lib.hid (BoxD.new w10 ec el (.slice ua un uk) 24)
                have HYr := Lib.hid (hru.below hA)
                have KX2 := Lib.hid (KX.out.below hb11)
                have HXr2 := Lib.hid (HXr.out.below hb11)
                have O10 := Lib.hid (O9.out.below hb11)
                have Z10 := Lib.hid (Z9.out.below hb11)
                have HE10 := Lib.hid (HE9.out.trans (ExO.of hb11))
                have HB10 := Lib.hid (bstep HB9.out hb11)
                clear hA hb11 hb10 hru y0 y1 y2 y3 y4 y5 z0 z1 z2 KX HXr O9 Z9 HE9 HB9 HWb
                go_upto_region 13 with fail
                generalize w10.alloc (.cells #[.int .i64 ec, .int .i64 el, .slice ua un uk] 24) = w11 at *
                generalize w10.heap.size = yb at *
                have HTo := Lib.hid (fun W (h : Below w11.heap.size w11 W) => told_any ⟨ec, el, ef⟩ _ W (HXr2.out.below h) HLx.out.1.len (fun f hf => by have := (HLx.out.2.pend f hf); omega))
                have HSa := Lib.hid (fun W v1 (hW : Below w11.heap.size w11 W) (h1 : RdF W v1 ef) => rsame_any ec el ef v1 _ W h1 (HYr.out.below hW) (by have := HLx.out.1.len; dsimp only at this; omega) (fun j hj => by have := HLx.out.2.pend _ (atN_mem hj); dsimp only at this; omega))
                dsimp only [diskVal] at HTo HSa
                have hee : (er != er) = false := by simp
                refine wp_region_relz [eqS (.int .i64 er), eqS (.int .i64 er), eqS (.bool false), eqS (.bool false), eqS (.agg #[.int .i64 ec, .int .i64 el, .slice va' vn' vc']), dvS ec el ef, eqS (.agg #[.int .i64 ec, .int .i64 el, .slice ua un uk]), eqS (.bool true), eqS (.bool false), eqS (.bool false)] 70 (by kernel_rfl) (by kernel_rfl) (by kernel_rfl) (by rfl) (by kernel_rfl) (fun f => by simp [frm, dstOf, Act.put]; exact rfl) ?_ ?_
                · refine ⟨?_, ?_, ?_, ?_, ?_, ?_, ?_, ?_, ?_, ?_, trivial⟩
                  · intro f w1 hb hd
                    clear hd
                    dsimp only
                    go_wp2_with fail
                    exact ⟨rfl, Below.refl _ _, fun t ht => by injection ht with ht; subst ht; exact ⟨rfl, fun h => by simp at h⟩⟩
                  · intro f w1 hb hd
                    clear hd
                    dsimp only
                    go_wp2_with fail
                    exact ⟨rfl, Below.refl _ _, fun t ht => by injection ht with ht; subst ht; exact ⟨rfl, fun h => by simp at h⟩⟩
                  · intro f w1 hb hd
                    have d0 : f 0 = .int .i64 er := hd 0 (by kernel_rfl)
                    have d1 : f 1 = .int .i64 er := hd 1 (by kernel_rfl)
                    clear hd
                    dsimp only
                    rw [d0]
                    rw [d1]
                    go_wp2_with fail
                    exact ⟨rfl, Below.refl _ _, fun t ht => by injection ht with ht; subst ht; exact ⟨rfl, fun h => by simp at h⟩⟩
                  · intro f w1 hb hd
                    have d2 : f 2 = .bool false := hd 2 (by kernel_rfl)
                    clear hd
                    dsimp only
                    rw [d2]
                    go_wp2_with fail
                    exact ⟨rfl, Below.refl _ _, fun t ht => by injection ht with ht; subst ht; exact ⟨rfl, fun h => by simp at h⟩⟩
                  · intro f w1 hb hd
                    have d3 : f 3 = .bool false := hd 3 (by kernel_rfl)
                    clear hd
                    dsimp only
                    rw [d3]
                    have z0 := (KX2.out.below hb).c0
                    have z1 := (KX2.out.below hb).c1
                    have z2 := (KX2.out.below hb).c2
                    go_wp2_with fail
                    exact ⟨rfl, Below.refl _ _, fun t ht => by injection ht with ht; subst ht; exact ⟨rfl, fun h => by simp at h⟩⟩
                  · intro f w1 hb hd
                    have d3 : f 3 = .bool false := hd 3 (by kernel_rfl)
                    have d4 : f 4 = .agg #[.int .i64 ec, .int .i64 el, .slice va' vn' vc'] := hd 4 (by kernel_rfl)
                    clear hd
                    dsimp only
                    rw [d3]
                    rw [d4]
                    go_wp2_with fail
                    refine (HTo.out w1 hb).mono ?_
                    rintro e w2 ⟨fv', rfl, hr', hbe⟩
                    obtain ⟨q1, q2, q3, _⟩ := hr'.shape
                    have HR9 := Lib.hid hr'
                    clear hr'
                    subst q3
                    go_wp2_with fail
                    exact ⟨rfl, hbe, fun t ht => by injection ht with ht; subst ht; exact ⟨⟨_, rfl, HR9.out⟩, fun h => by simp at h⟩⟩
                  · intro f w1 hb hd
                    have d3 : f 3 = .bool false := hd 3 (by kernel_rfl)
                    clear hd
                    dsimp only
                    rw [d3]
                    have z0 := (KY.out.below hb).c0
                    have z1 := (KY.out.below hb).c1
                    have z2 := (KY.out.below hb).c2
                    go_wp2_with fail
                    exact ⟨rfl, Below.refl _ _, fun t ht => by injection ht with ht; subst ht; exact ⟨rfl, fun h => by simp at h⟩⟩
                  · intro f w1 hb hd
                    have d3 : f 3 = .bool false := hd 3 (by kernel_rfl)
                    have d5 := hd 5 (by kernel_rfl)
                    obtain ⟨vg, eg, rg⟩ : ∃ fv', f 5 = .agg #[.int .i64 ec, .int .i64 el, fv'] ∧ RdF w1 fv' ef := d5
                    obtain ⟨ag, kg, ug, _⟩ := rg.shape
                    subst ug
                    have d6 : f 6 = .agg #[.int .i64 ec, .int .i64 el, .slice ua un uk] := hd 6 (by kernel_rfl)
                    clear hd
                    dsimp only
                    rw [d3]
                    rw [d6]
                    rw [eg]
                    go_wp2_with fail
                    refine (HSa.out w1 _ hb rg).mono ?_
                    rintro e w2 ⟨rfl, hbe⟩
                    go_wp2_with fail
                    exact ⟨rfl, hbe, fun t ht => by injection ht with ht; subst ht; exact ⟨rfl, fun h => by simp at h⟩⟩
                  · intro f w1 hb hd
                    have d3 : f 3 = .bool false := hd 3 (by kernel_rfl)
                    have d7 := hd 7 (by kernel_rfl)
                    have d7 : f 7 = .bool true := d7
                    clear hd
                    dsimp only
                    rw [d3]
                    rw [d7]
                    go_wp2_with fail
                    exact ⟨rfl, Below.refl _ _, fun t ht => by injection ht with ht; subst ht; exact ⟨rfl, fun h => by simp at h⟩⟩
                  · intro f w1 hb hd
                    have d3 : f 3 = .bool false := hd 3 (by kernel_rfl)
                    have d8 := hd 8 (by kernel_rfl)
                    have d8 : f 8 = .bool false := d8
                    clear hd
                    dsimp only
                    rw [d3]
                    rw [d8]
                    go_wp2_with fail
                    exact ⟨rfl, Below.refl _ _, fun t ht => by injection ht with ht; subst ht; exact ⟨rfl, fun h => by simp at h⟩⟩
                · intro f w1 hb hA
                  have d0 : f 0 = .int .i64 er := hA 0 (show 0 < 10 by decide)
                  have d1 : f 1 = .int .i64 er := hA 1 (show 1 < 10 by decide)
                  have d2 : f 2 = .bool false := hA 2 (show 2 < 10 by decide)
                  have d3 : f 3 = .bool false := hA 3 (show 3 < 10 by decide)
                  have d4 : f 4 = .agg #[.int .i64 ec, .int .i64 el, .slice va' vn' vc'] := hA 4 (show 4 < 10 by decide)
                  have d5 := hA 5 (show 5 < 10 by decide)
                  have d6 : f 6 = .agg #[.int .i64 ec, .int .i64 el, .slice ua un uk] := hA 6 (show 6 < 10 by decide)
                  have d7 := hA 7 (show 7 < 10 by decide)
                  have d8 := hA 8 (show 8 < 10 by decide)
                  have d9 := hA 9 (show 9 < 10 by decide)
                  clear hA
                  try dsimp only at *
                  rw [d0]
                  rw [d1]
                  rw [d2]
                  rw [d3]
                  rw [d4]
                  rw [d6]
                  clear d0 d1 d2 d3 d4 d6
                  have d9 : f 9 = .bool false := d9
                  rw [d9]
                  have HBe := Lib.hid hb
                  clear d5 d7 d8 d9 hb HTo HSa
                  go_wp2_with fail
                  exact ⟨⟨j + 1, _, by go_num, by omega, Lib.hid (O10.out.below HBe.out), Lib.hid (Z10.out.below HBe.out), Lib.hid (HE10.out.trans (ExO.of HBe.out)), Lib.hid (bstep HB10.out HBe.out)⟩, by simp [intOf]; omega⟩
            · have j1 : ¬ (j : Int) < 10 := by omega
              go_wp2_with fail
              exact ⟨⟨k + 1, kd2, by go_num, by omega, O, HE, HB⟩, by simp [intOf]; omega⟩
        · have i1 : ¬ (k : Int) < 3 := by omega
          clear HDs
          go_wp2_with fail
          refine (HAw.out _).mono ?_
          rintro e w2 ⟨rfl, hb2⟩
          have HB2 := Lib.hid (bstep HB.out hb2)
          clear hb2
          go_wp2_with fail
          go_ret
          exact ⟨rfl, HB2.out⟩
theorem ops_walk (y : Dk × Value) (a : Option Addr) (n cap : Nat) (limit left : Int) (o : Opr × Value × Value) (w : World) (hy : RdF w y.2 y.1.files ∧ DkWf y.1) (h : ∃ l, RdO w (.slice a n cap) l) (h1 : (Lit.int .i64 limit).wf = true) (h2 : (Lit.int .i64 left).wf = true) (ho : OpIn w o) :
    Calls Tryd.prog 10 #[.agg #[.int .i64 y.1.cap, .int .i64 y.1.left, y.2], .slice a n cap, .int .i64 limit, .int .i64 left, .agg #[.int .i64 o.1.kind, .string (strB o.1.name), .string (strB o.1.to), .int .i64 o.1.off, o.2.1, o.2.2]] w fun e w' => e = .returned (.bool true) ∧ Below w.heap.size w w' := by
  obtain ⟨l, hl⟩ := h
  exact ops_go y.1 y.2 limit left _ l o.1 o.2.1 o.2.2 w hy.1 hy.2 (bounds_of_i64 h1) (bounds_of_i64 h2) hl ho.1 ho.2.1 ho.2.2
end Go.Proofs.YtkabcpmnbjllcaaDoor
