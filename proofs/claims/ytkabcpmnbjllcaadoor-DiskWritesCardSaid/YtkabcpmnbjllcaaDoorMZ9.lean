/- Several texts in one, each over the last: What holds in a region `x, e := f(..)` that draws its order: the call c, the move and the two extracts behind it, the box (c + 4) and its store (c + 5). DiskWrites in plain Lean: what a file holds after it was written. No program here. DiskWrites: the walk. Printed by mkDhd.py. -/
import Derived.Test.YtkabcpmnbjllcaaDoorDru
import Derived.Test.YtkabcpmnbjllcaaDoorDta
import Derived.Test.YtkabcpmnbjllcaaDoorKH
namespace Go.Proofs.YtkabcpmnbjllcaaDoor
open Go.RowKit

theorem RefDk.rd {w w' : World} {xs : List FX} {x : Dk} {e : Ending} (h : RefDk w xs x e w') (hx : PartsX w xs) : ∃ fv, e = .returned (diskVal x.cap x.left fv) ∧ RdF w' fv x.files ∧ Below w.heap.size w w' := by
  obtain ⟨⟨fv, xs', e1, e2, e3⟩, e4⟩ := h
  exact ⟨fv, e1, ⟨feX xs', by rw [feX_fst, e2], e3.rd (KeepB.refl _ _) (hx.below e4)⟩, e4⟩
structure MbS (c : Nat) (T : TypeId) (B0 : Nat) (w6 : World) (S : List Sta) (RS : Dk × Int) (G : World → World → Value → Prop) (L : Nat → Bool) (f : Nat → Value) (W : World) : Prop where
  hb : Below B0 w6 W
  sz : B0 ≤ W.heap.size
  pre : ∀ j, j < c → L j = true → L (c + 5) = false → (stA S j).p (f j) W
  res : L c = true → ∃ Wc w' fv', f c = .tuple #[diskVal RS.1.cap RS.1.left fv', .int .i64 RS.2] ∧ (∃ a n k, fv' = .slice a n k) ∧ G Wc w' fv' ∧ B0 ≤ Wc.heap.size ∧ KeepB Wc.heap.size w' W ∧
    (L (c + 4) = true → ∀ xb, f (c + 4) = .pointer (some ⟨xb, 0, none⟩) → xb < Wc.heap.size ∨ w'.heap.size ≤ xb) ∧ (L (c + 1) = true → f (c + 1) = f c) ∧ (L (c + 2) = true → f (c + 2) = diskVal RS.1.cap RS.1.left fv') ∧ (L (c + 3) = true → f (c + 3) = .int .i64 RS.2) ∧
    (L (c + 5) = true → ∃ xb, f (c + 4) = .pointer (some ⟨xb, 0, none⟩) ∧ BoxD W xb RS.1.cap RS.1.left fv')
  d5 : L (c + 5) = true → (∀ j, j < c → L j = true) ∧ L c = true ∧ L (c + 4) = true
  d6 : L c = false → L (c + 1) = false ∧ L (c + 2) = false ∧ L (c + 3) = false
  box : L (c + 4) = true → ∃ xb, f (c + 4) = .pointer (some ⟨xb, 0, none⟩) ∧ B0 ≤ xb ∧ (L (c + 5) = false → BoxD W xb 0 0 (.slice none 0 0))
section
variable {c : Nat} {T : TypeId} {B0 : Nat} {w6 W W' : World} {S : List Sta} {RS : Dk × Int} {G : World → World → Value → Prop} {L : Nat → Bool} {f : Nat → Value}
theorem MbS.start (hs : B0 = w6.heap.size) (f : Nat → Value) : MbS c T B0 w6 S RS G (fun _ => false) f w6.drew := by
  subst hs
  exact ⟨below_drew (Below.refl _ _), Nat.le_refl _, (fun _ _ h => by cases h), (fun h => by cases h), (fun h => by cases h), (fun _ => ⟨rfl, rfl, rfl⟩), fun h => by cases h⟩
theorem MbS.n5 (h : MbS c T B0 w6 S RS G L f W) {i : Nat} (hi : i < c) (h0 : L i = false) : L (c + 5) = false := by
  cases e : L (c + 5) with
  | false => rfl
  | true => have := (h.d5 e).1 i hi; rw [h0] at this; cases this
/-- An operation before the call. -/
theorem MbS.step (h : MbS c T B0 w6 S RS G L f W) {i : Nat} (hi : i < c) (h0 : L i = false) (hW : Below W.heap.size W W') {v : Value} (hv : (stA S i).p v W') : MbS c T B0 w6 S RS G (onL L i) (updF f i v) W' := by
  have hL : ∀ j, c ≤ j → onL L i j = L j := fun j hj => onR_ne (by omega)
  have hf : ∀ j, c ≤ j → updF f i v j = f j := fun j hj => upR_ne (by omega)
  have n5 := h.n5 hi h0
  refine ⟨h.hb.trans (hW.mono h.sz), Nat.le_trans h.sz hW.size, fun j hj hd h5 => ?_, ?_, ?_, ?_, ?_⟩
  · by_cases e : j = i
    · subst e; rw [upR_eq]; exact hv
    · rw [upR_ne e]; rw [onR_ne e] at hd; exact (stA S j).m _ _ _ hW (h.pre j hj hd n5)
  · rw [hL c (by omega), hL (c + 1) (by omega), hL (c + 2) (by omega), hL (c + 3) (by omega), hL (c + 4) (by omega), hL (c + 5) (by omega), hf c (by omega), hf (c + 1) (by omega), hf (c + 2) (by omega), hf (c + 3) (by omega), hf (c + 4) (by omega)]
    intro e
    obtain ⟨Wc, w', fv', e1, e2, e3, e4, e5, e6, e7, e8, e9, e10⟩ := h.res e
    exact ⟨Wc, w', fv', e1, e2, e3, e4, e5.trans (KeepB.below hW), e6, e7, e8, e9, fun e => (e10 e).imp fun xb hx => ⟨hx.1, hx.2.below hW⟩⟩
  · rw [hL (c + 5) (by omega), n5]; intro e; cases e
  · rw [hL c (by omega), hL (c + 1) (by omega), hL (c + 2) (by omega), hL (c + 3) (by omega)]; exact h.d6
  · rw [hL (c + 4) (by omega), hL (c + 5) (by omega), hf (c + 4) (by omega)]
    intro e
    obtain ⟨xb, e1, e2, e3⟩ := h.box e
    exact ⟨xb, e1, e2, fun e => (e3 e).below hW⟩
theorem MbS.call (h : MbS c T B0 w6 S RS G L f W) (hW : Below W.heap.size W W') (h6 : L c = false) {fv' : Value} (hsl : ∃ a n k, fv' = .slice a n k) (hg : G W W' fv') : MbS c T B0 w6 S RS G (onL L c) (updF f c (.tuple #[diskVal RS.1.cap RS.1.left fv', .int .i64 RS.2])) W' := by
  obtain ⟨n7, n8, n9⟩ := h.d6 h6
  have n11 : L (c + 5) = false := by
    cases e : L (c + 5) with
    | false => rfl
    | true => have := (h.d5 e).2.1; rw [h6] at this; cases this
  refine ⟨h.hb.trans (hW.mono h.sz), Nat.le_trans h.sz hW.size, fun j hj hd h5 => ?_, fun _ => ⟨W, W', fv', upR_eq .., hsl, hg, h.sz, KeepB.refl _ _, ?_, ?_, ?_, ?_, ?_⟩, ?_, ?_, ?_⟩
  · rw [upR_ne (by omega)]; rw [onR_ne (by omega)] at hd; exact (stA S j).m _ _ _ hW (h.pre j hj hd n11)
  · rw [onR_ne (by omega), upR_ne (by omega)]
    intro e xb hx
    obtain ⟨xb', e1, _, e3⟩ := h.box e
    rw [e1] at hx
    obtain rfl := ptr_inj hx
    exact .inl (e3 n11).lt
  · rw [onR_ne (by omega), n7]; intro e; cases e
  · rw [onR_ne (by omega), n8]; intro e; cases e
  · rw [onR_ne (by omega), n9]; intro e; cases e
  · rw [onR_ne (by omega), n11]; intro e; cases e
  · rw [onR_ne (by omega), n11]; intro e; cases e
  · rw [onR_eq]; intro e; cases e
  · rw [onR_ne (by omega), onR_ne (by omega), upR_ne (by omega)]
    intro e
    obtain ⟨xb, e1, e2, e3⟩ := h.box e
    exact ⟨xb, e1, e2, fun e => (e3 e).below hW⟩
theorem MbS.mv (h : MbS c T B0 w6 S RS G L f W) (h6 : L c = true) : MbS c T B0 w6 S RS G (onL L (c + 1)) (updF f (c + 1) (f c)) W := by
  refine ⟨h.hb, h.sz, fun j hj hd h5 => ?_, ?_, ?_, ?_, ?_⟩
  · rw [upR_ne (by omega)]; rw [onR_ne (by omega)] at hd h5; exact h.pre j hj hd h5
  · rw [onR_ne (i := c + 1) (j := c) (by omega), onR_ne (i := c + 1) (j := c + 4) (by omega), onR_eq, onR_ne (i := c + 1) (j := c + 2) (by omega), onR_ne (i := c + 1) (j := c + 3) (by omega), onR_ne (i := c + 1) (j := c + 5) (by omega), upR_ne (i := c + 1) (j := c) (by omega), upR_ne (i := c + 1) (j := c + 4) (by omega), upR_eq, upR_ne (i := c + 1) (j := c + 2) (by omega), upR_ne (i := c + 1) (j := c + 3) (by omega)]
    intro e
    obtain ⟨Wc, w', fv', e1, e2, e3, e4, e5, e6, _, e8⟩ := h.res e
    exact ⟨Wc, w', fv', e1, e2, e3, e4, e5, e6, fun _ => rfl, e8⟩
  · rw [onR_ne (i := c + 1) (j := c + 5) (by omega), onR_ne (i := c + 1) (j := c) (by omega), onR_ne (i := c + 1) (j := c + 4) (by omega)]
    intro e
    exact ⟨fun j hj => (onR_ne (by omega)).trans ((h.d5 e).1 j hj), (h.d5 e).2⟩
  · rw [onR_ne (by omega)]; intro e; rw [h6] at e; cases e
  · rw [onR_ne (by omega), onR_ne (by omega), upR_ne (by omega)]; exact h.box
theorem MbS.ex (h : MbS c T B0 w6 S RS G L f W) (h6 : L c = true) (h7 : L (c + 1) = true) : ∃ fv', f (c + 1) = .tuple #[diskVal RS.1.cap RS.1.left fv', .int .i64 RS.2] ∧ (∃ a n k, fv' = .slice a n k) ∧
    MbS c T B0 w6 S RS G (onL L (c + 2)) (updF f (c + 2) (diskVal RS.1.cap RS.1.left fv')) W ∧ MbS c T B0 w6 S RS G (onL L (c + 3)) (updF f (c + 3) (.int .i64 RS.2)) W := by
  obtain ⟨Wc, w', fv', e1, e2, e3, e4, e5, e6, e7, e8, e9, e10⟩ := h.res h6
  refine ⟨fv', (e7 h7).trans e1, e2, ?_, ?_⟩
  · refine ⟨h.hb, h.sz, fun j hj hd h5 => ?_, ?_, ?_, ?_, ?_⟩
    · rw [upR_ne (by omega)]; rw [onR_ne (by omega)] at hd h5; exact h.pre j hj hd h5
    · rw [onR_ne (i := c + 2) (j := c) (by omega), onR_ne (i := c + 2) (j := c + 4) (by omega), onR_ne (i := c + 2) (j := c + 1) (by omega), onR_eq, onR_ne (i := c + 2) (j := c + 3) (by omega), onR_ne (i := c + 2) (j := c + 5) (by omega), upR_ne (i := c + 2) (j := c) (by omega), upR_ne (i := c + 2) (j := c + 4) (by omega), upR_ne (i := c + 2) (j := c + 1) (by omega), upR_eq, upR_ne (i := c + 2) (j := c + 3) (by omega)]
      intro _
      exact ⟨Wc, w', fv', e1, e2, e3, e4, e5, e6, e7, fun _ => rfl, e9, e10⟩
    · rw [onR_ne (i := c + 2) (j := c + 5) (by omega), onR_ne (i := c + 2) (j := c) (by omega), onR_ne (i := c + 2) (j := c + 4) (by omega)]
      intro e
      exact ⟨fun j hj => (onR_ne (by omega)).trans ((h.d5 e).1 j hj), (h.d5 e).2⟩
    · rw [onR_ne (by omega)]; intro e; rw [h6] at e; cases e
    · rw [onR_ne (by omega), onR_ne (by omega), upR_ne (by omega)]; exact h.box
  · refine ⟨h.hb, h.sz, fun j hj hd h5 => ?_, ?_, ?_, ?_, ?_⟩
    · rw [upR_ne (by omega)]; rw [onR_ne (by omega)] at hd h5; exact h.pre j hj hd h5
    · rw [onR_ne (i := c + 3) (j := c) (by omega), onR_ne (i := c + 3) (j := c + 4) (by omega), onR_ne (i := c + 3) (j := c + 1) (by omega), onR_ne (i := c + 3) (j := c + 2) (by omega), onR_eq, onR_ne (i := c + 3) (j := c + 5) (by omega), upR_ne (i := c + 3) (j := c) (by omega), upR_ne (i := c + 3) (j := c + 4) (by omega), upR_ne (i := c + 3) (j := c + 1) (by omega), upR_ne (i := c + 3) (j := c + 2) (by omega), upR_eq]
      intro _
      exact ⟨Wc, w', fv', e1, e2, e3, e4, e5, e6, e7, e8, fun _ => rfl, e10⟩
    · rw [onR_ne (i := c + 3) (j := c + 5) (by omega), onR_ne (i := c + 3) (j := c) (by omega), onR_ne (i := c + 3) (j := c + 4) (by omega)]
      intro e
      exact ⟨fun j hj => (onR_ne (by omega)).trans ((h.d5 e).1 j hj), (h.d5 e).2⟩
    · rw [onR_ne (by omega)]; intro e; rw [h6] at e; cases e
    · rw [onR_ne (by omega), onR_ne (by omega), upR_ne (by omega)]; exact h.box
theorem MbS.store (h : MbS c T B0 w6 S RS G L f W) (hdn : ∀ j, j < c → L j = true) (h8 : L (c + 2) = true) (h10 : L (c + 4) = true) (h11 : L (c + 5) = false) : ∃ xb fv', f (c + 4) = .pointer (some ⟨xb, 0, none⟩) ∧ f (c + 2) = diskVal RS.1.cap RS.1.left fv' ∧ (∃ a n k, fv' = .slice a n k) ∧ BoxD W xb 0 0 (.slice none 0 0) ∧
    ∀ v, MbS c T B0 w6 S RS G (onL L (c + 5)) (updF f (c + 5) v) (((W.setCell ⟨xb, 0, none⟩ (.int .i64 RS.1.cap)).setCell ⟨xb, 1, none⟩ (.int .i64 RS.1.left)).setCell ⟨xb, 2, none⟩ fv') := by
  have h6 : L c = true := by
    cases e : L c with
    | true => rfl
    | false => have := (h.d6 e).2.1; rw [h8] at this; cases this
  obtain ⟨Wc, w', fv', e1, e2, e3, e4, e5, e6, e7, e8, e9, _⟩ := h.res h6
  obtain ⟨xb, g1, g2, g3⟩ := h.box h10
  have g3 := g3 h11
  refine ⟨xb, fv', g1, e8 h8, e2, g3, fun v => ⟨((h.hb.setCell (p := ⟨xb, 0, none⟩) g2 _).setCell (p := ⟨xb, 1, none⟩) g2 _).setCell (p := ⟨xb, 2, none⟩) g2 _, by have := h.sz; simpa using this, fun j hj hd h5 => ?_, ?_, ?_, ?_, ?_⟩⟩
  · rw [onR_eq] at h5; cases h5
  · rw [onR_ne (i := c + 5) (j := c) (by omega), onR_ne (i := c + 5) (j := c + 4) (by omega), onR_ne (i := c + 5) (j := c + 1) (by omega), onR_ne (i := c + 5) (j := c + 2) (by omega), onR_ne (i := c + 5) (j := c + 3) (by omega), onR_eq, upR_ne (i := c + 5) (j := c) (by omega), upR_ne (i := c + 5) (j := c + 4) (by omega), upR_ne (i := c + 5) (j := c + 1) (by omega), upR_ne (i := c + 5) (j := c + 2) (by omega), upR_ne (i := c + 5) (j := c + 3) (by omega)]
    intro _
    refine ⟨Wc, w', fv', e1, e2, e3, e4, ?_, e6, e7, e8, e9, fun _ => ⟨xb, g1, g3.all RS.1.cap RS.1.left fv'⟩⟩
    rcases e6 h10 xb g1 with hx | hx
    · exact e5.trans (KeepB.all3 hx _ _ _)
    · exact e5.new3 hx _ _ _
  · intro _
    exact ⟨fun j hj => (onR_ne (by omega)).trans (hdn j hj), (onR_ne (by omega)).trans h6, (onR_ne (by omega)).trans h10⟩
  · rw [onR_ne (i := c + 5) (j := c) (by omega), h6]; intro e; cases e
  · rw [onR_ne (i := c + 5) (j := c + 4) (by omega), onR_eq, upR_ne (i := c + 5) (j := c + 4) (by omega)]
    intro _
    exact ⟨xb, g1, g2, fun e => by cases e⟩
theorem MbS.ends (h : MbS c T B0 w6 S RS G L f W) (h6 : L c = true) (h9 : L (c + 3) = true) (h11 : L (c + 5) = true) : ∃ Wc w' fv' xb, f (c + 3) = .int .i64 RS.2 ∧ f (c + 4) = .pointer (some ⟨xb, 0, none⟩) ∧ BoxD W xb RS.1.cap RS.1.left fv' ∧ (∃ a n k, fv' = .slice a n k) ∧ G Wc w' fv' ∧ B0 ≤ Wc.heap.size ∧ KeepB Wc.heap.size w' W := by
  obtain ⟨Wc, w', fv', e1, e2, e3, e4, e5, e6, e7, e8, e9, e10⟩ := h.res h6
  obtain ⟨xb, g1, g2⟩ := e10 h11
  exact ⟨Wc, w', fv', xb, e9 h9, g1, g2, e2, e3, e4, e5⟩
end
end Go.Proofs.YtkabcpmnbjllcaaDoor

namespace Go.Proofs.YtkabcpmnbjllcaaDoor

/-- A write that fits, to file i. -/
theorem write_yes {d : Dk} {B : Nat} (hv : VldD d) (hp : PlD B d) {i : Nat} (hi : i < d.files.length) {w : Wr} (hw : FitsW w (atN d.files i)) (hb : w.off + (w.data.length : Int) ≤ 1048576) :
    ∃ x, writtenD d i w = (x, 0) ∧ x.left = -1 ∧ VldD x ∧ x.files.length = d.files.length ∧ (∀ j, j ≠ i → atN x.files j = atN d.files j) ∧ (∀ j, (atN x.files j).name = (atN d.files j).name) ∧ contF (atN x.files i) = appl w (contF (atN d.files i)) := by
  have he : writtenD d i w = (⟨d.cap, nextL d.left, d.files.set i ⟨(atN d.files i).name, (atN d.files i).base, (atN d.files i).pend ++ [w]⟩⟩, 0) := by
    unfold writtenD
    dsimp only
    rw [if_neg (by omega), if_neg (by rw [hp.cap]; omega)]
  have hx := writtenD_vld hv hi hw (by rw [he])
  rw [he] at hx
  refine ⟨_, he, hp.next, hx, List.length_set .., fun j hj => atN_set_ne (Ne.symm hj) _, fun j => ?_, ?_⟩
  · by_cases hj : i = j
    · subst hj; dsimp only; rw [atN_set_eq hi]
    · dsimp only; rw [atN_set_ne hj]
  · have hlen : i < (d.files.set i ⟨(atN d.files i).name, (atN d.files i).base, (atN d.files i).pend ++ [w]⟩).length := by rw [List.length_set]; exact hi
    have hs := sized_of_vld hx hlen
    dsimp only at hs ⊢
    rw [atN_set_eq hi] at hs ⊢
    unfold contF
    rw [if_pos hs, if_pos (sized_of_vld hv hi)]
    exact appls_snoc _ _ _
theorem putW_split {c b : List UInt8} {k : Nat} (hk : k ≤ c.length) : putW c k b = c.take k ++ b ++ c.drop (k + b.length) := by
  unfold putW
  rw [show k - c.length = 0 by omega]
  simp [zer]
/-- What the law looks at. -/
structure WrX (d : Dk) (s c b : List UInt8) (k : Nat) (x y z : Dk) : Prop where
  ax : appendD d s b = (x, 0)
  ay : putD d s (k : Int) b = (y, 0)
  az : truncD d s (k : Int) = (z, 0)
  rx : readD x s 0 ((c.length : Int) + (b.length : Int)) = (c ++ b, 0)
  ry : readD y s 0 (max (c.length : Int) ((k : Int) + (b.length : Int))) = (c.take k ++ b ++ c.drop (k + b.length), 0)
  rz : readD z s 0 (k : Int) = (c.take k, 0)
  sz : sizeD z s = ((k : Int), 0)
  vx : VldD x
  vy : VldD y
  vz : VldD z
  rest : ∀ j, j < d.files.length → (atN d.files j).name ≠ s → ∃ o : List UInt8, o.length ≤ 1048576 ∧ sizeD d (atN d.files j).name = ((o.length : Int), 0) ∧ readD d (atN d.files j).name 0 (o.length : Int) = (o, 0) ∧
    readD x (atN d.files j).name 0 (o.length : Int) = (o, 0) ∧ readD y (atN d.files j).name 0 (o.length : Int) = (o, 0) ∧ readD z (atN d.files j).name 0 (o.length : Int) = (o, 0)
theorem writes_plain {d : Dk} (hv : VldD d) (hp : PlD 2800 d) {s : List UInt8} (he : (sizeD d s).2 = 0) : ∃ c : List UInt8, c.length ≤ 2800 ∧ sizeD d s = ((c.length : Int), 0) ∧ readD d s 0 (c.length : Int) = (c, 0) ∧
    ∀ (b : List UInt8) (k : Nat), b.length ≤ 200 → k ≤ c.length → ∃ x y z, WrX d s c b k x y z := by
  have ha : atE d s = 0 := by
    refine Classical.byContradiction fun e => ?_
    unfold sizeD at he
    rw [if_pos e] at he
    exact e he
  obtain ⟨_, _, _, hlo, hnm⟩ := atE_ok ha
  generalize hi : lowN d.files s = i at *
  have hl0 : d.left ≠ 0 := by rw [hp.left]; decide
  obtain ⟨_, _, s1, r1⟩ := file_at hv hl0 hlo hnm
  have hsz := sized_of_vld hv hlo
  have hlen := lenF_cont hsz
  have hc := contF_top (hp.tiny i)
  generalize hcc : contF (atN d.files i) = c at *
  refine ⟨c, hc, s1, by rw [r1 _ (Nat.le_refl _), List.take_length], fun b k hb hk => ?_⟩
  obtain ⟨x, ex, lx, vx, nx, ox, mx, cx⟩ := write_yes hv hp hlo (w := ⟨lenF (atN d.files i), b, false⟩) (fitsApp _ _ hsz) (by dsimp only; omega)
  obtain ⟨y, ey, ly, vy, ny, oy, my, cy⟩ := write_yes hv hp hlo (w := ⟨(k : Int), b, false⟩) ⟨by dsimp only; omega, by dsimp only; omega, fun h => by cases h⟩ (by dsimp only; omega)
  obtain ⟨z, ez, lz, vz, nz, oz, mz, cz⟩ := write_yes hv hp hlo (w := ⟨(k : Int), [], true⟩) ⟨by dsimp only; omega, by dsimp only; omega, fun _ => rfl⟩ (by simp; omega)
  rw [hcc] at cx cy cz
  have cx' : contF (atN x.files i) = c ++ b := by
    rw [cx]
    unfold appl
    rw [if_neg (by simp)]
    dsimp only
    rw [hlen, Int.toNat_natCast, putW_split (Nat.le_refl _), List.take_length, List.drop_of_length_le (by omega), List.append_nil]
  have cy' : contF (atN y.files i) = c.take k ++ b ++ c.drop (k + b.length) := by
    rw [cy]
    unfold appl
    rw [if_neg (by simp)]
    dsimp only
    rw [Int.toNat_natCast, putW_split hk]
  have cz' : contF (atN z.files i) = c.take k := by
    rw [cz]
    unfold appl
    rw [if_pos rfl]
    dsimp only
    rw [Int.toNat_natCast]
  obtain ⟨_, _, sx, rx⟩ := file_at vx (by rw [lx]; decide) (i := i) (by omega) (s := s) (by rw [mx]; exact hnm)
  obtain ⟨_, _, sy, ry⟩ := file_at vy (by rw [ly]; decide) (i := i) (by omega) (s := s) (by rw [my]; exact hnm)
  obtain ⟨_, _, sz, rz⟩ := file_at vz (by rw [lz]; decide) (i := i) (by omega) (s := s) (by rw [mz]; exact hnm)
  rw [cx'] at sx rx
  rw [cy'] at sy ry
  rw [cz'] at sz rz
  have l1 : (c ++ b).length = c.length + b.length := List.length_append
  have l2 : (c.take k ++ b ++ c.drop (k + b.length)).length = max c.length (k + b.length) := by
    simp only [List.length_append, List.length_take, List.length_drop]; omega
  have l3 : (c.take k).length = k := by rw [List.length_take]; omega
  refine ⟨x, y, z, ?_, ?_, ?_, ?_, ?_, ?_, ?_, vx, vy, vz, ?_⟩
  · unfold appendD; rw [if_neg (by simp [ha]), hi]; exact ex
  · unfold putD; rw [if_neg (by simp [ha]), hi, if_neg (by omega)]; exact ey
  · unfold truncD; rw [if_neg (by simp [ha]), hi, if_neg (by omega)]; exact ez
  · have := rx _ (Nat.le_refl _)
    rw [l1, List.take_of_length_le (by omega)] at this
    rw [← this]; congr 1
  · have := ry _ (Nat.le_refl _)
    rw [l2, List.take_of_length_le (by omega)] at this
    rw [← this]; congr 1; omega
  · have := rz _ (Nat.le_refl _)
    rw [l3, List.take_of_length_le (by omega)] at this
    exact this
  · rw [sz, l3]
  · intro j hj hne
    have hji : j ≠ i := fun e => hne (by rw [e]; exact hnm)
    obtain ⟨_, _, s0, r0⟩ := file_at hv hl0 hj rfl
    obtain ⟨_, _, _, r1⟩ := file_at vx (by rw [lx]; decide) (i := j) (by omega) (s := (atN d.files j).name) (mx j)
    obtain ⟨_, _, _, r2⟩ := file_at vy (by rw [ly]; decide) (i := j) (by omega) (s := (atN d.files j).name) (my j)
    obtain ⟨_, _, _, r3⟩ := file_at vz (by rw [lz]; decide) (i := j) (by omega) (s := (atN d.files j).name) (mz j)
    rw [ox j hji] at r1
    rw [oy j hji] at r2
    rw [oz j hji] at r3
    have hle := contF_le (atN d.files j)
    generalize contF (atN d.files j) = o at *
    have ht : o.take o.length = o := List.take_length
    refine ⟨o, hle, s0, ?_, ?_, ?_, ?_⟩
    · rw [r0 _ (Nat.le_refl _), ht]
    · rw [r1 _ (Nat.le_refl _), ht]
    · rw [r2 _ (Nat.le_refl _), ht]
    · rw [r3 _ (Nat.le_refl _), ht]
end Go.Proofs.YtkabcpmnbjllcaaDoor

namespace Go.Proofs.YtkabcpmnbjllcaaDoor
open Go.RowKit

theorem strB_cat (a b : List UInt8) : strB a ++ strB b = strB (a ++ b) := by
  unfold strB
  apply ByteArray.ext
  simp
theorem app_lite {d : Dk} {k : Nat} (hs : SmallD d k) {s b : List UInt8} {x : Dk} (h : appendD d s b = (x, 0)) (hv : VldD x) (hk : k + 1 ≤ 5000) : LiteD x := hv.lite (by
  have := changeD_small hs ⟨1, s, [], 0, b, []⟩
  have e : changeD d ⟨1, s, [], 0, b, []⟩ = appendD d s b := rfl
  rw [e, h] at this; exact this) hk
theorem put_lite {d : Dk} {k : Nat} (hs : SmallD d k) {s b : List UInt8} {o : Int} {x : Dk} (h : putD d s o b = (x, 0)) (hv : VldD x) (hk : k + 1 ≤ 5000) : LiteD x := hv.lite (by
  have := changeD_small hs ⟨3, s, [], o, b, []⟩
  have e : changeD d ⟨3, s, [], o, b, []⟩ = putD d s o b := rfl
  rw [e, h] at this; exact this) hk
theorem trunc_lite {d : Dk} {k : Nat} (hs : SmallD d k) {s : List UInt8} {o : Int} {x : Dk} (h : truncD d s o = (x, 0)) (hv : VldD x) (hk : k + 1 ≤ 5000) : LiteD x := hv.lite (by
  have := changeD_small hs ⟨4, s, [], o, [], []⟩
  have e : changeD d ⟨4, s, [], o, [], []⟩ = truncD d s o := rfl
  rw [e, h] at this; exact this) hk
theorem RdL.atW {w : World} {a : Option Addr} {n cap : Nat} {l : List (List UInt8)} (h : RdL strV w (.slice a n cap) l) {j : Nat} (hj : j < l.length) : ∃ b off, a = some ⟨b, off, none⟩ ∧ w.cell? ⟨b, off + j, none⟩ = some (.string (strB (l.getD j []))) := by
  obtain ⟨_, _, e, _, _, _, h6⟩ := h.shape []
  injection e with e1 e2 e3
  subst e1 e2 e3
  obtain ⟨b, off, e4, hc⟩ := h6 (by omega)
  exact ⟨b, off, e4, hc j hj⟩
theorem nine_cells (W : World) (a b c d e f g h i : Value) (T : TypeId) : (W.alloc (.cells #[a, b, c, d, e, f, g, h, i] T)).cell? ⟨W.heap.size, 0, none⟩ = some a ∧ (W.alloc (.cells #[a, b, c, d, e, f, g, h, i] T)).cell? ⟨W.heap.size, 1, none⟩ = some b ∧ (W.alloc (.cells #[a, b, c, d, e, f, g, h, i] T)).cell? ⟨W.heap.size, 2, none⟩ = some c ∧
    (W.alloc (.cells #[a, b, c, d, e, f, g, h, i] T)).cell? ⟨W.heap.size, 3, none⟩ = some d ∧ (W.alloc (.cells #[a, b, c, d, e, f, g, h, i] T)).cell? ⟨W.heap.size, 4, none⟩ = some e ∧ (W.alloc (.cells #[a, b, c, d, e, f, g, h, i] T)).cell? ⟨W.heap.size, 5, none⟩ = some f ∧
    (W.alloc (.cells #[a, b, c, d, e, f, g, h, i] T)).cell? ⟨W.heap.size, 6, none⟩ = some g ∧ (W.alloc (.cells #[a, b, c, d, e, f, g, h, i] T)).cell? ⟨W.heap.size, 7, none⟩ = some h ∧ (W.alloc (.cells #[a, b, c, d, e, f, g, h, i] T)).cell? ⟨W.heap.size, 8, none⟩ = some i :=
  ⟨by simp, by simp, by simp, by simp, by simp, by simp, by simp, by simp, by simp⟩
theorem at_num {off n : Int} (hn : 0 ≤ n) : ∃ (r : Int) (k : Nat), off.tmod (n + 1) = r ∧ -n ≤ r ∧ r ≤ n ∧ (r + n + 1).tmod (n + 1) = (k : Int) ∧ (r + n + 1) % (n + 1) = (k : Int) ∧ (k : Int) ≤ n := by
  have h1 := Int.tmod_lt_of_pos off (b := n + 1) (by omega)
  have h2 := Int.lt_tmod_of_pos off (b := n + 1) (by omega)
  have h3 := Int.emod_nonneg (off.tmod (n + 1) + n + 1) (b := n + 1) (by omega)
  have h4 := Int.emod_lt_of_pos (off.tmod (n + 1) + n + 1) (b := n + 1) (by omega)
  refine ⟨off.tmod (n + 1), ((off.tmod (n + 1) + n + 1) % (n + 1)).toNat, rfl, by omega, by omega, ?_, by omega, by omega⟩
  rw [Int.tmod_eq_emod_of_nonneg (by omega)]
  omega
theorem toStr {w : World} {v : Value} {l : List UInt8} (h : RdB w v l) : (convert 47 9 v).run Tryd.prog w = .ok (.string (strB l)) w := run_to_string (P := Tryd.prog) 47 9 5 Tryd.underlying47 Tryd.underlying5 Tryd.underlying9 h
/-- Size, Read of a disk answer so. -/
def SzC (c l : Int) (fl : List Fil) (sv : ByteArray) (n : Int) : Prop := ∀ W v, RdF W v fl → Calls Tryd.prog 29 #[.agg #[.int .i64 c, .int .i64 l, v], .string sv] W fun e w' => e = .returned (.tuple #[.int .i64 n, .int .i64 0]) ∧ Below W.heap.size W w'
def RdC (c l : Int) (fl : List Fil) (sv : ByteArray) (n : Int) (o : List UInt8) : Prop := ∀ W v, RdF W v fl → Calls Tryd.prog 32 #[.agg #[.int .i64 c, .int .i64 l, v], .string sv, .int .i64 0, .int .i64 n] W fun e w' => ∃ a n k, e = .returned (.tuple #[.slice a n k, .int .i64 0]) ∧ RdB w' (.slice a n k) o ∧ Below W.heap.size W w'
theorem SzC.of {d : Dk} {s : List UInt8} {n : Int} (hL : LiteD d) (hs : s.length ≤ 9223372036854775807) (h : sizeD d s = (n, 0)) : SzC d.cap d.left d.files (strB s) n := fun W v hr => by
  have := size_any d s v W hr hL hs
  rw [h] at this
  exact this
theorem RdC.of {d : Dk} {s o : List UInt8} {n : Int} (hL : LiteD d) (hs : s.length ≤ 9223372036854775807) (h : readD d s 0 n = (o, 0)) : RdC d.cap d.left d.files (strB s) n o := fun W v hr => by
  have := read_any d s 0 n v W hr hL hs
  rw [h] at this
  refine this.mono fun e w' ⟨v', e1, e2, e3⟩ => ?_
  obtain ⟨a, k, ev, _⟩ := own_form e2
  subst ev
  exact ⟨a, _, k, e1, e2.rd, e3⟩
/-- What the law asks of another file. -/
structure OtC (mc ml : Int) (mf : List Fil) (xc xl : Int) (xf : List Fil) (yc yl : Int) (yf : List Fil) (zc zl : Int) (zf : List Fil) (nm : ByteArray) (o : List UInt8) : Prop where
  len : o.length ≤ 1048576
  sz : SzC mc ml mf nm o.length
  rd : RdC mc ml mf nm o.length o
  rx : RdC xc xl xf nm o.length o
  ry : RdC yc yl yf nm o.length o
  rz : RdC zc zl zf nm o.length o
set_option maxRecDepth 100000 in
set_option maxHeartbeats 12800000 in
theorem writes_go (s : List UInt8) (hs : s.length ≤ 9223372036854775807) (off : Int) (hoff : I64 off) (lv bv : Value) (l : List (Opr × Value × Value)) (b : List UInt8) (w : World) (hl : RdO w lv l) (hb : RdB w bv b) :
    Calls Tryd.prog 8 #[lv, .string (strB s), .int .i64 off, bv] w fun e w' => e = .returned (.bool true) ∧ Below w.heap.size w w' := by
  obtain ⟨la, lc, rfl, _, _⟩ := hl.shape
  obtain ⟨da, dc, rfl, _⟩ := hb.shape0
  have HMd := Lib.hid ((made_any 0 (-1) _ l w hl (by unfold I64; omega) (by unfold I64; omega)).mono fun e w' hh => hh.rd (PartsX.nil w))
  have HP := Lib.hid (made_plain (l.map (·.1)))
  have HVm := Lib.hid (madeD_vld 0 (-1) (l.map (·.1)))
  have HSm := Lib.hid (madeD_small (limit := 0) (left := -1) (by unfold I64; omega) (by unfold I64; omega) (l.map (·.1)))
  clear hl
  generalize madeD 0 (-1) (l.map (·.1)) = md at *
  generalize l.length = ln at *
  have HDc := Lib.hid (fun h => slice_by hb 200 h)
  have HD0 := Lib.hid hb
  clear hb
  have hdl : (b.take 200).length ≤ 200 := by rw [List.length_take]; omega
  have HLi := Lib.hid (HVm.out.lite HSm.out (by decide))
  have HGi := Lib.hid (fun fv W (h : RdF W fv md.files) => given_any md fv W h HLi.out.len (fun f hf => by have := HSm.out.pend f hf; omega))
  have HSz := Lib.hid (fun (d : Dk) s fv W (hs : s.length ≤ 9223372036854775807) (hL : LiteD d) (h : RdF W fv d.files) => size_any d s fv W h hL hs)
  have HRd := Lib.hid (fun (d : Dk) s n fv W (hs : s.length ≤ 9223372036854775807) (hL : LiteD d) (h : RdF W fv d.files) => read_any d s 0 n fv W h hL hs)
  have HAp := Lib.hid (fun (b : List UInt8) bv fv W (h : RdF W fv md.files) (hb : RdB W bv b) (hbl : b.length ≤ 200) => (append_any md s b fv bv W h HLi.out hs hb (by omega)).mono fun _ _ h => h.op)
  have HPu := Lib.hid (fun (b : List UInt8) k bv fv W (h : RdF W fv md.files) (hb : RdB W bv b) (hbl : b.length ≤ 200) => (put_any md s b k fv bv W h HLi.out hs hb (by omega)).mono fun _ _ h => h.op)
  have HTr := Lib.hid (fun k fv W (h : RdF W fv md.files) => (trunc_any md s k fv W h HLi.out hs).mono fun _ _ h => h.op)
  have HNa := Lib.hid (fun fv W (h : RdF W fv md.files) => names_any md fv W h HLi.out)
  have HWp := Lib.hid (fun he => writes_plain HVm.out HP.out (s := s) he)
  generalize hsv : strB s = sv at *
  have Hsv := Lib.hid hsv
  clear hsv
  obtain ⟨mc, ml, mf⟩ := md
  dsimp only [diskVal] at *
  go_enter Tryd.func8, Tryd.ntmps8
  go_upto_if 42 with fail
  go_cut [3] (fun v wx => (∃ a n c, v = .slice a n c ∧ Hid (RdB w (.slice a n c) (b.take 200))) ∧ w = wx)
  case first =>
    by_cases hk10 : 200 < b.length
    · have hd : decide ((200 : Int) < (b.length : Int)) = true := by simp; omega
      obtain ⟨kq, hs1, hr1⟩ := HDc.out (by omega)
      change ∀ W kh, (Instr.slice 47 (.slice da b.length dc) none (some (.int kh 200)) none).run Tryd.prog W = .ok (.slice kq 200 dc) W at hs1
      have HK := Lib.hid hr1
      clear hr1 HDc HD0 hdl
      generalize b.take 200 = D at *
      generalize b.length = bn at *
      go_wp2_with fail
      go_meet
      case rel => exact ⟨⟨_, _, _, rfl, HK⟩, rfl⟩
    · have hd : decide ((200 : Int) < (b.length : Int)) = false := by simp; omega
      have HKT := Lib.hid (show RdB w (.slice da b.length dc) (b.take 200) by rw [List.take_of_length_le (by omega)]; exact HD0.out)
      clear HDc hdl HD0
      generalize b.take 200 = D at *
      generalize b.length = bn at *
      go_wp2_with fail
      go_meet
      case rel => exact ⟨⟨_, _, _, rfl, HKT⟩, rfl⟩
  case rest =>
    obtain ⟨⟨kq, kn, kcc, rfl, HK⟩, hwx⟩ := hcut
    subst hwx
    clear HDc HD0
    have HDl := Lib.hid hdl
    clear hdl
    generalize b.take 200 = D at *
    obtain rfl : kn = D.length := by
      obtain ⟨_, _, e0, _⟩ := HK.out.shape0
      injection e0
    go_wp2_with fail
    refine HMd.out.mono ?_
    rintro e w1 ⟨mv, rfl, hr1, hb1⟩
    obtain ⟨ma, mk, rfl, _⟩ := hr1.shape
    have HB1 := Lib.hid hb1
    have HR1 := Lib.hid hr1
    clear hr1 hb1 HMd
    dsimp only [diskVal]
    go_wp2_with fail
    refine (HGi.out _ _ HR1.out).mono ?_
    rintro e w2 ⟨gv, rfl, hr2, hb2⟩
    obtain ⟨ga, gk, rfl, _⟩ := hr2.shape
    have HB2 := Lib.hid (bstep HB1.out hb2)
    have X0 := Lib.hid (BoxR.new (d := ⟨mc, ml, mf⟩) hr2)
    have HB3 := Lib.hid (HB2.out.alloc HB2.out.size (.cells #[.int .i64 mc, .int .i64 ml, .slice ga mf.length gk] 33))
    dsimp only at X0
    clear hr2 hb2 HB1 HB2 HR1 HGi
    generalize mf.length = mn at *
    go_upto_region 4 with fail
    generalize w2.alloc (.cells #[.int .i64 mc, .int .i64 ml, .slice ga mn gk] 33) = w3 at *
    generalize w2.heap.size = b0 at *
    have x0 := X0.out.x.c0
    have x1 := X0.out.x.c1
    have x2 := X0.out.x.c2
    have HSd := Lib.hid (fun W (h : RdF W (.slice ga mn gk) mf) => HSz.out ⟨mc, ml, mf⟩ s _ W hs HLi.out h)
    rw [Hsv.out] at HSd
    go_wp2_with fail
    refine (HSd.out _ X0.out.r).mono ?_
    rintro e w4 ⟨rfl, hb4⟩
    have HB4 := Lib.hid (bstep HB3.out hb4)
    have X1 := Lib.hid (X0.out.below hb4)
    clear hb4 x0 x1 x2 X0 HB3 HSd
    by_cases he : (sizeD ⟨mc, ml, mf⟩ s).2 = 0
    · obtain ⟨c, hc, es, er, hW⟩ := HWp.out he
      have HW := Lib.hid hW
      have hcr : readD ⟨mc, ml, mf⟩ s 0 (sizeD ⟨mc, ml, mf⟩ s).1 = (c, 0) := by rw [es]; exact er
      rw [es]
      dsimp only
      clear hW he HWp hcr es
      have HEr := Lib.hid er
      clear er
      have HRe := Lib.hid (fun W (h : RdF W (.slice ga mn gk) mf) => HRd.out ⟨mc, ml, mf⟩ s (c.length : Int) _ W hs HLi.out h)
      rw [Hsv.out, HEr.out] at HRe
      have x0 := X1.out.x.c0
      have x1 := X1.out.x.c1
      have x2 := X1.out.x.c2
      obtain ⟨r, k, ha1, ha2, ha3, ha4, ha5, ha6⟩ := at_num (off := off) (n := (c.length : Int)) (by omega)
      obtain ⟨x, y, z, hwx⟩ := HW.out D k HDl.out (by omega)
      have HX := Lib.hid hwx
      have HLs := Lib.hid (And.intro (app_lite HSm.out hwx.ax hwx.vx (by decide)) (And.intro (put_lite HSm.out hwx.ay hwx.vy (by decide)) (trunc_lite HSm.out hwx.az hwx.vz (by decide))))
      have HAx := Lib.hid (fun W (h : RdF W (.slice ga mn gk) mf) (hb : RdB W (.slice kq D.length kcc) D) => HAp.out D _ _ W h hb HDl.out)
      have HAy := Lib.hid (fun W (h : RdF W (.slice ga mn gk) mf) (hb : RdB W (.slice kq D.length kcc) D) => HPu.out D (k : Int) _ _ W h hb HDl.out)
      have HAz := Lib.hid (fun W (h : RdF W (.slice ga mn gk) mf) => HTr.out (k : Int) _ W h)
      rw [hwx.ax] at HAx
      rw [hwx.ay] at HAy
      rw [hwx.az] at HAz
      have Hck := Lib.hid (show k ≤ c.length by omega)
      clear hwx HW HAp HPu HTr HEr
      obtain ⟨xc, xl, xf⟩ := x
      obtain ⟨yc, yl, yf⟩ := y
      obtain ⟨zc, zl, zf⟩ := z
      have HRX : RdC xc xl xf sv ((c.length : Int) + (D.length : Int)) (c ++ D) := by have := RdC.of HLs.out.1 hs HX.out.rx; rw [Hsv.out] at this; exact this
      have HRY : RdC yc yl yf sv (max (c.length : Int) ((k : Int) + (D.length : Int))) (c.take k ++ D ++ c.drop (k + D.length)) := by have := RdC.of HLs.out.2.1 hs HX.out.ry; rw [Hsv.out] at this; exact this
      have HRZ : RdC zc zl zf sv (k : Int) (c.take k) := by have := RdC.of HLs.out.2.2 hs HX.out.rz; rw [Hsv.out] at this; exact this
      have HSZ : SzC zc zl zf sv (k : Int) := by have := SzC.of HLs.out.2.2 hs HX.out.sz; rw [Hsv.out] at this; exact this
      have HNm := Lib.hid (show namesD ⟨mc, ml, mf⟩ = mf.map (·.name) by unfold namesD; rw [if_pos ((validD_iff _).2 HVm.out)])
      have HOt := Lib.hid (show ∀ j, j < (mf.map (·.name)).length → strB ((mf.map (·.name)).getD j []) ≠ sv → ∃ o, OtC mc ml mf xc xl xf yc yl yf zc zl zf (strB ((mf.map (·.name)).getD j [])) o from fun j hj hne => by
        rw [List.length_map] at hj
        have hg : (mf.map (·.name)).getD j [] = (atN mf j).name := by
          unfold atN
          rw [List.getD_eq_getElem?_getD, List.getD_eq_getElem?_getD, List.getElem?_map, List.getElem?_eq_getElem hj]; rfl
        rw [hg] at hne ⊢
        have hl : (atN mf j).name.length ≤ 9223372036854775807 := Nat.le_trans (HLi.out.fil (atN mf j) (atN_mem hj)).name (by omega)
        obtain ⟨o, o1, o2, o3, o4, o5, o6⟩ := HX.out.rest j hj (fun e => hne (by rw [show (atN mf j).name = s from e]; exact Hsv.out))
        exact ⟨o, o1, SzC.of HLi.out hl o2, RdC.of HLi.out hl o3, RdC.of HLs.out.1 hl o4, RdC.of HLs.out.2.1 hl o5, RdC.of HLs.out.2.2 hl o6⟩)
      rw [HNm.out] at HNa
      have hNl : (mf.map (·.name)).length ≤ 1000 := by rw [List.length_map]; exact HLi.out.len
      clear HX HLs HSz HRd HNm HP HVm HSm HLi hs
      generalize mf.map (·.name) = NM at *
      dsimp only at HAx HAy HAz HRe
      go_wp2_with fail
      refine (HRe.out _ X1.out.r).mono ?_
      rintro e w5 ⟨rv, rfl, ho5, hb5⟩
      obtain ⟨r1, k1, ev1, _⟩ := own_form ho5
      subst ev1
      have HB5 := Lib.hid (bstep HB4.out hb5)
      have HC := Lib.hid ho5.rd
      have X2 := Lib.hid (X1.out.below hb5)
      clear hb5 ho5 x0 x1 x2 X1 HB4 HRe
      generalize (c.map byteV).length = cm at *
      have HL1 := Lib.hid (show (c ++ D).length = c.length + D.length from List.length_append)
      have HL2 := Lib.hid (show (c.take k ++ D).length = k + D.length by rw [List.length_append, List.length_take]; have := Hck.out; omega)
      have HL3 := Lib.hid (show (c.take k).length = k by rw [List.length_take]; have := Hck.out; omega)
      have HL4 := Lib.hid (show (c.take k ++ D ++ c.drop (k + D.length)).length = max c.length (k + D.length) by simp only [List.length_append, List.length_take, List.length_drop]; have := Hck.out; omega)
      have HL5 := Lib.hid (show (c.drop (k + D.length)).length = c.length - (k + D.length) from List.length_drop)
      have hdl := HDl.out
      generalize hcn : c.length = cn at *
      have Hcn := Lib.hid hcn
      clear hcn
      generalize hDn : D.length = dn at *
      have HDn := Lib.hid hDn
      clear hDn
      have X := X2
      have HB := HB5
      clear X2 HB5 HDl
      go_upto_region 9 with fail
      clear ha1 ha2 ha3 ha4 ha5
      have x0 := X.out.x.c0
      have x1 := X.out.x.c1
      have x2 := X.out.x.c2
      go_wp2_with fail
      refine (HAx.out _ X.out.r (RdL.below HK.out HB.out)).mono ?_
      rintro e w6 ⟨a6, n6, k6, rfl, -, hf, hbv⟩
      have BX := Lib.hid (BoxR.new (d := ⟨xc, xl, xf⟩) hf)
      have hA := (Below.refl w6.heap.size w6).alloc (Nat.le_refl _) (.cells #[.int .i64 xc, .int .i64 xl, .slice a6 n6 k6] 33)
      have hbw := hbv.trans (hA.mono hbv.size)
      dsimp only at BX
      replace X := Lib.hid (X.out.below hbw)
      replace HC := Lib.hid (RdL.below HC.out hbw)
      have HBn := Lib.hid (bstep HB.out hbw)
      clear HB
      have HB := HBn
      clear HBn
      clear hA hbv hbw hf x0 x1 x2
      go_upto_region 10 with fail
      generalize w6.alloc (.cells #[.int .i64 xc, .int .i64 xl, .slice a6 n6 k6] 33) = v6 at *
      generalize w6.heap.size = b6 at *
      have x0 := X.out.x.c0
      have x1 := X.out.x.c1
      have x2 := X.out.x.c2
      go_wp2_with fail
      refine (HAy.out _ X.out.r (RdL.below HK.out HB.out)).mono ?_
      rintro e w7 ⟨a7, n7, k7, rfl, -, hf, hbv⟩
      have BY := Lib.hid (BoxR.new (d := ⟨yc, yl, yf⟩) hf)
      have hA := (Below.refl w7.heap.size w7).alloc (Nat.le_refl _) (.cells #[.int .i64 yc, .int .i64 yl, .slice a7 n7 k7] 33)
      have hbw := hbv.trans (hA.mono hbv.size)
      dsimp only at BY
      replace X := Lib.hid (X.out.below hbw)
      replace HC := Lib.hid (RdL.below HC.out hbw)
      replace BX := Lib.hid (BX.out.below hbw)
      have HBn := Lib.hid (bstep HB.out hbw)
      clear HB
      have HB := HBn
      clear HBn
      clear hA hbv hbw hf x0 x1 x2
      go_upto_region 11 with fail
      generalize w7.alloc (.cells #[.int .i64 yc, .int .i64 yl, .slice a7 n7 k7] 33) = v7 at *
      generalize w7.heap.size = b7 at *
      have x0 := X.out.x.c0
      have x1 := X.out.x.c1
      have x2 := X.out.x.c2
      go_wp2_with fail
      refine (HAz.out _ X.out.r).mono ?_
      rintro e w8 ⟨a8, n8, k8, rfl, -, hf, hbv⟩
      have BZ := Lib.hid (BoxR.new (d := ⟨zc, zl, zf⟩) hf)
      have hA := (Below.refl w8.heap.size w8).alloc (Nat.le_refl _) (.cells #[.int .i64 zc, .int .i64 zl, .slice a8 n8 k8] 33)
      have hbw := hbv.trans (hA.mono hbv.size)
      dsimp only at BZ
      replace X := Lib.hid (X.out.below hbw)
      replace HC := Lib.hid (RdL.below HC.out hbw)
      replace BX := Lib.hid (BX.out.below hbw)
      replace BY := Lib.hid (BY.out.below hbw)
      have HBn := Lib.hid (bstep HB.out hbw)
      clear HB
      have HB := HBn
      clear HBn
      clear hA hbv hbw hf x0 x1 x2
      go_upto_region 12 with fail
      generalize w8.alloc (.cells #[.int .i64 zc, .int .i64 zl, .slice a8 n8 k8] 33) = v8 at *
      generalize w8.heap.size = b8 at *
      clear HAx HAy HAz
      have x0 := BX.out.x.c0
      have x1 := BX.out.x.c1
      have x2 := BX.out.x.c2
      go_wp2_with fail
      refine (HRX _ _ BX.out.r).mono ?_
      rintro e w9 ⟨p9, m9, q9, rfl, ho, hbv⟩
      have P1 := Lib.hid ho
      replace X := Lib.hid (X.out.below hbv)
      replace HC := Lib.hid (RdL.below HC.out hbv)
      replace BX := Lib.hid (BX.out.below hbv)
      replace BY := Lib.hid (BY.out.below hbv)
      replace BZ := Lib.hid (BZ.out.below hbv)
      have HBn := Lib.hid (bstep HB.out hbv)
      clear HB
      have HB := HBn
      clear HBn
      clear ho hbv x0 x1 x2
      go_upto_region 13 with fail
      have x0 := BY.out.x.c0
      have x1 := BY.out.x.c1
      have x2 := BY.out.x.c2
      go_wp2_with fail
      refine (HRY _ _ BY.out.r).mono ?_
      rintro e w10 ⟨p10, m10, q10, rfl, ho, hbv⟩
      have P2 := Lib.hid ho
      replace X := Lib.hid (X.out.below hbv)
      replace HC := Lib.hid (RdL.below HC.out hbv)
      replace BX := Lib.hid (BX.out.below hbv)
      replace BY := Lib.hid (BY.out.below hbv)
      replace BZ := Lib.hid (BZ.out.below hbv)
      replace P1 := Lib.hid (RdL.below P1.out hbv)
      have HBn := Lib.hid (bstep HB.out hbv)
      clear HB
      have HB := HBn
      clear HBn
      clear ho hbv x0 x1 x2
      go_upto_region 14 with fail
      have x0 := BZ.out.x.c0
      have x1 := BZ.out.x.c1
      have x2 := BZ.out.x.c2
      go_wp2_with fail
      refine (HRZ _ _ BZ.out.r).mono ?_
      rintro e w11 ⟨p11, m11, q11, rfl, ho, hbv⟩
      have P3 := Lib.hid ho
      replace X := Lib.hid (X.out.below hbv)
      replace HC := Lib.hid (RdL.below HC.out hbv)
      replace BX := Lib.hid (BX.out.below hbv)
      replace BY := Lib.hid (BY.out.below hbv)
      replace BZ := Lib.hid (BZ.out.below hbv)
      replace P1 := Lib.hid (RdL.below P1.out hbv)
      replace P2 := Lib.hid (RdL.below P2.out hbv)
      have HBn := Lib.hid (bstep HB.out hbv)
      clear HB
      have HB := HBn
      clear HBn
      clear ho hbv x0 x1 x2
      go_upto_region 15 with fail
      have x0 := BZ.out.x.c0
      have x1 := BZ.out.x.c1
      have x2 := BZ.out.x.c2
      go_wp2_with fail
      refine (HSZ _ _ BZ.out.r).mono ?_
      rintro e w12 ⟨rfl, hbv⟩
      replace X := Lib.hid (X.out.below hbv)
      replace HC := Lib.hid (RdL.below HC.out hbv)
      replace BX := Lib.hid (BX.out.below hbv)
      replace BY := Lib.hid (BY.out.below hbv)
      replace BZ := Lib.hid (BZ.out.below hbv)
      replace P1 := Lib.hid (RdL.below P1.out hbv)
      replace P2 := Lib.hid (RdL.below P2.out hbv)
      replace P3 := Lib.hid (RdL.below P3.out hbv)
      have HBn := Lib.hid (bstep HB.out hbv)
      clear HB
      have HB := HBn
      clear HBn
      clear hbv x0 x1 x2
      go_upto_region 18 with fail
      clear HRX HRY HRZ HSZ
      generalize hkd : k + dn = kd at *
      have hkd2 : kd ≤ 3000 := by omega
      have hlk : k ≤ cn := Hck.out
      obtain ⟨pq, hsl, hpq⟩ := slice_by HC.out k hlk
      have HPq := Lib.hid hpq
      have HR1 := Lib.hid (show Rd w12 1 (.slice pq k k1) k ((c.take k).map byteV) from by
        have h : RdL byteV w12 (.slice pq k k1) (c.take k) := hpq
        unfold RdL at h
        rw [HL3.out] at h
        exact h)
      have HR2 := Lib.hid (show Rd w12 1 (.slice kq dn kcc) dn (D.map byteV) from by
        have h : RdL byteV w12 (.slice kq dn kcc) D := RdL.below HK.out HB.out
        unfold RdL at h
        rw [HDn.out] at h
        exact h)
      clear hpq
      go_upto_region 19 with (at_builtin; first | (refine wpList_app rfl (.tmp 170) (.tmp 173) 47 rfl elemU8 w12.heap.size rfl (World.ownsRow_made (size := 1) _ #[] 0 (Nat.le_refl _) (by decide) rfl) rfl (HR1.out.alloc _) (bytes_one (c.take k)) (by unfold maxLen; omega) (by omega) (by simp) ?_; intro v3 w3' hown3 hgr3 hv3; clear hv3; have HC3 := own_below ((Below.refl w12.heap.size w12).alloc (Nat.le_refl _) _) (World.ownsRow_made (e := 5) (size := 1) w12 #[] 0 (Nat.le_refl _) (by decide) rfl) (by simp) hgr3) | (refine wpList_app rfl (.tmp 174) (.tmp 175) 47 rfl elemU8 w12.heap.size rfl hown3 rfl (HR2.out.below HC3) (bytes_one D) (by unfold maxLen; omega) (by omega) HC3.size ?_; intro v4 w4' hown4 hgr4 hv4; clear hv4))
      have HC4 := Lib.hid (own_below HC3 hown3 HC3.size hgr4)
      have HO4 := Lib.hid (show OwnU w4' w12.heap.size v4 (c.take k ++ D) from OwnU.of hown4 (by simp [List.map_append]))
      obtain ⟨va4, vc4, e4, _⟩ := HO4.out.form
      subst e4
      clear hown4 hgr4 hown3 hgr3 HC3 HR1 HR2
      rw [HL2.out] at HO4 ⊢
      go_upto_if 180 with fail
      go_cut [29] (fun v wx => ∃ pa pn pc, v = .slice pa pn pc ∧ Hid (RdB wx (.slice pa pn pc) (c.take k ++ D ++ c.drop kd)) ∧ Hid (Below w12.heap.size w12 wx))
      case first =>
        by_cases hlt : kd < cn
        · have hd : decide ((kd : Int) < (cn : Int)) = true := by simp; omega
          obtain ⟨sq, sc, hfr, hsq⟩ := RdL.from_ (P := Tryd.prog) (t := 47) elemU8 HC.out kd (by omega)
          generalize hmm : cn - kd = mm at *
          have hmb : mm ≤ cn := by omega
          have HRs := Lib.hid (show Rd w4' 1 (.slice sq mm sc) mm ((c.drop kd).map byteV) from by
            have h : RdL byteV w4' (.slice sq mm sc) (c.drop kd) := RdL.below hsq HC4.out
            unfold RdL at h
            rw [HL5.out] at h
            exact h)
          have HOw := Lib.hid (show w4'.ownsRow w12.heap.size 5 1 (.slice va4 kd vc4) kd ((c.take k ++ D).map byteV) from by
            have h : w4'.ownsRow w12.heap.size 5 1 (.slice va4 kd vc4) (c.take k ++ D).length ((c.take k ++ D).map byteV) := HO4.out
            rw [HL2.out] at h
            exact h)
          have Hmm := Lib.hid hmm
          clear hmm hsq
          go_wp2_with (at_builtin; first | (refine wpList_app rfl (.tmp 181) (.tmp 185) 47 rfl elemU8 w12.heap.size rfl HOw.out rfl HRs.out (bytes_one (c.drop kd)) (by unfold maxLen; omega) (by omega) HC4.out.size ?_; intro v5 w5' hown5 hgr5 hv5; clear hv5))
          have HC5 := Lib.hid (own_below HC4.out HOw.out HC4.out.size hgr5)
          have HO5 := Lib.hid (show OwnU w5' w12.heap.size v5 (c.take k ++ D ++ c.drop kd) from OwnU.of hown5 (by simp [List.map_append]))
          obtain ⟨va5, vc5, e5, _⟩ := HO5.out.form
          subst e5
          clear hown5 hgr5
          generalize (c.take k ++ D ++ c.drop kd).length = pl at *
          have HPut := Lib.hid HO5.out.rd
          clear HO5 HL4
          generalize c.take k ++ D ++ c.drop kd = PT at *
          go_meet
          case rel => exact ⟨_, _, _, rfl, HPut, HC5⟩
        · have hd : decide ((kd : Int) < (cn : Int)) = false := by simp; omega
          have HPut := Lib.hid (show RdB w4' (.slice va4 kd vc4) (c.take k ++ D ++ c.drop kd) by rw [List.drop_eq_nil_of_le (by rw [Hcn.out]; omega), List.append_nil]; exact HO4.out.rd)
          clear HO4
          go_wp2_with fail
          go_meet
          case rel => exact ⟨_, _, _, rfl, HPut, HC4⟩
      case rest =>
        obtain ⟨pa, pn, pc, rfl, HPut, HBw⟩ := hcut
        replace X := Lib.hid (X.out.below HBw.out)
        replace HC := Lib.hid (RdL.below HC.out HBw.out)
        replace BX := Lib.hid (BX.out.below HBw.out)
        replace BY := Lib.hid (BY.out.below HBw.out)
        replace BZ := Lib.hid (BZ.out.below HBw.out)
        replace P1 := Lib.hid (RdL.below P1.out HBw.out)
        replace P2 := Lib.hid (RdL.below P2.out HBw.out)
        replace P3 := Lib.hid (RdL.below P3.out HBw.out)
        replace HPq := Lib.hid (RdL.below HPq.out HBw.out)
        have HBn := Lib.hid (bstep HB.out HBw.out)
        clear HB
        have HB := HBn
        clear HBn
        clear HBw HC4 HO4 hkd2 HL1 HL2 HL3 HL4 HL5 Hck ha6
        have Hcat := Lib.hid (strB_cat c D)
        have Hss := Lib.hid (show (strB c).size + (strB D).size ≤ 3000 by rw [strB_size, strB_size, Hcn.out, HDn.out]; omega)
        have HcC := Lib.hid (fun W (hW : Below wc.heap.size wc W) => toStr (RdL.below HC.out hW))
        have HcD := Lib.hid (fun W (hW : Below wc.heap.size wc W) => toStr (RdL.below (RdL.below HK.out HB.out) hW))
        have Hc1 := Lib.hid (fun W (hW : Below wc.heap.size wc W) => toStr (RdL.below P1.out hW))
        have Hc2 := Lib.hid (fun W (hW : Below wc.heap.size wc W) => toStr (RdL.below P2.out hW))
        have Hc3 := Lib.hid (fun W (hW : Below wc.heap.size wc W) => toStr (RdL.below P3.out hW))
        have Hc4 := Lib.hid (fun W (hW : Below wc.heap.size wc W) => toStr (RdL.below HPut.out hW))
        have Hc5 := Lib.hid (fun W (hW : Below wc.heap.size wc W) => toStr (RdL.below HPq.out hW))
        clear HC P1 P2 P3 HPut HPq HK HDn Hcn
        generalize strB (c.take k ++ D ++ c.drop kd) = s2 at *
        generalize strB (c.take k) = s3 at *
        generalize strB (c ++ D) = s1 at *
        generalize strB c = sc at *
        generalize strB D = sd at *
        go_upto_region 21 with fail
        refine wp_region_relz [eqS (.slice p9 m9 q9), eqS (.string s1), eqS (.slice r1 cn k1), eqS (.string sc), eqS (.slice kq dn kcc), eqS (.string sd), eqS (.string s1), eqS (.bool false), eqS (.bool false), eqS (.slice p10 m10 q10), eqS (.string s2), eqS (.slice pa pn pc), eqS (.string s2), eqS (.bool false), eqS (.bool false), eqS (.bool false), eqS (.slice p11 m11 q11), eqS (.string s3), eqS (.slice r1 cn k1), eqS (.int .i64 (k : Int)), eqS (.slice pq k k1), eqS (.string s3), eqS (.bool false), eqS (.bool false)] 262 (by kernel_rfl) (by kernel_rfl) (by kernel_rfl) (by rfl) (by kernel_rfl) (fun f => by simp [frm, dstOf, Act.put]; exact rfl) ?_ ?_
        · refine ⟨?_, ?_, ?_, ?_, ?_, ?_, ?_, ?_, ?_, ?_, ?_, ?_, ?_, ?_, ?_, ?_, ?_, ?_, ?_, ?_, ?_, ?_, ?_, ?_, trivial⟩
          · intro f w1 hb hd
            clear hd
            dsimp only
            go_wp2_with fail
            exact ⟨rfl, Below.refl _ _, fun t ht => by injection ht with ht; subst ht; exact ⟨rfl, fun h => by simp at h⟩⟩
          · intro f w1 hb hd
            have d0 : f 0 = .slice p9 m9 q9 := hd 0 (by kernel_rfl)
            clear hd
            dsimp only
            rw [d0]
            have hc := Hc1.out w1 hb
            go_wp2_with fail
            exact ⟨rfl, Below.refl _ _, fun t ht => by injection ht with ht; subst ht; exact ⟨rfl, fun h => by simp at h⟩⟩
          · intro f w1 hb hd
            clear hd
            dsimp only
            go_wp2_with fail
            exact ⟨rfl, Below.refl _ _, fun t ht => by injection ht with ht; subst ht; exact ⟨rfl, fun h => by simp at h⟩⟩
          · intro f w1 hb hd
            have d2 : f 2 = .slice r1 cn k1 := hd 2 (by kernel_rfl)
            clear hd
            dsimp only
            rw [d2]
            have hc := HcC.out w1 hb
            go_wp2_with fail
            exact ⟨rfl, Below.refl _ _, fun t ht => by injection ht with ht; subst ht; exact ⟨rfl, fun h => by simp at h⟩⟩
          · intro f w1 hb hd
            clear hd
            dsimp only
            go_wp2_with fail
            exact ⟨rfl, Below.refl _ _, fun t ht => by injection ht with ht; subst ht; exact ⟨rfl, fun h => by simp at h⟩⟩
          · intro f w1 hb hd
            have d4 : f 4 = .slice kq dn kcc := hd 4 (by kernel_rfl)
            clear hd
            dsimp only
            rw [d4]
            have hc := HcD.out w1 hb
            go_wp2_with fail
            exact ⟨rfl, Below.refl _ _, fun t ht => by injection ht with ht; subst ht; exact ⟨rfl, fun h => by simp at h⟩⟩
          · intro f w1 hb hd
            have d3 : f 3 = .string sc := hd 3 (by kernel_rfl)
            have d5 : f 5 = .string sd := hd 5 (by kernel_rfl)
            clear hd
            dsimp only
            rw [d3]
            rw [d5]
            have hc := Hcat.out
            have hz : ¬ 9223372036854775807 < sc.size + sd.size := by have := Hss.out; omega
            go_wp2_with fail
            exact ⟨rfl, Below.refl _ _, fun t ht => by injection ht with ht; subst ht; exact ⟨rfl, fun h => by simp at h⟩⟩
          · intro f w1 hb hd
            have d1 : f 1 = .string s1 := hd 1 (by kernel_rfl)
            have d6 : f 6 = .string s1 := hd 6 (by kernel_rfl)
            clear hd
            dsimp only
            rw [d1]
            rw [d6]
            go_wp2_with fail
            exact ⟨rfl, Below.refl _ _, fun t ht => by injection ht with ht; subst ht; exact ⟨rfl, fun h => by simp at h⟩⟩
          · intro f w1 hb hd
            have d7 : f 7 = .bool false := hd 7 (by kernel_rfl)
            clear hd
            dsimp only
            rw [d7]
            go_wp2_with fail
            exact ⟨rfl, Below.refl _ _, fun t ht => by injection ht with ht; subst ht; exact ⟨rfl, fun h => by simp at h⟩⟩
          · intro f w1 hb hd
            have d8 : f 8 = .bool false := hd 8 (by kernel_rfl)
            clear hd
            dsimp only
            rw [d8]
            go_wp2_with fail
            exact ⟨rfl, Below.refl _ _, fun t ht => by injection ht with ht; subst ht; exact ⟨rfl, fun h => by simp at h⟩⟩
          · intro f w1 hb hd
            have d8 : f 8 = .bool false := hd 8 (by kernel_rfl)
            have d9 : f 9 = .slice p10 m10 q10 := hd 9 (by kernel_rfl)
            clear hd
            dsimp only
            rw [d8]
            rw [d9]
            have hc := Hc2.out w1 hb
            go_wp2_with fail
            exact ⟨rfl, Below.refl _ _, fun t ht => by injection ht with ht; subst ht; exact ⟨rfl, fun h => by simp at h⟩⟩
          · intro f w1 hb hd
            have d8 : f 8 = .bool false := hd 8 (by kernel_rfl)
            clear hd
            dsimp only
            rw [d8]
            go_wp2_with fail
            exact ⟨rfl, Below.refl _ _, fun t ht => by injection ht with ht; subst ht; exact ⟨rfl, fun h => by simp at h⟩⟩
          · intro f w1 hb hd
            have d8 : f 8 = .bool false := hd 8 (by kernel_rfl)
            have d11 : f 11 = .slice pa pn pc := hd 11 (by kernel_rfl)
            clear hd
            dsimp only
            rw [d8]
            rw [d11]
            have hc := Hc4.out w1 hb
            go_wp2_with fail
            exact ⟨rfl, Below.refl _ _, fun t ht => by injection ht with ht; subst ht; exact ⟨rfl, fun h => by simp at h⟩⟩
          · intro f w1 hb hd
            have d8 : f 8 = .bool false := hd 8 (by kernel_rfl)
            have d10 : f 10 = .string s2 := hd 10 (by kernel_rfl)
            have d12 : f 12 = .string s2 := hd 12 (by kernel_rfl)
            clear hd
            dsimp only
            rw [d8]
            rw [d10]
            rw [d12]
            go_wp2_with fail
            exact ⟨rfl, Below.refl _ _, fun t ht => by injection ht with ht; subst ht; exact ⟨rfl, fun h => by simp at h⟩⟩
          · intro f w1 hb hd
            have d8 : f 8 = .bool false := hd 8 (by kernel_rfl)
            have d13 : f 13 = .bool false := hd 13 (by kernel_rfl)
            clear hd
            dsimp only
            rw [d8]
            rw [d13]
            go_wp2_with fail
            exact ⟨rfl, Below.refl _ _, fun t ht => by injection ht with ht; subst ht; exact ⟨rfl, fun h => by simp at h⟩⟩
          · intro f w1 hb hd
            have d14 : f 14 = .bool false := hd 14 (by kernel_rfl)
            clear hd
            dsimp only
            rw [d14]
            go_wp2_with fail
            exact ⟨rfl, Below.refl _ _, fun t ht => by injection ht with ht; subst ht; exact ⟨rfl, fun h => by simp at h⟩⟩
          · intro f w1 hb hd
            have d15 : f 15 = .bool false := hd 15 (by kernel_rfl)
            clear hd
            dsimp only
            rw [d15]
            go_wp2_with fail
            exact ⟨rfl, Below.refl _ _, fun t ht => by injection ht with ht; subst ht; exact ⟨rfl, fun h => by simp at h⟩⟩
          · intro f w1 hb hd
            have d15 : f 15 = .bool false := hd 15 (by kernel_rfl)
            have d16 : f 16 = .slice p11 m11 q11 := hd 16 (by kernel_rfl)
            clear hd
            dsimp only
            rw [d15]
            rw [d16]
            have hc := Hc3.out w1 hb
            go_wp2_with fail
            exact ⟨rfl, Below.refl _ _, fun t ht => by injection ht with ht; subst ht; exact ⟨rfl, fun h => by simp at h⟩⟩
          · intro f w1 hb hd
            have d15 : f 15 = .bool false := hd 15 (by kernel_rfl)
            clear hd
            dsimp only
            rw [d15]
            go_wp2_with fail
            exact ⟨rfl, Below.refl _ _, fun t ht => by injection ht with ht; subst ht; exact ⟨rfl, fun h => by simp at h⟩⟩
          · intro f w1 hb hd
            have d15 : f 15 = .bool false := hd 15 (by kernel_rfl)
            clear hd
            dsimp only
            rw [d15]
            go_wp2_with fail
            exact ⟨rfl, Below.refl _ _, fun t ht => by injection ht with ht; subst ht; exact ⟨rfl, fun h => by simp at h⟩⟩
          · intro f w1 hb hd
            have d15 : f 15 = .bool false := hd 15 (by kernel_rfl)
            have d18 : f 18 = .slice r1 cn k1 := hd 18 (by kernel_rfl)
            have d19 : f 19 = .int .i64 (k : Int) := hd 19 (by kernel_rfl)
            clear hd
            dsimp only
            rw [d15]
            rw [d18]
            rw [d19]
            have hs9 := hsl
            go_wp2_with fail
            exact ⟨rfl, Below.refl _ _, fun t ht => by injection ht with ht; subst ht; exact ⟨rfl, fun h => by simp at h⟩⟩
          · intro f w1 hb hd
            have d15 : f 15 = .bool false := hd 15 (by kernel_rfl)
            have d20 : f 20 = .slice pq k k1 := hd 20 (by kernel_rfl)
            clear hd
            dsimp only
            rw [d15]
            rw [d20]
            have hc := Hc5.out w1 hb
            go_wp2_with fail
            exact ⟨rfl, Below.refl _ _, fun t ht => by injection ht with ht; subst ht; exact ⟨rfl, fun h => by simp at h⟩⟩
          · intro f w1 hb hd
            have d15 : f 15 = .bool false := hd 15 (by kernel_rfl)
            have d17 : f 17 = .string s3 := hd 17 (by kernel_rfl)
            have d21 : f 21 = .string s3 := hd 21 (by kernel_rfl)
            clear hd
            dsimp only
            rw [d15]
            rw [d17]
            rw [d21]
            go_wp2_with fail
            exact ⟨rfl, Below.refl _ _, fun t ht => by injection ht with ht; subst ht; exact ⟨rfl, fun h => by simp at h⟩⟩
          · intro f w1 hb hd
            have d15 : f 15 = .bool false := hd 15 (by kernel_rfl)
            have d22 : f 22 = .bool false := hd 22 (by kernel_rfl)
            clear hd
            dsimp only
            rw [d15]
            rw [d22]
            go_wp2_with fail
            exact ⟨rfl, Below.refl _ _, fun t ht => by injection ht with ht; subst ht; exact ⟨rfl, fun h => by simp at h⟩⟩
        · intro f w1 hb hA
          have d0 : f 0 = .slice p9 m9 q9 := hA 0 (show 0 < 24 by decide)
          have d1 : f 1 = .string s1 := hA 1 (show 1 < 24 by decide)
          have d2 : f 2 = .slice r1 cn k1 := hA 2 (show 2 < 24 by decide)
          have d3 : f 3 = .string sc := hA 3 (show 3 < 24 by decide)
          have d4 : f 4 = .slice kq dn kcc := hA 4 (show 4 < 24 by decide)
          have d5 : f 5 = .string sd := hA 5 (show 5 < 24 by decide)
          have d6 : f 6 = .string s1 := hA 6 (show 6 < 24 by decide)
          have d7 : f 7 = .bool false := hA 7 (show 7 < 24 by decide)
          have d8 : f 8 = .bool false := hA 8 (show 8 < 24 by decide)
          have d9 : f 9 = .slice p10 m10 q10 := hA 9 (show 9 < 24 by decide)
          have d10 : f 10 = .string s2 := hA 10 (show 10 < 24 by decide)
          have d11 : f 11 = .slice pa pn pc := hA 11 (show 11 < 24 by decide)
          have d12 : f 12 = .string s2 := hA 12 (show 12 < 24 by decide)
          have d13 : f 13 = .bool false := hA 13 (show 13 < 24 by decide)
          have d14 : f 14 = .bool false := hA 14 (show 14 < 24 by decide)
          have d15 : f 15 = .bool false := hA 15 (show 15 < 24 by decide)
          have d16 : f 16 = .slice p11 m11 q11 := hA 16 (show 16 < 24 by decide)
          have d17 : f 17 = .string s3 := hA 17 (show 17 < 24 by decide)
          have d18 : f 18 = .slice r1 cn k1 := hA 18 (show 18 < 24 by decide)
          have d19 : f 19 = .int .i64 (k : Int) := hA 19 (show 19 < 24 by decide)
          have d20 : f 20 = .slice pq k k1 := hA 20 (show 20 < 24 by decide)
          have d21 : f 21 = .string s3 := hA 21 (show 21 < 24 by decide)
          have d22 : f 22 = .bool false := hA 22 (show 22 < 24 by decide)
          have d23 : f 23 = .bool false := hA 23 (show 23 < 24 by decide)
          clear hA
          try dsimp only at *
          rw [d0]
          rw [d1]
          rw [d2]
          rw [d3]
          rw [d4]
          rw [d5]
          rw [d6]
          rw [d7]
          rw [d8]
          rw [d9]
          rw [d10]
          rw [d11]
          rw [d12]
          rw [d13]
          rw [d14]
          rw [d15]
          rw [d16]
          rw [d17]
          rw [d18]
          rw [d19]
          rw [d20]
          rw [d21]
          rw [d22]
          rw [d23]
          clear d0 d1 d2 d3 d4 d5 d6 d7 d8 d9 d10 d11 d12 d13 d14 d15 d16 d17 d18 d19 d20 d21 d22 d23
          replace X := Lib.hid (X.out.below hb)
          replace BX := Lib.hid (BX.out.below hb)
          replace BY := Lib.hid (BY.out.below hb)
          replace BZ := Lib.hid (BZ.out.below hb)
          have HBn := Lib.hid (bstep HB.out hb)
          clear HB
          have HB := HBn
          clear HBn
          clear hb Hcat Hss HcC HcD Hc1 Hc2 Hc3 Hc4 Hc5 hsl
          generalize w1 = w13 at *
          have x0 := X.out.x.c0
          have x1 := X.out.x.c1
          have x2 := X.out.x.c2
          go_wp2_with fail
          refine (HNa.out _ _ X.out.r).mono ?_
          rintro e w14 ⟨nv, rfl, hnv, hbv⟩
          have HN := Lib.hid (show RdL strV w14 nv NM from own_rdl hnv)
          obtain ⟨na, nc, e1, _⟩ := HN.out.shape []
          subst e1
          replace X := Lib.hid (X.out.below hbv)
          replace BX := Lib.hid (BX.out.below hbv)
          replace BY := Lib.hid (BY.out.below hbv)
          replace BZ := Lib.hid (BZ.out.below hbv)
          have HBn := Lib.hid (bstep HB.out hbv)
          clear HB
          have HB := HBn
          clear HBn
          clear hnv hbv x0 x1 x2 HNa
          generalize hnn : NM.length = nn at *
          have Hnn := Lib.hid hnn
          clear hnn
          go_wp2_with fail
          go_loopw [214] (fun iv W => ∃ j : Nat, iv = .int .i64 (j : Int) ∧ j ≤ nn ∧ Hid (Below w14.heap.size w14 W)) (fun iv _ => nn - (intOf iv).toNat)
          case atStart => exact ⟨0, rfl, Nat.zero_le _, Lib.hid (Below.refl _ _)⟩
          case round =>
            obtain ⟨j, rfl, hj, HBj⟩ := hrel
            have HBo := Lib.hid (bstep HB.out HBj.out)
            by_cases hlj : j < nn
            · have j1 : (j : Int) < (nn : Int) := by omega
              obtain ⟨pb, poff, rfl, p0⟩ := (RdL.below HN.out HBj.out).atW (by rw [Hnn.out]; exact hlj)
              have HO := Lib.hid (HOt.out j hlj)
              generalize strB (NM.getD j []) = snm at *
              cases hq : (snm.toList == sv.toList)
              rotate_left
              · go_wp2_with fail
                exact ⟨⟨j + 1, by go_num, by omega, HBj⟩, by simp [intOf]; omega⟩
              · obtain ⟨o, ho⟩ := HO.out (fun e => by rw [e] at hq; simp at hq)
                have HOo := Lib.hid ho
                clear ho HO
                replace X := Lib.hid (X.out.below HBj.out)
                replace BX := Lib.hid (BX.out.below HBj.out)
                replace BY := Lib.hid (BY.out.below HBj.out)
                replace BZ := Lib.hid (BZ.out.below HBj.out)
                go_upto_region 27 with fail
                have x0 := X.out.x.c0
                have x1 := X.out.x.c1
                have x2 := X.out.x.c2
                go_wp2_with fail
                refine (HOo.out.sz _ _ X.out.r).mono ?_
                rintro e w21 ⟨rfl, hbv⟩
                replace X := Lib.hid (X.out.below hbv)
                replace BX := Lib.hid (BX.out.below hbv)
                replace BY := Lib.hid (BY.out.below hbv)
                replace BZ := Lib.hid (BZ.out.below hbv)
                have HBn := Lib.hid (HBj.out.trans (hbv.mono HBj.out.size))
                clear HBj
                have HBj := HBn
                clear HBn hbv x0 x1 x2
                go_upto_region 28 with fail
                have x0 := X.out.x.c0
                have x1 := X.out.x.c1
                have x2 := X.out.x.c2
                go_wp2_with fail
                refine (HOo.out.rd _ _ X.out.r).mono ?_
                rintro e w22 ⟨po, mo, qo, rfl, ho, hbv⟩
                have PO := Lib.hid ho
                clear ho
                replace X := Lib.hid (X.out.below hbv)
                replace BX := Lib.hid (BX.out.below hbv)
                replace BY := Lib.hid (BY.out.below hbv)
                replace BZ := Lib.hid (BZ.out.below hbv)
                have HBn := Lib.hid (HBj.out.trans (hbv.mono HBj.out.size))
                clear HBj
                have HBj := HBn
                clear HBn hbv x0 x1 x2
                go_upto_region 29 with fail
                have x0 := BX.out.x.c0
                have x1 := BX.out.x.c1
                have x2 := BX.out.x.c2
                have y0 := BY.out.x.c0
                have y1 := BY.out.x.c1
                have y2 := BY.out.x.c2
                have z0 := BZ.out.x.c0
                have z1 := BZ.out.x.c1
                have z2 := BZ.out.x.c2
                have hA := (Below.refl w22.heap.size w22).alloc (Nat.le_refl _) (.cells #[.int .i64 xc, .int .i64 xl, .slice a6 n6 k6, .int .i64 yc, .int .i64 yl, .slice a7 n7 k7, .int .i64 zc, .int .i64 zl, .slice a8 n8 k8] 33)
                obtain ⟨g0, g1, g2, g3, g4, g5, g6, g7, g8⟩ := nine_cells w22 (.int .i64 xc) (.int .i64 xl) (.slice a6 n6 k6) (.int .i64 yc) (.int .i64 yl) (.slice a7 n7 k7) (.int .i64 zc) (.int .i64 zl) (.slice a8 n8 k8) 33
                have HDs := Lib.hid (show ∀ t, t < 3 → ∃ (tc tl : Int) (ta : Option Addr) (tn tk : Nat) (tf : List Fil), (w22.alloc (.cells #[.int .i64 xc, .int .i64 xl, .slice a6 n6 k6, .int .i64 yc, .int .i64 yl, .slice a7 n7 k7, .int .i64 zc, .int .i64 zl, .slice a8 n8 k8] 33)).cell? ⟨w22.heap.size, t * 3, none⟩ = some (.int .i64 tc) ∧ (w22.alloc (.cells #[.int .i64 xc, .int .i64 xl, .slice a6 n6 k6, .int .i64 yc, .int .i64 yl, .slice a7 n7 k7, .int .i64 zc, .int .i64 zl, .slice a8 n8 k8] 33)).cell? ⟨w22.heap.size, t * 3 + 1, none⟩ = some (.int .i64 tl) ∧ (w22.alloc (.cells #[.int .i64 xc, .int .i64 xl, .slice a6 n6 k6, .int .i64 yc, .int .i64 yl, .slice a7 n7 k7, .int .i64 zc, .int .i64 zl, .slice a8 n8 k8] 33)).cell? ⟨w22.heap.size, t * 3 + 2, none⟩ = some (.slice ta tn tk) ∧ RdF (w22.alloc (.cells #[.int .i64 xc, .int .i64 xl, .slice a6 n6 k6, .int .i64 yc, .int .i64 yl, .slice a7 n7 k7, .int .i64 zc, .int .i64 zl, .slice a8 n8 k8] 33)) (.slice ta tn tk) tf ∧ RdC tc tl tf snm o.length o from fun t ht => by
                  rcases t with _ | _ | _ | t
                  · exact ⟨_, _, _, _, _, _, g0, g1, g2, BX.out.r.below hA, HOo.out.rx⟩
                  · exact ⟨_, _, _, _, _, _, g3, g4, g5, BY.out.r.below hA, HOo.out.ry⟩
                  · exact ⟨_, _, _, _, _, _, g6, g7, g8, BZ.out.r.below hA, HOo.out.rz⟩
                  · omega)
                have POa := Lib.hid (RdL.below PO.out hA)
                have HBa := Lib.hid (HBj.out.trans (hA.mono HBj.out.size))
                clear g0 g1 g2 g3 g4 g5 g6 g7 g8 HBj PO X BX BY BZ hA HBo
                have hol := HOo.out.len
                clear HOo
                go_wp2_with fail
                clear x0 x1 x2 y0 y1 y2 z0 z1 z2
                generalize hwn : w22.alloc (.cells #[.int .i64 xc, .int .i64 xl, .slice a6 n6 k6, .int .i64 yc, .int .i64 yl, .slice a7 n7 k7, .int .i64 zc, .int .i64 zl, .slice a8 n8 k8] 33) = w23 at *
                clear hwn
                generalize w22.heap.size = gb at *
                go_loopw [239] (fun iv W => ∃ t : Nat, iv = .int .i64 (t : Int) ∧ t ≤ 3 ∧ Hid (Below w23.heap.size w23 W)) (fun iv _ => 3 - (intOf iv).toNat)
                case atStart => exact ⟨0, rfl, Nat.zero_le _, Lib.hid (Below.refl _ _)⟩
                case round =>
                  obtain ⟨t, rfl, ht, HBt⟩ := hrel
                  by_cases hlt : t < 3
                  · have t1 : (t : Int) < 3 := by omega
                    obtain ⟨tc, tl, ta, tn, tk, tf, g0, g1, g2, hrt, hrc⟩ := HDs.out t hlt
                    replace g0 := Below.keeps HBt.out _ _ g0
                    replace g1 := Below.keeps HBt.out _ _ g1
                    replace g2 := Below.keeps HBt.out _ _ g2
                    have hA := (Below.refl wr.heap.size wr).alloc (Nat.le_refl _) (.cells #[.int .i64 tc, .int .i64 tl, .slice ta tn tk] 33)
                    have T := Lib.hid (BoxR.new (d := ⟨tc, tl, tf⟩) (hrt.below HBt.out))
                    have HBu := Lib.hid (HBt.out.trans (hA.mono HBt.out.size))
                    have HRc := Lib.hid hrc
                    dsimp only at T
                    clear hrt hrc hA
                    go_upto_region 32 with fail
                    clear g0 g1 g2 HBt
                    generalize wr.alloc (.cells #[.int .i64 tc, .int .i64 tl, .slice ta tn tk] 33) = w24 at *
                    generalize wr.heap.size = tb at *
                    have x0 := T.out.x.c0
                    have x1 := T.out.x.c1
                    have x2 := T.out.x.c2
                    go_wp2_with fail
                    refine (HRc.out _ _ T.out.r).mono ?_
                    rintro e w25 ⟨pt, mt, qt, rfl, ho, hbv⟩
                    have hb25 := HBu.out.trans (hbv.mono HBu.out.size)
                    have hc1 := toStr ho
                    have hc2 := toStr (RdL.below POa.out hb25)
                    have HB25 := Lib.hid hb25
                    clear ho hbv hb25 x0 x1 x2 T HRc HBu
                    generalize strB o = so at *
                    go_wp2_with fail
                    exact ⟨⟨t + 1, by go_num, by omega, HB25⟩, by simp [intOf]; omega⟩
                  · have t1 : ¬ (t : Int) < 3 := by omega
                    have HBo := Lib.hid (HBa.out.trans (HBt.out.mono HBa.out.size))
                    go_wp2_with fail
                    exact ⟨⟨j + 1, by go_num, by omega, HBo⟩, by simp [intOf]; omega⟩
            · have j1 : ¬ (j : Int) < (nn : Int) := by omega
              go_wp2_with fail
              refine (awake_any _).mono ?_
              rintro e w15 ⟨rfl, hb15⟩
              have HB15 := Lib.hid (bstep HBo.out hb15)
              clear hb15
              go_wp2_with fail
              go_ret
              exact ⟨rfl, HB15.out⟩
    · generalize hse : sizeD ⟨mc, ml, mf⟩ s = SE at *
      obtain ⟨sn, se⟩ := SE
      dsimp only at he ⊢
      have hz1 : (se != 0) = true := by simp [he]
      have x0 := X1.out.x.c0
      have x1 := X1.out.x.c1
      have x2 := X1.out.x.c2
      have HRe := Lib.hid (fun W (h : RdF W (.slice ga mn gk) mf) => HRd.out ⟨mc, ml, mf⟩ s sn _ W hs HLi.out h)
      rw [Hsv.out] at HRe
      clear hse he HWp HSz HRd HAp HPu HTr HNa
      generalize readD ⟨mc, ml, mf⟩ s 0 sn = RE at *
      obtain ⟨rb, re⟩ := RE
      dsimp only at HRe
      go_wp2_with fail
      refine (HRe.out _ X1.out.r).mono ?_
      rintro e w5 ⟨rv, rfl, ho5, hb5⟩
      obtain ⟨r1, k1, ev1, _⟩ := own_form ho5
      subst ev1
      have HB5 := Lib.hid (bstep HB4.out hb5)
      clear hb5 ho5 x0 x1 x2 X1 HB4 HRe
      generalize (rb.map byteV).length = rn at *
      generalize rb.length = rn at *
      go_wp2_with fail
      refine (awake_any _).mono ?_
      rintro e w15 ⟨rfl, hb15⟩
      have HB15 := Lib.hid (bstep HB5.out hb15)
      clear hb15
      go_wp2_with fail
      go_ret
      exact ⟨rfl, HB15.out⟩
theorem writes_walk (a : Option Addr) (n cap : Nat) (s : ByteArray) (off : Int) (b : Option Addr) (m cap2 : Nat) (zs : List Int) (w : World) (h : ∃ l, RdO w (.slice a n cap) l) (hs : s.size ≤ maxLen) (ho : (Lit.int .i64 off).wf = true) (hb : IsRow .u8 w b m cap2 zs) :
    Calls Tryd.prog 8 #[.slice a n cap, .string s, .int .i64 off, .slice b m cap2] w fun e w' => e = .returned (.bool true) ∧ Below w.heap.size w w' := by
  obtain ⟨l, hl⟩ := h
  obtain ⟨bs, rfl, hb⟩ := isRow_bytes hb
  exact writes_go s.data.toList (by rw [Array.length_toList]; exact hs) off (bounds_of_i64 ho) _ _ l bs w hl hb
end Go.Proofs.YtkabcpmnbjllcaaDoor
