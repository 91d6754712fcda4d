/- Several texts in one, each over the last: What holds in a region `x, e := f(..)` that draws its order: the call c, the move and the two extracts behind it, the box (c + 4) and its store (c + 5). DiskReads: the walk. Printed by mkDhe.py. -/
import Derived.Test.YtkabcpmnbjllcaaDoorDru
import Derived.Test.YtkabcpmnbjllcaaDoorKM
import Derived.Test.YtkabcpmnbjllcaaDoorKH
namespace Go.Proofs.YtkabcpmnbjllcaaDoor
open Go.RowKit

/-- A disk. -/
def dvS (c lf : Int) (fl : List Fil) : Sta := ⟨fun v w => ∃ fv', v = diskVal c lf fv' ∧ RdF w fv' fl, fun _ _ _ hb ⟨fv', e, h⟩ => ⟨fv', e, h.below hb⟩⟩
theorem RefDk.rd {w w' : World} {xs : List FX} {x : Dk} {e : Ending} (h : RefDk w xs x e w') (hx : PartsX w xs) : ∃ fv, e = .returned (diskVal x.cap x.left fv) ∧ RdF w' fv x.files ∧ Below w.heap.size w w' := by
  obtain ⟨⟨fv, xs', e1, e2, e3⟩, e4⟩ := h
  exact ⟨fv, e1, ⟨feX xs', by rw [feX_fst, e2], e3.rd (KeepB.refl _ _) (hx.below e4)⟩, e4⟩
structure MbS (c : Nat) (T : TypeId) (B0 : Nat) (w6 : World) (S : List Sta) (RS : Dk × Int) (G : World → World → Value → Prop) (L : Nat → Bool) (f : Nat → Value) (W : World) : Prop where
  hb : Below B0 w6 W
  sz : B0 ≤ W.heap.size
  pre : ∀ j, j < c → L j = true → L (c + 5) = false → (stA S j).p (f j) W
  res : L c = true → ∃ Wc w' fv', f c = .tuple #[diskVal RS.1.cap RS.1.left fv', .int .i64 RS.2] ∧ (∃ a n k, fv' = .slice a n k) ∧ G Wc w' fv' ∧ B0 ≤ Wc.heap.size ∧ KeepB Wc.heap.size w' W ∧
    (L (c + 4) = true → ∀ xb, f (c + 4) = .pointer (some ⟨xb, 0, none⟩) → xb < Wc.heap.size ∨ w'.heap.size ≤ xb) ∧ (L (c + 1) = true → f (c + 1) = f c) ∧ (L (c + 2) = true → f (c + 2) = diskVal RS.1.cap RS.1.left fv') ∧ (L (c + 3) = true → f (c + 3) = .int .i64 RS.2) ∧
    (L (c + 5) = true → ∃ xb, f (c + 4) = .pointer (some ⟨xb, 0, none⟩) ∧ BoxD W xb RS.1.cap RS.1.left fv')
  d5 : L (c + 5) = true → (∀ j, j < c → L j = true) ∧ L c = true ∧ L (c + 4) = true
  d6 : L c = false → L (c + 1) = false ∧ L (c + 2) = false ∧ L (c + 3) = false
  box : L (c + 4) = true → ∃ xb, f (c + 4) = .pointer (some ⟨xb, 0, none⟩) ∧ B0 ≤ xb ∧ (L (c + 5) = false → BoxD W xb 0 0 (.slice none 0 0))
section
variable {c : Nat} {T : TypeId} {B0 : Nat} {w6 W W' : World} {S : List Sta} {RS : Dk × Int} {G : World → World → Value → Prop} {L : Nat → Bool} {f : Nat → Value}
theorem MbS.start (hs : B0 = w6.heap.size) (f : Nat → Value) : MbS c T B0 w6 S RS G (fun _ => false) f w6.drew := by
  subst hs
  exact ⟨below_drew (Below.refl _ _), Nat.le_refl _, (fun _ _ h => by cases h), (fun h => by cases h), (fun h => by cases h), (fun _ => ⟨rfl, rfl, rfl⟩), fun h => by cases h⟩
theorem MbS.n5 (h : MbS c T B0 w6 S RS G L f W) {i : Nat} (hi : i < c) (h0 : L i = false) : L (c + 5) = false := by
  cases e : L (c + 5) with
  | false => rfl
  | true => have := (h.d5 e).1 i hi; rw [h0] at this; cases this
/-- An operation before the call. -/
theorem MbS.step (h : MbS c T B0 w6 S RS G L f W) {i : Nat} (hi : i < c) (h0 : L i = false) (hW : Below W.heap.size W W') {v : Value} (hv : (stA S i).p v W') : MbS c T B0 w6 S RS G (onL L i) (updF f i v) W' := by
  have hL : ∀ j, c ≤ j → onL L i j = L j := fun j hj => onR_ne (by omega)
  have hf : ∀ j, c ≤ j → updF f i v j = f j := fun j hj => upR_ne (by omega)
  have n5 := h.n5 hi h0
  refine ⟨h.hb.trans (hW.mono h.sz), Nat.le_trans h.sz hW.size, fun j hj hd h5 => ?_, ?_, ?_, ?_, ?_⟩
  · by_cases e : j = i
    · subst e; rw [upR_eq]; exact hv
    · rw [upR_ne e]; rw [onR_ne e] at hd; exact (stA S j).m _ _ _ hW (h.pre j hj hd n5)
  · rw [hL c (by omega), hL (c + 1) (by omega), hL (c + 2) (by omega), hL (c + 3) (by omega), hL (c + 4) (by omega), hL (c + 5) (by omega), hf c (by omega), hf (c + 1) (by omega), hf (c + 2) (by omega), hf (c + 3) (by omega), hf (c + 4) (by omega)]
    intro e
    obtain ⟨Wc, w', fv', e1, e2, e3, e4, e5, e6, e7, e8, e9, e10⟩ := h.res e
    exact ⟨Wc, w', fv', e1, e2, e3, e4, e5.trans (KeepB.below hW), e6, e7, e8, e9, fun e => (e10 e).imp fun xb hx => ⟨hx.1, hx.2.below hW⟩⟩
  · rw [hL (c + 5) (by omega), n5]; intro e; cases e
  · rw [hL c (by omega), hL (c + 1) (by omega), hL (c + 2) (by omega), hL (c + 3) (by omega)]; exact h.d6
  · rw [hL (c + 4) (by omega), hL (c + 5) (by omega), hf (c + 4) (by omega)]
    intro e
    obtain ⟨xb, e1, e2, e3⟩ := h.box e
    exact ⟨xb, e1, e2, fun e => (e3 e).below hW⟩
theorem MbS.call (h : MbS c T B0 w6 S RS G L f W) (hW : Below W.heap.size W W') (h6 : L c = false) {fv' : Value} (hsl : ∃ a n k, fv' = .slice a n k) (hg : G W W' fv') : MbS c T B0 w6 S RS G (onL L c) (updF f c (.tuple #[diskVal RS.1.cap RS.1.left fv', .int .i64 RS.2])) W' := by
  obtain ⟨n7, n8, n9⟩ := h.d6 h6
  have n11 : L (c + 5) = false := by
    cases e : L (c + 5) with
    | false => rfl
    | true => have := (h.d5 e).2.1; rw [h6] at this; cases this
  refine ⟨h.hb.trans (hW.mono h.sz), Nat.le_trans h.sz hW.size, fun j hj hd h5 => ?_, fun _ => ⟨W, W', fv', upR_eq .., hsl, hg, h.sz, KeepB.refl _ _, ?_, ?_, ?_, ?_, ?_⟩, ?_, ?_, ?_⟩
  · rw [upR_ne (by omega)]; rw [onR_ne (by omega)] at hd; exact (stA S j).m _ _ _ hW (h.pre j hj hd n11)
  · rw [onR_ne (by omega), upR_ne (by omega)]
    intro e xb hx
    obtain ⟨xb', e1, _, e3⟩ := h.box e
    rw [e1] at hx
    obtain rfl := ptr_inj hx
    exact .inl (e3 n11).lt
  · rw [onR_ne (by omega), n7]; intro e; cases e
  · rw [onR_ne (by omega), n8]; intro e; cases e
  · rw [onR_ne (by omega), n9]; intro e; cases e
  · rw [onR_ne (by omega), n11]; intro e; cases e
  · rw [onR_ne (by omega), n11]; intro e; cases e
  · rw [onR_eq]; intro e; cases e
  · rw [onR_ne (by omega), onR_ne (by omega), upR_ne (by omega)]
    intro e
    obtain ⟨xb, e1, e2, e3⟩ := h.box e
    exact ⟨xb, e1, e2, fun e => (e3 e).below hW⟩
theorem MbS.mv (h : MbS c T B0 w6 S RS G L f W) (h6 : L c = true) : MbS c T B0 w6 S RS G (onL L (c + 1)) (updF f (c + 1) (f c)) W := by
  refine ⟨h.hb, h.sz, fun j hj hd h5 => ?_, ?_, ?_, ?_, ?_⟩
  · rw [upR_ne (by omega)]; rw [onR_ne (by omega)] at hd h5; exact h.pre j hj hd h5
  · rw [onR_ne (i := c + 1) (j := c) (by omega), onR_ne (i := c + 1) (j := c + 4) (by omega), onR_eq, onR_ne (i := c + 1) (j := c + 2) (by omega), onR_ne (i := c + 1) (j := c + 3) (by omega), onR_ne (i := c + 1) (j := c + 5) (by omega), upR_ne (i := c + 1) (j := c) (by omega), upR_ne (i := c + 1) (j := c + 4) (by omega), upR_eq, upR_ne (i := c + 1) (j := c + 2) (by omega), upR_ne (i := c + 1) (j := c + 3) (by omega)]
    intro e
    obtain ⟨Wc, w', fv', e1, e2, e3, e4, e5, e6, _, e8⟩ := h.res e
    exact ⟨Wc, w', fv', e1, e2, e3, e4, e5, e6, fun _ => rfl, e8⟩
  · rw [onR_ne (i := c + 1) (j := c + 5) (by omega), onR_ne (i := c + 1) (j := c) (by omega), onR_ne (i := c + 1) (j := c + 4) (by omega)]
    intro e
    exact ⟨fun j hj => (onR_ne (by omega)).trans ((h.d5 e).1 j hj), (h.d5 e).2⟩
  · rw [onR_ne (by omega)]; intro e; rw [h6] at e; cases e
  · rw [onR_ne (by omega), onR_ne (by omega), upR_ne (by omega)]; exact h.box
theorem MbS.ex (h : MbS c T B0 w6 S RS G L f W) (h6 : L c = true) (h7 : L (c + 1) = true) : ∃ fv', f (c + 1) = .tuple #[diskVal RS.1.cap RS.1.left fv', .int .i64 RS.2] ∧ (∃ a n k, fv' = .slice a n k) ∧
    MbS c T B0 w6 S RS G (onL L (c + 2)) (updF f (c + 2) (diskVal RS.1.cap RS.1.left fv')) W ∧ MbS c T B0 w6 S RS G (onL L (c + 3)) (updF f (c + 3) (.int .i64 RS.2)) W := by
  obtain ⟨Wc, w', fv', e1, e2, e3, e4, e5, e6, e7, e8, e9, e10⟩ := h.res h6
  refine ⟨fv', (e7 h7).trans e1, e2, ?_, ?_⟩
  · refine ⟨h.hb, h.sz, fun j hj hd h5 => ?_, ?_, ?_, ?_, ?_⟩
    · rw [upR_ne (by omega)]; rw [onR_ne (by omega)] at hd h5; exact h.pre j hj hd h5
    · rw [onR_ne (i := c + 2) (j := c) (by omega), onR_ne (i := c + 2) (j := c + 4) (by omega), onR_ne (i := c + 2) (j := c + 1) (by omega), onR_eq, onR_ne (i := c + 2) (j := c + 3) (by omega), onR_ne (i := c + 2) (j := c + 5) (by omega), upR_ne (i := c + 2) (j := c) (by omega), upR_ne (i := c + 2) (j := c + 4) (by omega), upR_ne (i := c + 2) (j := c + 1) (by omega), upR_eq, upR_ne (i := c + 2) (j := c + 3) (by omega)]
      intro _
      exact ⟨Wc, w', fv', e1, e2, e3, e4, e5, e6, e7, fun _ => rfl, e9, e10⟩
    · rw [onR_ne (i := c + 2) (j := c + 5) (by omega), onR_ne (i := c + 2) (j := c) (by omega), onR_ne (i := c + 2) (j := c + 4) (by omega)]
      intro e
      exact ⟨fun j hj => (onR_ne (by omega)).trans ((h.d5 e).1 j hj), (h.d5 e).2⟩
    · rw [onR_ne (by omega)]; intro e; rw [h6] at e; cases e
    · rw [onR_ne (by omega), onR_ne (by omega), upR_ne (by omega)]; exact h.box
  · refine ⟨h.hb, h.sz, fun j hj hd h5 => ?_, ?_, ?_, ?_, ?_⟩
    · rw [upR_ne (by omega)]; rw [onR_ne (by omega)] at hd h5; exact h.pre j hj hd h5
    · rw [onR_ne (i := c + 3) (j := c) (by omega), onR_ne (i := c + 3) (j := c + 4) (by omega), onR_ne (i := c + 3) (j := c + 1) (by omega), onR_ne (i := c + 3) (j := c + 2) (by omega), onR_eq, onR_ne (i := c + 3) (j := c + 5) (by omega), upR_ne (i := c + 3) (j := c) (by omega), upR_ne (i := c + 3) (j := c + 4) (by omega), upR_ne (i := c + 3) (j := c + 1) (by omega), upR_ne (i := c + 3) (j := c + 2) (by omega), upR_eq]
      intro _
      exact ⟨Wc, w', fv', e1, e2, e3, e4, e5, e6, e7, e8, fun _ => rfl, e10⟩
    · rw [onR_ne (i := c + 3) (j := c + 5) (by omega), onR_ne (i := c + 3) (j := c) (by omega), onR_ne (i := c + 3) (j := c + 4) (by omega)]
      intro e
      exact ⟨fun j hj => (onR_ne (by omega)).trans ((h.d5 e).1 j hj), (h.d5 e).2⟩
    · rw [onR_ne (by omega)]; intro e; rw [h6] at e; cases e
    · rw [onR_ne (by omega), onR_ne (by omega), upR_ne (by omega)]; exact h.box
theorem MbS.store (h : MbS c T B0 w6 S RS G L f W) (hdn : ∀ j, j < c → L j = true) (h8 : L (c + 2) = true) (h10 : L (c + 4) = true) (h11 : L (c + 5) = false) : ∃ xb fv', f (c + 4) = .pointer (some ⟨xb, 0, none⟩) ∧ f (c + 2) = diskVal RS.1.cap RS.1.left fv' ∧ (∃ a n k, fv' = .slice a n k) ∧ BoxD W xb 0 0 (.slice none 0 0) ∧
    ∀ v, MbS c T B0 w6 S RS G (onL L (c + 5)) (updF f (c + 5) v) (((W.setCell ⟨xb, 0, none⟩ (.int .i64 RS.1.cap)).setCell ⟨xb, 1, none⟩ (.int .i64 RS.1.left)).setCell ⟨xb, 2, none⟩ fv') := by
  have h6 : L c = true := by
    cases e : L c with
    | true => rfl
    | false => have := (h.d6 e).2.1; rw [h8] at this; cases this
  obtain ⟨Wc, w', fv', e1, e2, e3, e4, e5, e6, e7, e8, e9, _⟩ := h.res h6
  obtain ⟨xb, g1, g2, g3⟩ := h.box h10
  have g3 := g3 h11
  refine ⟨xb, fv', g1, e8 h8, e2, g3, fun v => ⟨((h.hb.setCell (p := ⟨xb, 0, none⟩) g2 _).setCell (p := ⟨xb, 1, none⟩) g2 _).setCell (p := ⟨xb, 2, none⟩) g2 _, by have := h.sz; simpa using this, fun j hj hd h5 => ?_, ?_, ?_, ?_, ?_⟩⟩
  · rw [onR_eq] at h5; cases h5
  · rw [onR_ne (i := c + 5) (j := c) (by omega), onR_ne (i := c + 5) (j := c + 4) (by omega), onR_ne (i := c + 5) (j := c + 1) (by omega), onR_ne (i := c + 5) (j := c + 2) (by omega), onR_ne (i := c + 5) (j := c + 3) (by omega), onR_eq, upR_ne (i := c + 5) (j := c) (by omega), upR_ne (i := c + 5) (j := c + 4) (by omega), upR_ne (i := c + 5) (j := c + 1) (by omega), upR_ne (i := c + 5) (j := c + 2) (by omega), upR_ne (i := c + 5) (j := c + 3) (by omega)]
    intro _
    refine ⟨Wc, w', fv', e1, e2, e3, e4, ?_, e6, e7, e8, e9, fun _ => ⟨xb, g1, g3.all RS.1.cap RS.1.left fv'⟩⟩
    rcases e6 h10 xb g1 with hx | hx
    · exact e5.trans (KeepB.all3 hx _ _ _)
    · exact e5.new3 hx _ _ _
  · intro _
    exact ⟨fun j hj => (onR_ne (by omega)).trans (hdn j hj), (onR_ne (by omega)).trans h6, (onR_ne (by omega)).trans h10⟩
  · rw [onR_ne (i := c + 5) (j := c) (by omega), h6]; intro e; cases e
  · rw [onR_ne (i := c + 5) (j := c + 4) (by omega), onR_eq, upR_ne (i := c + 5) (j := c + 4) (by omega)]
    intro _
    exact ⟨xb, g1, g2, fun e => by cases e⟩
theorem MbS.ends (h : MbS c T B0 w6 S RS G L f W) (h6 : L c = true) (h9 : L (c + 3) = true) (h11 : L (c + 5) = true) : ∃ Wc w' fv' xb, f (c + 3) = .int .i64 RS.2 ∧ f (c + 4) = .pointer (some ⟨xb, 0, none⟩) ∧ BoxD W xb RS.1.cap RS.1.left fv' ∧ (∃ a n k, fv' = .slice a n k) ∧ G Wc w' fv' ∧ B0 ≤ Wc.heap.size ∧ KeepB Wc.heap.size w' W := by
  obtain ⟨Wc, w', fv', e1, e2, e3, e4, e5, e6, e7, e8, e9, e10⟩ := h.res h6
  obtain ⟨xb, g1, g2⟩ := e10 h11
  exact ⟨Wc, w', fv', xb, e9 h9, g1, g2, e2, e3, e4, e5⟩
end
end Go.Proofs.YtkabcpmnbjllcaaDoor

namespace Go.Proofs.YtkabcpmnbjllcaaDoor
open Go.RowKit

theorem i64_and15 (n : Int) : bits .and .i64 n 15 = n % 16 := by
  have hm : (BitVec.ofInt 64 15).toNat = 2 ^ 4 - 1 := by decide
  have key : (BitVec.ofInt 64 n &&& BitVec.ofInt 64 15).toNat = (n % ((2 ^ 64 : Nat) : Int)).toNat % 2 ^ 4 := by
    rw [BitVec.toNat_and, BitVec.toNat_ofInt, hm, Nat.and_two_pow_sub_one_eq_mod]
  show IntKind.i64.wrap ((BitVec.ofInt 64 n &&& BitVec.ofInt 64 15).toNat : Nat) = n % 16
  rw [key, IntKind.wrap_i64]
  omega
theorem toStr {w : World} {v : Value} {l : List UInt8} (h : RdB w v l) : (convert 47 9 v).run Tryd.prog w = .ok (.string (strB l)) w := run_to_string (P := Tryd.prog) 47 9 5 Tryd.underlying47 Tryd.underlying5 Tryd.underlying9 h
theorem six_cells (W : World) (a b c d e f : Value) (T : TypeId) (k : Nat) (hk : W.heap.size = k) : (W.alloc (.cells #[a, b, c, d, e, f] T)).cell? ⟨k, 0, none⟩ = some a ∧ (W.alloc (.cells #[a, b, c, d, e, f] T)).cell? ⟨k, 1, none⟩ = some b ∧ (W.alloc (.cells #[a, b, c, d, e, f] T)).cell? ⟨k, 2, none⟩ = some c ∧
    (W.alloc (.cells #[a, b, c, d, e, f] T)).cell? ⟨k, 3, none⟩ = some d ∧ (W.alloc (.cells #[a, b, c, d, e, f] T)).cell? ⟨k, 4, none⟩ = some e ∧ (W.alloc (.cells #[a, b, c, d, e, f] T)).cell? ⟨k, 5, none⟩ = some f := by
  subst hk; exact ⟨by simp, by simp, by simp, by simp, by simp, by simp⟩
/-- The array of the two disks. -/
def arrS (c1 l1 c2 l2 : Int) (v1 : Value) (f1 f2 : List Fil) : Sta := ⟨fun v w => ∃ b v2, v = .slice (some ⟨b, 0, none⟩) 2 2 ∧ w.cell? ⟨b, 0, none⟩ = some (.int .i64 c1) ∧ w.cell? ⟨b, 1, none⟩ = some (.int .i64 l1) ∧ w.cell? ⟨b, 2, none⟩ = some v1 ∧ RdF w v1 f1 ∧
  w.cell? ⟨b, 3, none⟩ = some (.int .i64 c2) ∧ w.cell? ⟨b, 4, none⟩ = some (.int .i64 l2) ∧ w.cell? ⟨b, 5, none⟩ = some v2 ∧ RdF w v2 f2, fun _ _ _ hb ⟨b, v2, e, h0, h1, h2, h3, h4, h5, h6, h7⟩ => ⟨b, v2, e, Below.keeps hb _ _ h0, Below.keeps hb _ _ h1, Below.keeps hb _ _ h2, h3.below hb, Below.keeps hb _ _ h4, Below.keeps hb _ _ h5, Below.keeps hb _ _ h6, h7.below hb⟩⟩
def namS (l : List (List UInt8)) : Sta := ⟨fun v w => RdL strV w v l, fun _ _ _ hb h => RdL.below h hb⟩
/-- Bytes; a pair of bytes and a number; a row of files; a place of a file; a file. -/
def byS (l : List UInt8) : Sta := ⟨fun v w => RdB w v l, fun _ _ _ hb h => RdL.below h hb⟩
def trS (l : List UInt8) (er : Int) : Sta := ⟨fun v w => ∃ a n k, v = .tuple #[.slice a n k, .int .i64 er] ∧ RdB w (.slice a n k) l, fun _ _ _ hb ⟨a, n, k, e, h⟩ => ⟨a, n, k, e, RdL.below h hb⟩⟩
def frS (l : List Fil) : Sta := ⟨fun v w => ∃ a n k, v = .slice a n k ∧ RdF w (.slice a n k) l, fun _ _ _ hb ⟨a, n, k, e, h⟩ => ⟨a, n, k, e, h.below hb⟩⟩
def pfS (F : Fil) : Sta := ⟨fun v w => ∃ b o bv pv, v = .pointer (some ⟨b, o, none⟩) ∧ RdB w bv F.base ∧ RdW w pv F.pend ∧ w.cell? ⟨b, o, none⟩ = some (.string (strB F.name)) ∧ w.cell? ⟨b, o + 1, none⟩ = some bv ∧ w.cell? ⟨b, o + 2, none⟩ = some pv,
  fun _ _ _ hb ⟨b, o, bv, pv, e, h1, h2, h3, h4, h5⟩ => ⟨b, o, bv, pv, e, RdL.below h1 hb, h2.below hb, Below.keeps hb _ _ h3, Below.keeps hb _ _ h4, Below.keeps hb _ _ h5⟩⟩
def fvS (F : Fil) : Sta := ⟨fun v w => ∃ a1 n1 k1 a2 n2 k2, v = .agg #[.string (strB F.name), .slice a1 n1 k1, .slice a2 n2 k2] ∧ RdB w (.slice a1 n1 k1) F.base ∧ RdW w (.slice a2 n2 k2) F.pend, fun _ _ _ hb ⟨a1, n1, k1, a2, n2, k2, e, h1, h2⟩ => ⟨a1, n1, k1, a2, n2, k2, e, RdL.below h1 hb, h2.below hb⟩⟩
theorem own_one1 (w : World) (u : Value) (e : TypeId) (B : Nat) (hB : B ≤ w.heap.size) : (w.alloc (.cells #[u] e)).ownsRow B e 1 (.slice (some ⟨w.heap.size, 0, none⟩) 1 1) 1 [u] := ⟨by simp, .inr ⟨w.heap.size, 1, #[u], rfl, hB, heap_alloc_new w _, by decide, by decide, rfl, by simp⟩⟩
theorem RdL.atW {w : World} {a : Option Addr} {n cap : Nat} {l : List (List UInt8)} (h : RdL strV w (.slice a n cap) l) {j : Nat} (hj : j < l.length) : ∃ b off, a = some ⟨b, off, none⟩ ∧ w.cell? ⟨b, off + j, none⟩ = some (.string (strB (l.getD j []))) := by
  obtain ⟨_, _, e, _, _, _, h6⟩ := h.shape []
  injection e with e1 e2 e3
  subst e1 e2 e3
  obtain ⟨b, off, e4, hc⟩ := h6 (by omega)
  exact ⟨b, off, e4, hc j hj⟩
set_option maxRecDepth 100000 in
theorem field_fil (c l : Int) (v : Value) (W : World) : (Instr.field 33 (.agg #[.int .i64 c, .int .i64 l, v]) 2).run Tryd.prog W = .ok v W := by
  exact rfl
/-- Size and Read, of the program and of the reference, answer so. -/
def SzP (c l : Int) (fl : List Fil) (sv : ByteArray) (n er : Int) : Prop := ∀ W v, RdF W v fl → Calls Tryd.prog 29 #[.agg #[.int .i64 c, .int .i64 l, v], .string sv] W fun e w' => e = .returned (.tuple #[.int .i64 n, .int .i64 er]) ∧ Below W.heap.size W w'
def SzR (c l : Int) (fl : List Fil) (sv : ByteArray) (n er : Int) : Prop := ∀ W v, RdF W v fl → Calls Tryd.prog 35 #[.agg #[.int .i64 c, .int .i64 l, v], .string sv] W fun e w' => e = .returned (.tuple #[.int .i64 n, .int .i64 er]) ∧ Below W.heap.size W w'
def RePg (c l : Int) (fl : List Fil) (sv : ByteArray) (k0 k1 : Int) (o : List UInt8) (er : Int) : Prop := ∀ W v, RdF W v fl → Calls Tryd.prog 32 #[.agg #[.int .i64 c, .int .i64 l, v], .string sv, .int .i64 k0, .int .i64 k1] W fun e w' => ∃ a n k, e = .returned (.tuple #[.slice a n k, .int .i64 er]) ∧ RdB w' (.slice a n k) o ∧ Below W.heap.size W w'
def ReRf (c l : Int) (fl : List Fil) (sv : ByteArray) (k0 k1 : Int) (o : List UInt8) (er : Int) : Prop := ∀ W v, RdF W v fl → Calls Tryd.prog 36 #[.agg #[.int .i64 c, .int .i64 l, v], .string sv, .int .i64 k0, .int .i64 k1] W fun e w' => ∃ a n k, e = .returned (.tuple #[.slice a n k, .int .i64 er]) ∧ RdB w' (.slice a n k) o ∧ Below W.heap.size W w'
structure SrC (c l : Int) (fl : List Fil) (sv : ByteArray) (y er : Int) : Prop where
  sp : SzP c l fl sv y er
  sr : SzR c l fl sv y er
  rd : ∀ k0 k1, ∃ o e2, RePg c l fl sv k0 k1 o e2 ∧ ReRf c l fl sv k0 k1 o e2
theorem SrC.of {d : Dk} (hL : LiteD d) {s : List UInt8} (hs : s.length ≤ 9223372036854775807) : SrC d.cap d.left d.files (strB s) (sizeD d s).1 (sizeD d s).2 := by
  refine ⟨fun W v h => size_any d s v W h hL hs, fun W v h => rsize_any d s v W h hL hs, fun k0 k1 => ⟨(readD d s k0 k1).1, (readD d s k0 k1).2, fun W v h => ?_, fun W v h => ?_⟩⟩
  · refine (read_any d s k0 k1 v W h hL hs).mono fun e w' ⟨v', e1, e2, e3⟩ => ?_
    obtain ⟨a, k, ev, _⟩ := own_form e2
    subst ev
    exact ⟨a, _, k, e1, e2.rd, e3⟩
  · refine (rread_any d s k0 k1 v W h hL hs).mono fun e w' ⟨v', e1, e2, e3⟩ => ?_
    obtain ⟨a, k, ev, _⟩ := e2.shape0
    subst ev
    exact ⟨a, _, k, e1, e2, e3⟩
set_option maxRecDepth 100000 in
set_option maxHeartbeats 12800000 in
theorem reads_go (d : Dk) (fv : Value) (left off nn0 : Int) (s : List UInt8) (lv : Value) (l : List (Opr × Value × Value)) (w : World) (h : RdF w fv d.files) (hwf : DkWf d) (h2 : I64 left) (hl : RdO w lv l) :
    Calls Tryd.prog 6 #[diskVal d.cap d.left fv, lv, .int .i64 left, .string (strB s), .int .i64 off, .int .i64 nn0] w fun e w' => e = .returned (.bool true) ∧ Below w.heap.size w w' := by
  obtain ⟨a, cap, rfl, _, _, _⟩ := h.shape
  obtain ⟨la, lc, rfl, _, _⟩ := hl.shape
  have HLt := Lib.hid (fun W (hW : Below w.heap.size w W) => light_any d _ W (h.below hW))
  have HAw := Lib.hid (fun W => awake_any W)
  have HMd := Lib.hid (fun W (hW : Below w.heap.size w W) => (made_any 0 left _ l W (hl.below hW) (by unfold I64; omega) h2).mono fun e w' hh => hh.rd (PartsX.nil W))
  have HMl := Lib.hid (madeD_lite (limit := 0) (by unfold I64; omega) h2 (l.map (·.1)))
  have HLi := Lib.hid (fun (hq : LightD d) => hwf.lite hq)
  have HR := Lib.hid h
  have HSz := Lib.hid (strB_size s)
  have ha1 := i64_and15 off
  have ha2 := i64_and15 nn0
  clear h hl hwf h2
  generalize madeD 0 left (l.map (·.1)) = md at *
  generalize d.files.length = n at *
  generalize l.length = ln at *
  have hLL : ∀ P : Prop, P = LightD d → True := fun _ _ => trivial
  generalize LightD d = LD at *
  clear hLL
  generalize hsv : strB s = sv at *
  have Hsv := Lib.hid hsv
  clear hsv
  generalize off % 16 = o16 at *
  generalize nn0 % 16 = n16 at *
  obtain ⟨c, lf, fl⟩ := d
  dsimp only [diskVal] at *
  have HB0 := Lib.hid (show Below w.heap.size w (w.alloc (.cells #[.int .i64 c, .int .i64 lf, .slice a n cap] 24)) from (Below.refl _ _).alloc (Nat.le_refl _) _)
  have X := Lib.hid (BoxD.new w c lf (.slice a n cap) 24)
  go_enter Tryd.func6, Tryd.ntmps6
  go_upto_region 1 with fail
  generalize w.alloc (.cells #[.int .i64 c, .int .i64 lf, .slice a n cap] 24) = W0 at *
  have x0 := X.out.c0
  have x1 := X.out.c1
  have x2 := X.out.c2
  go_wp2_with fail
  refine (HLt.out W0 HB0.out).mono ?_
  rintro e w1 ⟨b, rfl, hb, hb1⟩
  have HB1 := Lib.hid (bstep HB0.out hb1)
  have X1 := Lib.hid (X.out.below hb1)
  clear hb1 x0 x1 x2
  cases b
  · go_wp2_with fail
    refine (HAw.out _).mono ?_
    rintro e w2 ⟨rfl, hb2⟩
    have HB2 := Lib.hid (bstep HB1.out hb2)
    clear hb2
    go_wp2_with fail
    go_ret
    exact ⟨rfl, HB2.out⟩
  · have hLt := HLi.out (hb rfl)
    have HLd := Lib.hid hLt
    clear hLt hb
    by_cases hs : s.length ≤ 200
    · have hsz := HSz.out
      have g1 : ¬ (200 : Int) < (sv.size : Int) := by omega
      have Hs := Lib.hid hs
      clear hsz hs
      go_upto_region 3 with fail
      refine wp_region_relz [eqS (.agg #[.int .i64 c, .int .i64 lf, .slice a n cap]), eqS (.int .i64 left), eqS (.slice la ln lc), dvS md.cap md.left md.files, arrS c lf md.cap md.left (.slice a n cap) fl md.files, eqS (.int .i64 2), eqS (.int .i64 0)] 186 (by kernel_rfl) (by kernel_rfl) (by kernel_rfl) (by rfl) (by kernel_rfl) (fun f => by simp [frm, dstOf, Act.put]; exact rfl) ?_ ?_
      · refine ⟨?_, ?_, ?_, ?_, ?_, ?_, ?_, trivial⟩
        · intro f w1 hb hd
          clear hd
          dsimp only
          have z0 := (X1.out.below hb).c0
          have z1 := (X1.out.below hb).c1
          have z2 := (X1.out.below hb).c2
          go_wp2_with fail
          exact ⟨rfl, Below.refl _ _, fun t ht => by injection ht with ht; subst ht; exact ⟨rfl, fun h => by simp at h⟩⟩
        · intro f w1 hb hd
          clear hd
          dsimp only
          go_wp2_with fail
          exact ⟨rfl, Below.refl _ _, fun t ht => by injection ht with ht; subst ht; exact ⟨rfl, fun h => by simp at h⟩⟩
        · intro f w1 hb hd
          clear hd
          dsimp only
          go_wp2_with fail
          exact ⟨rfl, Below.refl _ _, fun t ht => by injection ht with ht; subst ht; exact ⟨rfl, fun h => by simp at h⟩⟩
        · intro f w1 hb hd
          have d1 : f 1 = .int .i64 left := hd 1 (by kernel_rfl)
          have d2 : f 2 = .slice la ln lc := hd 2 (by kernel_rfl)
          clear hd
          dsimp only
          rw [d1]
          rw [d2]
          go_wp2_with fail
          refine (HMd.out w1 (bstep HB1.out hb)).mono ?_
          rintro e w2 ⟨fv', rfl, hr', hbe⟩
          obtain ⟨q1, q2, q3, _⟩ := hr'.shape
          have HR9 := Lib.hid hr'
          clear hr'
          subst q3
          go_wp2_with fail
          exact ⟨rfl, hbe, fun t ht => by injection ht with ht; subst ht; exact ⟨⟨_, rfl, HR9.out⟩, fun h => by simp at h⟩⟩
        · intro f w1 hb hd
          have d0 : f 0 = .agg #[.int .i64 c, .int .i64 lf, .slice a n cap] := hd 0 (by kernel_rfl)
          have d3 := hd 3 (by kernel_rfl)
          obtain ⟨vm, em, rm⟩ : ∃ fv', f 3 = diskVal (md.cap) (md.left) fv' ∧ RdF w1 fv' (md.files) := d3
          obtain ⟨am, km, um, _⟩ := rm.shape
          subst um
          dsimp only [diskVal] at em
          clear hd
          dsimp only
          rw [d0]
          rw [em]
          have HA8 := Lib.hid ((Below.refl w1.heap.size w1).alloc (Nat.le_refl _) (.cells #[.int .i64 c, .int .i64 lf, .slice a n cap, .int .i64 md.cap, .int .i64 md.left, .slice am md.files.length km] 24))
          have HR8 := Lib.hid (And.intro ((HR.out.below (bstep HB1.out hb)).below HA8.out) (rm.below HA8.out))
          have HC8 := Lib.hid (six_cells w1 (.int .i64 c) (.int .i64 lf) (.slice a n cap) (.int .i64 md.cap) (.int .i64 md.left) (.slice am md.files.length km) 24 _ rfl)
          clear rm em
          go_wp2_with fail
          exact ⟨rfl, HA8.out, fun t ht => by injection ht with ht; subst ht; exact ⟨⟨_, _, rfl, HC8.out.1, HC8.out.2.1, HC8.out.2.2.1, HR8.out.1, HC8.out.2.2.2.1, HC8.out.2.2.2.2.1, HC8.out.2.2.2.2.2, HR8.out.2⟩, fun h => by simp at h⟩⟩
        · intro f w1 hb hd
          have d4 := hd 4 (by kernel_rfl)
          obtain ⟨b5, v5, e5, _⟩ : ∃ b v2, f 4 = .slice (some ⟨b, 0, none⟩) 2 2 ∧ _ := d4
          clear hd
          dsimp only
          rw [e5]
          go_wp2_with fail
          exact ⟨rfl, Below.refl _ _, fun t ht => by injection ht with ht; subst ht; exact ⟨rfl, fun h => by simp at h⟩⟩
        · intro f w1 hb hd
          clear hd
          dsimp only
          go_wp2_with fail
          exact ⟨rfl, Below.refl _ _, fun t ht => by injection ht with ht; subst ht; exact ⟨rfl, fun h => by simp at h⟩⟩
      · intro f w1 hb hA
        have d0 : f 0 = .agg #[.int .i64 c, .int .i64 lf, .slice a n cap] := hA 0 (show 0 < 7 by decide)
        have d1 : f 1 = .int .i64 left := hA 1 (show 1 < 7 by decide)
        have d2 : f 2 = .slice la ln lc := hA 2 (show 2 < 7 by decide)
        have d3 := hA 3 (show 3 < 7 by decide)
        have d4 := hA 4 (show 4 < 7 by decide)
        have d5 := hA 5 (show 5 < 7 by decide)
        have d6 : f 6 = .int .i64 0 := hA 6 (show 6 < 7 by decide)
        clear hA
        try dsimp only at *
        rw [d0]
        rw [d1]
        rw [d2]
        rw [d6]
        clear d0 d1 d2 d6
        have d4 : ∃ b v2, f 4 = .slice (some ⟨b, 0, none⟩) 2 2 ∧ w1.cell? ⟨b, 0, none⟩ = some (.int .i64 c) ∧ w1.cell? ⟨b, 1, none⟩ = some (.int .i64 lf) ∧ w1.cell? ⟨b, 2, none⟩ = some (.slice a n cap) ∧ RdF w1 (.slice a n cap) fl ∧
          w1.cell? ⟨b, 3, none⟩ = some (.int .i64 md.cap) ∧ w1.cell? ⟨b, 4, none⟩ = some (.int .i64 md.left) ∧ w1.cell? ⟨b, 5, none⟩ = some v2 ∧ RdF w1 v2 md.files := d4
        obtain ⟨GB, vm, e5, g0, g1', g2, hr1, g3, g4, g5, hr2⟩ := d4
        have d5 : f 5 = .int .i64 2 := d5
        rw [e5, d5]
        have HB5 := Lib.hid (bstep HB1.out hb)
        have HDs := Lib.hid (show ∀ k, k < 2 → ∃ dk vk, w1.cell? ⟨GB, k * 3, none⟩ = some (.int .i64 dk.cap) ∧ w1.cell? ⟨GB, k * 3 + 1, none⟩ = some (.int .i64 dk.left) ∧ w1.cell? ⟨GB, k * 3 + 2, none⟩ = some vk ∧ RdF w1 vk dk.files ∧ LiteD dk from fun k hk => by
          rcases k with _ | _ | k
          · exact ⟨⟨c, lf, fl⟩, _, g0, g1', g2, hr1, HLd.out⟩
          · exact ⟨md, _, g3, g4, g5, hr2, HMl.out⟩
          · omega)
        clear g0 g1' g2 g3 g4 g5 hr1 hr2 e5 d5 d3 hb X1 HLd HMl HR HMd HLt HLi
        generalize f 3 = f3 at *
        generalize w1 = w5 at *
        go_wp2_with fail
        go_loopw [47] (fun iv W => ∃ k : Nat, k ≤ 2 ∧ iv = .int .i64 (k : Int) ∧ Hid (Below w5.heap.size w5 W)) (fun iv _ => 2 - (intOf iv).toNat)
        case atStart => exact ⟨0, Nat.zero_le _, rfl, Lib.hid (Below.refl _ _)⟩
        case round =>
          obtain ⟨k, hk, rfl, HBr⟩ := hrel
          by_cases hlt : k < 2
          · have i1 : (k : Int) < 2 := by omega
            obtain ⟨dk, vk, g0, g1', g2, hr, hld⟩ := HDs.out k hlt
            replace g0 := Below.keeps HBr.out _ _ g0
            replace g1' := Below.keeps HBr.out _ _ g1'
            replace g2 := Below.keeps HBr.out _ _ g2
            have HRk := Lib.hid (hr.below HBr.out)
            have HLk := Lib.hid hld
            obtain ⟨ka, kc, rfl, _⟩ := hr.shape
            clear hr hld
            obtain ⟨dc, dl, df⟩ := dk
            dsimp only at *
            have HA := Lib.hid ((Below.refl wr.heap.size wr).alloc (Nat.le_refl _) (.cells #[.int .i64 dc, .int .i64 dl, .slice ka df.length kc] 24))
            have Z := Lib.hid (BoxD.new wr dc dl (.slice ka df.length kc) 24)
            have R6 := Lib.hid (HRk.out.below HA.out)
            have HB6 := Lib.hid (bstep HBr.out HA.out)
            go_upto_region 6 with fail
            clear g0 g1' g2 HRk HA HBr
            generalize wr.alloc (.cells #[.int .i64 dc, .int .i64 dl, .slice ka df.length kc] 24) = w6 at *
            generalize wr.heap.size = ZB at *
            have HGi := Lib.hid (show ∀ W v, RdF W v df → Calls Tryd.prog 17 #[.agg #[.int .i64 dc, .int .i64 dl, v]] W fun e w' => ∃ a n k, e = .returned (.agg #[.int .i64 dc, .int .i64 dl, .slice a n k]) ∧ RdF w' (.slice a n k) df ∧ Below W.heap.size W w' from fun W v h => (given_any ⟨dc, dl, df⟩ v W h HLk.out.len (fun f hf => (HLk.out.fil f hf).pend)).mono fun e w' ⟨fv', e1, e2, e3⟩ => by
              obtain ⟨q1, q2, q3, _⟩ := e2.shape
              subst q3
              exact ⟨_, _, _, e1, e2, e3⟩)
            have HNp := Lib.hid (fun W v (h : RdF W v df) => names_any ⟨dc, dl, df⟩ v W h HLk.out)
            have HNr := Lib.hid (fun W v (h : RdF W v df) => rnames_any ⟨dc, dl, df⟩ v W h HLk.out)
            dsimp only [diskVal] at HNp HNr
            have HSr := Lib.hid (show ∀ t ∈ s :: namesD ⟨dc, dl, df⟩, SrC dc dl df (strB t) (sizeD ⟨dc, dl, df⟩ t).1 (sizeD ⟨dc, dl, df⟩ t).2 from fun t ht => SrC.of (d := ⟨dc, dl, df⟩) HLk.out (by
              rcases List.mem_cons.1 ht with e | e
              · rw [e]; have := Hs.out; omega
              · unfold namesD at e
                split at e
                · obtain ⟨f, hf, rfl⟩ := List.mem_map.1 e
                  have := (HLk.out.fil f hf).name
                  omega
                · cases e))
            have hnl : (namesD ⟨dc, dl, df⟩).length ≤ 1000 := by
              have := HLk.out.len
              unfold namesD
              split
              · rw [List.length_map]; exact this
              · exact Nat.zero_le _
            have HFi := Lib.hid (show ∀ i, i < df.length → LiteF (atN df i) from fun i hi => HLk.out.fil _ (atN_mem hi))
            have hdn : df.length ≤ 1000 := HLk.out.len
            clear HLk
            generalize namesD ⟨dc, dl, df⟩ = NM at *
            have HSD := Lib.hid (show ∀ t ∈ s :: NM, ∃ y er, SrC dc dl df (strB t) y er from fun t ht => ⟨_, _, HSr.out t ht⟩)
            clear HSr
            generalize hdn0 : df.length = dn at *
            have Hdn := Lib.hid hdn0
            clear hdn0
            refine wp_region_rel [eqS (.agg #[.int .i64 dc, .int .i64 dl, .slice ka dn kc]), dvS dc dl df, namS NM, eqS (.agg #[.int .i64 dc, .int .i64 dl, .slice ka dn kc]), namS NM] [] 186 (by kernel_rfl) (by kernel_rfl) (by rfl) (by kernel_rfl) (fun f => by simp [frm, dstOf, Act.put]; exact rfl) ?_ ?_
            · refine ⟨?_, ?_, ?_, ?_, ?_, trivial⟩
              · intro f w1 hb hd
                clear hd
                dsimp only
                have z0 := (Z.out.below hb).c0
                have z1 := (Z.out.below hb).c1
                have z2 := (Z.out.below hb).c2
                go_wp2_with fail
                exact ⟨rfl, Below.refl _ _, fun t ht => by injection ht with ht; subst ht; exact ⟨rfl, fun h => by simp at h⟩⟩
              · intro f w1 hb hd
                have d0 : f 0 = .agg #[.int .i64 dc, .int .i64 dl, .slice ka dn kc] := hd 0 (by kernel_rfl)
                clear hd
                dsimp only
                rw [d0]
                go_wp2_with fail
                refine (HGi.out w1 _ (R6.out.below hb)).mono ?_
                rintro e w2 ⟨ga, gn, gk, rfl, hr', hbe⟩
                have HR9 := Lib.hid hr'
                clear hr'
                go_wp2_with fail
                exact ⟨rfl, hbe, fun t ht => by injection ht with ht; subst ht; exact ⟨⟨_, rfl, HR9.out⟩, fun h => by simp at h⟩⟩
              · intro f w1 hb hd
                have d1 := hd 1 (by kernel_rfl)
                obtain ⟨vg, eg, rg⟩ : ∃ fv', f 1 = .agg #[.int .i64 dc, .int .i64 dl, fv'] ∧ RdF w1 fv' df := d1
                obtain ⟨ag, kg, ug, _⟩ := rg.shape
                subst ug
                clear hd
                dsimp only
                rw [eg]
                go_wp2_with fail
                refine (HNp.out w1 _ rg).mono ?_
                rintro e w2 ⟨v', rfl, ho, hbe⟩
                have HOr := Lib.hid (show RdL strV w2 v' NM from own_rdl ho)
                clear ho
                go_wp2_with fail
                exact ⟨rfl, hbe, fun t ht => by injection ht with ht; subst ht; exact ⟨HOr.out, fun h => by simp at h⟩⟩
              · intro f w1 hb hd
                clear hd
                dsimp only
                have z0 := (Z.out.below hb).c0
                have z1 := (Z.out.below hb).c1
                have z2 := (Z.out.below hb).c2
                go_wp2_with fail
                exact ⟨rfl, Below.refl _ _, fun t ht => by injection ht with ht; subst ht; exact ⟨rfl, fun h => by simp at h⟩⟩
              · intro f w1 hb hd
                have d3 : f 3 = .agg #[.int .i64 dc, .int .i64 dl, .slice ka dn kc] := hd 3 (by kernel_rfl)
                clear hd
                dsimp only
                rw [d3]
                go_wp2_with fail
                refine (HNr.out w1 _ (R6.out.below hb)).mono ?_
                rintro e w2 ⟨v', rfl, ho, hbe⟩
                have HOr := Lib.hid (show RdL strV w2 v' NM from own_rdl ho)
                clear ho
                go_wp2_with fail
                exact ⟨rfl, hbe, fun t ht => by injection ht with ht; subst ht; exact ⟨HOr.out, fun h => by simp at h⟩⟩
            · intro f w1 hb hA _
              have d0 : f 0 = .agg #[.int .i64 dc, .int .i64 dl, .slice ka dn kc] := hA 0 (show 0 < 5 by decide)
              have d1 := hA 1 (show 1 < 5 by decide)
              have d2 := hA 2 (show 2 < 5 by decide)
              have d3 : f 3 = .agg #[.int .i64 dc, .int .i64 dl, .slice ka dn kc] := hA 3 (show 3 < 5 by decide)
              have d4 := hA 4 (show 4 < 5 by decide)
              clear hA
              try dsimp only at *
              rw [d0]
              rw [d3]
              clear d0 d3
              have d2 : RdL strV w1 (f 2) NM := d2
              have d4 : RdL strV w1 (f 4) NM := d4
              obtain ⟨pa, pc, e2, _⟩ := d2.shape []
              obtain ⟨qa, qc, e4, _⟩ := d4.shape []
              rw [e2] at d2
              rw [e4] at d4
              have HP := Lib.hid d2
              have HQ := Lib.hid d4
              have HB7 := Lib.hid (bstep HB6.out hb)
              have Z7 := Lib.hid (Z.out.below hb)
              have R7 := Lib.hid (R6.out.below hb)
              rw [e2, e4]
              clear d1 d2 d4 e2 e4 hb HNp HNr Z R6 HB6
              generalize f 1 = f1 at *
              generalize hnn : NM.length = nn at *
              have Hnn := Lib.hid hnn
              clear hnn
              generalize w1 = w7 at *
              have hA := (Below.refl w7.heap.size w7).alloc (Nat.le_refl _) (.cells #[.string sv] 9)
              have HO := Lib.hid (show OwnN (w7.alloc (.cells #[.string sv] 9)) w7.heap.size (.slice (some ⟨w7.heap.size, 0, none⟩) 1 1) (s :: NM.take 0) from by
                have := own_one1 w7 (.string sv) 9 w7.heap.size (Nat.le_refl _)
                rw [← Hsv.out] at this
                rw [← Hsv.out]
                exact this)
              have HA := Lib.hid hA
              clear hA
              go_upto_region 10 with fail
              go_wp2_with fail
              generalize hw8 : w7.alloc (.cells #[.string sv] 9) = w8 at *
              clear hw8
              go_loopw [17, 18, 65] (fun nv _ iv W => ∃ j : Nat, iv = .int .i64 (j : Int) ∧ j ≤ nn ∧ Hid (OwnN W w7.heap.size nv (s :: NM.take j)) ∧ Hid (Below w7.heap.size w7 W)) (fun _ _ iv _ => nn - (intOf iv).toNat)
              case atStart => exact ⟨0, rfl, Nat.zero_le _, HO, HA⟩
              case round =>
                obtain ⟨j, rfl, hj, HOj, HBj⟩ := hrel
                have hlen : (s :: NM.take j).length = j + 1 := by rw [List.length_cons, List.length_take, Hnn.out]; omega
                have ho := HOj.out
                unfold OwnN at ho
                rw [hlen] at ho
                obtain ⟨oa, oc, hnv, _⟩ := own_form ho
                subst hnv
                clear HO HA hlen
                by_cases hlj : j < nn
                · have j1 : (j : Int) < (nn : Int) := by omega
                  have hpx := (RdL.below HP.out HBj.out).atW (j := j) (by rw [Hnn.out]; exact hlj)
                  obtain ⟨pb, poff, rfl, p0⟩ := hpx
                  obtain ⟨qb, qoff, rfl, q0⟩ := (RdL.below HQ.out HBj.out).atW (j := j) (by rw [Hnn.out]; exact hlj)
                  have HO2 := Lib.hid ho
                  have HTk := Lib.hid (show s :: NM.take (j + 1) = (s :: NM.take j) ++ [NM.getD j []] by rw [take_nextE NM j [] (by rw [Hnn.out]; exact hlj)]; rfl)
                  have HTl := Lib.hid (show (s :: NM.take (j + 1)).length = j + 1 + 1 by rw [List.length_cons, List.length_take, Hnn.out]; omega)
                  have Hsn := Lib.hid (show ∀ x : List UInt8, strV x = .string (strB x) from fun _ => rfl)
                  generalize hnj : NM.getD j [] = nmj at *
                  clear hnj ho HOj
                  generalize hsn : strB nmj = snm at *
                  have Hsm := Lib.hid hsn
                  clear hsn
                  go_upto_region 13 with fail
                  refine wp_region_relz [eqS (.slice (some ⟨pb, poff, none⟩) nn pc), eqS (.int .i64 (j : Int)), eqS (.pointer (some ⟨pb, poff + j, none⟩)), eqS (.string snm), eqS (.slice (some ⟨qb, qoff, none⟩) nn qc), eqS (.int .i64 (j : Int)), eqS (.pointer (some ⟨qb, qoff + j, none⟩)), eqS (.string snm), eqS (.bool false)] 186 (by kernel_rfl) (by kernel_rfl) (by kernel_rfl) (by rfl) (by kernel_rfl) (fun f => by simp [frm, dstOf, Act.put]; exact rfl) ?_ ?_
                  · refine ⟨?_, ?_, ?_, ?_, ?_, ?_, ?_, ?_, ?_, trivial⟩
                    · intro f w1 hb hd
                      clear hd
                      dsimp only
                      go_wp2_with fail
                      exact ⟨rfl, Below.refl _ _, fun t ht => by injection ht with ht; subst ht; exact ⟨rfl, fun h => by simp at h⟩⟩
                    · intro f w1 hb hd
                      clear hd
                      dsimp only
                      go_wp2_with fail
                      exact ⟨rfl, Below.refl _ _, fun t ht => by injection ht with ht; subst ht; exact ⟨rfl, fun h => by simp at h⟩⟩
                    · intro f w1 hb hd
                      have d0 : f 0 = .slice (some ⟨pb, poff, none⟩) nn pc := hd 0 (by kernel_rfl)
                      have d1 : f 1 = .int .i64 (j : Int) := hd 1 (by kernel_rfl)
                      clear hd
                      dsimp only
                      rw [d0]
                      rw [d1]
                      go_wp2_with fail
                      exact ⟨rfl, Below.refl _ _, fun t ht => by injection ht with ht; subst ht; exact ⟨rfl, fun h => by simp at h⟩⟩
                    · intro f w1 hb hd
                      have d2 : f 2 = .pointer (some ⟨pb, poff + j, none⟩) := hd 2 (by kernel_rfl)
                      clear hd
                      dsimp only
                      rw [d2]
                      have z0 := Below.keeps hb _ _ p0
                      go_wp2_with fail
                      exact ⟨rfl, Below.refl _ _, fun t ht => by injection ht with ht; subst ht; exact ⟨rfl, fun h => by simp at h⟩⟩
                    · intro f w1 hb hd
                      clear hd
                      dsimp only
                      go_wp2_with fail
                      exact ⟨rfl, Below.refl _ _, fun t ht => by injection ht with ht; subst ht; exact ⟨rfl, fun h => by simp at h⟩⟩
                    · intro f w1 hb hd
                      clear hd
                      dsimp only
                      go_wp2_with fail
                      exact ⟨rfl, Below.refl _ _, fun t ht => by injection ht with ht; subst ht; exact ⟨rfl, fun h => by simp at h⟩⟩
                    · intro f w1 hb hd
                      have d4 : f 4 = .slice (some ⟨qb, qoff, none⟩) nn qc := hd 4 (by kernel_rfl)
                      have d5 : f 5 = .int .i64 (j : Int) := hd 5 (by kernel_rfl)
                      clear hd
                      dsimp only
                      rw [d4]
                      rw [d5]
                      go_wp2_with fail
                      exact ⟨rfl, Below.refl _ _, fun t ht => by injection ht with ht; subst ht; exact ⟨rfl, fun h => by simp at h⟩⟩
                    · intro f w1 hb hd
                      have d6 : f 6 = .pointer (some ⟨qb, qoff + j, none⟩) := hd 6 (by kernel_rfl)
                      clear hd
                      dsimp only
                      rw [d6]
                      have z0 := Below.keeps hb _ _ q0
                      go_wp2_with fail
                      exact ⟨rfl, Below.refl _ _, fun t ht => by injection ht with ht; subst ht; exact ⟨rfl, fun h => by simp at h⟩⟩
                    · intro f w1 hb hd
                      have d3 : f 3 = .string snm := hd 3 (by kernel_rfl)
                      have d7 : f 7 = .string snm := hd 7 (by kernel_rfl)
                      clear hd
                      dsimp only
                      rw [d3]
                      rw [d7]
                      go_wp2_with fail
                      exact ⟨rfl, Below.refl _ _, fun t ht => by injection ht with ht; subst ht; exact ⟨rfl, fun h => by simp at h⟩⟩
                  · intro f w1 hb hA
                    have d0 : f 0 = .slice (some ⟨pb, poff, none⟩) nn pc := hA 0 (show 0 < 9 by decide)
                    have d1 : f 1 = .int .i64 (j : Int) := hA 1 (show 1 < 9 by decide)
                    have d2 : f 2 = .pointer (some ⟨pb, poff + j, none⟩) := hA 2 (show 2 < 9 by decide)
                    have d3 : f 3 = .string snm := hA 3 (show 3 < 9 by decide)
                    have d4 : f 4 = .slice (some ⟨qb, qoff, none⟩) nn qc := hA 4 (show 4 < 9 by decide)
                    have d5 : f 5 = .int .i64 (j : Int) := hA 5 (show 5 < 9 by decide)
                    have d6 : f 6 = .pointer (some ⟨qb, qoff + j, none⟩) := hA 6 (show 6 < 9 by decide)
                    have d7 : f 7 = .string snm := hA 7 (show 7 < 9 by decide)
                    have d8 : f 8 = .bool false := hA 8 (show 8 < 9 by decide)
                    clear hA
                    try dsimp only at *
                    rw [d0]
                    rw [d1]
                    rw [d2]
                    rw [d3]
                    rw [d4]
                    rw [d5]
                    rw [d6]
                    rw [d7]
                    rw [d8]
                    clear d0 d1 d2 d3 d4 d5 d6 d7 d8
                    have HBk := Lib.hid (HBj.out.trans (hb.mono HBj.out.size))
                    have q1 := Below.keeps hb _ _ q0
                    have HBV := Lib.hid (show Below w1.heap.size w1 (w1.alloc (.cells #[.string snm] 9)) from (Below.refl _ _).alloc (Nat.le_refl _) _)
                    have HOw := Lib.hid (own_keep (own_keep HO2.out hb) HBV.out)
                    have hsz : w7.heap.size ≤ w1.heap.size := HBk.out.size
                    clear hb HBj p0 q0 HO2
                    go_wp2_with (at_builtin; first | (refine wpList_app (m := 1) rfl (.tmp 77) (.tmp 82) 59 rfl elemS w7.heap.size rfl HOw.out rfl (Rd.newK w1.heap.size w1 rfl 1 [.string snm] 9 1 rfl (by decide)) (fun u hu => by simp at hu; subst hu; rfl) (by unfold maxLen; omega) (by omega) (by simp; omega) ?_; intro v4 w4 hown4 hgr4 hv4; clear hv4))
                    have HB4 := Lib.hid (own_below ((HBk.out.trans (HBV.out.mono hsz))) HOw.out (Nat.le_trans hsz HBV.out.size) hgr4)
                    have HO4 := Lib.hid (show OwnN w4 w7.heap.size v4 (s :: NM.take (j + 1)) from by
                      unfold OwnN
                      rw [HTl.out, HTk.out, List.map_append]
                      rw [← Hsm.out] at hown4
                      exact hown4)
                    clear hown4 hgr4 q1
                    go_wp2_with fail
                    exact ⟨⟨j + 1, by go_num, by omega, HO4, HB4⟩, by simp [intOf]; omega⟩
                · have j1 : ¬ (j : Int) < (nn : Int) := by omega
                  have hje : j = nn := by omega
                  have HNS := Lib.hid (show RdL strV wr (.slice oa (nn + 1) oc) (s :: NM) from by
                    have h : RdL strV wr _ (s :: NM.take j) := own_rdl HOj.out
                    rw [hje, List.take_of_length_le (by rw [Hnn.out]; omega)] at h
                    exact h)
                  have Z9 := Lib.hid (Z7.out.below HBj.out)
                  have R9 := Lib.hid (R7.out.below HBj.out)
                  have HB9 := Lib.hid (bstep HB7.out HBj.out)
                  have HNL := Lib.hid (show (s :: NM).length = nn + 1 by rw [List.length_cons, Hnn.out])
                  subst hje
                  clear ho HOj HBj HP HQ Z7 R7 HB7 Hnn hj hlj
                  generalize s :: NM = NS at *
                  generalize hjl : j + 1 = jl at *
                  have hjl2 : jl ≤ 1001 := by omega
                  clear hjl
                  generalize wr = w9 at *
                  go_wp2_with fail
                  go_loopw [87] (fun iv W => ∃ t : Nat, iv = .int .i64 (t : Int) ∧ t ≤ jl ∧ Hid (Below w9.heap.size w9 W)) (fun iv _ => jl - (intOf iv).toNat)
                  case atStart => exact ⟨0, rfl, Nat.zero_le _, Lib.hid (Below.refl _ _)⟩
                  case round =>
                    obtain ⟨t, rfl, ht, HBt⟩ := hrel
                    have ZA := Lib.hid (Z9.out.below HBt.out)
                    have RA := Lib.hid (R9.out.below HBt.out)
                    by_cases hlt2 : t < jl
                    · have j2 : (t : Int) < (jl : Int) := by omega
                      obtain ⟨nb, noff, rfl, n0⟩ := (RdL.below HNS.out HBt.out).atW (j := t) (by rw [HNL.out]; exact hlt2)
                      obtain ⟨y, er, hsr⟩ := HSD.out (NS.getD t []) (by
                        have h : t < NS.length := by rw [HNL.out]; exact hlt2
                        rw [List.getD_eq_getElem?_getD, List.getElem?_eq_getElem h]
                        exact List.getElem_mem h)
                      have HSc := Lib.hid hsr
                      clear hsr
                      generalize strB (NS.getD t []) = snm at *
                      go_upto_region 20 with fail
                      clear n0
                      have x0 := ZA.out.c0
                      have x1 := ZA.out.c1
                      have x2 := ZA.out.c2
                      go_wp2_with fail
                      refine (HGi.out _ _ RA.out).mono ?_
                      rintro e w10 ⟨ga, gn, gk, rfl, hr10, hb10⟩
                      replace ZA := Lib.hid (ZA.out.below hb10)
                      replace RA := Lib.hid (RA.out.below hb10)
                      have HBn := Lib.hid (HBt.out.trans (hb10.mono HBt.out.size))
                      clear HBt
                      have HBt := HBn
                      clear HBn
                      have HG10 := Lib.hid hr10
                      clear hr10 hb10 x0 x1 x2
                      go_wp2_with fail
                      refine (HSc.out.sp _ _ HG10.out).mono ?_
                      rintro e w11 ⟨rfl, hb11⟩
                      replace ZA := Lib.hid (ZA.out.below hb11)
                      replace RA := Lib.hid (RA.out.below hb11)
                      have HBn := Lib.hid (HBt.out.trans (hb11.mono HBt.out.size))
                      clear HBt
                      have HBt := HBn
                      clear HBn
                      clear hb11 HG10
                      go_upto_region 21 with fail
                      have x0 := ZA.out.c0
                      have x1 := ZA.out.c1
                      have x2 := ZA.out.c2
                      go_wp2_with fail
                      refine (HSc.out.sr _ _ RA.out).mono ?_
                      rintro e w12 ⟨rfl, hb12⟩
                      replace ZA := Lib.hid (ZA.out.below hb12)
                      replace RA := Lib.hid (RA.out.below hb12)
                      have HBn := Lib.hid (HBt.out.trans (hb12.mono HBt.out.size))
                      clear HBt
                      have HBt := HBn
                      clear HBn
                      clear hb12 x0 x1 x2
                      have hyy : (y != y) = false := by simp
                      have hee : (er != er) = false := by simp
                      go_upto_region 24 with fail
                      clear hyy hee
                      go_wp2_with fail
                      have hA := (Below.refl w12.heap.size w12).alloc (Nat.le_refl _) (.cells #[.int .i64 off, .int .i64 nn0, .int .i64 o16, .int .i64 n16, .int .i64 0, .int .i64 y] 63)
                      obtain ⟨g0, g1, g2, g3, g4, g5⟩ := six_cells w12 (.int .i64 off) (.int .i64 nn0) (.int .i64 o16) (.int .i64 n16) (.int .i64 0) (.int .i64 y) 63 _ rfl
                      have HCs := Lib.hid (show ∀ q, q < 3 → ∃ k0 k1 : Int, (w12.alloc (.cells #[.int .i64 off, .int .i64 nn0, .int .i64 o16, .int .i64 n16, .int .i64 0, .int .i64 y] 63)).cell? ⟨w12.heap.size, q * 2, none⟩ = some (.int .i64 k0) ∧ (w12.alloc (.cells #[.int .i64 off, .int .i64 nn0, .int .i64 o16, .int .i64 n16, .int .i64 0, .int .i64 y] 63)).cell? ⟨w12.heap.size, q * 2 + 1, none⟩ = some (.int .i64 k1) from fun q hq => by
                        rcases q with _ | _ | _ | q
                        · exact ⟨_, _, g0, g1⟩
                        · exact ⟨_, _, g2, g3⟩
                        · exact ⟨_, _, g4, g5⟩
                        · omega)
                      replace ZA := Lib.hid (ZA.out.below hA)
                      replace RA := Lib.hid (RA.out.below hA)
                      have HBn := Lib.hid (HBt.out.trans (hA.mono HBt.out.size))
                      clear HBt
                      have HBt := HBn
                      clear HBn
                      clear g0 g1 g2 g3 g4 g5 hA
                      generalize hw13 : w12.alloc (.cells #[.int .i64 off, .int .i64 nn0, .int .i64 o16, .int .i64 n16, .int .i64 0, .int .i64 y] 63) = w13 at *
                      clear hw13
                      generalize w12.heap.size = cb at *
                      go_loopw [124] (fun iv W => ∃ q : Nat, iv = .int .i64 (q : Int) ∧ q ≤ 3 ∧ Hid (Below w13.heap.size w13 W)) (fun iv _ => 3 - (intOf iv).toNat)
                      case atStart => exact ⟨0, rfl, Nat.zero_le _, Lib.hid (Below.refl _ _)⟩
                      case round =>
                        obtain ⟨q, rfl, hq, HBq⟩ := hrel
                        by_cases hlq : q < 3
                        · have j3 : (q : Int) < 3 := by omega
                          obtain ⟨k0, k1, g0, g1⟩ := HCs.out q hlq
                          replace g0 := Below.keeps HBq.out _ _ g0
                          replace g1 := Below.keeps HBq.out _ _ g1
                          obtain ⟨o, e2, hrp, hrr⟩ := HSc.out.rd k0 k1
                          have HRp := Lib.hid hrp
                          have HRr := Lib.hid hrr
                          clear hrp hrr
                          have hA := (Below.refl wr.heap.size wr).alloc (Nat.le_refl _) (.cells #[.int .i64 k0, .int .i64 k1] 63)
                          have ZC := Lib.hid ((ZA.out.below HBq.out).below hA)
                          have RC := Lib.hid ((RA.out.below HBq.out).below hA)
                          have HBu := Lib.hid (HBq.out.trans (hA.mono HBq.out.size))
                          have h0 : (wr.alloc (.cells #[.int .i64 k0, .int .i64 k1] 63)).cell? ⟨wr.heap.size, 0, none⟩ = some (.int .i64 k0) := by simp
                          have h1 : (wr.alloc (.cells #[.int .i64 k0, .int .i64 k1] 63)).cell? ⟨wr.heap.size, 1, none⟩ = some (.int .i64 k1) := by simp
                          have HK := Lib.hid (And.intro h0 h1)
                          clear hA h0 h1
                          go_upto_region 27 with fail
                          clear g0 g1 HBq
                          generalize wr.alloc (.cells #[.int .i64 k0, .int .i64 k1] 63) = w14 at *
                          generalize wr.heap.size = kb at *
                          refine wp_region_late [eqS (.agg #[.int .i64 dc, .int .i64 dl, .slice ka dn kc]), dvS dc dl df, eqS (.string snm), eqS (.pointer (some ⟨kb, 0, none⟩)), eqS (.int .i64 k0), eqS (.pointer (some ⟨kb, 1, none⟩)), eqS (.int .i64 k1), trS o e2, trS o e2, byS o, eqS (.int .i64 e2)] [] 186 10 (by kernel_rfl) (by kernel_rfl) rfl rfl (by decide) (by rfl) (by kernel_rfl) (fun f => by simp [frm, dstOf, Act.put]; exact rfl) ?_ ?_ ?_
                          · refine ⟨?_, ?_, ?_, ?_, ?_, ?_, ?_, ?_, ?_, ?_, ?_, trivial⟩
                            · intro f w1 hb hd
                              clear hd
                              dsimp only
                              have z0 := (ZC.out.below hb).c0
                              have z1 := (ZC.out.below hb).c1
                              have z2 := (ZC.out.below hb).c2
                              go_wp2_with fail
                              exact ⟨rfl, Below.refl _ _, fun t ht => by injection ht with ht; subst ht; exact ⟨rfl, fun h => by simp at h⟩⟩
                            · intro f w1 hb hd
                              have d0 : f 0 = .agg #[.int .i64 dc, .int .i64 dl, .slice ka dn kc] := hd 0 (by kernel_rfl)
                              clear hd
                              dsimp only
                              rw [d0]
                              go_wp2_with fail
                              refine (HGi.out w1 _ (RC.out.below hb)).mono ?_
                              rintro e w2 ⟨ga, gn, gk, rfl, hr', hbe⟩
                              have HR9 := Lib.hid hr'
                              clear hr'
                              go_wp2_with fail
                              exact ⟨rfl, hbe, fun t ht => by injection ht with ht; subst ht; exact ⟨⟨_, rfl, HR9.out⟩, fun h => by simp at h⟩⟩
                            · intro f w1 hb hd
                              clear hd
                              dsimp only
                              go_wp2_with fail
                              exact ⟨rfl, Below.refl _ _, fun t ht => by injection ht with ht; subst ht; exact ⟨rfl, fun h => by simp at h⟩⟩
                            · intro f w1 hb hd
                              clear hd
                              dsimp only
                              go_wp2_with fail
                              exact ⟨rfl, Below.refl _ _, fun t ht => by injection ht with ht; subst ht; exact ⟨rfl, fun h => by simp at h⟩⟩
                            · intro f w1 hb hd
                              have d3 : f 3 = .pointer (some ⟨kb, 0, none⟩) := hd 3 (by kernel_rfl)
                              clear hd
                              dsimp only
                              rw [d3]
                              have z0 := Below.keeps hb _ _ HK.out.1
                              go_wp2_with fail
                              exact ⟨rfl, Below.refl _ _, fun t ht => by injection ht with ht; subst ht; exact ⟨rfl, fun h => by simp at h⟩⟩
                            · intro f w1 hb hd
                              clear hd
                              dsimp only
                              go_wp2_with fail
                              exact ⟨rfl, Below.refl _ _, fun t ht => by injection ht with ht; subst ht; exact ⟨rfl, fun h => by simp at h⟩⟩
                            · intro f w1 hb hd
                              have d5 : f 5 = .pointer (some ⟨kb, 1, none⟩) := hd 5 (by kernel_rfl)
                              clear hd
                              dsimp only
                              rw [d5]
                              have z0 := Below.keeps hb _ _ HK.out.2
                              go_wp2_with fail
                              exact ⟨rfl, Below.refl _ _, fun t ht => by injection ht with ht; subst ht; exact ⟨rfl, fun h => by simp at h⟩⟩
                            · intro f w1 hb hd
                              have d1 := hd 1 (by kernel_rfl)
                              obtain ⟨vg, eg, rg⟩ : ∃ fv', f 1 = .agg #[.int .i64 dc, .int .i64 dl, fv'] ∧ RdF w1 fv' df := d1
                              obtain ⟨ag, kg, ug, _⟩ := rg.shape
                              subst ug
                              have d2 : f 2 = .string snm := hd 2 (by kernel_rfl)
                              have d4 : f 4 = .int .i64 k0 := hd 4 (by kernel_rfl)
                              have d6 : f 6 = .int .i64 k1 := hd 6 (by kernel_rfl)
                              clear hd
                              dsimp only
                              rw [d2]
                              rw [d4]
                              rw [d6]
                              rw [eg]
                              go_wp2_with fail
                              refine (HRp.out w1 _ rg).mono ?_
                              rintro e w2 ⟨a9, n9, k9, rfl, ho, hbe⟩
                              have HO9 := Lib.hid ho
                              clear ho
                              go_wp2_with fail
                              exact ⟨rfl, hbe, fun t ht => by injection ht with ht; subst ht; exact ⟨⟨_, _, _, rfl, HO9.out⟩, fun h => by simp at h⟩⟩
                            · intro f w1 hb hd
                              have d7 := hd 7 (by kernel_rfl)
                              obtain ⟨ta, tn, tk, et, rt⟩ : ∃ a n k, f 7 = .tuple #[.slice a n k, .int .i64 e2] ∧ RdB w1 (.slice a n k) o := d7
                              have RT := Lib.hid rt
                              clear rt
                              clear hd
                              dsimp only
                              rw [et]
                              go_wp2_with fail
                              exact ⟨rfl, Below.refl _ _, fun t ht => by injection ht with ht; subst ht; exact ⟨⟨_, _, _, rfl, RT.out⟩, fun h => by simp at h⟩⟩
                            · intro f w1 hb hd
                              have d8 := hd 8 (by kernel_rfl)
                              obtain ⟨ta, tn, tk, et, rt⟩ : ∃ a n k, f 8 = .tuple #[.slice a n k, .int .i64 e2] ∧ RdB w1 (.slice a n k) o := d8
                              have RT := Lib.hid rt
                              clear rt
                              clear hd
                              dsimp only
                              rw [et]
                              go_wp2_with fail
                              exact ⟨rfl, Below.refl _ _, fun t ht => by injection ht with ht; subst ht; exact ⟨RT.out, fun h => by simp at h⟩⟩
                            · intro f w1 hb hd
                              have d8 := hd 8 (by kernel_rfl)
                              obtain ⟨ta, tn, tk, et, rt⟩ : ∃ a n k, f 8 = .tuple #[.slice a n k, .int .i64 e2] ∧ RdB w1 (.slice a n k) o := d8
                              have RT := Lib.hid rt
                              clear rt
                              clear hd
                              dsimp only
                              rw [et]
                              go_wp2_with fail
                              exact ⟨rfl, Below.refl _ _, fun t ht => by injection ht with ht; subst ht; exact ⟨rfl, fun h => by simp at h⟩⟩
                          · intro f w1 hb hA _
                            have d0 : f 0 = .agg #[.int .i64 dc, .int .i64 dl, .slice ka dn kc] := hA 0 (show 0 < 11 by decide)
                            have d1 := hA 1 (show 1 < 11 by decide)
                            have d2 : f 2 = .string snm := hA 2 (show 2 < 11 by decide)
                            have d3 : f 3 = .pointer (some ⟨kb, 0, none⟩) := hA 3 (show 3 < 11 by decide)
                            have d4 : f 4 = .int .i64 k0 := hA 4 (show 4 < 11 by decide)
                            have d5 : f 5 = .pointer (some ⟨kb, 1, none⟩) := hA 5 (show 5 < 11 by decide)
                            have d6 : f 6 = .int .i64 k1 := hA 6 (show 6 < 11 by decide)
                            have d7 := hA 7 (show 7 < 11 by decide)
                            have d8 := hA 8 (show 8 < 11 by decide)
                            have d9 := hA 9 (show 9 < 11 by decide)
                            have d10 := hA 10 (show 10 < 11 by decide)
                            clear hA
                            try dsimp only at *
                            rw [d0]
                            rw [d2]
                            rw [d3]
                            rw [d4]
                            rw [d5]
                            rw [d6]
                            clear d0 d2 d3 d4 d5 d6
                            have d9 : RdB w1 (f 9) o := d9
                            obtain ⟨a9, c9, e9, _⟩ := d9.shape0
                            rw [e9] at d9
                            have d10 : f 10 = .int .i64 e2 := d10
                            rw [e9, d10]
                            have HB14 := Lib.hid (HBu.out.trans (hb.mono HBu.out.size))
                            have z0 := (ZC.out.below hb).c0
                            have z1 := (ZC.out.below hb).c1
                            have z2 := (ZC.out.below hb).c2
                            have h0 := Below.keeps hb _ _ HK.out.1
                            have h1 := Below.keeps hb _ _ HK.out.2
                            have RE := Lib.hid (RC.out.below hb)
                            have HOp := Lib.hid d9
                            clear hb d1 d7 d8 d9 d10 e9
                            go_upto_region 28 with fail
                            go_wp2_with fail
                            refine (HRr.out _ _ RE.out).mono ?_
                            rintro e w15 ⟨a15, n15, k15, rfl, ho15, hb15⟩
                            have hc1 := toStr (RdL.below HOp.out hb15)
                            have hc2 := toStr ho15
                            have HB15 := Lib.hid (HB14.out.trans (hb15.mono HB14.out.size))
                            have hee : (e2 != e2) = false := by simp
                            clear ho15 hb15 z0 z1 z2 h0 h1
                            generalize strB o = so at *
                            go_wp2_with fail
                            exact ⟨⟨q + 1, by go_num, by omega, HB15⟩, by simp [intOf]; omega⟩
                          · intro f w1 hb hA _
                            have d0 : f 0 = .agg #[.int .i64 dc, .int .i64 dl, .slice ka dn kc] := hA 0 (show 0 < 11 by decide) (show 0 ≠ 10 by decide)
                            have d1 := hA 1 (show 1 < 11 by decide) (show 1 ≠ 10 by decide)
                            have d2 : f 2 = .string snm := hA 2 (show 2 < 11 by decide) (show 2 ≠ 10 by decide)
                            have d3 : f 3 = .pointer (some ⟨kb, 0, none⟩) := hA 3 (show 3 < 11 by decide) (show 3 ≠ 10 by decide)
                            have d4 : f 4 = .int .i64 k0 := hA 4 (show 4 < 11 by decide) (show 4 ≠ 10 by decide)
                            have d5 : f 5 = .pointer (some ⟨kb, 1, none⟩) := hA 5 (show 5 < 11 by decide) (show 5 ≠ 10 by decide)
                            have d6 : f 6 = .int .i64 k1 := hA 6 (show 6 < 11 by decide) (show 6 ≠ 10 by decide)
                            have d7 := hA 7 (show 7 < 11 by decide) (show 7 ≠ 10 by decide)
                            have d8 := hA 8 (show 8 < 11 by decide) (show 8 ≠ 10 by decide)
                            have d9 := hA 9 (show 9 < 11 by decide) (show 9 ≠ 10 by decide)
                            clear hA
                            try dsimp only at *
                            rw [d0]
                            rw [d2]
                            rw [d3]
                            rw [d4]
                            rw [d5]
                            rw [d6]
                            clear d0 d2 d3 d4 d5 d6
                            have d9 : RdB w1 (f 9) o := d9
                            obtain ⟨a9, c9, e9, _⟩ := d9.shape0
                            rw [e9] at d9
                            obtain ⟨ta, tn, tk, et, _⟩ : ∃ a n k, f 8 = .tuple #[.slice a n k, .int .i64 e2] ∧ RdB w1 (.slice a n k) o := d8
                            rw [e9, et]
                            have HB14 := Lib.hid (HBu.out.trans (hb.mono HBu.out.size))
                            have z0 := (ZC.out.below hb).c0
                            have z1 := (ZC.out.below hb).c1
                            have z2 := (ZC.out.below hb).c2
                            have h0 := Below.keeps hb _ _ HK.out.1
                            have h1 := Below.keeps hb _ _ HK.out.2
                            have RE := Lib.hid (RC.out.below hb)
                            have HOp := Lib.hid d9
                            clear hb d1 d7 d9 e9 et
                            go_upto_region 28 with fail
                            go_wp2_with fail
                            refine (HRr.out _ _ RE.out).mono ?_
                            rintro e w15 ⟨a15, n15, k15, rfl, ho15, hb15⟩
                            have hc1 := toStr (RdL.below HOp.out hb15)
                            have hc2 := toStr ho15
                            have HB15 := Lib.hid (HB14.out.trans (hb15.mono HB14.out.size))
                            have hee : (e2 != e2) = false := by simp
                            clear ho15 hb15 z0 z1 z2 h0 h1
                            generalize strB o = so at *
                            go_wp2_with fail
                            exact ⟨⟨q + 1, by go_num, by omega, HB15⟩, by simp [intOf]; omega⟩
                        · have j3 : ¬ (q : Int) < 3 := by omega
                          have HBo := Lib.hid (HBt.out.trans (HBq.out.mono HBt.out.size))
                          go_wp2_with fail
                          exact ⟨⟨t + 1, by go_num, by omega, HBo⟩, by simp [intOf]; omega⟩
                    · have j2 : ¬ (t : Int) < (jl : Int) := by omega
                      clear HNS HNL HSD
                      go_wp2_with fail
                      have HBd := Lib.hid (bstep HB9.out HBt.out)
                      clear HBt HB9 Z9 R9 ht hlt2 j2
                      generalize wr = w16 at *
                      go_loopw [31] (fun iv W => ∃ i : Nat, iv = .int .i64 (i : Int) ∧ i ≤ dn ∧ Hid (Below w16.heap.size w16 W)) (fun iv _ => dn - (intOf iv).toNat)
                      case atStart => exact ⟨0, rfl, Nat.zero_le _, Lib.hid (Below.refl _ _)⟩
                      case round =>
                        obtain ⟨i, rfl, hi, HBi⟩ := hrel
                        have ZD := Lib.hid (ZA.out.below HBi.out)
                        have RD := Lib.hid (RA.out.below HBi.out)
                        have y2 := ZD.out.c2
                        by_cases hli : i < dn
                        · have i2 : (i : Int) < (dn : Int) := by omega
                          obtain ⟨fb, foff, bv, pv, rfl, hbv, hpv, f0, f1', f2'⟩ := RD.out.at hli
                          obtain ⟨b1, b2, rfl, _⟩ := hbv.shape0
                          obtain ⟨p1, p2, rfl, _⟩ := hpv.shape
                          have HLf := Lib.hid (HFi.out i hli)
                          have HF := Lib.hid (And.intro hbv (And.intro hpv (And.intro f0 (And.intro f1' f2'))))
                          clear hbv hpv f0 f1' f2'
                          have HRw := Lib.hid (show ∀ W a n k, RdF W (.slice a n k) df → ∃ b o bv pv, a = some ⟨b, o, none⟩ ∧ i < n ∧ RdB W bv (atN df i).base ∧ RdW W pv (atN df i).pend ∧ W.cell? ⟨b, o + i * 3, none⟩ = some (.string (strB (atN df i).name)) ∧ W.cell? ⟨b, o + i * 3 + 1, none⟩ = some bv ∧ W.cell? ⟨b, o + i * 3 + 2, none⟩ = some pv from fun W a n k h => by
                            have hn : i < n := by
                              obtain ⟨_, _, q3, _⟩ := h.shape
                              injection q3 with _ q4 _
                              rw [q4, Hdn.out]; exact hli
                            obtain ⟨b, o, bv, pv, e1, e2, e3, e4, e5, e6⟩ := h.at hn
                            exact ⟨b, o, bv, pv, e1, hn, e2, e3, e4, e5, e6⟩)
                          generalize atN df i = F at *
                          have HCp := Lib.hid (show ∀ W bv pv, RdB W bv F.base → RdW W pv F.pend → Calls Tryd.prog 37 #[.agg #[.string (strB F.name), bv, pv]] W fun e w' => ∃ v', e = .returned v' ∧ RdB w' v' (contF F) ∧ Below W.heap.size W w' from fun W bv pv h1 h2 => (content_any F.name F.base F.pend bv pv W h1 h2 HLf.out.wr).mono fun e w' ⟨v', e1, e2, e3⟩ => ⟨v', e1, e2.rd, e3⟩)
                          have HCr := Lib.hid (show ∀ W bv pv, RdB W bv F.base → RdW W pv F.pend → Calls Tryd.prog 38 #[.agg #[.string (strB F.name), bv, pv]] W fun e w' => ∃ v', e = .returned v' ∧ RdB w' v' (contF F) ∧ Below W.heap.size W w' from fun W bv pv h1 h2 => (rcontent_any F.name F.base F.pend bv pv W h1 h2 HLf.out).mono fun e w' ⟨v', e1, e2, e3⟩ => ⟨v', e1, e2.rd, e3⟩)
                          clear HLf
                          generalize contF F = cf at *
                          generalize hbl : F.base.length = bl at *
                          generalize hpl : F.pend.length = pl at *
                          clear hbl hpl
                          generalize hsF : strB F.name = sF at *
                          have HsF := Lib.hid hsF
                          clear hsF
                          go_upto_region 36 with fail
                          clear y2
                          refine wp_region_relz [eqS (.agg #[.int .i64 dc, .int .i64 dl, .slice (some ⟨fb, foff, none⟩) dn kc]), dvS dc dl df, frS df, eqS (.int .i64 (i : Int)), pfS F, fvS F, byS cf, eqS (.string (strB cf)), eqS (.pointer (some ⟨ZB, 2, none⟩)), eqS (.slice (some ⟨fb, foff, none⟩) dn kc), eqS (.int .i64 (i : Int)), eqS (.pointer (some ⟨fb, foff + i * 3, none⟩)), eqS (.agg #[.string sF, .slice b1 bl b2, .slice p1 pl p2]), byS cf, eqS (.string (strB cf)), eqS (.bool false)] 186 (by kernel_rfl) (by kernel_rfl) (by kernel_rfl) (by rfl) (by kernel_rfl) (fun f => by simp [frm, dstOf, Act.put]; exact rfl) ?_ ?_
                          · refine ⟨?_, ?_, ?_, ?_, ?_, ?_, ?_, ?_, ?_, ?_, ?_, ?_, ?_, ?_, ?_, ?_, trivial⟩
                            · intro f w1 hb hd
                              clear hd
                              dsimp only
                              have z0 := (ZD.out.below hb).c0
                              have z1 := (ZD.out.below hb).c1
                              have z2 := (ZD.out.below hb).c2
                              go_wp2_with fail
                              exact ⟨rfl, Below.refl _ _, fun t ht => by injection ht with ht; subst ht; exact ⟨rfl, fun h => by simp at h⟩⟩
                            · intro f w1 hb hd
                              have d0 : f 0 = .agg #[.int .i64 dc, .int .i64 dl, .slice (some ⟨fb, foff, none⟩) dn kc] := hd 0 (by kernel_rfl)
                              clear hd
                              dsimp only
                              rw [d0]
                              go_wp2_with fail
                              refine (HGi.out w1 _ (RD.out.below hb)).mono ?_
                              rintro e w2 ⟨ga, gn, gk, rfl, hr', hbe⟩
                              have HR9 := Lib.hid hr'
                              clear hr'
                              go_wp2_with fail
                              exact ⟨rfl, hbe, fun t ht => by injection ht with ht; subst ht; exact ⟨⟨_, rfl, HR9.out⟩, fun h => by simp at h⟩⟩
                            · intro f w1 hb hd
                              have d1 := hd 1 (by kernel_rfl)
                              obtain ⟨vg, eg, rg⟩ : ∃ fv', f 1 = .agg #[.int .i64 dc, .int .i64 dl, fv'] ∧ RdF w1 fv' df := d1
                              obtain ⟨ag, kg, ug, _⟩ := rg.shape
                              subst ug
                              clear hd
                              dsimp only
                              rw [eg]
                              have RG := Lib.hid rg
                              clear rg
                              have hfl := field_fil dc dl (.slice ag df.length kg)
                              go_wp2_with fail
                              exact ⟨rfl, Below.refl _ _, fun t ht => by injection ht with ht; subst ht; exact ⟨⟨_, _, _, rfl, RG.out⟩, fun h => by simp at h⟩⟩
                            · intro f w1 hb hd
                              clear hd
                              dsimp only
                              go_wp2_with fail
                              exact ⟨rfl, Below.refl _ _, fun t ht => by injection ht with ht; subst ht; exact ⟨rfl, fun h => by simp at h⟩⟩
                            · intro f w1 hb hd
                              have d2 := hd 2 (by kernel_rfl)
                              obtain ⟨ra, rn, rk, er2, rr⟩ : ∃ a n k, f 2 = .slice a n k ∧ RdF w1 (.slice a n k) df := d2
                              have d3 : f 3 = .int .i64 (i : Int) := hd 3 (by kernel_rfl)
                              clear hd
                              dsimp only
                              rw [d3]
                              obtain ⟨xb, xo, xv, xp, rfl, hin, hx1, hx2, hx3, hx4, hx5⟩ := HRw.out _ _ _ _ rr
                              rw [er2]
                              have HX := Lib.hid (And.intro hx1 (And.intro hx2 (And.intro hx3 (And.intro hx4 hx5))))
                              have hin2 : (i : Int) < (rn : Int) := by omega
                              clear hx1 hx2 hx3 hx4 hx5 rr
                              go_wp2_with fail
                              exact ⟨rfl, Below.refl _ _, fun t ht => by injection ht with ht; subst ht; exact ⟨⟨_, _, _, _, rfl, HX.out.1, HX.out.2.1, by rw [HsF.out]; exact HX.out.2.2.1, HX.out.2.2.2.1, HX.out.2.2.2.2⟩, fun h => by simp at h⟩⟩
                            · intro f w1 hb hd
                              have d4 := hd 4 (by kernel_rfl)
                              obtain ⟨xb, xo, xv, xp, ex, hx1, hx2, hx3, hx4, hx5⟩ : ∃ b o bv pv, f 4 = .pointer (some ⟨b, o, none⟩) ∧ RdB w1 bv F.base ∧ RdW w1 pv F.pend ∧ w1.cell? ⟨b, o, none⟩ = some (.string sF) ∧ w1.cell? ⟨b, o + 1, none⟩ = some bv ∧ w1.cell? ⟨b, o + 2, none⟩ = some pv := by rw [← HsF.out]; exact d4
                              clear hd
                              dsimp only
                              obtain ⟨xa, xc, rfl, _⟩ := hx1.shape0
                              obtain ⟨ya, yc, rfl, _⟩ := hx2.shape
                              rw [ex]
                              have HX := Lib.hid (And.intro hx1 hx2)
                              clear hx1 hx2
                              go_wp2_with fail
                              exact ⟨rfl, Below.refl _ _, fun t ht => by injection ht with ht; subst ht; exact ⟨⟨xa, F.base.length, xc, ya, F.pend.length, yc, by rw [HsF.out]; rfl, HX.out.1, HX.out.2⟩, fun h => by simp at h⟩⟩
                            · intro f w1 hb hd
                              have d5 := hd 5 (by kernel_rfl)
                              obtain ⟨xa, xn, xk, ya, yn, yk, ex, hx1, hx2⟩ : ∃ a1 n1 k1 a2 n2 k2, f 5 = .agg #[.string sF, .slice a1 n1 k1, .slice a2 n2 k2] ∧ RdB w1 (.slice a1 n1 k1) F.base ∧ RdW w1 (.slice a2 n2 k2) F.pend := by rw [← HsF.out]; exact d5
                              clear hd
                              dsimp only
                              rw [ex]
                              go_wp2_with fail
                              refine (HCp.out w1 _ _ hx1 hx2).mono ?_
                              rintro e w2 ⟨v', rfl, ho, hbe⟩
                              have HOr := Lib.hid ho
                              clear ho
                              go_wp2_with fail
                              exact ⟨rfl, hbe, fun t ht => by injection ht with ht; subst ht; exact ⟨HOr.out, fun h => by simp at h⟩⟩
                            · intro f w1 hb hd
                              have d6 := hd 6 (by kernel_rfl)
                              have d6 : RdB w1 (f 6) cf := d6
                              obtain ⟨ap, cp, ep, _⟩ := d6.shape0
                              rw [ep] at d6
                              have hc := toStr d6
                              clear d6
                              clear hd
                              dsimp only
                              rw [ep]
                              go_wp2_with fail
                              exact ⟨rfl, Below.refl _ _, fun t ht => by injection ht with ht; subst ht; exact ⟨rfl, fun h => by simp at h⟩⟩
                            · intro f w1 hb hd
                              clear hd
                              dsimp only
                              go_wp2_with fail
                              exact ⟨rfl, Below.refl _ _, fun t ht => by injection ht with ht; subst ht; exact ⟨rfl, fun h => by simp at h⟩⟩
                            · intro f w1 hb hd
                              have d8 : f 8 = .pointer (some ⟨ZB, 2, none⟩) := hd 8 (by kernel_rfl)
                              clear hd
                              dsimp only
                              rw [d8]
                              have z2 := (ZD.out.below hb).c2
                              go_wp2_with fail
                              exact ⟨rfl, Below.refl _ _, fun t ht => by injection ht with ht; subst ht; exact ⟨rfl, fun h => by simp at h⟩⟩
                            · intro f w1 hb hd
                              clear hd
                              dsimp only
                              go_wp2_with fail
                              exact ⟨rfl, Below.refl _ _, fun t ht => by injection ht with ht; subst ht; exact ⟨rfl, fun h => by simp at h⟩⟩
                            · intro f w1 hb hd
                              have d9 : f 9 = .slice (some ⟨fb, foff, none⟩) dn kc := hd 9 (by kernel_rfl)
                              have d10 : f 10 = .int .i64 (i : Int) := hd 10 (by kernel_rfl)
                              clear hd
                              dsimp only
                              rw [d9]
                              rw [d10]
                              go_wp2_with fail
                              exact ⟨rfl, Below.refl _ _, fun t ht => by injection ht with ht; subst ht; exact ⟨rfl, fun h => by simp at h⟩⟩
                            · intro f w1 hb hd
                              have d11 : f 11 = .pointer (some ⟨fb, foff + i * 3, none⟩) := hd 11 (by kernel_rfl)
                              clear hd
                              dsimp only
                              rw [d11]
                              have z0 := Below.keeps hb _ _ HF.out.2.2.1
                              have z1 := Below.keeps hb _ _ HF.out.2.2.2.1
                              have z2 := Below.keeps hb _ _ HF.out.2.2.2.2
                              go_wp2_with fail
                              exact ⟨rfl, Below.refl _ _, fun t ht => by injection ht with ht; subst ht; exact ⟨rfl, fun h => by simp at h⟩⟩
                            · intro f w1 hb hd
                              have d12 : f 12 = .agg #[.string sF, .slice b1 bl b2, .slice p1 pl p2] := hd 12 (by kernel_rfl)
                              clear hd
                              dsimp only
                              rw [d12]
                              go_wp2_with fail
                              refine (HCr.out w1 _ _ (RdL.below HF.out.1 hb) (HF.out.2.1.below hb)).mono ?_
                              rintro e w2 ⟨v', rfl, ho, hbe⟩
                              have HOr := Lib.hid ho
                              clear ho
                              go_wp2_with fail
                              exact ⟨rfl, hbe, fun t ht => by injection ht with ht; subst ht; exact ⟨HOr.out, fun h => by simp at h⟩⟩
                            · intro f w1 hb hd
                              have d13 := hd 13 (by kernel_rfl)
                              have d13 : RdB w1 (f 13) cf := d13
                              obtain ⟨ap, cp, ep, _⟩ := d13.shape0
                              rw [ep] at d13
                              have hc := toStr d13
                              clear d13
                              clear hd
                              dsimp only
                              rw [ep]
                              go_wp2_with fail
                              exact ⟨rfl, Below.refl _ _, fun t ht => by injection ht with ht; subst ht; exact ⟨rfl, fun h => by simp at h⟩⟩
                            · intro f w1 hb hd
                              have d7 := hd 7 (by kernel_rfl)
                              have d7 : f 7 = .string (strB cf) := d7
                              have d14 := hd 14 (by kernel_rfl)
                              have d14 : f 14 = .string (strB cf) := d14
                              clear hd
                              dsimp only
                              rw [d7, d14]
                              generalize strB cf = scf at *
                              go_wp2_with fail
                              exact ⟨rfl, Below.refl _ _, fun t ht => by injection ht with ht; subst ht; exact ⟨rfl, fun h => by simp at h⟩⟩
                          · intro f w1 hb hA
                            have d0 : f 0 = .agg #[.int .i64 dc, .int .i64 dl, .slice (some ⟨fb, foff, none⟩) dn kc] := hA 0 (show 0 < 16 by decide)
                            have d1 := hA 1 (show 1 < 16 by decide)
                            have d2 := hA 2 (show 2 < 16 by decide)
                            have d3 : f 3 = .int .i64 (i : Int) := hA 3 (show 3 < 16 by decide)
                            have d4 := hA 4 (show 4 < 16 by decide)
                            have d5 := hA 5 (show 5 < 16 by decide)
                            have d6 := hA 6 (show 6 < 16 by decide)
                            have d7 := hA 7 (show 7 < 16 by decide)
                            have d8 : f 8 = .pointer (some ⟨ZB, 2, none⟩) := hA 8 (show 8 < 16 by decide)
                            have d9 : f 9 = .slice (some ⟨fb, foff, none⟩) dn kc := hA 9 (show 9 < 16 by decide)
                            have d10 : f 10 = .int .i64 (i : Int) := hA 10 (show 10 < 16 by decide)
                            have d11 : f 11 = .pointer (some ⟨fb, foff + i * 3, none⟩) := hA 11 (show 11 < 16 by decide)
                            have d12 : f 12 = .agg #[.string sF, .slice b1 bl b2, .slice p1 pl p2] := hA 12 (show 12 < 16 by decide)
                            have d13 := hA 13 (show 13 < 16 by decide)
                            have d14 := hA 14 (show 14 < 16 by decide)
                            have d15 := hA 15 (show 15 < 16 by decide)
                            clear hA
                            try dsimp only at *
                            rw [d0]
                            rw [d3]
                            rw [d8]
                            rw [d9]
                            rw [d10]
                            rw [d11]
                            rw [d12]
                            clear d0 d3 d8 d9 d10 d11 d12
                            have d15 : f 15 = .bool false := d15
                            rw [d15]
                            have HBj := Lib.hid (HBi.out.trans (hb.mono HBi.out.size))
                            clear d1 d2 d4 d5 d6 d7 d13 d14 d15 hb
                            go_wp2_with fail
                            exact ⟨⟨i + 1, by go_num, by omega, HBj⟩, by simp [intOf]; omega⟩
                        · have i2 : ¬ (i : Int) < (dn : Int) := by omega
                          have HBe := Lib.hid (bstep HBd.out HBi.out)
                          go_wp2_with fail
                          exact ⟨⟨k + 1, by omega, by go_num, HBe⟩, by simp [intOf]; omega⟩
          · have i1 : ¬ (k : Int) < 2 := by omega
            have HBw := Lib.hid (bstep HB5.out HBr.out)
            clear HDs
            go_wp2_with fail
            refine (HAw.out _).mono ?_
            rintro e w7 ⟨rfl, hb7⟩
            have HB7 := Lib.hid (bstep HBw.out hb7)
            clear hb7
            go_wp2_with fail
            go_ret
            exact ⟨rfl, HB7.out⟩
    · have hsz := HSz.out
      have g1 : (200 : Int) < (sv.size : Int) := by omega
      clear hsz
      go_wp2_with fail
      refine (HAw.out _).mono ?_
      rintro e w2 ⟨rfl, hb2⟩
      have HB2 := Lib.hid (bstep HB1.out hb2)
      clear hb2
      go_wp2_with fail
      go_ret
      exact ⟨rfl, HB2.out⟩
theorem reads_walk (y : Dk × Value) (a : Option Addr) (n cap : Nat) (left : Int) (s : ByteArray) (off m : Int) (w : World) (hy : RdF w y.2 y.1.files ∧ DkWf y.1) (h : ∃ l, RdO w (.slice a n cap) l) (h2 : (Lit.int .i64 left).wf = true) (h3 : (Lit.int .i64 off).wf = true) (h4 : (Lit.int .i64 m).wf = true) :
    Calls Tryd.prog 6 #[.agg #[.int .i64 y.1.cap, .int .i64 y.1.left, y.2], .slice a n cap, .int .i64 left, .string s, .int .i64 off, .int .i64 m] w fun e w' => e = .returned (.bool true) ∧ Below w.heap.size w w' := by
  obtain ⟨l, hl⟩ := h
  exact reads_go y.1 y.2 left off m s.data.toList _ l w hy.1 hy.2 (bounds_of_i64 h2) hl
end Go.Proofs.YtkabcpmnbjllcaaDoor
