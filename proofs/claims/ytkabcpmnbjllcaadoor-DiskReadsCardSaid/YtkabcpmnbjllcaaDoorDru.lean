/- made of the law: the walk. Printed by mkDru.py. -/
import Derived.Test.YtkabcpmnbjllcaaDoorDrt
import Derived.Test.YtkabcpmnbjllcaaDoorKJ
namespace Go.Proofs.YtkabcpmnbjllcaaDoor
open Go.RowKit

theorem KeepB.new3 {B xb : Nat} {W W' : World} (h : KeepB B W W') (hx : W.heap.size ≤ xb) (a b c : Value) : KeepB B W (((W'.setCell ⟨xb, 0, none⟩ a).setCell ⟨xb, 1, none⟩ b).setCell ⟨xb, 2, none⟩ c) :=
  ⟨by have := h.size; simpa using this, fun k hk hlt => by
    rw [Below.heap_setCell _ ⟨xb, 2, none⟩ c k (by dsimp only; omega), Below.heap_setCell _ ⟨xb, 1, none⟩ b k (by dsimp only; omega), Below.heap_setCell _ ⟨xb, 0, none⟩ a k (by dsimp only; omega)]
    exact h.same k hk hlt⟩
theorem RowB.below {w w' W : World} {xs xs' : List FX} {B : Nat} {fv : Value} (h : RowB w xs w' B fv xs') (hb : Below w'.heap.size w' W) : RowB w xs W B fv xs' :=
  ⟨own_keep h.own hb, h.le, fun W' hk hp => h.parts W' ((KeepB.below hb).trans hk) hp⟩
theorem RowB.nil (w w' : World) (B : Nat) (hB : w.heap.size ≤ B) : RowB w [] w' B (.slice none 0 0) [] := ⟨World.ownsRow_nil w' B 73 3, hB, fun _ _ _ _ h => by cases h⟩
theorem PartsX.nil (W : World) : PartsX W [] := fun _ h => by cases h
theorem RowB.parts' {w W : World} {xs : List FX} {B : Nat} {fv : Value} (h : RowB w [] W B fv xs) : PartsX W xs := h.parts W (KeepB.refl _ _) (PartsX.nil W)
theorem RowB.reads {w W : World} {xs : List FX} {B : Nat} {fv : Value} (h : RowB w [] W B fv xs) : RdS 3 filC W fv (feX xs) := own_rds (fun _ _ => rfl) (by decide) h.own
/-- What a call made out of the row of before, in a later world. -/
theorem RowB.next {w W Wc w' W8 : World} {xs xs' : List FX} {B : Nat} {fv fv' : Value} (h : RowB w [] W B fv xs) (hr : RowR Wc xs w' fv' xs') (hW : Below W.heap.size W W8) (hB : B ≤ Wc.heap.size) (hk : KeepB Wc.heap.size w' W8) : RowB w [] W8 B fv' xs' :=
  ⟨World.ownsRow.mono (hk.own hr.1 (Nat.le_refl _)) hB, h.le, fun W' hk' _ => hr.2 W' (hk.trans (hk'.up hB)) (h.parts W' ((KeepB.below hW).trans hk') (PartsX.nil _))⟩
/-- What is done of the region `x, e := want(d, cut(l[i]))`. -/
structure MaS (B0 : Nat) (w6 : World) (ps : List (Nat × Value)) (oc : Opr) (RS : Dk × Int) (xs : List FX) (L : Nat → Bool) (f : Nat → Value) (W : World) : Prop where
  pur : PurR ps L f
  hb : Below B0 w6 W
  sz : B0 ≤ W.heap.size
  a5 : L 5 = true → L 6 = false → ∃ da dn dc ka kn kc, f 5 = opVal oc (.slice da dn dc) (.slice ka kn kc) ∧ RdB W (.slice da dn dc) oc.data ∧ RdK W (.slice ka kn kc) oc.keep
  a6 : L 6 = true → ∃ Wc w' fv' xs', f 6 = .tuple #[diskVal RS.1.cap RS.1.left fv', .int .i64 RS.2] ∧ filX xs' = RS.1.files ∧ RowR Wc xs w' fv' xs' ∧ B0 ≤ Wc.heap.size ∧ KeepB Wc.heap.size w' W ∧
    (L 10 = true → ∀ xb, f 10 = .pointer (some ⟨xb, 0, none⟩) → xb < Wc.heap.size ∨ w'.heap.size ≤ xb) ∧ (L 7 = true → f 7 = f 6) ∧ (L 8 = true → f 8 = diskVal RS.1.cap RS.1.left fv') ∧ (L 9 = true → f 9 = .int .i64 RS.2) ∧
    (L 11 = true → ∃ xb, f 10 = .pointer (some ⟨xb, 0, none⟩) ∧ BoxD W xb RS.1.cap RS.1.left fv')
  d6 : L 6 = false → L 7 = false ∧ L 8 = false ∧ L 9 = false ∧ L 11 = false
  d10 : L 10 = false → L 11 = false
  a10 : L 10 = true → ∃ xb, f 10 = .pointer (some ⟨xb, 0, none⟩) ∧ B0 ≤ xb ∧ (L 11 = false → BoxD W xb 0 0 (.slice none 0 0))
section
variable {B0 : Nat} {w6 W W' : World} {ps : List (Nat × Value)} {oc : Opr} {RS : Dk × Int} {xs : List FX} {L : Nat → Bool} {f : Nat → Value}
theorem onR_at (L : Nat → Bool) (i j : Nat) : onL L i j = if j = i then true else L j := rfl
theorem upR_at (f : Nat → Value) (i j : Nat) (v : Value) : updF f i v j = if j = i then v else f j := rfl
theorem ptr_inj {a b : Nat} (h : (Value.pointer (some ⟨a, 0, none⟩)) = .pointer (some ⟨b, 0, none⟩)) : a = b := by
  injection h with h
  injection h with h
  injection h
theorem MaS.start (hs : B0 = w6.heap.size) (f : Nat → Value) : MaS B0 w6 ps oc RS xs (fun _ => false) f w6.drew := by
  subst hs
  exact ⟨(fun _ _ h => by cases h), below_drew (Below.refl _ _), Nat.le_refl _, (fun h => by cases h), (fun h => by cases h), (fun _ => ⟨rfl, rfl, rfl, rfl⟩), (fun _ => rfl), fun h => by cases h⟩
/-- An operation i (not 5 to 11) that makes memory at the most. -/
theorem MaS.pure (h : MaS B0 w6 ps oc RS xs L f W) {i : Nat} {v : Value} (hi : i < 5) (hp : ∀ q ∈ ps, q.1 = i → v = q.2) : MaS B0 w6 ps oc RS xs (onL L i) (updF f i v) W := by
  have hL : ∀ j, 5 ≤ j → onL L i j = L j := fun j hj => onR_ne (by omega)
  have hf : ∀ j, 5 ≤ j → updF f i v j = f j := fun j hj => upR_ne (by omega)
  refine ⟨h.pur.one hp, h.hb, h.sz, ?_, ?_, ?_, ?_, ?_⟩
  · rw [hL 5 (by decide), hL 6 (by decide), hf 5 (by decide)]; exact h.a5
  · rw [hL 6 (by decide), hL 7 (by decide), hL 8 (by decide), hL 9 (by decide), hL 10 (by decide), hL 11 (by decide), hf 6 (by decide), hf 7 (by decide), hf 8 (by decide), hf 9 (by decide), hf 10 (by decide)]; exact h.a6
  · rw [hL 6 (by decide), hL 7 (by decide), hL 8 (by decide), hL 9 (by decide), hL 11 (by decide)]; exact h.d6
  · rw [hL 10 (by decide), hL 11 (by decide)]; exact h.d10
  · rw [hL 10 (by decide), hL 11 (by decide), hf 10 (by decide)]; exact h.a10
theorem MaS.cut (h : MaS B0 w6 ps oc RS xs L f W) (hW : Below W.heap.size W W') (hp : ∀ q ∈ ps, q.1 ≠ 5) {da ka : Option Addr} {dn dc kn kc : Nat} (hd : RdB W' (.slice da dn dc) oc.data) (hk : RdK W' (.slice ka kn kc) oc.keep) : MaS B0 w6 ps oc RS xs (onL L 5) (updF f 5 (opVal oc (.slice da dn dc) (.slice ka kn kc))) W' := by
  have hL : ∀ j, 6 ≤ j → onL L 5 j = L j := fun j hj => onR_ne (by omega)
  have hf : ∀ j, 6 ≤ j → updF f 5 (opVal oc (.slice da dn dc) (.slice ka kn kc)) j = f j := fun j hj => upR_ne (by omega)
  refine ⟨h.pur.one fun q hq e => absurd e (hp q hq), h.hb.trans (hW.mono h.sz), Nat.le_trans h.sz hW.size, fun _ _ => ⟨da, dn, dc, ka, kn, kc, upR_eq .., hd, hk⟩, ?_, ?_, ?_, ?_⟩
  · rw [hL 6 (by decide), hL 7 (by decide), hL 8 (by decide), hL 9 (by decide), hL 10 (by decide), hL 11 (by decide), hf 6 (by decide), hf 7 (by decide), hf 8 (by decide), hf 9 (by decide), hf 10 (by decide)]
    intro e
    obtain ⟨Wc, w', fv', xs', e1, e2, e3, e4, e5, e6, e7, e8, e9, e10⟩ := h.a6 e
    exact ⟨Wc, w', fv', xs', e1, e2, e3, e4, e5.trans (KeepB.below hW), e6, e7, e8, e9, fun e => (e10 e).imp fun xb hx => ⟨hx.1, hx.2.below hW⟩⟩
  · rw [hL 6 (by decide), hL 7 (by decide), hL 8 (by decide), hL 9 (by decide), hL 11 (by decide)]; exact h.d6
  · rw [hL 10 (by decide), hL 11 (by decide)]; exact h.d10
  · rw [hL 10 (by decide), hL 11 (by decide), hf 10 (by decide)]
    intro e
    obtain ⟨xb, e1, e2, e3⟩ := h.a10 e
    exact ⟨xb, e1, e2, fun e => (e3 e).below hW⟩
theorem MaS.want (h : MaS B0 w6 ps oc RS xs L f W) (hW : Below W.heap.size W W') (h6 : L 6 = false) (hp : ∀ q ∈ ps, q.1 ≠ 6) {fv' : Value} {xs' : List FX} (hf : filX xs' = RS.1.files) (hr : RowR W xs W' fv' xs') : MaS B0 w6 ps oc RS xs (onL L 6) (updF f 6 (.tuple #[diskVal RS.1.cap RS.1.left fv', .int .i64 RS.2])) W' := by
  obtain ⟨n7, n8, n9, n11⟩ := h.d6 h6
  refine ⟨h.pur.one fun q hq e => absurd e (hp q hq), h.hb.trans (hW.mono h.sz), Nat.le_trans h.sz hW.size, ?_, fun _ => ⟨W, W', fv', xs', upR_eq .., hf, hr, h.sz, KeepB.refl _ _, ?_, ?_, ?_, ?_, ?_⟩, ?_, ?_, ?_⟩
  · rw [onR_eq]; intro _ e; cases e
  · rw [onR_ne (by decide), upR_ne (by decide)]
    intro e xb hx
    obtain ⟨xb', e1, _, e3⟩ := h.a10 e
    rw [e1] at hx
    obtain rfl := ptr_inj hx
    exact .inl (e3 n11).lt
  · rw [onR_ne (by decide), n7]; intro e; cases e
  · rw [onR_ne (by decide), n8]; intro e; cases e
  · rw [onR_ne (by decide), n9]; intro e; cases e
  · rw [onR_ne (by decide), n11]; intro e; cases e
  · rw [onR_eq]; intro e; cases e
  · rw [onR_ne (by decide), onR_ne (by decide)]; exact h.d10
  · rw [onR_ne (by decide), onR_ne (by decide), upR_ne (by decide)]
    intro e
    obtain ⟨xb, e1, e2, e3⟩ := h.a10 e
    exact ⟨xb, e1, e2, fun e => (e3 e).below hW⟩
theorem MaS.mv (h : MaS B0 w6 ps oc RS xs L f W) (h6 : L 6 = true) (hp : ∀ q ∈ ps, q.1 ≠ 7) : MaS B0 w6 ps oc RS xs (onL L 7) (updF f 7 (f 6)) W := by
  refine ⟨h.pur.one fun q hq e => absurd e (hp q hq), h.hb, h.sz, ?_, ?_, ?_, ?_, ?_⟩
  · rw [onR_ne (by decide), onR_ne (by decide), upR_ne (by decide)]; exact h.a5
  · rw [onR_ne (i := 7) (j := 6) (by decide), onR_ne (i := 7) (j := 10) (by decide), onR_eq, onR_ne (i := 7) (j := 8) (by decide), onR_ne (i := 7) (j := 9) (by decide), onR_ne (i := 7) (j := 11) (by decide), upR_ne (i := 7) (j := 6) (by decide), upR_ne (i := 7) (j := 10) (by decide), upR_eq, upR_ne (i := 7) (j := 8) (by decide), upR_ne (i := 7) (j := 9) (by decide)]
    intro e
    obtain ⟨Wc, w', fv', xs', e1, e2, e3, e4, e5, e6, _, e8⟩ := h.a6 e
    exact ⟨Wc, w', fv', xs', e1, e2, e3, e4, e5, e6, fun _ => rfl, e8⟩
  · rw [onR_ne (by decide)]; intro e; rw [h6] at e; cases e
  · rw [onR_ne (by decide), onR_ne (by decide)]; exact h.d10
  · rw [onR_ne (by decide), onR_ne (by decide), upR_ne (by decide)]; exact h.a10
theorem MaS.ex (h : MaS B0 w6 ps oc RS xs L f W) (h6 : L 6 = true) (h7 : L 7 = true) : ∃ fv', f 7 = .tuple #[diskVal RS.1.cap RS.1.left fv', .int .i64 RS.2] ∧ (∃ a n c, fv' = .slice a n c) ∧
    ((∀ q ∈ ps, q.1 ≠ 8) → MaS B0 w6 ps oc RS xs (onL L 8) (updF f 8 (diskVal RS.1.cap RS.1.left fv')) W) ∧ ((∀ q ∈ ps, q.1 ≠ 9) → MaS B0 w6 ps oc RS xs (onL L 9) (updF f 9 (.int .i64 RS.2)) W) := by
  obtain ⟨Wc, w', fv', xs', e1, e2, e3, e4, e5, e6, e7, e8, e9, e10⟩ := h.a6 h6
  obtain ⟨a, cp, ev, _⟩ := own_form e3.1
  refine ⟨fv', (e7 h7).trans e1, ⟨_, _, _, ev⟩, fun hp => ?_, fun hp => ?_⟩
  · refine ⟨h.pur.one fun q hq e => absurd e (hp q hq), h.hb, h.sz, ?_, ?_, ?_, ?_, ?_⟩
    · rw [onR_ne (by decide), onR_ne (by decide), upR_ne (by decide)]; exact h.a5
    · rw [onR_ne (i := 8) (j := 6) (by decide), onR_ne (i := 8) (j := 10) (by decide), onR_ne (i := 8) (j := 7) (by decide), onR_eq, onR_ne (i := 8) (j := 9) (by decide), onR_ne (i := 8) (j := 11) (by decide), upR_ne (i := 8) (j := 6) (by decide), upR_ne (i := 8) (j := 10) (by decide), upR_ne (i := 8) (j := 7) (by decide), upR_eq, upR_ne (i := 8) (j := 9) (by decide)]
      intro _
      exact ⟨Wc, w', fv', xs', e1, e2, e3, e4, e5, e6, e7, fun _ => rfl, e9, e10⟩
    · rw [onR_ne (by decide)]; intro e; rw [h6] at e; cases e
    · rw [onR_ne (by decide), onR_ne (by decide)]; exact h.d10
    · rw [onR_ne (by decide), onR_ne (by decide), upR_ne (by decide)]; exact h.a10
  · refine ⟨h.pur.one fun q hq e => absurd e (hp q hq), h.hb, h.sz, ?_, ?_, ?_, ?_, ?_⟩
    · rw [onR_ne (by decide), onR_ne (by decide), upR_ne (by decide)]; exact h.a5
    · rw [onR_ne (i := 9) (j := 6) (by decide), onR_ne (i := 9) (j := 10) (by decide), onR_ne (i := 9) (j := 7) (by decide), onR_ne (i := 9) (j := 8) (by decide), onR_eq, onR_ne (i := 9) (j := 11) (by decide), upR_ne (i := 9) (j := 6) (by decide), upR_ne (i := 9) (j := 10) (by decide), upR_ne (i := 9) (j := 7) (by decide), upR_ne (i := 9) (j := 8) (by decide), upR_eq]
      intro _
      exact ⟨Wc, w', fv', xs', e1, e2, e3, e4, e5, e6, e7, e8, fun _ => rfl, e10⟩
    · rw [onR_ne (by decide)]; intro e; rw [h6] at e; cases e
    · rw [onR_ne (by decide), onR_ne (by decide)]; exact h.d10
    · rw [onR_ne (by decide), onR_ne (by decide), upR_ne (by decide)]; exact h.a10
theorem MaS.box (h : MaS B0 w6 ps oc RS xs L f W) (h10 : L 10 = false) (hp : ∀ q ∈ ps, q.1 ≠ 10) : MaS B0 w6 ps oc RS xs (onL L 10) (updF f 10 (.pointer (some ⟨W.heap.size, 0, none⟩))) (W.alloc (.cells #[.int .i64 0, .int .i64 0, .slice none 0 0] 24)) := by
  have hA := (Below.refl W.heap.size W).alloc (Nat.le_refl _) (.cells #[.int .i64 0, .int .i64 0, .slice none 0 0] 24)
  have n11 := h.d10 h10
  refine ⟨h.pur.one fun q hq e => absurd e (hp q hq), h.hb.alloc h.sz _, Nat.le_trans h.sz hA.size, ?_, ?_, ?_, ?_, fun _ => ⟨W.heap.size, upR_eq .., h.sz, fun _ => BoxD.new W 0 0 (.slice none 0 0) 24⟩⟩
  · rw [onR_ne (by decide), onR_ne (by decide), upR_ne (by decide)]
    intro e e'
    obtain ⟨da, dn, dc, ka, kn, kc, e1, e2, e3⟩ := h.a5 e e'
    exact ⟨da, dn, dc, ka, kn, kc, e1, RdL.below e2 hA, e3.below hA⟩
  · rw [onR_ne (i := 10) (j := 6) (by decide), onR_eq, onR_ne (i := 10) (j := 7) (by decide), onR_ne (i := 10) (j := 8) (by decide), onR_ne (i := 10) (j := 9) (by decide), onR_ne (i := 10) (j := 11) (by decide), upR_ne (i := 10) (j := 6) (by decide), upR_eq, upR_ne (i := 10) (j := 7) (by decide), upR_ne (i := 10) (j := 8) (by decide), upR_ne (i := 10) (j := 9) (by decide)]
    intro e
    obtain ⟨Wc, w', fv', xs', e1, e2, e3, e4, e5, _, e7, e8, e9, _⟩ := h.a6 e
    refine ⟨Wc, w', fv', xs', e1, e2, e3, e4, e5.trans (KeepB.below hA), fun _ xb hx => ?_, e7, e8, e9, fun e => by rw [n11] at e; cases e⟩
    obtain rfl := ptr_inj hx
    exact .inr e5.size
  · rw [onR_ne (by decide), onR_ne (by decide), onR_ne (by decide), onR_ne (by decide), onR_ne (by decide)]; exact h.d6
  · rw [onR_eq]; intro e; cases e
theorem MaS.store (h : MaS B0 w6 ps oc RS xs L f W) (h8 : L 8 = true) (h10 : L 10 = true) (h11 : L 11 = false) (hp : ∀ q ∈ ps, q.1 ≠ 11) : ∃ xb fv', f 10 = .pointer (some ⟨xb, 0, none⟩) ∧ f 8 = diskVal RS.1.cap RS.1.left fv' ∧ (∃ a n c, fv' = .slice a n c) ∧ BoxD W xb 0 0 (.slice none 0 0) ∧
    ∀ v, MaS B0 w6 ps oc RS xs (onL L 11) (updF f 11 v) (((W.setCell ⟨xb, 0, none⟩ (.int .i64 RS.1.cap)).setCell ⟨xb, 1, none⟩ (.int .i64 RS.1.left)).setCell ⟨xb, 2, none⟩ fv') := by
  have h6 : L 6 = true := by
    cases e : L 6 with
    | true => rfl
    | false => have := (h.d6 e).2.1; rw [h8] at this; cases this
  obtain ⟨Wc, w', fv', xs', e1, e2, e3, e4, e5, e6, e7, e8, e9, _⟩ := h.a6 h6
  obtain ⟨xb, g1, g2, g3⟩ := h.a10 h10
  have g3 := g3 h11
  obtain ⟨a, cp, ev, _⟩ := own_form e3.1
  refine ⟨xb, fv', g1, e8 h8, ⟨_, _, _, ev⟩, g3, fun v => ⟨h.pur.one fun q hq e => absurd e (hp q hq), ((h.hb.setCell (p := ⟨xb, 0, none⟩) g2 _).setCell (p := ⟨xb, 1, none⟩) g2 _).setCell (p := ⟨xb, 2, none⟩) g2 _, by have := h.sz; simpa using this, ?_, ?_, ?_, ?_, ?_⟩⟩
  · rw [onR_ne (i := 11) (j := 6) (by decide), h6]; intro _ e; cases e
  · rw [onR_ne (i := 11) (j := 6) (by decide), onR_ne (i := 11) (j := 10) (by decide), onR_ne (i := 11) (j := 7) (by decide), onR_ne (i := 11) (j := 8) (by decide), onR_ne (i := 11) (j := 9) (by decide), onR_eq, upR_ne (i := 11) (j := 6) (by decide), upR_ne (i := 11) (j := 10) (by decide), upR_ne (i := 11) (j := 7) (by decide), upR_ne (i := 11) (j := 8) (by decide), upR_ne (i := 11) (j := 9) (by decide)]
    intro _
    refine ⟨Wc, w', fv', xs', e1, e2, e3, e4, ?_, e6, e7, e8, e9, fun _ => ⟨xb, g1, g3.all RS.1.cap RS.1.left fv'⟩⟩
    rcases e6 h10 xb g1 with hx | hx
    · exact e5.trans (KeepB.all3 hx _ _ _)
    · exact e5.new3 hx _ _ _
  · rw [onR_ne (i := 11) (j := 6) (by decide), h6]; intro e; cases e
  · rw [onR_ne (i := 11) (j := 10) (by decide), h10]; intro e; cases e
  · rw [onR_ne (i := 11) (j := 10) (by decide), onR_eq, upR_ne (i := 11) (j := 10) (by decide)]
    intro _
    exact ⟨xb, g1, g2, fun e => by cases e⟩
theorem MaS.ends (h : MaS B0 w6 ps oc RS xs L f W) (h6 : L 6 = true) (h9 : L 9 = true) (h11 : L 11 = true) : ∃ Wc w' fv' xs' xb, f 9 = .int .i64 RS.2 ∧ f 10 = .pointer (some ⟨xb, 0, none⟩) ∧ BoxD W xb RS.1.cap RS.1.left fv' ∧ filX xs' = RS.1.files ∧ RowR Wc xs w' fv' xs' ∧ B0 ≤ Wc.heap.size ∧ KeepB Wc.heap.size w' W := by
  obtain ⟨Wc, w', fv', xs', e1, e2, e3, e4, e5, e6, e7, e8, e9, e10⟩ := h.a6 h6
  obtain ⟨xb, g1, g2⟩ := e10 h11
  exact ⟨Wc, w', fv', xs', xb, e9 h9, g1, g2, e2, e3, e4, e5⟩
end
theorem madeL_take (l : List Opr) (d : Dk) (k : Nat) (h : k < l.length) (z : Opr) : madeL (l.take (k + 1)) d = if (changeD (madeL (l.take k) d) (cutO (l.getD k z))).2 = 0 then (changeD (madeL (l.take k) d) (cutO (l.getD k z))).1 else madeL (l.take k) d := by
  rw [take_nextE l k z h]
  unfold madeL
  rw [List.foldl_append]
  rfl
theorem madeL_lite {l : List Opr} {d : Dk} (hv : VldD d) (hs : SmallD d 0) (k : Nat) (hk : k ≤ 14) : LiteD (madeL (l.take k) d) ∧ ∀ f ∈ (madeL (l.take k) d).files, f.pend.length ≤ 4999 := by
  have h := (madeL_small (l.take k) d 0 hs).more (m := 14) (by rw [List.length_take]; omega)
  exact ⟨(madeL_vld _ _ hv).lite h (by decide), fun f hf => by have := h.pend f hf; omega⟩
set_option maxRecDepth 100000 in
set_option maxHeartbeats 6400000 in
theorem made_any (limit left : Int) (lv : Value) (l : List (Opr × Value × Value)) (w : World) (hl : RdO w lv l) (hi1 : I64 limit) (hi2 : I64 left) :
    Calls Tryd.prog 15 #[.int .i64 limit, .int .i64 left, lv] w (RefDk w [] (madeD limit left (l.map (·.1)))) := by
  obtain ⟨la, lc, rfl, hl1, hl2⟩ := hl.shape
  have HL := Lib.hid hl
  have HNw := Lib.hid (fun W => rnew_any limit W)
  have HAr := Lib.hid (fun c lf W => rarm_any c lf left (.slice none 0 0) W ⟨_, _, _, rfl⟩)
  obtain ⟨DF, hDF⟩ : ∃ DF : Nat → Dk, ∀ k, DF k = madeL ((l.map (·.1)).take k) (armD (newD limit) left) := ⟨_, fun _ => rfl⟩
  have HD0 := Lib.hid (show DF 0 = ⟨max limit 0, max left (-1), []⟩ by rw [hDF]; rfl)
  have HDs := Lib.hid (show ∀ k, k < l.length → DF (k + 1) = if (changeD (DF k) (cutO (l.getD k op0).1)).2 = 0 then (changeD (DF k) (cutO (l.getD k op0).1)).1 else DF k from fun k hk => by
    rw [hDF, hDF, madeL_take _ _ k (by rw [List.length_map]; exact hk) op0.1]
    have e : (l.map (·.1)).getD k op0.1 = (l.getD k op0).1 := by
      rw [List.getD_eq_getElem?_getD, List.getD_eq_getElem?_getD, List.getElem?_map, List.getElem?_eq_getElem hk]; rfl
    rw [e])
  have HDl := Lib.hid (show ∀ k, k ≤ 14 → LiteD (DF k) ∧ ∀ f ∈ (DF k).files, f.pend.length ≤ 4999 from fun k hk => by
    rw [hDF]
    exact madeL_lite (armD_new limit left) ⟨by unfold I64 armD newD at *; dsimp only; omega, by unfold I64 armD at *; dsimp only; omega, fun f hf => by cases hf⟩ k hk)
  have HDe := Lib.hid (show ∀ k, k ≤ l.length → (k < l.length → k = 14) → k ≤ 14 → madeD limit left (l.map (·.1)) = DF k from fun k h1 h2 h3 => by
    rw [hDF]
    unfold madeD
    congr 1
    by_cases h : k < l.length
    · rw [h2 h]
    · rw [List.take_of_length_le (by rw [List.length_map]; omega), List.take_of_length_le (by rw [List.length_map]; omega)])
  clear hl hDF
  generalize madeD limit left (l.map (·.1)) = RS at *
  generalize l.length = ln at *
  dsimp only [diskVal] at *
  have HBa := Lib.hid (show Below w.heap.size w (w.alloc (.cells #[.int .i64 0, .int .i64 0, .slice none 0 0] 24)) from (Below.refl _ _).alloc (Nat.le_refl _) _)
  have Ra := Lib.hid (BoxD.new w 0 0 (.slice none 0 0) 24)
  go_enter Tryd.func15, Tryd.ntmps15
  go_upto_region 1 with fail
  generalize w.alloc (.cells #[.int .i64 0, .int .i64 0, .slice none 0 0] 24) = wa at *
  have hRa := Ra.out.lt
  go_wp2_with fail
  refine (HNw.out _).mono ?_
  rintro e w1 ⟨rfl, hb1⟩
  have HB1 := Lib.hid (bstep HBa.out hb1)
  have R1 := Lib.hid (Ra.out.below hb1)
  clear hb1 HBa Ra
  go_wp2_with fail
  refine (HAr.out _ _ _).mono ?_
  rintro e w2 ⟨rfl, hb2⟩
  have HA := (Below.refl w2.heap.size w2).alloc (Nat.le_refl _) (.cells #[.int .i64 (max limit 0), .int .i64 (max left (-1)), .slice none 0 0] 24)
  have HB2 := Lib.hid (bstep (bstep HB1.out hb2) HA)
  have R2 := Lib.hid ((R1.out.below hb2).below HA)
  have X2 := Lib.hid (BoxD.new w2 (max limit 0) (max left (-1)) (.slice none 0 0) 24)
  have hR2 := (R1.out.below hb2).lt
  have hs3 : w2.heap.size + 1 = (w2.alloc (.cells #[.int .i64 (max limit 0), .int .i64 (max left (-1)), .slice none 0 0] 24)).heap.size := by simp
  clear hb2 HA HB1 R1
  go_upto_region 2 with fail
  generalize w2.alloc (.cells #[.int .i64 (max limit 0), .int .i64 (max left (-1)), .slice none 0 0] 24) = w3 at *
  generalize w2.heap.size = DB at *
  have HR0 := Lib.hid (RowB.nil w w3 w3.heap.size HB2.out.size)
  go_wp2_with fail
  go_loopw [8] (fun iv W => ∃ k : Nat, k ≤ ln ∧ k ≤ 14 ∧ iv = .int .i64 (k : Int) ∧ ∃ fv xs, Hid (BoxD W DB (DF k).cap (DF k).left fv) ∧ Hid (BoxD W w.heap.size 0 0 (.slice none 0 0)) ∧ Hid (Below w.heap.size w W) ∧ Hid (w3.heap.size ≤ W.heap.size) ∧ Hid (RowB w [] W w3.heap.size fv xs) ∧ Hid (filX xs = (DF k).files)) (fun iv _ => ln - (intOf iv).toNat)
  case atStart => exact ⟨0, Nat.zero_le _, Nat.zero_le _, rfl, _, [], Lib.hid (by rw [HD0.out]; exact X2.out), R2, HB2, Lib.hid (Nat.le_refl _), HR0, Lib.hid (by rw [HD0.out]; rfl)⟩
  case round =>
    obtain ⟨k, hk, hk14, rfl, fv, xs, X, R, HB, HS, HR, HF⟩ := hrel
    clear X2 R2 HB2 HR0
    obtain ⟨fa, fc, efv, _⟩ := own_form HR.out.own
    subst efv
    have hxb := X.out.lt
    have hrb := R.out.lt
    have hss := HS.out
    by_cases hlt : k < ln ∧ k < 14
    · obtain ⟨hlt1, hlt2⟩ := hlt
      have i1 : (k : Int) < (ln : Int) := by omega
      have i2 : (k : Int) < 14 := by omega
      obtain ⟨bb, boff, rfl, hin, c0, c1, c2, c3, c4, c5⟩ := (HL.out.below HB.out).at hlt1
      obtain ⟨hLk, hpk⟩ := HDl.out k (by omega)
      have HDk := Lib.hid (HDs.out k hlt1)
      generalize l.getD k op0 = q at *
      obtain ⟨o, dv, kv⟩ := q
      obtain ⟨hdv, hkv, hwf⟩ := hin
      dsimp only at *
      obtain ⟨da, dc, rfl, _⟩ := hdv.shape0
      obtain ⟨ka, kc, rfl, _⟩ := hkv.shape
      have HCu := Lib.hid (fun W (hW : Below wr.heap.size wr W) => cut_any o _ _ W (RdL.below hdv hW) (hkv.below hW))
      have HWa := Lib.hid (fun W (hW : Below wr.heap.size wr W) dv kv (h1 : RdB W dv (cutO o).data) (h2 : RdK W kv (cutO o).keep) => want_any (DF k) (cutO o) _ dv kv xs W (RdS.below HR.out.reads hW) (HR.out.parts'.below hW) HF.out hLk hpk h1 h2 hwf.lite hwf.off)
      have HCl := Lib.hid (fun W (h : Below wr.heap.size wr W) => And.intro (Below.keeps h _ _ c0) (And.intro (Below.keeps h _ _ c1) (And.intro (Below.keeps h _ _ c2) (And.intro (Below.keeps h _ _ c3) (And.intro (Below.keeps h _ _ c4) (Below.keeps h _ _ c5))))))
      clear hdv hkv hwf hLk hpk c0 c1 c2 c3 c4 c5
      generalize changeD (DF k) (cutO o) = RS1 at *
      generalize cutO o = oc at *
      obtain ⟨kd, nm, nt, off, data, keep⟩ := o
      dsimp only [opVal, diskVal] at *
      generalize strB nm = snm at *
      generalize strB nt = sto at *
      generalize data.length = dl at *
      generalize keep.length = kl at *
      generalize hcc : (DF k).cap = cc at *
      have Hcc := Lib.hid hcc
      clear hcc
      generalize hcl : (DF k).left = cl at *
      have Hcl := Lib.hid hcl
      clear hcl
      generalize hnx : (feX xs).length = nx at *
      have Hnx := Lib.hid hnx
      clear hnx
      go_upto_region 5 with fail
      refine wp_region_inv 12 (fun L f W => MaS wr.heap.size wr [(0, .agg #[.int .i64 cc, .int .i64 cl, .slice fa nx fc]), (1, .slice (some ⟨bb, boff, none⟩) ln lc), (2, .int .i64 (k : Int)), (3, .pointer (some ⟨bb, boff + k * 6, none⟩)), (4, .agg #[.int .i64 kd, .string snm, .string sto, .int .i64 off, .slice da dl dc, .slice ka kl kc])] oc RS1 xs L f W) 39 (by kernel_rfl) (by kernel_rfl) (by rfl) (by kernel_rfl) (fun f => by simp [frm, dstOf, Act.put]; exact rfl) (fun f => MaS.start rfl f) ?_ ?_
      · refine ⟨?_, ?_, ?_, ?_, ?_, ?_, ?_, ?_, ?_, ?_, ?_, ?_, trivial⟩
        · intro L f w7 h0 hd hI
          have HI1 := Lib.hid hI
          have z0 := (X.out.below hI.hb).c0
          have z1 := (X.out.below hI.hb).c1
          have z2 := (X.out.below hI.hb).c2
          clear hI hd
          dsimp only
          go_wp2_with fail
          exact ⟨rfl, (fun h => by cases h), fun t ht => by injection ht with ht; subst ht; exact HI1.out.pure (v := .agg #[.int .i64 cc, .int .i64 cl, .slice fa nx fc]) (by decide) (by simp)⟩
        · intro L f w7 h0 hd hI
          have HI1 := Lib.hid hI
          clear hI hd
          dsimp only
          go_wp2_with fail
          exact ⟨rfl, (fun h => by cases h), fun t ht => by injection ht with ht; subst ht; exact HI1.out.pure (v := .slice (some ⟨bb, boff, none⟩) ln lc) (by decide) (by simp)⟩
        · intro L f w7 h0 hd hI
          have HI1 := Lib.hid hI
          clear hI hd
          dsimp only
          go_wp2_with fail
          exact ⟨rfl, (fun h => by cases h), fun t ht => by injection ht with ht; subst ht; exact HI1.out.pure (v := .int .i64 (k : Int)) (by decide) (by simp)⟩
        · intro L f w7 h0 hd hI
          have HI1 := Lib.hid hI
          have d1 : f 1 = .slice (some ⟨bb, boff, none⟩) ln lc := hI.pur (1, .slice (some ⟨bb, boff, none⟩) ln lc) (by simp) (hd 1 (by kernel_rfl))
          have d2 : f 2 = .int .i64 (k : Int) := hI.pur (2, .int .i64 (k : Int)) (by simp) (hd 2 (by kernel_rfl))
          clear hI hd
          dsimp only
          rw [d1]
          rw [d2]
          go_wp2_with fail
          exact ⟨rfl, (fun h => by cases h), fun t ht => by injection ht with ht; subst ht; exact HI1.out.pure (v := .pointer (some ⟨bb, boff + k * 6, none⟩)) (by decide) (by simp)⟩
        · intro L f w7 h0 hd hI
          have HI1 := Lib.hid hI
          have d3 : f 3 = .pointer (some ⟨bb, boff + k * 6, none⟩) := hI.pur (3, .pointer (some ⟨bb, boff + k * 6, none⟩)) (by simp) (hd 3 (by kernel_rfl))
          obtain ⟨c0, c1, c2, c3, c4, c5⟩ := HCl.out _ hI.hb
          clear hI hd
          dsimp only
          rw [d3]
          go_wp2_with fail
          exact ⟨rfl, (fun h => by cases h), fun t ht => by injection ht with ht; subst ht; exact HI1.out.pure (v := .agg #[.int .i64 kd, .string snm, .string sto, .int .i64 off, .slice da dl dc, .slice ka kl kc]) (by decide) (by simp)⟩
        · intro L f w7 h0 hd hI
          have HI1 := Lib.hid hI
          have d4 : f 4 = .agg #[.int .i64 kd, .string snm, .string sto, .int .i64 off, .slice da dl dc, .slice ka kl kc] := hI.pur (4, .agg #[.int .i64 kd, .string snm, .string sto, .int .i64 off, .slice da dl dc, .slice ka kl kc]) (by simp) (hd 4 (by kernel_rfl))
          have HC7 := Lib.hid (HCu.out w7 hI.hb)
          clear hI hd
          dsimp only
          rw [d4]
          go_wp2_with fail
          refine HC7.out.mono ?_
          rintro e w8 ⟨da', dn', dc', ka', kn', kc', rfl, hd', hk', hb'⟩
          have HQ := Lib.hid (HI1.out.cut hb' (by simp) hd' hk')
          clear hd' hk' hb'
          go_wp2_with fail
          exact ⟨rfl, (fun h => by cases h), fun t ht => by injection ht with ht; subst ht; exact HQ.out⟩
        · intro L f w7 h0 hd hI
          have HI1 := Lib.hid hI
          have d0 : f 0 = .agg #[.int .i64 cc, .int .i64 cl, .slice fa nx fc] := hI.pur (0, .agg #[.int .i64 cc, .int .i64 cl, .slice fa nx fc]) (by simp) (hd 0 (by kernel_rfl))
          obtain ⟨da', dn', dc', ka', kn', kc', d5, hd', hk'⟩ := hI.a5 (hd 5 (by kernel_rfl)) h0
          have HC7 := Lib.hid (HWa.out w7 hI.hb _ _ hd' hk')
          clear hI hd hd' hk'
          dsimp only
          dsimp only [opVal] at d5
          rw [d0, d5]
          go_wp2_with fail
          refine HC7.out.mono ?_
          rintro e w8 ⟨⟨fv', xs', rfl, hfs, hrow⟩, hb'⟩
          have HQ := Lib.hid (HI1.out.want hb' h0 (by simp) hfs hrow)
          clear hfs hrow hb'
          go_wp2_with fail
          exact ⟨rfl, (fun h => by cases h), fun t ht => by injection ht with ht; subst ht; exact HQ.out⟩
        · intro L f w7 h0 hd hI
          have HI1 := Lib.hid hI
          have h6 := hd 6 (by kernel_rfl)
          clear hI hd
          dsimp only
          go_wp2_with fail
          exact ⟨rfl, (fun h => by cases h), fun t ht => by injection ht with ht; subst ht; exact HI1.out.mv h6 (by simp)⟩
        · intro L f w7 h0 hd hI
          have h7 := hd 7 (by kernel_rfl)
          have h6 : L 6 = true := by
            cases e : L 6 with
            | true => rfl
            | false => have := (hI.d6 e).1; rw [h7] at this; cases this
          obtain ⟨fv', d7, ⟨va, vn, vc, rfl⟩, hq8, hq9⟩ := hI.ex h6 h7
          have HQ := Lib.hid (hq8 (by simp))
          clear hI hd hq8 hq9
          dsimp only
          dsimp only [diskVal] at d7
          rw [d7]
          go_wp2_with fail
          exact ⟨rfl, (fun h => by cases h), fun t ht => by injection ht with ht; subst ht; exact HQ.out⟩
        · intro L f w7 h0 hd hI
          have h7 := hd 7 (by kernel_rfl)
          have h6 : L 6 = true := by
            cases e : L 6 with
            | true => rfl
            | false => have := (hI.d6 e).1; rw [h7] at this; cases this
          obtain ⟨fv', d7, ⟨va, vn, vc, rfl⟩, hq8, hq9⟩ := hI.ex h6 h7
          have HQ := Lib.hid (hq9 (by simp))
          clear hI hd hq8 hq9
          dsimp only
          dsimp only [diskVal] at d7
          rw [d7]
          go_wp2_with fail
          exact ⟨rfl, (fun h => by cases h), fun t ht => by injection ht with ht; subst ht; exact HQ.out⟩
        · intro L f w7 h0 hd hI
          have HI1 := Lib.hid hI
          clear hI hd
          dsimp only
          go_wp2_with fail
          exact ⟨rfl, (fun h => by cases h), fun t ht => by injection ht with ht; subst ht; exact HI1.out.box h0 (by simp)⟩
        · intro L f w7 h0 hd hI
          obtain ⟨xb, fv', d10, d8, ⟨va, vn, vc, rfl⟩, hbx, hnx⟩ := hI.store (hd 8 (by kernel_rfl)) (hd 10 (by kernel_rfl)) h0 (by simp)
          have HN := Lib.hid hnx
          have z0 := hbx.c0
          have z1 := hbx.c1
          have z2 := hbx.c2
          have zf := hbx.f
          clear hI hd hnx hbx
          dsimp only
          dsimp only [diskVal] at d8
          rw [d8, d10]
          go_wp2_with fail
          exact ⟨rfl, fun _ v => HN.out v, fun t ht => by cases ht⟩
      · intro L f w7 hA hI
        obtain ⟨Wc, w', fv', xs', xb, d9, d10, hbx, hfs, hrow, hWc, hkp⟩ := hI.ends (hA 6 (by decide)) (hA 9 (by decide)) (hA 11 (by decide))
        obtain ⟨va, vc, e9, _⟩ := own_form hrow.1
        subst e9
        have HI8 := Lib.hid (hI.hb)
        have KX := Lib.hid hbx
        have HRn := Lib.hid (RowB.next HR.out hrow HI8.out (Nat.le_trans hss hWc) hkp)
        have HRo := Lib.hid (HR.out.below HI8.out)
        have HFn := Lib.hid hfs
        rw [d9, d10]
        clear hI hA d9 d10 hbx hrow hkp hfs HWa HCu HCl
        generalize (feX xs').length = n' at *
        go_upto_region 6 with fail
        generalize w7 = w8 at *
        have HB8 := Lib.hid (bstep HB.out HI8.out)
        have X8 := Lib.hid (X.out.below HI8.out)
        have R8 := Lib.hid (R.out.below HI8.out)
        have HS8 := Lib.hid (Nat.le_trans hss HI8.out.size)
        clear X R HB HS HR
        by_cases hz : RS1.2 = 0
        · rw [if_pos hz] at HDk
          have X9 := Lib.hid (X8.out.all RS1.1.cap RS1.1.left (.slice va n' vc))
          have R9 := Lib.hid (((R8.out.set_ne (p := ⟨DB, 0, none⟩) (by dsimp only; omega) (.int .i64 RS1.1.cap)).set_ne (p := ⟨DB, 1, none⟩) (by dsimp only; omega) (.int .i64 RS1.1.left)).set_ne (p := ⟨DB, 2, none⟩) (by dsimp only; omega) (.slice va n' vc))
          have HB9 := Lib.hid (HB8.out.all3 (b := DB) (by omega) (.int .i64 RS1.1.cap) (.int .i64 RS1.1.left) (.slice va n' vc))
          have HR9 := Lib.hid (HRn.out.all3 (b := DB) (by omega) (.int .i64 RS1.1.cap) (.int .i64 RS1.1.left) (.slice va n' vc))
          have HS9 := Lib.hid (show w3.heap.size ≤ (((w8.setCell ⟨DB, 0, none⟩ (.int .i64 RS1.1.cap)).setCell ⟨DB, 1, none⟩ (.int .i64 RS1.1.left)).setCell ⟨DB, 2, none⟩ (.slice va n' vc)).heap.size by simp; exact HS8.out)
          have k0 := KX.out.c0
          have k1 := KX.out.c1
          have k2 := KX.out.c2
          have x0 := X8.out.c0
          have x1 := X8.out.c1
          have x2 := X8.out.c2
          have xf := X8.out.f
          rw [← HDk.out] at X9 R9 HB9 HR9 HS9 HFn k0 k1 KX
          go_wp2_with fail
          exact ⟨⟨k + 1, by omega, by omega, by go_num, _, _, X9, R9, HB9, HS9, HR9, HFn⟩, by simp [intOf]; omega⟩
        · rw [if_neg hz] at HDk
          have hz1 : (RS1.2 == 0) = false := beq_eq_false_iff_ne.2 hz
          go_wp2_with fail
          exact ⟨⟨k + 1, by omega, by omega, by go_num, _, xs, Lib.hid (by rw [HDk.out, Hcc.out, Hcl.out]; exact X8.out), R8, HB8, HS8, HRo, Lib.hid (by rw [HDk.out]; exact HF.out)⟩, by simp [intOf]; omega⟩
    · have HE := Lib.hid (HDe.out k hk (fun h => by omega) hk14)
      generalize hnx : (feX xs).length = nx at *
      clear hnx
      have x0 := X.out.c0
      have x1 := X.out.c1
      have x2 := X.out.c2
      have r0 := R.out.c0
      have r1 := R.out.c1
      have r2 := R.out.c2
      have rf := R.out.f
      have HRz := Lib.hid (RowR.set3 (b := w.heap.size) HR.out (by omega) (.int .i64 (DF k).cap) (.int .i64 (DF k).left) (.slice fa nx fc))
      have hcs : ¬ (k : Int) < (ln : Int) ∨ ¬ (k : Int) < 14 := by omega
      by_cases hc1 : (k : Int) < (ln : Int)
      · have hc2 : ¬ (k : Int) < 14 := by omega
        go_wp2_with fail
        exact bodyPost_ret (v := diskVal (DF k).cap (DF k).left (.slice fa nx fc)) (by simp [results, Tryd.results15, go_sem, r0, r1, r2]) rfl ⟨⟨_, _, by rw [HE.out], by rw [HE.out]; exact HF.out, HRz.out⟩, HB.out.all3 (by omega) _ _ _⟩
      · go_wp2_with fail
        exact bodyPost_ret (v := diskVal (DF k).cap (DF k).left (.slice fa nx fc)) (by simp [results, Tryd.results15, go_sem, r0, r1, r2]) rfl ⟨⟨_, _, by rw [HE.out], by rw [HE.out]; exact HF.out, HRz.out⟩, HB.out.all3 (by omega) _ _ _⟩
end Go.Proofs.YtkabcpmnbjllcaaDoor
