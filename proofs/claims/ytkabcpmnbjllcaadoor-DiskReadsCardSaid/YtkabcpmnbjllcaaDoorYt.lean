/- Crash of the program: what holds in the region of its loop that draws its order. -/
import Derived.Test.YtkabcpmnbjllcaaDoorYk
import Derived.Test.YtkabcpmnbjllcaaDoorRn
namespace Go.Proofs.YtkabcpmnbjllcaaDoor
open Go.RowKit

theorem BoxK.set_ne {w : World} {b : Nat} {nm : ByteArray} {a c : Int} {p : Addr} (h : BoxK w b nm a c) (hne : b ≠ p.block) (u : Value) : BoxK (w.setCell p u) b nm a c := ⟨cell_set_ne h.c0 hne u, cell_set_ne h.c1 hne u, cell_set_ne h.c2 hne u⟩
/-- What stays through a round. -/
structure CrW (w W3 : World) (b bf : Nat) (c : Int) (row : Value) (nm : ByteArray) (bv pv : Value) (kn : ByteArray) (kw kt : Int) (W : World) : Prop where
  x : BoxD W b c (-1) row
  r : BoxD W (b + 1) 0 0 nilS
  d0 : BlkD W b
  d1 : BlkD W (b + 1)
  xf : BoxF W bf nm bv pv
  xk : BoxK W (bf + 1) kn kw kt
  hb : Below w.heap.size w W
  sz : W3.heap.size ≤ W.heap.size
section
variable {w W3 : World} {b bf : Nat} {c : Int} {row : Value} {nm : ByteArray} {bv pv : Value} {kn : ByteArray} {kw kt : Int} {W W' : World}
theorem CrW.below (h : CrW w W3 b bf c row nm bv pv kn kw kt W) (hb : Below W.heap.size W W') : CrW w W3 b bf c row nm bv pv kn kw kt W' :=
  ⟨h.x.below hb, h.r.below hb, h.d0.below hb, h.d1.below hb, h.xf.below hb, h.xk.below hb, bstep h.hb hb, Nat.le_trans h.sz hb.size⟩
theorem CrW.set (h : CrW w W3 b bf c row nm bv pv kn kw kt W) {g : Nat} (hg : w.heap.size ≤ g) (h0 : b ≠ g) (h1 : b + 1 ≠ g) (h2 : bf ≠ g) (h3 : bf + 1 ≠ g) (i : Nat) (u : Value) : CrW w W3 b bf c row nm bv pv kn kw kt (W.setCell ⟨g, i, none⟩ u) :=
  ⟨h.x.set_ne h0 u, h.r.set_ne h1 u, h.d0.set g i u, h.d1.set g i u, h.xf.set_ne h2 u, h.xk.set_ne h3 u, h.hb.setCell (p := ⟨g, i, none⟩) hg u, by simpa using h.sz⟩
end
/-- The values of the operations that only read. -/
def Pur (ps : List (Nat × Value)) (L : Nat → Bool) (f : Nat → Value) : Prop := ∀ q ∈ ps, L q.1 = true → f q.1 = q.2
theorem onL_ne {L : Nat → Bool} {i j : Nat} (h : j ≠ i) : onL L i j = L j := if_neg h
theorem updF_ne {f : Nat → Value} {i j : Nat} {v : Value} (h : j ≠ i) : updF f i v j = f j := if_neg h
theorem onL_eq (L : Nat → Bool) (i : Nat) : onL L i i = true := if_pos rfl
theorem updF_eq (f : Nat → Value) (i : Nat) (v : Value) : updF f i v i = v := if_pos rfl
theorem Pur.one {ps : List (Nat × Value)} {L : Nat → Bool} {f : Nat → Value} (h : Pur ps L f) {i : Nat} {v : Value} (hp : ∀ q ∈ ps, q.1 = i → v = q.2) : Pur ps (onL L i) (updF f i v) := fun q hq hL => by
  by_cases e : q.1 = i
  · rw [← hp q hq e, e]; exact updF_eq f i v
  · rw [updF_ne e]
    rw [onL_ne e] at hL
    exact h q hq hL
/-- What holds when the operations of L are done: the eighth is the call of left, the eleventh the store of the base. -/
structure CrS (w W3 : World) (b bf : Nat) (c : Int) (g cap : Nat) (es : List FE) (T : Nat → Nat) (ks : List Kp) (news : List FE) (nm : ByteArray) (bv pv : Value) (kn : ByteArray) (kw kt : Int) (bs : List UInt8) (ps : List (Nat × Value)) (L : Nat → Bool) (f : Nat → Value) (W : World) : Prop where
  pur : Pur ps L f
  wd : CrW w W3 b bf c (.slice (some ⟨g, 0, none⟩) es.length cap) nm bv pv kn kw kt W
  l11 : L 11 = true → L 8 = true
  cri : L 11 = false → CrI W3 W (b + 2) (some ⟨g, 0, none⟩) cap es T ks news
  own : L 11 = false → L 8 = true → OwnC W (b + 2) (f 8) bs
  crj : L 11 = true → ∃ W', W = W'.setCell ⟨g, news.length * 3 + 1, none⟩ (f 8) ∧ CrI W3 W' (b + 2) (some ⟨g, 0, none⟩) cap es T ks news ∧ OwnC W' (b + 2) (f 8) bs
section
variable {w W3 : World} {b bf : Nat} {c : Int} {g cap : Nat} {es : List FE} {T : Nat → Nat} {ks : List Kp} {news : List FE} {nm : ByteArray} {bv pv : Value} {kn : ByteArray} {kw kt : Int} {bs : List UInt8} {ps : List (Nat × Value)} {L : Nat → Bool} {f : Nat → Value} {W W' : World}
theorem CrS.start (hw : CrW w W3 b bf c (.slice (some ⟨g, 0, none⟩) es.length cap) nm bv pv kn kw kt W) (hc : CrI W3 W (b + 2) (some ⟨g, 0, none⟩) cap es T ks news) (ht : T es.length ≤ W3.heap.size) (f : Nat → Value) :
    CrS w W3 b bf c g cap es T ks news nm bv pv kn kw kt bs ps (fun _ => false) f W.drew :=
  ⟨(fun _ _ h => by cases h), hw.below (below_drew (Below.refl _ _)), (fun h => by cases h), fun _ => hc.below (below_drew (Below.refl _ _)) (Nat.le_trans ht hw.sz), (fun _ h => by cases h), fun h => by cases h⟩
theorem CrS.pure (h : CrS w W3 b bf c g cap es T ks news nm bv pv kn kw kt bs ps L f W) {i : Nat} {v : Value} (h8 : 8 ≠ i) (h11 : 11 ≠ i) (hp : ∀ q ∈ ps, q.1 = i → v = q.2) : CrS w W3 b bf c g cap es T ks news nm bv pv kn kw kt bs ps (onL L i) (updF f i v) W := by
  refine ⟨h.pur.one hp, h.wd, fun e => ?_, fun e => ?_, fun e e' => ?_, fun e => ?_⟩
  · rw [onL_ne h11] at e; rw [onL_ne h8]; exact h.l11 e
  · rw [onL_ne h11] at e; exact h.cri e
  · rw [onL_ne h11] at e; rw [onL_ne h8] at e'; rw [updF_ne h8]; exact h.own e e'
  · rw [onL_ne h11] at e; rw [updF_ne h8]; exact h.crj e
theorem CrS.not11 (h : CrS w W3 b bf c g cap es T ks news nm bv pv kn kw kt bs ps L f W) (h8 : L 8 = false) : L 11 = false := by
  cases e : L 11 with
  | false => rfl
  | true => rw [h.l11 e] at h8; cases h8
theorem CrS.call (h : CrS w W3 b bf c g cap es T ks news nm bv pv kn kw kt bs ps L f W) (h8 : L 8 = false) {v : Value} (hv : OwnC W' W.heap.size v bs) (hb : Below W.heap.size W W') (ht : T es.length ≤ W3.heap.size) (hB : b + 2 ≤ W3.heap.size) (hp : ∀ q ∈ ps, q.1 ≠ 8) :
    CrS w W3 b bf c g cap es T ks news nm bv pv kn kw kt bs ps (onL L 8) (updF f 8 v) W' := by
  have h11 := h.not11 h8
  have hs := h.wd.sz
  refine ⟨h.pur.one fun q hq e => absurd e (hp q hq), h.wd.below hb, fun _ => onL_eq L 8, fun _ => (h.cri h11).below hb (by omega), fun _ _ => ?_, fun e => ?_⟩
  · rw [updF_eq]; exact hv.lower (by omega)
  · rw [onL_ne (by decide), h11] at e; cases e
theorem CrS.store (h : CrS w W3 b bf c g cap es T ks news nm bv pv kn kw kt bs ps L f W) (h8 : L 8 = true) (h11 : L 11 = false) (hg : b + 2 ≤ g) (hw : w.heap.size ≤ g) (hbf : g < bf) (hp : ∀ q ∈ ps, q.1 ≠ 11) (u : Value) :
    CrS w W3 b bf c g cap es T ks news nm bv pv kn kw kt bs ps (onL L 11) (updF f 11 u) (W.setCell ⟨g, news.length * 3 + 1, none⟩ (f 8)) := by
  refine ⟨h.pur.one fun q hq e => absurd e (hp q hq), h.wd.set hw (by omega) (by omega) (by omega) (by omega) _ _, fun _ => ?_, fun e => ?_, fun e => ?_, fun _ => ⟨W, ?_, h.cri h11, ?_⟩⟩
  · rw [onL_ne (by decide)]; exact h8
  · rw [onL_eq] at e; cases e
  · rw [onL_eq] at e; cases e
  · rw [updF_ne (by decide)]
  · rw [updF_ne (by decide)]; exact h.own h11 h8
end
theorem CrI.at {W2 W : World} {B g cap : Nat} {es : List FE} {T : Nat → Nat} {ks : List Kp} {news : List FE} (h : CrI W2 W B (some ⟨g, 0, none⟩) cap es T ks news) (hlt : news.length < es.length) :
    W.cell? ⟨g, news.length * 3, none⟩ = some (.string (strB (es.getD news.length fe0).1.name)) ∧ W.cell? ⟨g, news.length * 3 + 1, none⟩ = some (es.getD news.length fe0).2.1 ∧ W.cell? ⟨g, news.length * 3 + 2, none⟩ = some (es.getD news.length fe0).2.2 ∧ ∀ j, W.frozen? ⟨g, j, none⟩ = false := by
  have hlen : (news ++ es.drop news.length).length = es.length := by rw [List.length_append, List.length_drop]; omega
  have hS : RdS 3 filC W _ (news ++ es.drop news.length) := own_rds (fun _ _ => rfl) (by decide) h.row
  obtain ⟨_, _, e, _, _, _, hc⟩ := hS.shape (by decide) fe0
  injection e with e1 e2 e3
  obtain ⟨b, off, e4, hc⟩ := hc (by omega)
  rw [← e1] at e4
  injection e4 with e4
  injection e4 with e5 e6
  subst e5 e6
  have c := hc news.length (by omega)
  have e7 : (news ++ es.drop news.length).getD news.length fe0 = es.getD news.length fe0 := by rw [List.getD_eq_getElem?_getD, get_next _ _ hlt]; rfl
  simp only [Nat.zero_add, e7] at c
  exact ⟨c 0 _ rfl, c 1 _ rfl, c 2 _ rfl, fun i => own_frozen h.row i⟩
end Go.Proofs.YtkabcpmnbjllcaaDoor
