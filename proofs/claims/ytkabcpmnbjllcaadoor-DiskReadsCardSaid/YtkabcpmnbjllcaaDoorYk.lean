/- Crash of the program: the walk. Printed by mkYk.py. -/
import Derived.Test.YtkabcpmnbjllcaaDoorKI
namespace Go.Proofs.YtkabcpmnbjllcaaDoor
open Go.RowKit

/-- What a crash leaves of a file. -/
def crF (ks : List Kp) (f : Fil) : Fil := ⟨f.name, leftF f (keepOf ks f.name), []⟩
theorem crashD_yes {d : Dk} {ks : List Kp} (h : validD d = true) : crashD d ks = ⟨d.cap, -1, d.files.map (crF ks)⟩ := by unfold crashD; rw [if_pos h]; rfl
theorem crashD_no {d : Dk} {ks : List Kp} (h : validD d = false) : crashD d ks = dk0 := by unfold crashD; rw [if_neg (by simp [h])]
/-- k files of the row are done: their bases are the call's own, nothing is pending. -/
structure CrI (W2 W : World) (B : Nat) (a : Option Addr) (cap : Nat) (es : List FE) (T : Nat → Nat) (ks : List Kp) (news : List FE) : Prop where
  row : W.ownsRow B 69 3 (.slice a es.length cap) es.length ((news ++ es.drop news.length).flatMap filC)
  fst : news.map (·.1) = (es.take news.length).map fun p => crF ks p.1
  own : ∀ q ∈ news, OwnC W B q.2.1 q.1.base ∧ q.2.2 = nilS ∧ q.1.pend = []
  keep : KeepI (T 0) (T es.length) W2 W
theorem set_next (news es : List FE) (p : FE) (h : news.length < es.length) : (news ++ es.drop news.length).set news.length p = (news ++ [p]) ++ es.drop (news ++ [p]).length := by
  rw [List.set_append_right _ _ (Nat.le_refl _), Nat.sub_self, List.drop_eq_getElem_cons h, List.set_cons_zero, List.length_append, List.length_singleton, List.append_assoc]
  rfl
theorem get_next (news es : List FE) (h : news.length < es.length) : (news ++ es.drop news.length)[news.length]? = some (es.getD news.length fe0) := by
  rw [List.getElem?_append_right (Nat.le_refl _), Nat.sub_self, List.getElem?_drop, Nat.add_zero, List.getD_eq_getElem?_getD, List.getElem?_eq_getElem h]
  rfl
theorem CrI.below {W2 W W' : World} {B cap : Nat} {a : Option Addr} {es : List FE} {T : Nat → Nat} {ks : List Kp} {news : List FE} (h : CrI W2 W B a cap es T ks news) (hb : Below W.heap.size W W') (ht : T es.length ≤ W.heap.size) : CrI W2 W' B a cap es T ks news :=
  ⟨own_keep h.row hb, h.fst, fun q hq => ⟨(h.own q hq).1.keep hb, (h.own q hq).2⟩, h.keep.trans (KeepI.below hb ht)⟩
/-- One file more. -/
theorem CrI.next {W2 W : World} {B g cap : Nat} {es : List FE} {T : Nat → Nat} {ks : List Kp} {news : List FE} (h : CrI W2 W B (some ⟨g, 0, none⟩) cap es T ks news) (hlt : news.length < es.length) (hg : g < T 0) {v : Value} (hv : OwnC W B v (leftF (es.getD news.length fe0).1 (keepOf ks (es.getD news.length fe0).1.name))) :
    CrI W2 ((W.setCell ⟨g, news.length * 3 + 1, none⟩ v).setCell ⟨g, news.length * 3 + 2, none⟩ nilS) B (some ⟨g, 0, none⟩) cap es T ks (news ++ [(crF ks (es.getD news.length fe0).1, v, nilS)]) := by
  have r1 := (h.row.stored (news.length * 3 + 1) v).1
  have r2 := (r1.stored (news.length * 3 + 2) nilS).1
  have hle : news.length < (news ++ es.drop news.length).length := by rw [List.length_append, List.length_drop]; omega
  rw [flat_set3 filC (fun _ => rfl) _ news.length 1 v (⟨(es.getD news.length fe0).1.name, leftF (es.getD news.length fe0).1 (keepOf ks (es.getD news.length fe0).1.name), (es.getD news.length fe0).1.pend⟩, v, (es.getD news.length fe0).2.2) hle (by decide) (fun y hy => by rw [get_next _ _ hlt] at hy; injection hy with hy; subst hy; rfl),
    flat_set3 filC (fun _ => rfl) _ news.length 2 nilS (crF ks (es.getD news.length fe0).1, v, nilS) (by simpa using hle) (by decide) (fun y hy => by rw [List.getElem?_set_self hle] at hy; injection hy with hy; subst hy; rfl), List.set_set, set_next _ _ _ hlt] at r2
  have ks2 : ∀ {u : Value} {l : List UInt8}, OwnC W B u l → OwnC ((W.setCell ⟨g, news.length * 3 + 1, none⟩ v).setCell ⟨g, news.length * 3 + 2, none⟩ nilS) B u l := fun {u l} hu => by
    obtain ⟨a, c, c', rfl, ho, h1⟩ := hu
    exact ⟨a, c, c', rfl, set_kept (set_kept ho h.row (by decide) v) r1 (by decide) nilS, h1⟩
  refine ⟨r2, ?_, fun q hq => ?_, h.keep.trans ((KeepI.set (.inl hg) _ v).trans (KeepI.set (.inl hg) _ nilS))⟩
  · rw [List.map_append, h.fst, List.length_append, List.length_singleton, List.take_add_one, List.getElem?_eq_getElem hlt, List.getD_eq_getElem?_getD, List.getElem?_eq_getElem hlt, List.map_append]
    rfl
  · rcases List.mem_append.1 hq with hq | hq
    · exact ⟨ks2 (h.own q hq).1, (h.own q hq).2⟩
    · rw [List.mem_singleton.1 hq]
      exact ⟨ks2 hv, rfl, rfl⟩
/-- All files are done. -/
theorem CrI.done {W2 W : World} {B cap b0 : Nat} {a : Option Addr} {es : List FE} {T : Nat → Nat} {ks : List Kp} {news : List FE} (h : CrI W2 W B a cap es T ks news) (hn : news.length = es.length) (hd0 : BlkD W b0) (hd1 : BlkD W (b0 + 1)) : StF W b0 B (.slice a es.length cap) (es.map fun p => crF ks p.1) := fun W' hk => by
  have hrow := h.row
  rw [hn, List.drop_length, List.append_nil] at hrow
  rw [← hn] at hrow
  have := rdF_row (hk.own hrow (Nat.le_refl _) hd0 hd1 (by decide)) fun q hq => by
    obtain ⟨⟨a', c, c', e, ho, h1, h2⟩, e2, e3⟩ := h.own q hq
    rw [e2, e3]
    exact ⟨OwnC.rd ⟨a', c, c', e, hk.own ho (Nat.le_refl _) hd0 hd1 (by decide), h1, h2⟩, RdW_nil _⟩
  rw [h.fst, hn, List.take_length] at this
  exact this
end Go.Proofs.YtkabcpmnbjllcaaDoor
