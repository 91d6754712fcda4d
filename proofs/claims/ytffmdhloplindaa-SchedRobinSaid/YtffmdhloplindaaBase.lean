/- Slices as lists of cells: reading one that came in or was made (Rd), owning one that the call itself made (ownsRow), append, and how both stand when the world grows. Over any program. -/
import Derived.WalkKit
import Derived.WalkSpells
import Derived.WalkLawsBesides
import Derived.Lib.Hide
import Derived.Laws.AppendOwnNone
import Derived.OpenShut
namespace Go.Proofs.Ytffmdhloplindaa
open Go.RowKit

/-- The value v is a slice of n elements, of sz cells each, and its cells read as cs. -/
def Rd (w : World) (sz : Nat) (v : Value) (n : Nat) (cs : List Value) : Prop :=
  cs.length = n * sz ∧ ∃ a cap, v = .slice a n cap ∧ n ≤ cap ∧ cap ≤ maxLen ∧ (a = none → cap = 0) ∧
    (0 < cs.length → ∃ b off, a = some ⟨b, off, none⟩ ∧ ∀ j u, cs[j]? = some u → w.cell? ⟨b, off + j, none⟩ = some u)

theorem Rd.nil (w : World) (sz : Nat) : Rd w sz (.slice none 0 0) 0 [] := ⟨by simp, none, 0, rfl, Nat.le_refl _, Nat.zero_le _, fun _ => rfl, fun h => absurd h (by simp)⟩
theorem Rd.mono {w w' : World} {sz : Nat} {v : Value} {n : Nat} {cs : List Value} (h : Rd w sz v n cs) (hk : ∀ p u, w.cell? p = some u → w'.cell? p = some u) : Rd w' sz v n cs := by
  obtain ⟨h1, a, cap, h2, h3, h4, h5, h6⟩ := h
  refine ⟨h1, a, cap, h2, h3, h4, h5, fun hp => ?_⟩
  obtain ⟨b, off, e, hc⟩ := h6 hp
  exact ⟨b, off, e, fun j u hj => hk _ _ (hc j u hj)⟩
theorem Below.keeps {w w' : World} (h : Below w.heap.size w w') (p : Addr) (u : Value) (hp : w.cell? p = some u) : w'.cell? p = some u :=
  (h.cell (World.block_lt_of_cell? w p hp)).trans hp
theorem Rd.below {w w' : World} {sz : Nat} {v : Value} {n : Nat} {cs : List Value} (h : Rd w sz v n cs) (hb : Below w.heap.size w w') : Rd w' sz v n cs := h.mono (Below.keeps hb)
theorem Rd.drew {w : World} {sz : Nat} {v : Value} {n : Nat} {cs : List Value} (h : Rd w sz v n cs) : Rd w.drew sz v n cs := h.mono fun _ _ h => h
theorem Rd.alloc {w : World} {sz : Nat} {v : Value} {n : Nat} {cs : List Value} (h : Rd w sz v n cs) (o : Obj) : Rd (w.alloc o) sz v n cs :=
  h.below ((Below.refl _ _).alloc (Nat.le_refl _) o)
theorem bstep {w0 w w' : World} (h : Below w0.heap.size w0 w) (h' : Below w.heap.size w w') : Below w0.heap.size w0 w' := h.trans (h'.mono h.size)
theorem bup {B : Nat} {w0 w w' : World} (h : Below B w0 w) (hB : B ≤ w.heap.size) (h' : Below w.heap.size w w') : Below B w0 w' := h.trans (h'.mono hB)
theorem Rd.len {w : World} {sz : Nat} {v : Value} {n : Nat} {cs : List Value} (h : Rd w sz v n cs) : cs.length = n * sz := h.1

/-- What the call owns it can read. -/
theorem own_rd {w : World} {base : Nat} {e : TypeId} {sz : Nat} {v : Value} {n : Nat} {xs : List Value} (h : w.ownsRow base e sz v n xs) : Rd w sz v n xs := by
  refine ⟨h.1, ?_⟩
  rcases h.2 with ⟨rfl, rfl⟩ | ⟨g, cap, cur, rfl, hb, hg, hn, hc, hs, ht⟩
  · exact ⟨none, 0, rfl, Nat.le_refl _, Nat.zero_le _, fun _ => rfl, fun hp => by have := h.1; omega⟩
  · refine ⟨some ⟨g, 0, none⟩, cap, rfl, hn, hc, fun h => by simp at h, fun _ => ⟨g, 0, rfl, fun j u hj => ?_⟩⟩
    rw [Nat.zero_add, cell_of_row w g j cur e (0, 0) hg]
    rw [← ht, List.getElem?_take] at hj
    split at hj
    · simpa using hj
    · simp at hj

/-- The element type of a slice type, for append. -/
def ElemT (P : Program) (t e : TypeId) (sz bytes : Nat) : Prop :=
  P.underlying t = some (.slice e) ∧ 0 < sz ∧ ∃ i z, P.info? e = some i ∧ i.zero = some z ∧ i.size = sz ∧ i.bytes = bytes ∧ z.cells.size = sz

theorem addr_add (b off j : Nat) : (⟨b, off, none⟩ : Addr).add j = ⟨b, off + j, none⟩ := by unfold Addr.add; split <;> simp_all

theorem run_app {P : Program} {w : World} {t e : TypeId} {sz bytes : Nat} (hE : ElemT P t e sz bytes) (base : Nat) (ty : TypeId)
    {v : Value} {n : Nat} {xs : List Value} (hown : w.ownsRow base e sz v n xs) {sv : Value} {m : Nat} {news : List Value} (hsrc : Rd w sz sv m news)
    (h1 : ∀ u ∈ news, u.oneCell' = true) (h63 : n + m ≤ maxLen) (hbytes : (n + m) * bytes ≤ 140737488355328) (hbase : base ≤ w.heap.size) :
    ∃ v' w', (Builtin.append_ #[t, t] ty #[v, sv]).run P w = .ok v' w' ∧ w'.ownsRow base e sz v' (n + m) (xs ++ news) ∧ w.grownBy w' v.ownBlock ∧
      (v' = .slice none 0 0 ↔ v = .slice none 0 0 ∧ m = 0) := by
  obtain ⟨ht, hsz, i, z, hi, hz, hs, hby, hzs⟩ := hE
  obtain ⟨hl, a, cap, rfl, hcap, hmax, hnone, hcells⟩ := hsrc
  cases a with
  | none =>
    have hc0 := hnone rfl
    have hm0 : m = 0 := by omega
    subst hc0 hm0
    have hn0 : news = [] := List.length_eq_zero_iff.1 (by omega)
    subst hn0
    refine ⟨v, w, run_append_owned_none w base t ty e i sz ht hi v n xs hown, by simpa using hown, ⟨rfl, rfl, rfl, Nat.le_refl _, fun _ _ _ => rfl⟩, by simp⟩
  | some p =>
    refine run_append_own w base t ty e i z sz bytes ht hi hz hs hby hzs hsz v n xs hown p m cap news hl ?_ h1 h63 hbytes hbase
    intro j u hj
    have hp : 0 < news.length := by
      have := (List.getElem?_eq_some_iff.1 hj).1
      omega
    obtain ⟨b, off, e1, hc⟩ := hcells hp
    obtain rfl := Option.some.inj e1
    rw [addr_add]; exact hc j u hj

theorem wp_app {P : Program} {w : World} {o : Oper} {a : Act} {K : Act → World → Prop} {Q : Exit → Act → World → Prop} (s x : Operand) (t : TypeId)
    (ho : o.op = .call { callee := .builtin .append, args := #[s, x], argTypes := #[t, t] })
    {e : TypeId} {sz bytes : Nat} (hE : ElemT P t e sz bytes) (base : Nat)
    {v : Value} {n : Nat} {xs : List Value} (hs : a.eval s = v) (hown : w.ownsRow base e sz v n xs) {sv : Value} {m : Nat} {news : List Value} (hx : a.eval x = sv) (hsrc : Rd w sz sv m news)
    (h1 : ∀ u ∈ news, u.oneCell' = true) (h63 : n + m ≤ maxLen) (hbytes : (n + m) * bytes ≤ 140737488355328) (hbase : base ≤ w.heap.size)
    (h : ∀ v' w', w'.ownsRow base e sz v' (n + m) (xs ++ news) → w.grownBy w' v.ownBlock → (v' = .slice none 0 0 ↔ v = .slice none 0 0 ∧ m = 0) → K (a.put o.dst v') w') : o.wp P a w K Q := by
  obtain ⟨v', w', hrun, r1, r2, r3⟩ := run_app (P := P) hE base o.type hown hsrc h1 h63 hbytes hbase
  unfold Oper.wp
  simp [execOp, ho, resolve, invoke, builtin, hs, hx, hrun, Result.andThen]
  exact h v' w' r1 r2 r3
theorem wpList_app {P : Program} {w : World} {ops : Array Oper} {rest : List Oper} {o : Oper} {a : Act} {Q : Exit → Act → World → Prop} (hgd : o.guard = none) (s x : Operand) (t : TypeId)
    (ho : o.op = .call { callee := .builtin .append, args := #[s, x], argTypes := #[t, t] })
    {e : TypeId} {sz bytes : Nat} (hE : ElemT P t e sz bytes) (base : Nat)
    {v : Value} {n : Nat} {xs : List Value} (hs : a.eval s = v) (hown : w.ownsRow base e sz v n xs) {sv : Value} {m : Nat} {news : List Value} (hx : a.eval x = sv) (hsrc : Rd w sz sv m news)
    (h1 : ∀ u ∈ news, u.oneCell' = true) (h63 : n + m ≤ maxLen) (hbytes : (n + m) * bytes ≤ 140737488355328) (hbase : base ≤ w.heap.size)
    (h : ∀ v' w', w'.ownsRow base e sz v' (n + m) (xs ++ news) → w.grownBy w' v.ownBlock → (v' = .slice none 0 0 ↔ v = .slice none 0 0 ∧ m = 0) → wpList P ops Q rest (a.put o.dst v') w') : wpList P ops Q (o :: rest) a w :=
  wpList_plain hgd fun _ hK => wp_app s x t ho hE base hs hown hx hsrc h1 h63 hbytes hbase fun v' w' h2 h3 h4 => hK _ _ (h v' w' h2 h3 h4)
theorem step_app {P : Program} {w : World} {ops : Array Oper} {o : Oper} {a : Act} {K : Act → World → Prop} {Q : Exit → Act → World → Prop} {E : Prop} (hgd : o.guard = none) (s x : Operand) (t : TypeId)
    (ho : o.op = .call { callee := .builtin .append, args := #[s, x], argTypes := #[t, t] })
    {e : TypeId} {sz bytes : Nat} (hE : ElemT P t e sz bytes) (base : Nat)
    {v : Value} {n : Nat} {xs : List Value} (hs : a.eval s = v) (hown : w.ownsRow base e sz v n xs) {sv : Value} {m : Nat} {news : List Value} (hx : a.eval x = sv) (hsrc : Rd w sz sv m news)
    (h1 : ∀ u ∈ news, u.oneCell' = true) (h63 : n + m ≤ maxLen) (hbytes : (n + m) * bytes ≤ 140737488355328) (hbase : base ≤ w.heap.size)
    (h : ∀ v' w', w'.ownsRow base e sz v' (n + m) (xs ++ news) → w.grownBy w' v.ownBlock → (v' = .slice none 0 0 ↔ v = .slice none 0 0 ∧ m = 0) → K (a.put o.dst v') w') :
    if Region.wanted o (yielded ops a.tmps) = true then Oper.wp P o a w K Q else E := by
  have hw : Region.wanted o (yielded ops a.tmps) = true := by simp [Region.wanted, hgd]
  rw [if_pos hw]
  exact wp_app s x t ho hE base hs hown hx hsrc h1 h63 hbytes hbase h
/-- A block that was just laid, as a slice. -/
theorem Rd.new (w : World) (sz : Nat) (cs : List Value) (e : TypeId) (n : Nat) (hn : cs.length = n * sz) (hm : n ≤ maxLen) : Rd (w.alloc (.cells cs.toArray e)) sz (.slice (some ⟨w.heap.size, 0, none⟩) n n) n cs := by
  refine ⟨hn, _, n, rfl, Nat.le_refl _, hm, fun h => by simp at h, fun _ => ⟨w.heap.size, 0, rfl, fun j u hj => ?_⟩⟩
  rw [Nat.zero_add, cell_of_row _ _ j cs.toArray e (0, 0) (heap_alloc_new w _)]
  simpa using hj
theorem own_below {B : Nat} {w0 w w' : World} {e : TypeId} {sz : Nat} {v : Value} {n : Nat} {xs : List Value} (h : Below B w0 w) (hown : w.ownsRow B e sz v n xs) (hB : B ≤ w.heap.size) (hg : w.grownBy w' v.ownBlock) : Below B w0 w' :=
  h.grown hg hB fun k hk => (hown.lt k hk).1

/-! ### Elements of one cell -/
/-- v is a slice that reads as the list l, each element by f. -/
def RdL {α : Type} (f : α → Value) (w : World) (v : Value) (l : List α) : Prop := Rd w 1 v l.length (l.map f)
section
variable {α : Type} {f : α → Value} {w w' : World} {v : Value} {l : List α}
theorem RdL.below (h : RdL f w v l) (hb : Below w.heap.size w w') : RdL f w' v l := Rd.below h hb
theorem RdL.mono (h : RdL f w v l) (hk : ∀ p u, w.cell? p = some u → w'.cell? p = some u) : RdL f w' v l := Rd.mono h hk
theorem RdL.alloc (h : RdL f w v l) (o : Obj) : RdL f (w.alloc o) v l := Rd.alloc h o
theorem RdL.drew (h : RdL f w v l) : RdL f w.drew v l := Rd.drew h
theorem RdL.nil (f : α → Value) (w : World) : RdL f w (.slice none 0 0) [] := Rd.nil w 1
theorem RdL.shape (h : RdL f w v l) (d : α) : ∃ a cap, v = .slice a l.length cap ∧ l.length ≤ cap ∧ cap ≤ maxLen ∧ (a = none → cap = 0) ∧
    (0 < l.length → ∃ b off, a = some ⟨b, off, none⟩ ∧ ∀ j, j < l.length → w.cell? ⟨b, off + j, none⟩ = some (f (l.getD j d))) := by
  obtain ⟨_, a, cap, h2, h3, h4, h5, h6⟩ := h
  refine ⟨a, cap, h2, h3, h4, h5, fun hp => ?_⟩
  obtain ⟨b, off, e, hc⟩ := h6 (by rw [List.length_map]; exact hp)
  refine ⟨b, off, e, fun j hj => hc j _ ?_⟩
  simp [List.getElem?_eq_getElem hj]
theorem RdL.of_cells (a : Option Addr) (n cap : Nat) (l : List α) (d : α) (hn : l.length = n) (h1 : n ≤ cap) (h2 : cap ≤ maxLen) (h3 : a = none → cap = 0)
    (h4 : 0 < n → ∃ b off, a = some ⟨b, off, none⟩ ∧ ∀ j, j < n → w.cell? ⟨b, off + j, none⟩ = some (f (l.getD j d))) : RdL f w (.slice a n cap) l := by
  subst hn
  refine ⟨by simp, a, cap, rfl, h1, h2, h3, fun hp => ?_⟩
  obtain ⟨b, off, e, hc⟩ := h4 (by simpa using hp)
  refine ⟨b, off, e, fun j u hj => ?_⟩
  have hj2 : j < l.length := by have := (List.getElem?_eq_some_iff.1 hj).1; simpa using this
  rw [hc j hj2]
  rw [List.getElem?_map, List.getElem?_eq_getElem hj2] at hj
  rw [← Option.some.inj hj]
  simp [List.getElem?_eq_getElem hj2]
theorem RdL.bounds {a : Option Addr} {n cap : Nat} (h : RdL f w (.slice a n cap) l) : l.length = n ∧ n ≤ cap ∧ cap ≤ maxLen := by
  obtain ⟨h0, a', cap', e, h1, h2, _⟩ := h
  injection e with e1 e2 e3
  exact ⟨e2.symm, by omega, by omega⟩
/-- A part of a slice, from its beginning. -/
theorem RdL.take {a : Option Addr} {n cap : Nat} (h : RdL f w (.slice a n cap) l) (k : Nat) (hk : k ≤ n) : RdL f w (.slice a k cap) (l.take k) := by
  obtain ⟨h0, a', cap', e, h1, h2, h3, h4⟩ := h
  injection e with e1 e2 e3
  subst e1 e2 e3
  have hl : (l.take k).length = k := by rw [List.length_take]; omega
  unfold RdL
  rw [hl]
  refine ⟨by rw [List.length_map, hl, Nat.mul_one], _, _, rfl, by omega, h2, h3, fun hp => ?_⟩
  obtain ⟨b, off, e, hc⟩ := h4 (by rw [List.length_map, hl] at hp; rw [List.length_map]; omega)
  refine ⟨b, off, e, fun j u hj => hc j u ?_⟩
  rw [List.map_take, List.getElem?_take] at hj
  split at hj
  · exact hj
  · simp at hj
theorem own_rdl {base : Nat} {e : TypeId} {n : Nat} (h : w.ownsRow base e 1 v n (l.map f)) : RdL f w v l := by
  have hl : l.length = n := by have := h.1; simpa using this
  unfold RdL
  rw [hl]; exact own_rd h
end
theorem map_snoc {α : Type} (f : α → Value) (l : List α) (x : α) : (l ++ [x]).map f = l.map f ++ [f x] := by simp

/-! ### Elements of several cells -/
/-- v is a slice that reads as the list l, each element by its sz cells f. -/
def RdS {α : Type} (sz : Nat) (f : α → List Value) (w : World) (v : Value) (l : List α) : Prop := (∀ x ∈ l, (f x).length = sz) ∧ Rd w sz v l.length (l.flatMap f)
theorem flat_length {α : Type} (sz : Nat) (f : α → List Value) : ∀ (l : List α), (∀ x ∈ l, (f x).length = sz) → (l.flatMap f).length = l.length * sz
  | [], _ => by simp
  | x :: r, h => by
    rw [List.flatMap_cons, List.length_append, h x (by simp), flat_length sz f r (fun y hy => h y (by simp [hy])), List.length_cons, Nat.succ_mul, Nat.add_comm]
theorem flat_at {α : Type} (sz : Nat) (f : α → List Value) (d : α) : ∀ (l : List α), (∀ x ∈ l, (f x).length = sz) → ∀ j i, j < l.length → i < sz → (l.flatMap f)[j * sz + i]? = (f (l.getD j d))[i]?
  | [], _, _, _, h, _ => absurd h (by simp)
  | x :: r, h, 0, i, _, hi => by
    rw [List.flatMap_cons, Nat.zero_mul, Nat.zero_add, List.getElem?_append_left (by rw [h x (by simp)]; exact hi)]; rfl
  | x :: r, h, j + 1, i, hj, hi => by
    rw [List.flatMap_cons, List.getElem?_append_right (by rw [h x (by simp), Nat.succ_mul]; omega), h x (by simp)]
    have e : (j + 1) * sz + i - sz = j * sz + i := by rw [Nat.succ_mul]; omega
    rw [e, flat_at sz f d r (fun y hy => h y (by simp [hy])) j i (by simpa using hj) hi]; rfl
section
variable {α : Type} {sz : Nat} {f : α → List Value} {w w' : World} {v : Value} {l : List α}
theorem RdS.below (h : RdS sz f w v l) (hb : Below w.heap.size w w') : RdS sz f w' v l := ⟨h.1, Rd.below h.2 hb⟩
theorem RdS.mono (h : RdS sz f w v l) (hk : ∀ p u, w.cell? p = some u → w'.cell? p = some u) : RdS sz f w' v l := ⟨h.1, Rd.mono h.2 hk⟩
theorem RdS.alloc (h : RdS sz f w v l) (o : Obj) : RdS sz f (w.alloc o) v l := ⟨h.1, Rd.alloc h.2 o⟩
theorem RdS.drew (h : RdS sz f w v l) : RdS sz f w.drew v l := ⟨h.1, Rd.drew h.2⟩
theorem RdS.nil (sz : Nat) (f : α → List Value) (w : World) : RdS sz f w (.slice none 0 0) [] := ⟨fun _ h => (by cases h), Rd.nil w sz⟩
theorem RdS.shape (h : RdS sz f w v l) (hsz : 0 < sz) (d : α) : ∃ a cap, v = .slice a l.length cap ∧ l.length ≤ cap ∧ cap ≤ maxLen ∧ (a = none → cap = 0) ∧
    (0 < l.length → ∃ b off, a = some ⟨b, off, none⟩ ∧ ∀ j, j < l.length → ∀ i u, (f (l.getD j d))[i]? = some u → w.cell? ⟨b, off + (j * sz + i), none⟩ = some u) := by
  obtain ⟨hf, _, a, cap, h2, h3, h4, h5, h6⟩ := h
  refine ⟨a, cap, h2, h3, h4, h5, fun hp => ?_⟩
  have hlen := flat_length sz f l hf
  obtain ⟨b, off, e, hc⟩ := h6 (by rw [hlen]; exact Nat.mul_pos hp hsz)
  refine ⟨b, off, e, fun j hj i u hu => hc (j * sz + i) u ?_⟩
  have hm : l.getD j d ∈ l := by
    rw [List.getD_eq_getElem?_getD, List.getElem?_eq_getElem hj]; exact List.getElem_mem hj
  have hi : i < sz := by
    have := (List.getElem?_eq_some_iff.1 hu).1
    rwa [hf _ hm] at this
  rw [flat_at sz f d l hf j i hj hi]; exact hu
theorem RdS.take {a : Option Addr} {n cap : Nat} (h : RdS sz f w (.slice a n cap) l) (k : Nat) (hk : k ≤ n) : RdS sz f w (.slice a k cap) (l.take k) := by
  obtain ⟨hf, h0, a', cap', e, h1, h2, h3, h4⟩ := h
  injection e with e1 e2 e3
  subst e1 e2 e3
  have hl : (l.take k).length = k := by rw [List.length_take]; omega
  have hf' : ∀ x ∈ l.take k, (f x).length = sz := fun x hx => hf x (List.mem_of_mem_take hx)
  refine ⟨hf', ?_⟩
  rw [hl]
  have hlen := flat_length sz f _ hf'
  rw [hl] at hlen
  have hsplit : l.flatMap f = (l.take k).flatMap f ++ (l.drop k).flatMap f := by rw [← List.flatMap_append, List.take_append_drop]
  refine ⟨hlen, _, _, rfl, by omega, h2, h3, fun hp => ?_⟩
  obtain ⟨b, off, e, hc⟩ := h4 (by rw [hsplit, List.length_append]; omega)
  refine ⟨b, off, e, fun j u hj => hc j u ?_⟩
  rw [hsplit, List.getElem?_append_left (List.getElem?_eq_some_iff.1 hj).1]; exact hj
theorem own_rds {base : Nat} {e : TypeId} {n : Nat} (hf : ∀ x ∈ l, (f x).length = sz) (hsz : 0 < sz) (h : w.ownsRow base e sz v n (l.flatMap f)) : RdS sz f w v l := by
  have hl : l.length = n := by
    have := h.1
    rw [flat_length sz f l hf] at this
    exact Nat.eq_of_mul_eq_mul_right hsz this
  refine ⟨hf, ?_⟩
  rw [hl]; exact own_rd h
end

/-! ### Bytes and integers -/
abbrev byteV (c : UInt8) : Value := .int .u8 (c.toNat : Int)
abbrev intV (n : Int) : Value := .int .i64 n
abbrev RdB (w : World) (v : Value) (l : List UInt8) : Prop := RdL byteV w v l
abbrev RdI (w : World) (v : Value) (l : List Int) : Prop := RdL intV w v l
theorem one_map {α : Type} (f : α → Value) (h : ∀ x, (f x).oneCell' = true) (l : List α) : ∀ u ∈ l.map f, u.oneCell' = true := by
  intro u hu
  obtain ⟨c, _, rfl⟩ := List.mem_map.1 hu
  exact h c
theorem bytes_one (l : List UInt8) : ∀ u ∈ l.map byteV, u.oneCell' = true := one_map _ (fun _ => rfl) l
theorem ints_one (l : List Int) : ∀ u ∈ l.map intV, u.oneCell' = true := one_map _ (fun _ => rfl) l
/-- 'string(b)'. -/
theorem run_to_string {P : Program} {w : World} {v : Value} {l : List UInt8} (src dst e : TypeId) (hs : P.underlying src = some (.slice e)) (he : P.underlying e = some (.int .u8)) (hd : P.underlying dst = some .string)
    (h : RdB w v l) : (convert src dst v).run P w = .ok (.string ⟨l.toArray⟩) w := by
  obtain ⟨a, cap, rfl, h3, h4, h5, h6⟩ := h.shape 0
  cases a with
  | none =>
    have h0 : l = [] := List.length_eq_zero_iff.1 (by have := h5 rfl; omega)
    subst h0
    exact run_convert_bytes_nil w src e hs he _ _ dst hd
  | some p =>
    refine run_convert_bytes_back w src dst e p cap l hs he hd ?_
    intro j hj
    obtain ⟨b, off, e1, hc⟩ := h6 (by omega)
    obtain rfl := Option.some.inj e1
    rw [addr_add, hc j hj]
    simp [List.getElem?_eq_getElem hj]

/-- What is known of a slice of integers that came in. -/
def IsRow (k : IntKind) (w : World) (a : Option Addr) (len cap : Nat) (zs : List Int) : Prop :=
  (a = none ∧ len = 0 ∧ cap = 0 ∧ zs = []) ∨
  ∃ x, a = some x ∧ len ≤ cap ∧ cap ≤ maxLen ∧ zs.length = cap ∧ (∀ i, i < zs.length → w.cell? (x.add i) = some (.int k (zs.getD i 0))) ∧ ∀ n ∈ zs, (Lit.int k n).wf = true
theorem isRow_rd {k : IntKind} {w : World} {a : Option Addr} {len cap : Nat} {zs : List Int} (h : IsRow k w a len cap zs) :
    (zs.take len).length = len ∧ Rd w 1 (.slice a len cap) len ((zs.take len).map (Value.int k)) := by
  rcases h with ⟨rfl, rfl, rfl, rfl⟩ | ⟨x, rfl, h1, h2, h3, h4, _⟩
  · exact ⟨rfl, Rd.nil w 1⟩
  · have hl : (zs.take len).length = len := by rw [List.length_take]; omega
    refine ⟨hl, by rw [List.length_map, hl, Nat.mul_one], some x, cap, rfl, h1, h2, fun h => by simp at h, fun hp => ?_⟩
    have hp' : 0 < zs.length := by simp at hp; omega
    obtain ⟨b, off, rfl, hc⟩ := ints_at h4 hp'
    refine ⟨b, off, rfl, fun j u hj => ?_⟩
    rw [List.getElem?_map] at hj
    obtain ⟨z, hz, rfl⟩ := Option.map_eq_some_iff.1 hj
    rw [List.getElem?_take] at hz
    split at hz
    · have hj2 : j < zs.length := (List.getElem?_eq_some_iff.1 hz).1
      rw [hc j hj2, List.getD_eq_getElem?_getD, hz]; rfl
    · simp at hz
theorem isRow_wf {k : IntKind} {w : World} {a : Option Addr} {len cap : Nat} {zs : List Int} (h : IsRow k w a len cap zs) : ∀ n ∈ zs, (Lit.int k n).wf = true := by
  rcases h with ⟨_, _, _, rfl⟩ | ⟨_, _, _, _, _, _, h6⟩
  · intro n hn; cases hn
  · exact h6
theorem isRow_ints {w : World} {a : Option Addr} {len cap : Nat} {zs : List Int} (h : IsRow .i64 w a len cap zs) : ∃ l : List Int, l.length = len ∧ RdI w (.slice a len cap) l ∧ ∀ n ∈ l, (Lit.int .i64 n).wf = true := by
  obtain ⟨h1, h2⟩ := isRow_rd h
  refine ⟨zs.take len, h1, ?_, fun n hn => isRow_wf h n (List.mem_of_mem_take hn)⟩
  unfold RdI RdL
  rw [h1]; exact h2
theorem isRow_bytes {w : World} {a : Option Addr} {len cap : Nat} {zs : List Int} (h : IsRow .u8 w a len cap zs) : ∃ l : List UInt8, l.length = len ∧ RdB w (.slice a len cap) l := by
  obtain ⟨h1, h2⟩ := isRow_rd h
  have hw := isRow_wf h
  refine ⟨(zs.take len).map fun z => UInt8.ofNat z.toNat, by simpa using h1, ?_⟩
  unfold RdB RdL
  rw [List.length_map, h1]
  have e : (((zs.take len).map fun z => UInt8.ofNat z.toNat).map byteV) = (zs.take len).map (Value.int .u8) := by
    rw [List.map_map]
    refine List.map_congr_left fun z hz => ?_
    have hb := Go.bounds_u8 (hw z (List.mem_of_mem_take hz))
    simp only [Function.comp, byteV]
    congr 1
    rw [UInt8.toNat_ofNat']
    omega
  rw [e]; exact h2
/-- Integers that fit their kind, as numbers with bounds. -/
theorem nat_of_u8 {a : Int} (h : (Lit.int .u8 a).wf = true) : ∃ n : Nat, a = (n : Int) ∧ n < 256 := by
  have hb := Go.bounds_u8 h
  exact ⟨a.toNat, by omega, by omega⟩
theorem byte_of_u8 {a : Int} (h : (Lit.int .u8 a).wf = true) : ∃ c : UInt8, a = (c.toNat : Int) := by
  obtain ⟨n, rfl, hn⟩ := nat_of_u8 h
  exact ⟨UInt8.ofNat n, by rw [UInt8.toNat_ofNat', Nat.mod_eq_of_lt hn]⟩
theorem bounds_of_i64 {a : Int} (h : (Lit.int .i64 a).wf = true) : -9223372036854775808 ≤ a ∧ a ≤ 9223372036854775807 := by
  simp [Lit.wf, IntKind.min, IntKind.max, IntKind.signed, IntKind.bits] at h
  omega
theorem bounds_of_u64 {a : Int} (h : (Lit.int .u64 a).wf = true) : 0 ≤ a ∧ a ≤ 18446744073709551615 := by
  simp [Lit.wf, IntKind.min, IntKind.max, IntKind.signed, IntKind.bits] at h
  omega
theorem bounds_of_u32 {a : Int} (h : (Lit.int .u32 a).wf = true) : 0 ≤ a ∧ a ≤ 4294967295 := by
  simp [Lit.wf, IntKind.min, IntKind.max, IntKind.signed, IntKind.bits] at h
  omega
theorem ret_int {k : IntKind} {a b : Int} (h : a = b) : Ending.returned (.int k a) = .returned (.int k b) := by rw [h]
theorem ret_bool {a b : Bool} (h : a = b) : Ending.returned (.bool a) = .returned (.bool b) := by rw [h]
theorem ret_pair {k l : IntKind} {a b c d : Int} (h : a = b) (h' : c = d) : Ending.returned (.tuple #[.int k a, .int l c]) = .returned (.tuple #[.int k b, .int l d]) := by rw [h, h']
end Go.Proofs.Ytffmdhloplindaa
