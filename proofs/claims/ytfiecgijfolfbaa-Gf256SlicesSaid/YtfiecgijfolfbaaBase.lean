/- Slices as lists of cells: reading one that came in or was made (Rd), owning one that the call itself made (ownsRow), append, and how both stand when the world grows. Over any program. -/
import Derived.WalkKit
import Derived.WalkSpells
import Derived.WalkLawsBesides
import Derived.Lib.Hide
import Derived.Laws.AppendOwnNone
import Derived.OpenShut
namespace Go.Proofs.Ytfiecgijfolfbaa
open Go.RowKit

/-- The value v is a slice of n elements, of sz cells each, and its cells read as cs. -/
def Rd (w : World) (sz : Nat) (v : Value) (n : Nat) (cs : List Value) : Prop :=
  cs.length = n * sz ∧ ∃ a cap, v = .slice a n cap ∧ n ≤ cap ∧ cap ≤ maxLen ∧ (a = none → cap = 0) ∧
    (0 < cs.length → ∃ b off, a = some ⟨b, off, none⟩ ∧ ∀ j u, cs[j]? = some u → w.cell? ⟨b, off + j, none⟩ = some u)

theorem Rd.nil (w : World) (sz : Nat) : Rd w sz (.slice none 0 0) 0 [] := ⟨by simp, none, 0, rfl, Nat.le_refl _, Nat.zero_le _, fun _ => rfl, fun h => absurd h (by simp)⟩
theorem Rd.mono {w w' : World} {sz : Nat} {v : Value} {n : Nat} {cs : List Value} (h : Rd w sz v n cs) (hk : ∀ p u, w.cell? p = some u → w'.cell? p = some u) : Rd w' sz v n cs := by
  obtain ⟨h1, a, cap, h2, h3, h4, h5, h6⟩ := h
  refine ⟨h1, a, cap, h2, h3, h4, h5, fun hp => ?_⟩
  obtain ⟨b, off, e, hc⟩ := h6 hp
  exact ⟨b, off, e, fun j u hj => hk _ _ (hc j u hj)⟩
theorem Below.keeps {w w' : World} (h : Below w.heap.size w w') (p : Addr) (u : Value) (hp : w.cell? p = some u) : w'.cell? p = some u :=
  (h.cell (World.block_lt_of_cell? w p hp)).trans hp
theorem Rd.below {w w' : World} {sz : Nat} {v : Value} {n : Nat} {cs : List Value} (h : Rd w sz v n cs) (hb : Below w.heap.size w w') : Rd w' sz v n cs := h.mono (Below.keeps hb)
theorem Rd.drew {w : World} {sz : Nat} {v : Value} {n : Nat} {cs : List Value} (h : Rd w sz v n cs) : Rd w.drew sz v n cs := h.mono fun _ _ h => h
theorem Rd.alloc {w : World} {sz : Nat} {v : Value} {n : Nat} {cs : List Value} (h : Rd w sz v n cs) (o : Obj) : Rd (w.alloc o) sz v n cs :=
  h.below ((Below.refl _ _).alloc (Nat.le_refl _) o)
theorem bstep {w0 w w' : World} (h : Below w0.heap.size w0 w) (h' : Below w.heap.size w w') : Below w0.heap.size w0 w' := h.trans (h'.mono h.size)
theorem Below.up {B : Nat} {w0 w w' : World} (h : Below B w0 w) (hB : B ≤ w.heap.size) (h' : Below w.heap.size w w') : Below B w0 w' := h.trans (h'.mono hB)
theorem Rd.len {w : World} {sz : Nat} {v : Value} {n : Nat} {cs : List Value} (h : Rd w sz v n cs) : cs.length = n * sz := h.1

/-- What the call owns it can read. -/
theorem own_rd {w : World} {base : Nat} {e : TypeId} {sz : Nat} {v : Value} {n : Nat} {xs : List Value} (h : w.ownsRow base e sz v n xs) : Rd w sz v n xs := by
  refine ⟨h.1, ?_⟩
  rcases h.2 with ⟨rfl, rfl⟩ | ⟨g, cap, cur, rfl, hb, hg, hn, hc, hs, ht⟩
  · exact ⟨none, 0, rfl, Nat.le_refl _, Nat.zero_le _, fun _ => rfl, fun hp => by have := h.1; omega⟩
  · refine ⟨some ⟨g, 0, none⟩, cap, rfl, hn, hc, fun h => by simp at h, fun _ => ⟨g, 0, rfl, fun j u hj => ?_⟩⟩
    rw [Nat.zero_add, cell_of_row w g j cur e (0, 0) hg]
    rw [← ht, List.getElem?_take] at hj
    split at hj
    · simpa using hj
    · simp at hj

/-- The element type of a slice type, for append. -/
def ElemT (P : Program) (t e : TypeId) (sz bytes : Nat) : Prop :=
  P.underlying t = some (.slice e) ∧ 0 < sz ∧ ∃ i z, P.info? e = some i ∧ i.zero = some z ∧ i.size = sz ∧ i.bytes = bytes ∧ z.cells.size = sz

theorem addr_add (b off j : Nat) : (⟨b, off, none⟩ : Addr).add j = ⟨b, off + j, none⟩ := by unfold Addr.add; split <;> simp_all

theorem run_app {P : Program} {w : World} {t e : TypeId} {sz bytes : Nat} (hE : ElemT P t e sz bytes) (base : Nat) (ty : TypeId)
    {v : Value} {n : Nat} {xs : List Value} (hown : w.ownsRow base e sz v n xs) {sv : Value} {m : Nat} {news : List Value} (hsrc : Rd w sz sv m news)
    (h1 : ∀ u ∈ news, u.oneCell' = true) (h63 : n + m ≤ maxLen) (hbytes : (n + m) * bytes ≤ 140737488355328) (hbase : base ≤ w.heap.size) :
    ∃ v' w', (Builtin.append_ #[t, t] ty #[v, sv]).run P w = .ok v' w' ∧ w'.ownsRow base e sz v' (n + m) (xs ++ news) ∧ w.grownBy w' v.ownBlock ∧
      (v' = .slice none 0 0 ↔ v = .slice none 0 0 ∧ m = 0) := by
  obtain ⟨ht, hsz, i, z, hi, hz, hs, hby, hzs⟩ := hE
  obtain ⟨hl, a, cap, rfl, hcap, hmax, hnone, hcells⟩ := hsrc
  cases a with
  | none =>
    have hc0 := hnone rfl
    have hm0 : m = 0 := by omega
    subst hc0 hm0
    have hn0 : news = [] := List.length_eq_zero_iff.1 (by omega)
    subst hn0
    refine ⟨v, w, run_append_owned_none w base t ty e i sz ht hi v n xs hown, by simpa using hown, ⟨rfl, rfl, rfl, Nat.le_refl _, fun _ _ _ => rfl⟩, by simp⟩
  | some p =>
    refine run_append_own w base t ty e i z sz bytes ht hi hz hs hby hzs hsz v n xs hown p m cap news hl ?_ h1 h63 hbytes hbase
    intro j u hj
    have hp : 0 < news.length := by
      have := (List.getElem?_eq_some_iff.1 hj).1
      omega
    obtain ⟨b, off, e1, hc⟩ := hcells hp
    obtain rfl := Option.some.inj e1
    rw [addr_add]; exact hc j u hj

theorem wp_app {P : Program} {w : World} {o : Oper} {a : Act} {K : Act → World → Prop} {Q : Exit → Act → World → Prop} (s x : Operand) (t : TypeId)
    (ho : o.op = .call { callee := .builtin .append, args := #[s, x], argTypes := #[t, t] })
    {e : TypeId} {sz bytes : Nat} (hE : ElemT P t e sz bytes) (base : Nat)
    {v : Value} {n : Nat} {xs : List Value} (hs : a.eval s = v) (hown : w.ownsRow base e sz v n xs) {sv : Value} {m : Nat} {news : List Value} (hx : a.eval x = sv) (hsrc : Rd w sz sv m news)
    (h1 : ∀ u ∈ news, u.oneCell' = true) (h63 : n + m ≤ maxLen) (hbytes : (n + m) * bytes ≤ 140737488355328) (hbase : base ≤ w.heap.size)
    (h : ∀ v' w', w'.ownsRow base e sz v' (n + m) (xs ++ news) → w.grownBy w' v.ownBlock → (v' = .slice none 0 0 ↔ v = .slice none 0 0 ∧ m = 0) → K (a.put o.dst v') w') : o.wp P a w K Q := by
  obtain ⟨v', w', hrun, r1, r2, r3⟩ := run_app (P := P) hE base o.type hown hsrc h1 h63 hbytes hbase
  unfold Oper.wp
  simp [execOp, ho, resolve, invoke, builtin, hs, hx, hrun, Result.andThen]
  exact h v' w' r1 r2 r3
theorem wpList_app {P : Program} {w : World} {ops : Array Oper} {rest : List Oper} {o : Oper} {a : Act} {Q : Exit → Act → World → Prop} (hgd : o.guard = none) (s x : Operand) (t : TypeId)
    (ho : o.op = .call { callee := .builtin .append, args := #[s, x], argTypes := #[t, t] })
    {e : TypeId} {sz bytes : Nat} (hE : ElemT P t e sz bytes) (base : Nat)
    {v : Value} {n : Nat} {xs : List Value} (hs : a.eval s = v) (hown : w.ownsRow base e sz v n xs) {sv : Value} {m : Nat} {news : List Value} (hx : a.eval x = sv) (hsrc : Rd w sz sv m news)
    (h1 : ∀ u ∈ news, u.oneCell' = true) (h63 : n + m ≤ maxLen) (hbytes : (n + m) * bytes ≤ 140737488355328) (hbase : base ≤ w.heap.size)
    (h : ∀ v' w', w'.ownsRow base e sz v' (n + m) (xs ++ news) → w.grownBy w' v.ownBlock → (v' = .slice none 0 0 ↔ v = .slice none 0 0 ∧ m = 0) → wpList P ops Q rest (a.put o.dst v') w') : wpList P ops Q (o :: rest) a w :=
  wpList_plain hgd fun _ hK => wp_app s x t ho hE base hs hown hx hsrc h1 h63 hbytes hbase fun v' w' h2 h3 h4 => hK _ _ (h v' w' h2 h3 h4)
theorem step_app {P : Program} {w : World} {ops : Array Oper} {o : Oper} {a : Act} {K : Act → World → Prop} {Q : Exit → Act → World → Prop} {E : Prop} (hgd : o.guard = none) (s x : Operand) (t : TypeId)
    (ho : o.op = .call { callee := .builtin .append, args := #[s, x], argTypes := #[t, t] })
    {e : TypeId} {sz bytes : Nat} (hE : ElemT P t e sz bytes) (base : Nat)
    {v : Value} {n : Nat} {xs : List Value} (hs : a.eval s = v) (hown : w.ownsRow base e sz v n xs) {sv : Value} {m : Nat} {news : List Value} (hx : a.eval x = sv) (hsrc : Rd w sz sv m news)
    (h1 : ∀ u ∈ news, u.oneCell' = true) (h63 : n + m ≤ maxLen) (hbytes : (n + m) * bytes ≤ 140737488355328) (hbase : base ≤ w.heap.size)
    (h : ∀ v' w', w'.ownsRow base e sz v' (n + m) (xs ++ news) → w.grownBy w' v.ownBlock → (v' = .slice none 0 0 ↔ v = .slice none 0 0 ∧ m = 0) → K (a.put o.dst v') w') :
    if Region.wanted o (yielded ops a.tmps) = true then Oper.wp P o a w K Q else E := by
  have hw : Region.wanted o (yielded ops a.tmps) = true := by simp [Region.wanted, hgd]
  rw [if_pos hw]
  exact wp_app s x t ho hE base hs hown hx hsrc h1 h63 hbytes hbase h
/-- A block that was just laid, as a slice. -/
theorem Rd.new (w : World) (sz : Nat) (cs : List Value) (e : TypeId) (n : Nat) (hn : cs.length = n * sz) (hm : n ≤ maxLen) : Rd (w.alloc (.cells cs.toArray e)) sz (.slice (some ⟨w.heap.size, 0, none⟩) n n) n cs := by
  refine ⟨hn, _, n, rfl, Nat.le_refl _, hm, fun h => by simp at h, fun _ => ⟨w.heap.size, 0, rfl, fun j u hj => ?_⟩⟩
  rw [Nat.zero_add, cell_of_row _ _ j cs.toArray e (0, 0) (heap_alloc_new w _)]
  simpa using hj
theorem own_below {B : Nat} {w0 w w' : World} {e : TypeId} {sz : Nat} {v : Value} {n : Nat} {xs : List Value} (h : Below B w0 w) (hown : w.ownsRow B e sz v n xs) (hB : B ≤ w.heap.size) (hg : w.grownBy w' v.ownBlock) : Below B w0 w' :=
  h.grown hg hB fun k hk => (hown.lt k hk).1

/-! ### Bytes -/
def bcells (l : List UInt8) : List Value := l.map fun c => .int .u8 (c.toNat : Int)
theorem bcells_length (l : List UInt8) : (bcells l).length = l.length := by simp [bcells]
theorem bcells_one (l : List UInt8) : ∀ u ∈ bcells l, u.oneCell' = true := by
  intro u hu
  obtain ⟨c, _, rfl⟩ := List.mem_map.1 hu
  rfl
theorem bcells_at (l : List UInt8) (j : Nat) (h : j < l.length) : (bcells l)[j]? = some (.int .u8 ((l.getD j 0).toNat : Int)) := by
  simp [bcells, List.getElem?_map, List.getElem?_eq_getElem h]
theorem bcells_append (l r : List UInt8) : bcells (l ++ r) = bcells l ++ bcells r := by simp [bcells]
/-- v is a slice of bytes that reads as l. -/
def RdB (w : World) (v : Value) (l : List UInt8) : Prop := Rd w 1 v l.length (bcells l)
theorem RdB.below {w w' : World} {v : Value} {l : List UInt8} (h : RdB w v l) (hb : Below w.heap.size w w') : RdB w' v l := Rd.below h hb
theorem RdB.alloc {w : World} {v : Value} {l : List UInt8} (h : RdB w v l) (o : Obj) : RdB (w.alloc o) v l := Rd.alloc h o
theorem RdB.drew {w : World} {v : Value} {l : List UInt8} (h : RdB w v l) : RdB w.drew v l := Rd.drew h
theorem RdB.shape {w : World} {v : Value} {l : List UInt8} (h : RdB w v l) : ∃ a cap, v = .slice a l.length cap ∧ l.length ≤ cap ∧ cap ≤ maxLen ∧ (a = none → cap = 0) ∧
    (0 < l.length → ∃ b off, a = some ⟨b, off, none⟩ ∧ ∀ j, j < l.length → w.cell? ⟨b, off + j, none⟩ = some (.int .u8 ((l.getD j 0).toNat : Int))) := by
  obtain ⟨_, a, cap, h2, h3, h4, h5, h6⟩ := h
  refine ⟨a, cap, h2, h3, h4, h5, fun hp => ?_⟩
  obtain ⟨b, off, e, hc⟩ := h6 (by rw [bcells_length]; exact hp)
  exact ⟨b, off, e, fun j hj => hc j _ (bcells_at l j hj)⟩
/-- 'string(b)'. -/
theorem run_to_string {P : Program} {w : World} {v : Value} {l : List UInt8} (src dst e : TypeId) (hs : P.underlying src = some (.slice e)) (he : P.underlying e = some (.int .u8)) (hd : P.underlying dst = some .string)
    (h : RdB w v l) : (convert src dst v).run P w = .ok (.string ⟨l.toArray⟩) w := by
  obtain ⟨a, cap, rfl, h3, h4, h5, h6⟩ := h.shape
  cases a with
  | none =>
    have h0 : l = [] := List.length_eq_zero_iff.1 (by have := h5 rfl; omega)
    subst h0
    exact run_convert_bytes_nil w src e hs he _ _ dst hd
  | some p =>
    refine run_convert_bytes_back w src dst e p cap l hs he hd ?_
    intro j hj
    obtain ⟨b, off, e1, hc⟩ := h6 (by omega)
    obtain rfl := Option.some.inj e1
    rw [addr_add, hc j hj]
    simp [List.getElem?_eq_getElem hj]

/-- What is known of a slice of integers that came in. -/
def IsRow (k : IntKind) (w : World) (a : Option Addr) (len cap : Nat) (zs : List Int) : Prop :=
  (a = none ∧ len = 0 ∧ cap = 0 ∧ zs = []) ∨
  ∃ x, a = some x ∧ len ≤ cap ∧ cap ≤ maxLen ∧ zs.length = cap ∧ (∀ i, i < zs.length → w.cell? (x.add i) = some (.int k (zs.getD i 0))) ∧ ∀ n ∈ zs, (Lit.int k n).wf = true
theorem isRow_rd {k : IntKind} {w : World} {a : Option Addr} {len cap : Nat} {zs : List Int} (h : IsRow k w a len cap zs) :
    (zs.take len).length = len ∧ Rd w 1 (.slice a len cap) len ((zs.take len).map (Value.int k)) := by
  rcases h with ⟨rfl, rfl, rfl, rfl⟩ | ⟨x, rfl, h1, h2, h3, h4, _⟩
  · exact ⟨rfl, Rd.nil w 1⟩
  · have hl : (zs.take len).length = len := by rw [List.length_take]; omega
    refine ⟨hl, by rw [List.length_map, hl, Nat.mul_one], some x, cap, rfl, h1, h2, fun h => by simp at h, fun hp => ?_⟩
    have hp' : 0 < zs.length := by simp at hp; omega
    obtain ⟨b, off, rfl, hc⟩ := ints_at h4 hp'
    refine ⟨b, off, rfl, fun j u hj => ?_⟩
    rw [List.getElem?_map] at hj
    obtain ⟨z, hz, rfl⟩ := Option.map_eq_some_iff.1 hj
    rw [List.getElem?_take] at hz
    split at hz
    · have hj2 : j < zs.length := (List.getElem?_eq_some_iff.1 hz).1
      rw [hc j hj2, List.getD_eq_getElem?_getD, hz]; rfl
    · simp at hz
theorem isRow_bytes {w : World} {a : Option Addr} {len cap : Nat} {zs : List Int} (h : IsRow .u8 w a len cap zs) : ∃ l : List UInt8, l.length = len ∧ RdB w (.slice a len cap) l := by
  obtain ⟨h1, h2⟩ := isRow_rd h
  have hw : ∀ n ∈ zs, (Lit.int .u8 n).wf = true := by
    rcases h with ⟨_, _, _, rfl⟩ | ⟨_, _, _, _, _, _, h6⟩
    · intro n hn; cases hn
    · exact h6
  refine ⟨(zs.take len).map fun z => UInt8.ofNat z.toNat, by simpa using h1, ?_⟩
  unfold RdB
  rw [List.length_map, h1]
  have e : bcells ((zs.take len).map fun z => UInt8.ofNat z.toNat) = (zs.take len).map (Value.int .u8) := by
    unfold bcells
    rw [List.map_map]
    refine List.map_congr_left fun z hz => ?_
    have hb := Go.bounds_u8 (hw z (List.mem_of_mem_take hz))
    simp only [Function.comp]
    congr 1
    rw [UInt8.toNat_ofNat']
    omega
  rw [e]; exact h2
/-- The beginning of a slice. -/
theorem RdB.take {w : World} {a : Option Addr} {n cap : Nat} {l : List UInt8} (h : RdB w (.slice a n cap) l) (k : Nat) (hk : k ≤ n) : RdB w (.slice a k cap) (l.take k) := by
  obtain ⟨a', cap', e, h1, h2, h3, h4⟩ := h.shape
  injection e with e1 e2 e3
  subst e1 e2 e3
  have hl : (l.take k).length = k := by rw [List.length_take]; omega
  unfold RdB
  rw [hl]
  refine ⟨by simp [bcells, List.length_take]; omega, _, _, rfl, by omega, h2, h3, fun hp => ?_⟩
  obtain ⟨b, off, e, hc⟩ := h4 (by simp [bcells, List.length_take] at hp; omega)
  refine ⟨b, off, e, fun j u hj => ?_⟩
  have hj2 : j < k := by have := (List.getElem?_eq_some_iff.1 hj).1; simp [bcells, List.length_take] at this; omega
  rw [hc j (by omega)]
  rw [bcells_at _ j (by omega)] at hj
  rw [← Option.some.inj hj]
  simp [List.getD_eq_getElem?_getD, hj2]
end Go.Proofs.Ytfiecgijfolfbaa
