/- Copies on a disk: bytes.Clone, slices.Clip, a file's clone, a disk's clone. The walks. -/
import Derived.Test.YtkabcpmnbjllcaaDoorZi
import Derived.Test.YtkabcpmnbjllcaaDoorZf
import Derived.Test.YtkabcpmnbjllcaaDoorKK
import Derived.Deep.DeepCutAuto

namespace Go.Proofs.YtkabcpmnbjllcaaDoor
open Go.RowKit

theorem infoU8 : (Tryd.prog.info? 5).map (fun i => (i.zero, i.size, i.bytes)) = some (some (.int .u8 0), 1, 1) := by kernel_rfl
theorem elemU8 : ElemT Tryd.prog 47 5 1 1 := by
  obtain ⟨i, h1, h2, h3, h4⟩ := info_parts infoU8
  exact ⟨Tryd.underlying47, by decide, i, _, h1, h2, h3, h4, rfl⟩
/-- v is a slice of bytes of the call's own, in a block from base on. -/
def OwnU (w : World) (base : Nat) (v : Value) (l : List UInt8) : Prop := w.ownsRow base 5 1 v l.length (l.map byteV)
theorem OwnU.rd {w : World} {base : Nat} {v : Value} {l : List UInt8} (h : OwnU w base v l) : RdB w v l := own_rdl h
theorem OwnU.keep {w w' : World} {B : Nat} {v : Value} {l : List UInt8} (h : OwnU w B v l) (hb : Below w.heap.size w w') : OwnU w' B v l := own_keep h hb
theorem OwnU.lower {w : World} {B B' : Nat} {v : Value} {l : List UInt8} (h : OwnU w B v l) (hb : B' ≤ B) : OwnU w B' v l := World.ownsRow.mono h hb
theorem OwnU.of {w : World} {base n : Nat} {v : Value} {l : List UInt8} {xs : List Value} (h : w.ownsRow base 5 1 v n xs) (e : xs = l.map byteV) : OwnU w base v l := by
  subst e
  have : l.length = n := by have := h.1; rw [List.length_map] at this; omega
  unfold OwnU; rw [this]; exact h
theorem OwnU.form {w : World} {B : Nat} {v : Value} {l : List UInt8} (h : OwnU w B v l) : ∃ a cap, v = .slice a l.length cap ∧ l.length ≤ cap ∧ cap ≤ maxLen ∧ (a = none → cap = 0) := h.rd.shape0
set_option maxHeartbeats 400000 in
theorem bclone_any (v : Value) (l : List UInt8) (w : World) (h : RdB w v l) (hs : l.length ≤ 4000000) :
    Calls Tryd.prog 58 #[v] w fun e w' => ∃ v', e = .returned v' ∧ OwnU w' w.heap.size v' l ∧ Below w.heap.size w w' := by
  obtain ⟨a, cap, rfl, h1, h2, h3⟩ := h.shape0
  have q22 : ∀ (w : World) (a : Option Addr) (n c n' c' : Nat), (binOp .eql 47 (.slice a n c) (.slice none n' c')).run Tryd.prog w = .ok (.bool a.isNone) w := fun w a n c n' c' => Lib.run_eql_slice_nil w _ _ a n c n' c' Tryd.underlying47
  cases a with
  | none =>
    have h0 : l = [] := List.length_eq_zero_iff.1 (by have := h3 rfl; omega)
    subst h0
    clear h h3 h1 h2
    go_enter Tryd.func58, Tryd.ntmps58
    go_wp2_with fail
    go_ret
    exact ⟨_, rfl, World.ownsRow_nil _ _ _ _, Below.refl _ _⟩
  | some p =>
    have Hr := Lib.hid h
    clear h h3
    generalize hn : l.length = n at *
    have HN := Lib.hid hn
    clear hn
    go_enter Tryd.func58, Tryd.ntmps58
    go_wp2_with (at_builtin; go_must (refine wpList_app rfl (.tmp 5) (.tmp 6) 47 rfl elemU8 w.heap.size rfl (World.ownsRow_made (size := 1) _ #[] 0 (Nat.le_refl _) (by decide) rfl) rfl (show Rd _ 1 _ n (l.map byteV) from HN.out ▸ (Hr.out.alloc _)) (bytes_one l) (by unfold maxLen; omega) (by omega) (by simp) ?_); intro v3 w3 hown3 hgr3 hv3; clear hv3)
    have HB := Lib.hid (own_below ((Below.refl w.heap.size w).alloc (Nat.le_refl _) _) (World.ownsRow_made (e := 5) (size := 1) w #[] 0 (Nat.le_refl _) (by decide) rfl) (by simp) hgr3)
    have HO := Lib.hid (OwnU.of hown3 (List.nil_append _))
    clear hown3 hgr3
    go_wp2_with fail
    go_ret
    exact ⟨_, rfl, HO.out, HB.out⟩
/-- A row of writes of the call's own, its data the call's own. -/
structure OwnWs (w : World) (B : Nat) (v : Value) (es : List (Wr × Value)) : Prop where
  row : w.ownsRow B 95 3 v es.length (es.flatMap wrC)
  dat : ∀ p ∈ es, OwnU w B p.2 p.1.data
/-- A file of the call's own: its base and its writes. -/
structure OwnFi (w : World) (B : Nat) (p : Fil × Value × Value) : Prop where
  base : OwnU w B p.2.1 p.1.base
  pend : ∃ es : List (Wr × Value), es.map (·.1) = p.1.pend ∧ OwnWs w B p.2.2 es
theorem wr_one {w : World} {es : List (Wr × Value)} (h : ∀ p ∈ es, RdB w p.2 p.1.data) : ∀ u ∈ es.flatMap wrC, u.oneCell' = true := by
  intro u hu
  obtain ⟨p, hp, hu⟩ := List.mem_flatMap.1 hu
  obtain ⟨a, c, e, _⟩ := (h p hp).shape0
  simp only [wrC, List.mem_cons, List.not_mem_nil, or_false] at hu
  rcases hu with h | h | h
  · rw [h]; rfl
  · rw [h, e]; rfl
  · rw [h]; rfl
theorem fil_one {w : World} {es : List (Fil × Value × Value)} (h : ∀ p ∈ es, RdB w p.2.1 p.1.base) (h' : ∀ p ∈ es, RdW w p.2.2 p.1.pend) : ∀ u ∈ es.flatMap filC, u.oneCell' = true := by
  intro u hu
  obtain ⟨p, hp, hu⟩ := List.mem_flatMap.1 hu
  obtain ⟨a, c, e, _⟩ := (h p hp).shape0
  obtain ⟨a', c', e', _⟩ := (h' p hp).shape
  simp only [filC, List.mem_cons, List.not_mem_nil, or_false] at hu
  rcases hu with h | h | h
  · rw [h]; rfl
  · rw [h, e]; rfl
  · rw [h, e']; rfl
/-- What stays a row of the call's own. -/
def uS (B : Nat) (l : List UInt8) : Sta := ⟨fun v w => OwnU w B v l, fun _ _ _ hb h => h.keep hb⟩
def rowS (B : Nat) (T : TypeId) (sz n : Nat) (xs : List Value) : Sta := ⟨fun v w => w.ownsRow B T sz v n xs, fun _ _ _ hb h => own_keep h hb⟩
theorem own_set_ne {w : World} {B : Nat} {e : TypeId} {sz n : Nat} {v : Value} {xs : List Value} {p : Addr} (h : w.ownsRow B e sz v n xs) (hne : v.ownBlock ≠ some p.block) (u : Value) : (w.setCell p u).ownsRow B e sz v n xs := by
  refine ⟨h.1, ?_⟩
  rcases h.2 with h0 | ⟨g, cap, cur, rfl, hb, hg, rest⟩
  · exact .inl h0
  · refine .inr ⟨g, cap, cur, rfl, hb, ?_, rest⟩
    rw [Below.heap_setCell w p u g (fun e => hne (by rw [← e]; rfl))]; exact hg
theorem own_above {w : World} {B b : Nat} {e : TypeId} {sz n : Nat} {v : Value} {xs : List Value} (h : w.ownsRow B e sz v n xs) (hb : b < B) : v.ownBlock ≠ some b := fun e => by have := (h.lt b e).1; omega
/-- A file in the cells of block b. -/
structure BoxF (w : World) (b : Nat) (nm : ByteArray) (bv pv : Value) : Prop where
  c0 : w.cell? ⟨b, 0, none⟩ = some (.string nm)
  c1 : w.cell? ⟨b, 1, none⟩ = some bv
  c2 : w.cell? ⟨b, 2, none⟩ = some pv
  f : ∀ i, w.frozen? ⟨b, i, none⟩ = false
theorem BoxF.lt {w : World} {b : Nat} {nm : ByteArray} {bv pv : Value} (h : BoxF w b nm bv pv) : b < w.heap.size := World.block_lt_of_cell? w _ h.c0
theorem BoxF.below {w w' : World} {b : Nat} {nm : ByteArray} {bv pv : Value} (h : BoxF w b nm bv pv) (hb : Below w.heap.size w w') : BoxF w' b nm bv pv := ⟨Below.keeps hb _ _ h.c0, Below.keeps hb _ _ h.c1, Below.keeps hb _ _ h.c2, fun i => (hb.frozen (p := ⟨b, i, none⟩) h.lt).trans (h.f i)⟩
theorem cell_set_ne {w : World} {b i : Nat} {p : Addr} {x : Value} (h : w.cell? ⟨b, i, none⟩ = some x) (hne : b ≠ p.block) (u : Value) : (w.setCell p u).cell? ⟨b, i, none⟩ = some x :=
  (World.cell?_setCell_other (h := fun e => hne (by rw [e])) ..).trans h
theorem cell_set_off {w : World} {b i k : Nat} {x : Value} (h : w.cell? ⟨b, i, none⟩ = some x) (hne : i ≠ k) (u : Value) : (w.setCell ⟨b, k, none⟩ u).cell? ⟨b, i, none⟩ = some x :=
  (World.cell?_setCell_other (h := fun e => hne (by injection e with _ e2 _; exact e2.symm)) ..).trans h
theorem cell_set_same {w : World} {b i : Nat} {x : Value} (h : w.cell? ⟨b, i, none⟩ = some x) (u : Value) : (w.setCell ⟨b, i, none⟩ u).cell? ⟨b, i, none⟩ = some u := by simp [go_sem, h]
theorem BoxF.set_ne {w : World} {b : Nat} {nm : ByteArray} {bv pv : Value} {p : Addr} (h : BoxF w b nm bv pv) (hne : b ≠ p.block) (u : Value) : BoxF (w.setCell p u) b nm bv pv := ⟨cell_set_ne h.c0 hne u, cell_set_ne h.c1 hne u, cell_set_ne h.c2 hne u, fun i => by rw [← h.f i]; simp⟩
theorem BoxF.set1 {w : World} {b : Nat} {nm : ByteArray} {bv pv : Value} (h : BoxF w b nm bv pv) (u : Value) : BoxF (w.setCell ⟨b, 1, none⟩ u) b nm u pv := ⟨cell_set_off h.c0 (by decide) u, cell_set_same h.c1 u, cell_set_off h.c2 (by decide) u, fun i => by rw [← h.f i]; simp⟩
theorem BoxF.set2 {w : World} {b : Nat} {nm : ByteArray} {bv pv : Value} (h : BoxF w b nm bv pv) (u : Value) : BoxF (w.setCell ⟨b, 2, none⟩ u) b nm bv u := ⟨cell_set_off h.c0 (by decide) u, cell_set_off h.c1 (by decide) u, cell_set_same h.c2 u, fun i => by rw [← h.f i]; simp⟩
theorem BoxF.set0 {w : World} {b : Nat} {nm nm' : ByteArray} {bv pv : Value} (h : BoxF w b nm bv pv) : BoxF (w.setCell ⟨b, 0, none⟩ (.string nm')) b nm' bv pv := ⟨cell_set_same h.c0 _, cell_set_off h.c1 (by decide) _, cell_set_off h.c2 (by decide) _, fun i => by rw [← h.f i]; simp⟩
theorem flat_set3 {α : Type} (f : α → List Value) (hf : ∀ x, (f x).length = 3) : ∀ (es : List α) (k i : Nat) (u : Value) (y : α), k < es.length → i < 3 → (∀ x, es[k]? = some x → f y = (f x).set i u) → (es.flatMap f).set (k * 3 + i) u = (es.set k y).flatMap f
  | [], _, _, _, _, h, _, _ => by simp at h
  | x :: r, 0, i, u, y, _, hi, hy => by
    have e := hy x rfl
    simp only [List.flatMap_cons, List.set_cons_zero, Nat.zero_mul, Nat.zero_add]
    rw [List.set_append_left _ _ (by rw [hf]; exact hi), e]
  | x :: r, k + 1, i, u, y, h, hi, hy => by
    have ih := flat_set3 f hf r k i u y (by simpa using h) hi (fun z hz => hy z (by simpa using hz))
    simp only [List.flatMap_cons, List.set_cons_succ]
    rw [List.set_append_right _ _ (by rw [hf]; omega), hf, ← ih]
    congr 2
    omega
structure BoxV (w : World) (b : Nat) (v : Value) : Prop where
  c1 : w.cell? ⟨b, 1, none⟩ = some v
/-- The writes of a file on the way to be copied: the first k have data of their own. -/
structure CopyW (W : World) (B : Nat) (v : Value) (es es' : List (Wr × Value)) (k : Nat) : Prop where
  row : W.ownsRow B 95 3 v es.length (es'.flatMap wrC)
  fst : es'.map (·.1) = es.map (·.1)
  new : ∀ j, j < k → OwnU W B (es'.getD j (wr0, .slice none 0 0)).2 (es'.getD j (wr0, .slice none 0 0)).1.data
  old : ∀ j, k ≤ j → es'.getD j (wr0, .slice none 0 0) = es.getD j (wr0, .slice none 0 0)
theorem CopyW.len {W : World} {B : Nat} {v : Value} {es es' : List (Wr × Value)} {k : Nat} (h : CopyW W B v es es' k) : es'.length = es.length := by
  have := congrArg List.length h.fst
  simpa using this
theorem CopyW.below {W W' : World} {B : Nat} {v : Value} {es es' : List (Wr × Value)} {k : Nat} (h : CopyW W B v es es' k) (hb : Below W.heap.size W W') : CopyW W' B v es es' k := ⟨own_keep h.row hb, h.fst, fun j hj => (h.new j hj).keep hb, h.old⟩
theorem CopyW.set_ne {W : World} {B b : Nat} {v : Value} {es es' : List (Wr × Value)} {k i : Nat} (h : CopyW W B v es es' k) (hb : b < B) (u : Value) : CopyW (W.setCell ⟨b, i, none⟩ u) B v es es' k :=
  ⟨own_set_ne (p := ⟨b, i, none⟩) h.row (own_above h.row hb) u, h.fst, fun j hj => own_set_ne (p := ⟨b, i, none⟩) (h.new j hj) (own_above (h.new j hj) hb) u, h.old⟩
theorem CopyW.step {W : World} {B g n cap : Nat} {es es' : List (Wr × Value)} {k : Nat} (h : CopyW W B (.slice (some ⟨g, 0, none⟩) n cap) es es' k) (hk : k < es.length) {v : Value} (hv : OwnU W B v (watW (es.map (·.1)) k).data) (hn : n = es.length) :
    CopyW (W.setCell ⟨g, k * 3 + 1, none⟩ v) B (.slice (some ⟨g, 0, none⟩) n cap) es (es'.set k (watW (es.map (·.1)) k, v)) (k + 1) := by
  subst hn
  have hl := h.len
  have hw : watW (es.map (·.1)) k = (es'.getD k (wr0, .slice none 0 0)).1 := by
    rw [h.old k (Nat.le_refl _)]; exact getD_map (fun p : Wr × Value => p.1) es k (wr0, .slice none 0 0) wr0 hk
  have hst := h.row.stored (k * 3 + 1) v
  have hown : ∀ {u : Value} {l : List UInt8}, OwnU W B u l → OwnU (W.setCell ⟨g, k * 3 + 1, none⟩ v) B u l := fun {u l} hu => by
    refine own_set_ne (p := ⟨g, k * 3 + 1, none⟩) hu ?_ v
    rcases own_ne hu h.row (by decide) with e | e
    · rw [e]; simp
    · exact e
  have hget : ∀ j, (es'.set k (watW (es.map (·.1)) k, v)).getD j (wr0, .slice none 0 0) = if j = k then (watW (es.map (·.1)) k, v) else es'.getD j (wr0, .slice none 0 0) := fun j => by
    rw [List.getD_eq_getElem?_getD, List.getElem?_set]
    by_cases e : k = j
    · subst e; simp [hl, hk]
    · rw [if_neg e, if_neg (fun e' => e e'.symm), List.getD_eq_getElem?_getD]
  refine ⟨?_, ?_, fun j hj => ?_, fun j hj => ?_⟩
  · rw [← flat_set3 wrC (fun _ => rfl) es' k 1 v (watW (es.map (·.1)) k, v) (by omega) (by decide) (fun x hx => ?_)]
    · exact hst.1
    · rw [hw, List.getD_eq_getElem?_getD, hx]; rfl
  · rw [List.map_set, h.fst]
    refine List.ext_getElem? fun i => ?_
    rw [List.getElem?_set]
    by_cases e : k = i
    · subst e
      have hk' : k < (es.map (·.1)).length := by simpa using hk
      rw [if_pos rfl, if_pos hk', List.getElem?_eq_getElem hk']
      unfold watW
      rw [List.getD_eq_getElem?_getD, List.getElem?_eq_getElem hk']; rfl
    · rw [if_neg e]
  · rw [hget]
    by_cases e : j = k
    · rw [if_pos e]; exact hown hv
    · rw [if_neg e]; exact hown (h.new j (by omega))
  · rw [hget, if_neg (by omega)]; exact h.old j (by omega)
theorem own_frozen {w : World} {B : Nat} {e : TypeId} {sz n cap g : Nat} {xs : List Value} (h : w.ownsRow B e sz (.slice (some ⟨g, 0, none⟩) n cap) n xs) (i : Nat) : w.frozen? ⟨g, i, none⟩ = false := by
  rcases h.2 with ⟨e, _⟩ | ⟨g', c2, cur, h', hb, hg, _⟩
  · cases e
  · injection h' with h' _ _
    injection h' with h'
    injection h' with h' _
    subst h'
    simp [World.frozen?, hg]
theorem own_some {w : World} {B : Nat} {e : TypeId} {sz n cap : Nat} {a : Option Addr} {xs : List Value} (h : w.ownsRow B e sz (.slice a n cap) n xs) (hn : 0 < n) : ∃ g, a = some ⟨g, 0, none⟩ ∧ B ≤ g ∧ g < w.heap.size := by
  rcases h.2 with ⟨e, h0⟩ | ⟨g, _, cur, e, hb, hg, _⟩
  · omega
  · injection e with e _ _
    exact ⟨g, e, hb, (Array.getElem?_eq_some_iff.1 hg).1⟩
theorem CopyW.at {W : World} {B n cap : Nat} {a : Option Addr} {es es' : List (Wr × Value)} {k : Nat} (h : CopyW W B (.slice a n cap) es es' k) (hk : k < n) (hn : n = es.length) : ∃ g, a = some ⟨g, 0, none⟩ ∧ B ≤ g ∧ g < W.heap.size ∧
    W.cell? ⟨g, k * 3, none⟩ = some (.int .i64 (watW (es.map (·.1)) k).off) ∧ W.cell? ⟨g, k * 3 + 1, none⟩ = some (es.getD k (wr0, .slice none 0 0)).2 ∧ W.cell? ⟨g, k * 3 + 2, none⟩ = some (.bool (watW (es.map (·.1)) k).cut) ∧ ∀ i, W.frozen? ⟨g, i, none⟩ = false := by
  subst hn
  obtain ⟨g, rfl, hB, hlt⟩ := own_some h.row (by omega)
  have hw : watW (es.map (·.1)) k = (es.getD k (wr0, .slice none 0 0)).1 := getD_map (fun p : Wr × Value => p.1) es k (wr0, .slice none 0 0) wr0 hk
  have hl := h.len
  have hS : RdS 3 wrC W _ es' := own_rds (fun _ _ => rfl) (by decide) h.row
  obtain ⟨_, _, e, _, _, _, hc⟩ := hS.shape (by decide) (wr0, .slice none 0 0)
  injection e with e1 e2 e3
  obtain ⟨b, off, e4, hc⟩ := hc (by omega)
  rw [← e1] at e4
  injection e4 with e4
  injection e4 with e5 e6
  subst e5 e6
  have ho := h.old k (Nat.le_refl _)
  have c := hc k (by omega)
  rw [ho] at c
  rw [hw]
  simp only [Nat.zero_add] at c
  exact ⟨g, rfl, hB, hlt, c 0 _ rfl, c 1 _ rfl, c 2 _ rfl, own_frozen h.row⟩
theorem CopyW.done {W : World} {B : Nat} {v : Value} {es es' : List (Wr × Value)} (h : CopyW W B v es es' es.length) : ∃ es' : List (Wr × Value), es'.map (·.1) = es.map (·.1) ∧ OwnWs W B v es' := by
  refine ⟨es', h.fst, by rw [h.len]; exact h.row, fun p hp => ?_⟩
  obtain ⟨j, hj, rfl⟩ := List.getElem_of_mem hp
  have := h.new j (by rw [← h.len]; exact hj)
  rw [List.getD_eq_getElem?_getD, List.getElem?_eq_getElem hj] at this
  exact this
theorem CopyW.start {W : World} {B : Nat} {v : Value} {es : List (Wr × Value)} {n : Nat} (h : W.ownsRow B 95 3 v n (es.flatMap wrC)) (hn : n = es.length) : CopyW W B v es es 0 := ⟨hn ▸ h, rfl, fun j hj => absurd hj (by omega), fun _ _ => rfl⟩
theorem OwnU.set_ne {w : World} {B : Nat} {v : Value} {l : List UInt8} {p : Addr} (h : OwnU w B v l) (hb : p.block < B) (u : Value) : OwnU (w.setCell p u) B v l := own_set_ne h (own_above h hb) u
theorem CopyW.lower {W : World} {B B' : Nat} {v : Value} {es es' : List (Wr × Value)} {k : Nat} (h : CopyW W B v es es' k) (hb : B' ≤ B) : CopyW W B' v es es' k := ⟨World.ownsRow.mono h.row hb, h.fst, fun j hj => (h.new j hj).lower hb, h.old⟩
theorem BoxF.copied {W : World} {b B w0 : Nat} {nm0 nm' : ByteArray} {bv0 pv0 : Value} (_ : BoxF W (b + 1) nm0 bv0 pv0) (bv pv : Value) {f : Fil} (hb : b + 2 = B ∧ w0 ≤ b) {es es' : List (Wr × Value)} (hU : OwnU W B bv f.base) (hC : CopyW W B pv es es' es.length) (he : es.map (·.1) = f.pend) :
    OwnFi (((W.setCell ⟨b + 1, 0, none⟩ (.string nm')).setCell ⟨b + 1, 1, none⟩ bv).setCell ⟨b + 1, 2, none⟩ pv) w0 (f, bv, pv) := by
  have h1 := ((hU.set_ne (p := ⟨b + 1, 0, none⟩) (by dsimp only; omega) (.string nm')).set_ne (p := ⟨b + 1, 1, none⟩) (by dsimp only; omega) bv).set_ne (p := ⟨b + 1, 2, none⟩) (by dsimp only; omega) pv
  have h2 := ((hC.set_ne (b := b + 1) (i := 0) (by omega) (.string nm')).set_ne (b := b + 1) (i := 1) (by omega) bv).set_ne (b := b + 1) (i := 2) (by omega) pv
  obtain ⟨es2, e2, h3⟩ := (h2.lower (B' := w0) (by omega)).done
  exact ⟨h1.lower (by omega), es2, e2.trans he, h3⟩
set_option maxHeartbeats 800000 in
theorem fileclone_any (p : Fil × Value × Value) (w : World) (hb : RdB w p.2.1 p.1.base) (hp : RdW w p.2.2 p.1.pend) (hl : LiteF p.1) :
    Calls Tryd.prog 78 #[filVal p.1.name p.2.1 p.2.2] w fun e w' => ∃ bv pv, e = .returned (filVal p.1.name bv pv) ∧ OwnFi w' w.heap.size (p.1, bv, pv) ∧ Below w.heap.size w w' := by
  obtain ⟨⟨nm, base, ws⟩, bv, pv⟩ := p
  dsimp only at *
  obtain ⟨es, hes, hE⟩ := hp
  obtain ⟨ba, bc, rfl, hb1, hb2, hb3⟩ := hb.shape0
  obtain ⟨pa, pc, rfl, hp1, hp2, hp3, _⟩ := hE.row.shape (by decide) (wr0, .slice none 0 0)
  have HBc := Lib.hid (fun W (hW : Below w.heap.size w W) => bclone_any _ base W (hb.below hW) (by have := hl.base; dsimp only at this; omega))
  have HPc := Lib.hid (fun W (hW : Below w.heap.size w W) => wclone_any _ _ _ W (Rd.below hE.row.2 hW) (by have := hl.pend; dsimp only at this; rw [← hes, List.length_map] at this; omega) (wr_one hE.dat))
  have HDc := Lib.hid (show ∀ j, j < es.length → ∀ W, Below w.heap.size w W → Calls Tryd.prog 58 #[(es.getD j (wr0, .slice none 0 0)).2] W fun e w' => ∃ v', e = .returned v' ∧ OwnU w' W.heap.size v' (watW (es.map (·.1)) j).data ∧ Below W.heap.size W w' from fun j hj W hW => by
    have hm := getD_mem es j (wr0, .slice none 0 0) hj
    have e : watW (es.map (·.1)) j = (es.getD j (wr0, .slice none 0 0)).1 := getD_map (fun p : Wr × Value => p.1) es j (wr0, .slice none 0 0) wr0 hj
    rw [e]
    exact bclone_any _ _ W ((hE.dat _ hm).below hW) (by have := (hl.wr _ (show (es.getD j (wr0, .slice none 0 0)).1 ∈ ws by rw [← hes]; exact List.mem_map_of_mem hm)).data; omega))
  have Hds := Lib.hid (show ∀ j, j < es.length → ∃ a c, (es.getD j (wr0, .slice none 0 0)).2 = .slice a (watW (es.map (·.1)) j).data.length c from fun j hj => by
    have hm := getD_mem es j (wr0, .slice none 0 0) hj
    have e : watW (es.map (·.1)) j = (es.getD j (wr0, .slice none 0 0)).1 := getD_map (fun p : Wr × Value => p.1) es j (wr0, .slice none 0 0) wr0 hj
    obtain ⟨a, c, e2, _⟩ := (hE.dat _ hm).shape0
    exact ⟨a, c, by rw [e]; exact e2⟩)
  have Hes := Lib.hid hes
  clear hes hb hE hb3 hp3 hl
  generalize hbl : base.length = bl at *
  have Hbl := Lib.hid hbl
  clear hbl
  generalize hn : es.length = n at *
  have HN := Lib.hid hn
  clear hn
  unfold maxLen at hp2
  go_enter Tryd.func78, Tryd.ntmps78
  go_upto_region 1 with fail
  have hW0 : Below w.heap.size w ((w.alloc (.cells #[.string (strB nm), .slice ba bl bc, .slice pa n pc] 69)).alloc (.cells #[.string ⟨#[]⟩, .slice none 0 0, .slice none 0 0] 69)) := ((Below.refl _ _).alloc (Nat.le_refl _) _).alloc (by simp) _
  have X := Lib.hid (show BoxF ((w.alloc (.cells #[.string (strB nm), .slice ba bl bc, .slice pa n pc] 69)).alloc (.cells #[.string ⟨#[]⟩, .slice none 0 0, .slice none 0 0] 69)) w.heap.size (strB nm) (.slice ba bl bc) (.slice pa n pc) from ⟨by simp, by simp, by simp, fun i => by simp⟩)
  have R := Lib.hid (show BoxF ((w.alloc (.cells #[.string (strB nm), .slice ba bl bc, .slice pa n pc] 69)).alloc (.cells #[.string ⟨#[]⟩, .slice none 0 0, .slice none 0 0] 69)) (w.heap.size + 1) ⟨#[]⟩ (.slice none 0 0) (.slice none 0 0) from ⟨by simp, by simp, by simp, fun i => by simp⟩)
  have hBB : w.heap.size + 2 ≤ ((w.alloc (.cells #[.string (strB nm), .slice ba bl bc, .slice pa n pc] 69)).alloc (.cells #[.string ⟨#[]⟩, .slice none 0 0, .slice none 0 0] 69)).heap.size := by simp
  generalize (w.alloc (.cells #[.string (strB nm), .slice ba bl bc, .slice pa n pc] 69)).alloc (.cells #[.string ⟨#[]⟩, .slice none 0 0, .slice none 0 0] 69) = W0 at *
  have HW0 := Lib.hid hW0
  have HB0 := Lib.hid (fun W (h : Below W0.heap.size W0 W) => HBc.out W (bstep hW0 h))
  have HP0 := Lib.hid (fun W (h : Below W0.heap.size W0 W) => HPc.out W (bstep hW0 h))
  clear hW0
  obtain ⟨b, hbe⟩ : ∃ b, w.heap.size = b := ⟨_, rfl⟩
  obtain ⟨B, hBe⟩ : ∃ B, b + 2 = B := ⟨_, rfl⟩
  have hbw : w.heap.size ≤ b := by omega
  have hb' : b < B := by omega
  rw [hbe] at X R hBB ⊢
  rw [hBe] at hBB
  go_cut [7] (fun _ wx => ∃ (m : Nat) (a1 a2 : Option Addr) (k1 k2 : Nat), m = base.length ∧ Hid (BoxF wx b (strB nm) (.slice a1 m k1) (.slice a2 n k2)) ∧ Hid (BoxF wx (b + 1) ⟨#[]⟩ (.slice none 0 0) (.slice none 0 0)) ∧ Hid (OwnU wx B (.slice a1 m k1) base) ∧ Hid (wx.ownsRow B 95 3 (.slice a2 n k2) n (es.flatMap wrC)) ∧ Hid (Below w.heap.size w wx))
  case first =>
    refine wp_region_rel [eqS (.pointer (some ⟨b, 1, none⟩)), eqS (.slice ba bl bc), uS B base, eqS (.pointer (some ⟨b, 2, none⟩)), eqS (.slice pa n pc), rowS B 95 3 n (es.flatMap wrC), eqS (.pointer (some ⟨b, 1, none⟩))] [] 31 (by kernel_rfl) (by kernel_rfl) (by rfl) (by kernel_rfl) (fun f => by simp [frm, dstOf, Act.put]; exact rfl) ?_ ?_
    · refine ⟨?_, ?_, ?_, ?_, ?_, ?_, ?_, trivial⟩
      · intro f w1 hb hd
        clear hd
        dsimp only
        go_wp2_with fail
        exact ⟨rfl, Below.refl _ _, fun t ht => by injection ht with ht; subst ht; exact ⟨rfl, fun h => by simp at h⟩⟩
      · intro f w1 hb hd
        have d0 : f 0 = .pointer (some ⟨b, 1, none⟩) := hd 0 (by kernel_rfl)
        clear hd
        dsimp only
        rw [d0]
        have c := Below.keeps hb _ _ X.out.c1
        go_wp2_with fail
        exact ⟨rfl, Below.refl _ _, fun t ht => by injection ht with ht; subst ht; exact ⟨rfl, fun h => by simp at h⟩⟩
      · intro f w1 hb hd
        have d1 : f 1 = .slice ba bl bc := hd 1 (by kernel_rfl)
        clear hd
        dsimp only
        rw [d1]
        go_wp2_with fail
        ((with_reducible refine (HB0.out w1 hb).mono ?_); rintro e w2 ⟨v, rfl, ho, hbe⟩)
        go_wp2_with fail
        exact ⟨rfl, hbe, fun t ht => by injection ht with ht; subst ht; exact ⟨ho.lower (Nat.le_trans hBB hb.size), fun h => by simp at h⟩⟩
      · intro f w1 hb hd
        clear hd
        dsimp only
        go_wp2_with fail
        exact ⟨rfl, Below.refl _ _, fun t ht => by injection ht with ht; subst ht; exact ⟨rfl, fun h => by simp at h⟩⟩
      · intro f w1 hb hd
        have d3 : f 3 = .pointer (some ⟨b, 2, none⟩) := hd 3 (by kernel_rfl)
        clear hd
        dsimp only
        rw [d3]
        have c := Below.keeps hb _ _ X.out.c2
        go_wp2_with fail
        exact ⟨rfl, Below.refl _ _, fun t ht => by injection ht with ht; subst ht; exact ⟨rfl, fun h => by simp at h⟩⟩
      · intro f w1 hb hd
        have d4 : f 4 = .slice pa n pc := hd 4 (by kernel_rfl)
        clear hd
        dsimp only
        rw [d4]
        go_wp2_with fail
        ((with_reducible refine (HP0.out w1 hb).mono ?_); rintro e w2 ⟨v, rfl, ho, hbe⟩)
        go_wp2_with fail
        exact ⟨rfl, hbe, fun t ht => by injection ht with ht; subst ht; exact ⟨World.ownsRow.mono ho (Nat.le_trans hBB hb.size), fun h => by simp at h⟩⟩
      · intro f w1 hb hd
        clear hd
        dsimp only
        go_wp2_with fail
        exact ⟨rfl, Below.refl _ _, fun t ht => by injection ht with ht; subst ht; exact ⟨rfl, fun h => by simp at h⟩⟩
    · intro f w1 hb hA _
      have d0 : f 0 = .pointer (some ⟨b, 1, none⟩) := hA 0 (show 0 < 7 by decide)
      have d1 : f 1 = .slice ba bl bc := hA 1 (show 1 < 7 by decide)
      have d2 := hA 2 (show 2 < 7 by decide)
      have d3 : f 3 = .pointer (some ⟨b, 2, none⟩) := hA 3 (show 3 < 7 by decide)
      have d4 : f 4 = .slice pa n pc := hA 4 (show 4 < 7 by decide)
      have d5 := hA 5 (show 5 < 7 by decide)
      have d6 : f 6 = .pointer (some ⟨b, 1, none⟩) := hA 6 (show 6 < 7 by decide)
      clear hA
      try dsimp only at *
      rw [d0]
      rw [d1]
      rw [d3]
      rw [d4]
      rw [d6]
      clear d0 d1 d3 d4 d6
      have hX := X.out.below hb
      have hR := R.out.below hb
      have hBw := bstep HW0.out hb
      have hBs := Nat.le_trans hBB hb.size
      obtain ⟨a1, k1, e1, _, _, _⟩ := OwnU.form d2
      obtain ⟨a2, k2, e2, _, _, _⟩ := own_form d5
      rw [e1, e2]
      rw [e1] at d2
      rw [e2] at d5
      have hX2 := (hX.set1 (.slice a1 base.length k1)).set2 (.slice a2 n k2)
      have hR2 := (hR.set_ne (p := ⟨b, 1, none⟩) (by dsimp only; omega) (.slice a1 base.length k1)).set_ne (p := ⟨b, 2, none⟩) (by dsimp only; omega) (.slice a2 n k2)
      have hU : OwnU _ B _ base := own_set_ne (p := ⟨b, 2, none⟩) (own_set_ne (p := ⟨b, 1, none⟩) d2 (own_above d2 hb') (.slice a1 base.length k1)) (own_above (own_set_ne (p := ⟨b, 1, none⟩) d2 (own_above d2 hb') (.slice a1 base.length k1)) hb') (.slice a2 n k2)
      have hP := own_set_ne (p := ⟨b, 2, none⟩) (own_set_ne (p := ⟨b, 1, none⟩) d5 (own_above d5 hb') (.slice a1 base.length k1)) (own_above (own_set_ne (p := ⟨b, 1, none⟩) d5 (own_above d5 hb') (.slice a1 base.length k1)) hb') (.slice a2 n k2)
      have hBw2 := (hBw.setCell (p := ⟨b, 1, none⟩) hbw (.slice a1 base.length k1)).setCell (p := ⟨b, 2, none⟩) hbw (.slice a2 n k2)
      have c1 := hX.c1
      have c2 := hX.c2
      have z1 := hX.f 1
      have z2 := hX.f 2
      go_wp2_with fail
      go_meet
      case rel => exact ⟨base.length, _, _, _, _, rfl, Lib.hid hX2, Lib.hid hR2, Lib.hid hU, Lib.hid hP, Lib.hid hBw2⟩
  case rest =>
    obtain ⟨m, a1, a2, k1, k2, hm, X1, R1, U1, P1, HB1⟩ := hcut
    generalize hwc : wc = w4 at *
    clear hwc
    clear X R HBc HPc HB0 HP0 HW0 hBB hb1
    have c2 := X1.out.c2
    go_wp2_with fail
    go_loopw [16] (fun iv W => ∃ (k : Nat) (es' : List (Wr × Value)), k ≤ n ∧ iv = .int .i64 (k : Int) ∧ Hid (CopyW W B (.slice a2 n k2) es es' k) ∧ Hid (BoxF W b (strB nm) (.slice a1 m k1) (.slice a2 n k2)) ∧ Hid (BoxF W (b + 1) ⟨#[]⟩ (.slice none 0 0) (.slice none 0 0)) ∧ Hid (OwnU W B (.slice a1 m k1) base) ∧ Hid (Below w.heap.size w W)) (fun iv _ => n - (intOf iv).toNat)
    case atStart => exact ⟨0, es, Nat.zero_le _, rfl, Lib.hid (CopyW.start P1.out HN.out.symm), X1, R1, U1, HB1⟩
    case round =>
      obtain ⟨k, es', hk, rfl, C, X, R, U, HB⟩ := hrel
      by_cases hlt : k < n
      · have i1 : (k : Int) < (n : Int) := by omega
        obtain ⟨g, rfl, hgB, hgl, c0, c1, c2, hfz⟩ := C.out.at hlt HN.out.symm
        obtain ⟨da, dc, hde⟩ := Hds.out k hlt
        have HDk := Lib.hid (fun W hW => HDc.out k hlt W hW)
        rw [hde] at c1 HDk
        have HNk := Lib.hid (show k < es.length by rw [HN.out]; exact hlt)
        clear hde
        go_upto_region 5 with fail
        have HV := Lib.hid (show BoxV (wr.alloc (.cells #[.int .i64 (watW (es.map (·.1)) k).off, .slice da (watW (es.map (·.1)) k).data.length dc, .bool (watW (es.map (·.1)) k).cut] 95)) wr.heap.size (.slice da (watW (es.map (·.1)) k).data.length dc) from ⟨by simp⟩)
        have hbq : Below wr.heap.size wr (wr.alloc (.cells #[.int .i64 (watW (es.map (·.1)) k).off, .slice da (watW (es.map (·.1)) k).data.length dc, .bool (watW (es.map (·.1)) k).cut] 95)) := (Below.refl _ _).alloc (Nat.le_refl _) _
        replace C := Lib.hid (C.out.below hbq)
        replace X := Lib.hid (X.out.below hbq)
        replace R := Lib.hid (R.out.below hbq)
        replace U := Lib.hid (U.out.keep hbq)
        replace HB := Lib.hid (bstep HB.out hbq)
        have hBr : B ≤ (wr.alloc (.cells #[.int .i64 (watW (es.map (·.1)) k).off, .slice da (watW (es.map (·.1)) k).data.length dc, .bool (watW (es.map (·.1)) k).cut] 95)).heap.size := Nat.le_trans (by omega) hbq.size
        clear c0 c1 c2 hfz hbq hgl
        generalize wr.alloc (.cells #[.int .i64 (watW (es.map (·.1)) k).off, .slice da (watW (es.map (·.1)) k).data.length dc, .bool (watW (es.map (·.1)) k).cut] 95) = W5 at *
        generalize wr.heap.size = q at *
        refine wp_region_rel [eqS (.pointer (some ⟨b, 2, none⟩)), eqS (.slice (some ⟨g, 0, none⟩) n k2), eqS (.int .i64 (k : Int)), eqS (.pointer (some ⟨q, 1, none⟩)), eqS (.slice da (watW (es.map (·.1)) k).data.length dc), uS B (watW (es.map (·.1)) k).data, eqS (.pointer (some ⟨g, k * 3, none⟩)), eqS (.pointer (some ⟨g, k * 3 + 1, none⟩))] [] 31 (by kernel_rfl) (by kernel_rfl) (by rfl) (by kernel_rfl) (fun f => by simp [frm, dstOf, Act.put]; exact rfl) ?_ ?_
        · refine ⟨?_, ?_, ?_, ?_, ?_, ?_, ?_, ?_, trivial⟩
          · intro f w1 hb hd
            clear hd
            dsimp only
            go_wp2_with fail
            exact ⟨rfl, Below.refl _ _, fun t ht => by injection ht with ht; subst ht; exact ⟨rfl, fun h => by simp at h⟩⟩
          · intro f w1 hb hd
            have d0 : f 0 = .pointer (some ⟨b, 2, none⟩) := hd 0 (by kernel_rfl)
            clear hd
            dsimp only
            rw [d0]
            have c := Below.keeps hb _ _ X.out.c2
            go_wp2_with fail
            exact ⟨rfl, Below.refl _ _, fun t ht => by injection ht with ht; subst ht; exact ⟨rfl, fun h => by simp at h⟩⟩
          · intro f w1 hb hd
            clear hd
            dsimp only
            go_wp2_with fail
            exact ⟨rfl, Below.refl _ _, fun t ht => by injection ht with ht; subst ht; exact ⟨rfl, fun h => by simp at h⟩⟩
          · intro f w1 hb hd
            clear hd
            dsimp only
            go_wp2_with fail
            exact ⟨rfl, Below.refl _ _, fun t ht => by injection ht with ht; subst ht; exact ⟨rfl, fun h => by simp at h⟩⟩
          · intro f w1 hb hd
            have d3 : f 3 = .pointer (some ⟨q, 1, none⟩) := hd 3 (by kernel_rfl)
            clear hd
            dsimp only
            rw [d3]
            have c := Below.keeps hb _ _ HV.out.c1
            go_wp2_with fail
            exact ⟨rfl, Below.refl _ _, fun t ht => by injection ht with ht; subst ht; exact ⟨rfl, fun h => by simp at h⟩⟩
          · intro f w1 hb hd
            have d4 : f 4 = .slice da (watW (es.map (·.1)) k).data.length dc := hd 4 (by kernel_rfl)
            clear hd
            dsimp only
            rw [d4]
            go_wp2_with fail
            ((with_reducible refine (HDk.out w1 (bstep HB.out hb)).mono ?_); rintro e w2 ⟨v, rfl, ho, hbe⟩)
            go_wp2_with fail
            exact ⟨rfl, hbe, fun t ht => by injection ht with ht; subst ht; exact ⟨ho.lower (Nat.le_trans hBr hb.size), fun h => by simp at h⟩⟩
          · intro f w1 hb hd
            have d1 : f 1 = .slice (some ⟨g, 0, none⟩) n k2 := hd 1 (by kernel_rfl)
            have d2 : f 2 = .int .i64 (k : Int) := hd 2 (by kernel_rfl)
            clear hd
            dsimp only
            rw [d1]
            rw [d2]
            go_wp2_with fail
            exact ⟨rfl, Below.refl _ _, fun t ht => by injection ht with ht; subst ht; exact ⟨rfl, fun h => by simp at h⟩⟩
          · intro f w1 hb hd
            have d6 : f 6 = .pointer (some ⟨g, k * 3, none⟩) := hd 6 (by kernel_rfl)
            clear hd
            dsimp only
            rw [d6]
            go_wp2_with fail
            exact ⟨rfl, Below.refl _ _, fun t ht => by injection ht with ht; subst ht; exact ⟨rfl, fun h => by simp at h⟩⟩
        · intro f w1 hb hA _
          have d0 : f 0 = .pointer (some ⟨b, 2, none⟩) := hA 0 (show 0 < 8 by decide)
          have d1 : f 1 = .slice (some ⟨g, 0, none⟩) n k2 := hA 1 (show 1 < 8 by decide)
          have d2 : f 2 = .int .i64 (k : Int) := hA 2 (show 2 < 8 by decide)
          have d3 : f 3 = .pointer (some ⟨q, 1, none⟩) := hA 3 (show 3 < 8 by decide)
          have d4 : f 4 = .slice da (watW (es.map (·.1)) k).data.length dc := hA 4 (show 4 < 8 by decide)
          have d5 := hA 5 (show 5 < 8 by decide)
          have d6 : f 6 = .pointer (some ⟨g, k * 3, none⟩) := hA 6 (show 6 < 8 by decide)
          have d7 : f 7 = .pointer (some ⟨g, k * 3 + 1, none⟩) := hA 7 (show 7 < 8 by decide)
          clear hA
          try dsimp only at *
          rw [d0]
          rw [d1]
          rw [d2]
          rw [d3]
          rw [d4]
          rw [d6]
          rw [d7]
          clear d0 d1 d2 d3 d4 d6 d7
          obtain ⟨a5, k5, e5, _, _, _⟩ := OwnU.form d5
          rw [e5]
          rw [e5] at d5
          have hC := (C.out.below hb)
          obtain ⟨g', e6, _, _, c0, c1, c2, hfz⟩ := hC.at hlt HN.out.symm
          injection e6 with e6
          injection e6 with e6
          subst e6
          have hC2 := Lib.hid (hC.step HNk.out d5 HN.out.symm)
          have hX2 := Lib.hid ((X.out.below hb).set_ne (p := ⟨g, k * 3 + 1, none⟩) (by dsimp only; omega) (.slice a5 (watW (es.map (·.1)) k).data.length k5))
          have hR2 := Lib.hid ((R.out.below hb).set_ne (p := ⟨g, k * 3 + 1, none⟩) (by dsimp only; omega) (.slice a5 (watW (es.map (·.1)) k).data.length k5))
          have hU2 := Lib.hid (show OwnU _ B _ base from own_set_ne (p := ⟨g, k * 3 + 1, none⟩) (U.out.keep hb) (by
            rcases own_ne (U.out.keep hb) hC.row (by decide) with e | e
            · rw [e]; simp
            · exact e) (.slice a5 (watW (es.map (·.1)) k).data.length k5))
          have hB2 := Lib.hid ((bstep HB.out hb).setCell (p := ⟨g, k * 3 + 1, none⟩) (by dsimp only; omega) (.slice a5 (watW (es.map (·.1)) k).data.length k5))
          have z1 := hfz (k * 3 + 1)
          clear hfz hC
          go_wp2_with fail
          exact ⟨⟨k + 1, _, by omega, by go_num, hC2, hX2, hR2, hU2, hB2⟩, by simp [intOf]; omega⟩
      · have i1 : ¬ (k : Int) < (n : Int) := by omega
        obtain rfl : k = n := by omega
        have g0 := X.out.c0
        have g1 := X.out.c1
        have g2 := X.out.c2
        have g3 := R.out.c0
        have g4 := R.out.c1
        have g5 := R.out.c2
        have z := R.out.f
        have HO := Lib.hid (show OwnFi _ w.heap.size (⟨nm, base, ws⟩, .slice a1 m k1, .slice a2 k k2) from (R.out.copied (nm' := strB nm) (.slice a1 m k1) (.slice a2 k k2) (f := ⟨nm, base, ws⟩) ⟨hBe, hbw⟩ U.out (show CopyW _ B _ es es' es.length by rw [HN.out]; exact C.out) Hes.out))
        have HBf := Lib.hid (((HB.out.setCell (p := ⟨b + 1, 0, none⟩) (by dsimp only; omega) (.string (strB nm))).setCell (p := ⟨b + 1, 1, none⟩) (by dsimp only; omega) (.slice a1 m k1)).setCell (p := ⟨b + 1, 2, none⟩) (by dsimp only; omega) (.slice a2 k k2))
        clear R X C U HB hm
        go_wp2_with fail
        exact bodyPost_ret (v := filVal nm (.slice a1 m k1) (.slice a2 k k2)) (by simp [results, Tryd.results78, go_sem, g3, g4, g5]) rfl ⟨_, _, rfl, hbe ▸ HO.out, hbe ▸ HBf.out⟩
end Go.Proofs.YtkabcpmnbjllcaaDoor
