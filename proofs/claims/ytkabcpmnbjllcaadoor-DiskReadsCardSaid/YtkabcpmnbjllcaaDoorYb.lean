/- Bytes of the call's own, clipped or not; zeros appended; a copy into them. -/
import Derived.Test.YtkabcpmnbjllcaaDoorYa
import Derived.Lib.AppendZeros
import Derived.Lib.AppendZerosOnto
namespace Go.Proofs.YtkabcpmnbjllcaaDoor
open Go.RowKit

/-- 'append(s, make([]T, k)...)' where there is room. -/
theorem run_append_room_zeros {P : Program} (w : World) (t tn ty e : TypeId) (i : TypeInfo) (z : Value) (kq kn : IntKind) (ht : P.underlying t = some (.slice e)) (htn : P.underlying tn = some (.int kn)) (hi : P.info? e = some i) (hz : i.zero = some z)
    (g sLen sCap : Nat) (cur : Array Value) (hg : w.heap[g]? = some (.cells cur e (0, 0))) (k : Nat) (h0 : 0 < k) (hs : i.size = 1) (hzs : z.cells.size = 1) (h63 : ((sLen + k : Nat) : Int) ≤ 9223372036854775807) (h48 : k * i.bytes ≤ 281474976710656)
    (hroom : sLen + k ≤ sCap) (hfit : sLen + k ≤ cur.size) (h1 : ∀ u ∈ (Builtin.zeroCells z.cells k).toList, u.oneCell' = true) :
    (Builtin.append_ #[t, tn] ty #[.slice (some ⟨g, 0, none⟩) sLen sCap, .int kq k]).run P w =
      .ok (.slice (some ⟨g, 0, none⟩) (sLen + k) sCap) (w.setRow g (cur.toList.take sLen ++ (Builtin.zeroCells z.cells k).toList ++ cur.toList.drop (sLen + k)).toArray) := by
  have hk : k ≠ 0 := by omega
  have hw : IntKind.i64.wrap (k : Int) = k := by rw [IntKind.wrap_i64]; omega
  have hneg : ¬ ((k : Int) < 0) := by omega
  have h48i : ¬ (281474976710656 < (k : Int) * (i.bytes : Int)) := by rw [← Int.natCast_mul]; omega
  have hl : (Builtin.zeroCells z.cells k).toList.length = k := by rw [Array.length_toList, size_zeroCells, hzs, Nat.mul_one]
  have hst := run_storeCells_at P g sLen e (Builtin.zeroCells z.cells k).toList 0 cur w hg (by rw [hl]; omega) h1
  simp only [Nat.add_zero, hl] at hst
  simp [Builtin.append_, run_underlying ht, run_underlying htn, sizeOf, typeInfo, zeroValue, hi, hz, asInt, asIntOf, hw, hneg, hk, h48i, hs, hroom, Addr.add_lit, hst]
theorem zb_cells (k : Nat) : (Builtin.zeroCells (Value.int .u8 0).cells k).toList = (zer k).map byteV := by
  unfold zer
  rw [List.map_replicate]
  apply List.ext_getElem
  · rw [Array.length_toList, size_zeroCells, List.length_replicate]; exact Nat.mul_one k
  · intro j h1 h2
    simp [Builtin.zeroCells, Value.cells, Nat.mod_one]
/-- Bytes of the call's own, by a slice that may have been clipped. -/
def OwnC (w : World) (B : Nat) (v : Value) (l : List UInt8) : Prop := ∃ a cap c', v = .slice a l.length c' ∧ w.ownsRow B 5 1 (.slice a l.length cap) l.length (l.map byteV) ∧ l.length ≤ c' ∧ c' ≤ cap
theorem OwnU.c {w : World} {B : Nat} {v : Value} {l : List UInt8} (h : OwnU w B v l) : OwnC w B v l := by
  obtain ⟨a, c, rfl, h1, _⟩ := h.form
  exact ⟨a, c, c, rfl, h, h1, Nat.le_refl _⟩
theorem OwnC.keep {w w' : World} {B : Nat} {v : Value} {l : List UInt8} (h : OwnC w B v l) (hb : Below w.heap.size w w') : OwnC w' B v l := by
  obtain ⟨a, c, c', e, h, h1⟩ := h
  exact ⟨a, c, c', e, own_keep h hb, h1⟩
theorem OwnC.lower {w : World} {B B' : Nat} {v : Value} {l : List UInt8} (h : OwnC w B v l) (hB : B' ≤ B) : OwnC w B' v l := by
  obtain ⟨a, c, c', e, h, h1⟩ := h
  exact ⟨a, c, c', e, World.ownsRow.mono h hB, h1⟩
theorem OwnC.keepB {w w' : World} {B : Nat} {v : Value} {l : List UInt8} (h : OwnC w B v l) (hk : KeepB B w w') : OwnC w' B v l := by
  obtain ⟨a, c, c', e, h, h1⟩ := h
  exact ⟨a, c, c', e, hk.own h (Nat.le_refl _), h1⟩
theorem OwnC.rd {w : World} {B : Nat} {v : Value} {l : List UInt8} (h : OwnC w B v l) : RdB w v l := by
  obtain ⟨a, c, c', rfl, h, h1, h2⟩ := h
  obtain ⟨h3, a', cap', e, h4, h5, h6, h7⟩ := own_rd h
  injection e with e1 _ e3
  subst e1 e3
  refine ⟨h3, a, c', rfl, h1, by omega, fun e => by have := h6 e; omega, fun hp => ?_⟩
  exact h7 hp
theorem own_setRow' {w : World} {base : Nat} {e : TypeId} {sz n cap g : Nat} {xs : List Value} (h : w.ownsRow base e sz (.slice (some ⟨g, 0, none⟩) n cap) n xs) (o : Nat) (vs : List Value) (ho : o + vs.length ≤ n * sz) :
    ∃ cur, w.heap[g]? = some (.cells cur e (0, 0)) ∧ n * sz ≤ cur.size ∧ (w.setRow g (cur.toList.take o ++ vs ++ cur.toList.drop (o + vs.length)).toArray).ownsRow base e sz (.slice (some ⟨g, 0, none⟩) n cap) n (xs.take o ++ vs ++ xs.drop (o + vs.length)) ∧
      w.grownBy (w.setRow g (cur.toList.take o ++ vs ++ cur.toList.drop (o + vs.length)).toArray) (some g) := by
  have hx := h.1
  rcases h.2 with ⟨h', _⟩ | ⟨g', cap', cur, h', hb, hg, hnc, hcm, hcs, htake⟩
  · cases h'
  · injection h' with h' _ h''
    injection h' with h'
    injection h' with h' _
    subst h' h''
    have hN : n * sz ≤ cur.size := by rw [hcs]; exact Nat.mul_le_mul_right _ hnc
    refine ⟨cur, hg, hN, ⟨?_, .inr ⟨g, cap, _, rfl, hb, setRow_heap w g cur _ e (0, 0) hg, hnc, hcm, ?_, ?_⟩⟩, ⟨rfl, rfl, rfl, by simp, fun k _ hk => setRow_other w g k _ (fun e => hk (by rw [e]))⟩⟩
    · simp only [List.length_append, List.length_take, List.length_drop, hx]; omega
    · simp only [List.size_toArray, List.length_append, List.length_take, List.length_drop, Array.length_toList]; omega
    · have e1 : xs.take o = cur.toList.take o := by rw [← htake, List.take_take, Nat.min_eq_left (by omega)]
      have e2 : xs.drop (o + vs.length) = (cur.toList.drop (o + vs.length)).take (n * sz - (o + vs.length)) := by rw [← htake, List.drop_take]
      rw [e1, e2]
      have l1 : (cur.toList.take o ++ vs).length = o + vs.length := by rw [List.length_append, List.length_take, Array.length_toList]; omega
      rw [List.take_append, List.take_of_length_le (l := cur.toList.take o ++ vs) (by rw [l1]; exact ho), l1]
set_option maxRecDepth 100000 in
/-- Zeros behind them. -/
theorem OwnC.zeros {w : World} {B : Nat} {v : Value} {l : List UInt8} (h : OwnC w B v l) (hB : B ≤ w.heap.size) (k : Nat) (hk : 0 < k) (hs : l.length + k ≤ 10000000) :
    ∃ v' w', (∀ ty, (Builtin.append_ #[47, 2] ty #[v, .int .i64 (k : Int)]).run Tryd.prog w = .ok v' w') ∧ OwnC w' B v' (l ++ zer k) ∧ Below B w w' ∧ w.grownBy w' v.ownBlock := by
  obtain ⟨a, cap, c', rfl, ho, h1, h2⟩ := h
  obtain ⟨ii, hi, hz, hsz, hby⟩ := info_parts (P := Tryd.prog) (e := 5) (z := .int .u8 0) (size := 1) (bytes := 1) (by kernel_rfl)
  have hlen : (l ++ zer k).length = l.length + k := by rw [List.length_append, zer_length]
  by_cases hr : l.length + k ≤ c'
  · obtain ⟨g, rfl, hgB, _⟩ : ∃ g, a = some ⟨g, 0, none⟩ ∧ B ≤ g ∧ g < w.heap.size := by
      rcases ho.2 with ⟨e, h0⟩ | ⟨g, _, cur, e, hb, hg, _⟩
      · injection e with e1 e2 e3; omega
      · injection e with e _ _
        exact ⟨g, e, hb, (Array.getElem?_eq_some_iff.1 hg).1⟩
    obtain ⟨ys, hy, hown⟩ := own_more ho k (by omega)
    rcases ho.2 with ⟨e, _⟩ | ⟨g', c2, cur, e, hb, hg, hnc, hcm, hcs, htk⟩
    · cases e
    · injection e with e _ e3
      injection e with e
      injection e with e
      subst e e3
      have hst := own_setRow' hown l.length ((zer k).map byteV) (by rw [List.length_map, zer_length]; omega)
      obtain ⟨cur', hg', _, hown', hgr'⟩ := hst
      have ecur : cur' = cur := by
        rw [hg] at hg'
        injection hg' with hg'
        injection hg' with hg' _ _
        exact hg'.symm
      subst ecur
      refine ⟨_, _, fun ty => run_append_room_zeros (P := Tryd.prog) w 47 2 ty 5 ii (.int .u8 0) .i64 .i64 Tryd.underlying47 Tryd.underlying2 hi hz g l.length c' cur' hg k hk hsz rfl (by omega) (by rw [hby]; omega) hr (by omega) (by rw [zb_cells]; exact bytes_one _), ⟨some ⟨g, 0, none⟩, cap, c', by rw [hlen], ?_, by rw [hlen]; exact hr, h2⟩, ?_⟩
      · rw [zb_cells, hlen]
        rw [List.length_map, zer_length] at hown'
        have e : (l.map byteV ++ ys).take l.length ++ (zer k).map byteV ++ (l.map byteV ++ ys).drop (l.length + k) = (l ++ zer k).map byteV := by
          rw [List.take_left' (by rw [List.length_map]), List.drop_of_length_le (by rw [List.length_append, List.length_map, hy]; omega), List.append_nil, List.map_append]
        rw [e] at hown'
        exact hown'
      · rw [zb_cells]
        rw [List.length_map, zer_length] at hgr'
        exact ⟨(Below.refl B w).grown hgr' hB (fun q hq => by injection hq with hq; omega), hgr'⟩
  · have hgrow : ∀ (olds : List Value), (Builtin.firstCells ii.size l.length (.slice a l.length c')).run Tryd.prog w.drew = .ok olds.toArray w.drew → olds = l.map byteV →
        ∃ v' w', (∀ ty, (Builtin.append_ #[47, 2] ty #[.slice a l.length c', .int .i64 (k : Int)]).run Tryd.prog w = .ok v' w') ∧ OwnC w' B v' (l ++ zer k) ∧ Below B w w' ∧ w.grownBy w' (Value.slice a l.length c').ownBlock := fun olds hold he => by
      have hnb : Builtin.nextslicecap (l.length + k) c' * ii.bytes ≤ 281474976710656 := growslice_fits (by omega) (by rw [hby]; omega)
      have hrun := fun ty => Lib.run_append_grow_zeros (P := Tryd.prog) w 47 2 ty 5 ii (.int .u8 0) .i64 .i64 Tryd.underlying47 Tryd.underlying2 hi hz a l.length c' olds hold k hk (by rw [hsz]; decide) (by omega) (by omega) (by rw [hby]; omega) hnb
      have hge := grownCap_ge w (l.length + k) c' 5
      have hcm : grownCap w (l.length + k) c' 5 ≤ maxLen := grownCap_le_maxLen w (l.length + k) c' _ (by unfold maxLen; omega)
      refine ⟨_, _, hrun, ⟨_, _, _, by rw [hlen], ?_, by rw [hlen]; exact hge, Nat.le_refl _⟩, ((below_drew (Below.refl B w))).alloc hB _, grown_some ((below_drew (Below.refl w.heap.size w)).alloc (Nat.le_refl _) _) _⟩
      rw [hlen]
      refine ⟨by rw [List.length_map, hlen, Nat.mul_one], .inr ⟨w.heap.size, _, _, rfl, hB, heap_alloc_new w.drew _, hge, hcm, ?_, ?_⟩⟩
      · subst he
        have z1 : (Value.int .u8 0).cells.size = 1 := rfl
        simp only [Array.size_append, List.size_toArray, size_zeroCells, z1, List.length_map, Nat.mul_one]
        omega
      · subst he
        simp only [Array.toList_append]
        rw [zb_cells, ← List.map_append, Nat.mul_one]
        exact List.take_left' (by rw [List.length_map, hlen])
    have hrd : RdB w.drew (.slice a l.length c') l := RdL.drew (OwnC.rd ⟨a, cap, c', rfl, ho, h1, h2⟩)
    obtain ⟨h3, a', cap', e, h4, h5, h6, h7⟩ := hrd
    injection e with e1 _ e3
    subst e1 e3
    cases a with
    | none =>
      have hc0 := h6 rfl
      have hl0 : l = [] := List.length_eq_zero_iff.1 (by omega)
      subst hl0
      exact hgrow [] (by rw [hsz]; exact run_firstCells_none ..) rfl
    | some x =>
      by_cases hl0 : l = []
      · subst hl0
        exact hgrow [] (by rw [hsz]; exact run_firstCells_some (P := Tryd.prog) (w := w.drew) 1 0 x 0 c' [] rfl (fun j v hj => by simp at hj)) rfl
      · have hp : 0 < (l.map byteV).length := by rw [List.length_map]; exact List.length_pos_iff.2 hl0
        obtain ⟨b, off, e2, hc⟩ := h7 hp
        injection e2 with e2
        subst e2
        exact hgrow (l.map byteV) (by rw [hsz]; exact run_firstCells_some (P := Tryd.prog) (w := w.drew) 1 l.length ⟨b, off, none⟩ l.length c' (l.map byteV) (by rw [List.length_map, Nat.mul_one]) (fun j v hj => by rw [addr_add]; exact hc j v hj)) rfl
end Go.Proofs.YtkabcpmnbjllcaaDoor
