/- Rows of files and of writes: clone, insert, delete of elements of three cells. Printed by mkZe.py out of the texts on items. -/
import Derived.Test.YtkabcpmnbjllcaaDoorZd
import Derived.Test.YtkabcpmnbjllcaaDoorProg
import Derived.Lib.AppendZerosOnto
import Derived.Deep.Onto
import Derived.Lib.Overlaps
import Derived.Laws.Externs
namespace Go.Proofs.YtkabcpmnbjllcaaDoor
open Go.RowKit

def fz : List Value := [.string ⟨#[]⟩, .slice none 0 0, .slice none 0 0]
def filV0 : Value := .agg #[.string ⟨#[]⟩, .slice none 0 0, .slice none 0 0]
def zrow (k : Nat) : List Value := (List.replicate k fz).flatMap id
theorem zrow_length (k : Nat) : (zrow k).length = k * 3 := by
  unfold zrow
  rw [flat_length 3 id _ (fun x hx => by rw [(List.mem_replicate.1 hx).2]; rfl), List.length_replicate]
theorem zrow_one (k : Nat) : ∀ u ∈ zrow k, u.oneCell' = true := by
  intro u hu
  unfold zrow at hu
  obtain ⟨x, hx, hu⟩ := List.mem_flatMap.1 hu
  rw [(List.mem_replicate.1 hx).2] at hu
  simp only [fz, id, List.mem_cons, List.not_mem_nil, or_false] at hu
  rcases hu with h | h | h <;> rw [h] <;> rfl
theorem zeros_cells : ∀ m : Nat, (Builtin.zeroCells filV0.cells m).toList = zrow m
  | 0 => by simp [Builtin.zeroCells, zrow]
  | m + 1 => by
    have e0 : zrow (m + 1) = zrow m ++ fz := by unfold zrow; rw [List.replicate_succ', List.flatMap_append]; simp
    rw [e0, ← zeros_cells m]
    show (Array.map _ (Array.range ((m + 1) * 3))).toList = (Array.map _ (Array.range (m * 3))).toList ++ _
    have e : (m + 1) * 3 = m * 3 + 1 + 1 + 1 := by omega
    rw [e]
    simp only [Array.toList_map, Array.toList_range, List.range_succ, List.map_append, List.map_cons, List.map_nil, List.append_assoc]
    congr 1
    show _ = [Value.string ⟨#[]⟩, .slice none 0 0, .slice none 0 0]
    have s4 : filV0.cells.size = 3 := rfl
    rw [s4]
    rw [show m * 3 % 3 = 0 by omega, show (m * 3 + 1) % 3 = 1 by omega, show (m * 3 + 1 + 1) % 3 = 2 by omega]
    rfl
theorem lt63 {n cap : Nat} (h1 : n ≤ cap) (h2 : cap ≤ maxLen) : (n : Int) ≤ 9223372036854775807 := by unfold maxLen at h2; omega
theorem infoFi : (Tryd.prog.info? 69).map (fun i => (i.zero, i.size, i.bytes)) = some (some filV0, 3, 64) := by kernel_rfl
theorem elemFi : ElemT Tryd.prog 31 69 3 64 := by
  obtain ⟨i, h1, h2, h3, h4⟩ := info_parts infoFi
  exact ⟨Tryd.underlying31, by decide, i, _, h1, h2, h3, h4, rfl⟩
theorem elemWi : ElemT Tryd.prog 67 95 3 40 := by
  obtain ⟨i, hi, hz, hs, hb⟩ := info_parts (P := Tryd.prog) (e := 95) (z := .agg #[.int .i64 0, .slice none 0 0, .bool false]) (size := 3) (bytes := 40) (by kernel_rfl)
  exact ⟨Tryd.underlying67, by decide, i, _, hi, hz, hs, hb, rfl⟩
theorem elemFr : ElemT Tryd.prog 22 73 3 64 := by
  obtain ⟨i, hi, hz, hs, hb⟩ := info_parts (P := Tryd.prog) (e := 73) (z := filV0) (size := 3) (bytes := 64) (by kernel_rfl)
  exact ⟨Tryd.underlying22, by decide, i, _, hi, hz, hs, hb, rfl⟩
theorem elemWr : ElemT Tryd.prog 71 94 3 40 := by
  obtain ⟨i, hi, hz, hs, hb⟩ := info_parts (P := Tryd.prog) (e := 94) (z := .agg #[.int .i64 0, .slice none 0 0, .bool false]) (size := 3) (bytes := 40) (by kernel_rfl)
  exact ⟨Tryd.underlying71, by decide, i, _, hi, hz, hs, hb, rfl⟩
theorem grown_tr {a b c : World} {row : Option Nat} (h : a.grownBy b row) (k : b.grownBy c row) : a.grownBy c row :=
  ⟨k.os.trans h.os, k.tape.trans h.tape, k.output.trans h.output, Nat.le_trans h.size k.size, fun i hi hr => (k.block i (Nat.lt_of_lt_of_le hi h.size) hr).trans (h.block i hi hr)⟩
theorem grown_some {w w' : World} (h : Below w.heap.size w w') (row : Option Nat) : w.grownBy w' row := ⟨h.os, h.tape, h.output, h.size, fun k hk _ => h.block k hk⟩
theorem grown_drew (w : World) (row : Option Nat) : w.grownBy w.drew row := grown_some (below_drew (Below.refl _ _)) row

theorem copy_row {P : Program} {dT sT elem : TypeId} {sz bytes : Nat} (hE : ElemT P dT elem sz bytes) {w : World} {base : Nat} {e : TypeId} {n cap g : Nat} {xs : List Value} (h : w.ownsRow base e sz (.slice (some ⟨g, 0, none⟩) n cap) n xs)
    {sa : Option Addr} {m sc : Nat} {news : List Value} (hs : Rd w sz (.slice sa m sc) m news) (o dl dc k : Nat) (hk : k = Nat.min m dl) (h0 : 0 < k) (hsz : 0 < sz) (ho : o + k ≤ n) (h1 : ∀ u ∈ news.take (k * sz), u.oneCell' = true) :
    ∃ w', (∀ ty, (Builtin.copy_ #[dT, sT] ty #[.slice (some ⟨g, o * sz, none⟩) dl dc, .slice sa m sc]).run P w = .ok (.int .i64 (k : Int)) w') ∧
      w'.ownsRow base e sz (.slice (some ⟨g, 0, none⟩) n cap) n (xs.take (o * sz) ++ news.take (k * sz) ++ xs.drop (o * sz + k * sz)) ∧ w.grownBy w' (some g) := by
  obtain ⟨hl, a', cap', e1, _, _, _, hc⟩ := hs
  injection e1 with e1 e2 e3
  subst e1 e3
  have hkm : k ≤ m := by rw [hk]; exact Nat.min_le_left _ _
  have hlk : (news.take (k * sz)).length = k * sz := by rw [List.length_take, hl]; exact Nat.min_eq_left (Nat.mul_le_mul_right _ hkm)
  have hp : 0 < news.length := by rw [hl]; exact Nat.mul_pos (by omega) hsz
  obtain ⟨b, off, e4, hcell⟩ := hc hp
  subst e4
  obtain ⟨w', hrun, hown, hgr⟩ := own_write (P := P) h (o * sz) (news.take (k * sz)) (by rw [hlk, ← Nat.add_mul]; exact Nat.mul_le_mul_right _ ho) h1
  rw [hlk] at hown
  refine ⟨w', fun ty => ?_, hown, hgr⟩
  have hf := run_firstCells_some (P := P) (w := w) sz k ⟨b, off, none⟩ m sc (news.take (k * sz)) hlk (fun j v hj => by
    rw [addr_add]
    refine hcell j v ?_
    rw [List.getElem?_take] at hj
    split at hj
    · exact hj
    · cases hj)
  obtain ⟨ht, hZ⟩ := elem_of hE
  simp [Builtin.copy_, run_underlying ht, Builtin.lenOf, hZ, ← hk, hf, hrun, goInt]

theorem own_more {w : World} {base : Nat} {e : TypeId} {sz n cap g : Nat} {xs : List Value} (h : w.ownsRow base e sz (.slice (some ⟨g, 0, none⟩) n cap) n xs) (k : Nat) (hk : n + k ≤ cap) :
    ∃ ys, ys.length = k * sz ∧ w.ownsRow base e sz (.slice (some ⟨g, 0, none⟩) (n + k) cap) (n + k) (xs ++ ys) := by
  have hx := h.1
  rcases h.2 with ⟨h', _⟩ | ⟨g', cap', cur, h', hb, hg, hnc, hcm, hcs, htake⟩
  · cases h'
  · injection h' with h' _ h''
    injection h' with h'
    injection h' with h' _
    subst h' h''
    have hN : (n + k) * sz ≤ cur.toList.length := by rw [Array.length_toList, hcs]; exact Nat.mul_le_mul_right _ hk
    rw [Nat.add_mul] at hN
    refine ⟨(cur.toList.drop (n * sz)).take (k * sz), by rw [List.length_take, List.length_drop]; omega, ?_, .inr ⟨g, cap, cur, rfl, hb, hg, hk, hcm, hcs, ?_⟩⟩
    · rw [List.length_append, hx, List.length_take, List.length_drop, Nat.add_mul]; omega
    · rw [Nat.add_mul, List.take_add, htake]

theorem slice_own {P : Program} {t e : TypeId} {sz bytes : Nat} (hE : ElemT P t e sz bytes) (g n cap k : Nat) (hk : k ≤ n) (hc : k < cap) :
    ∀ W kl, (Instr.slice t (.slice (some ⟨g, 0, none⟩) n cap) (some (.int kl (k : Int))) none none).run P W = .ok (.slice (some ⟨g, k * sz, none⟩) (n - k) (cap - k)) W := by
  obtain ⟨h1, h2⟩ := elem_of hE
  intro W kl
  rw [run_slice_l W t (some ⟨g, 0, none⟩) n cap h1 kl (k : Int) (by omega) (by omega), h2]
  have : cap ≠ k := by omega
  simp [Result.andThen, sliced, this, addr_add]

theorem app_zeros {w : World} {B : Nat} {a : Option Addr} {n cap : Nat} {xs : List Value} (h : w.ownsRow B 69 3 (.slice a n cap) n xs) (i k : Nat) (hi : i ≤ n) (h0 : 0 < n) (hk : cap < i + k) (hs : i + k ≤ 1000001) :
    ∃ w' c', (∀ ty, (Builtin.append_ #[31, 3] ty #[.slice a i cap, .int .i64 (k : Int)]).run Tryd.prog w = .ok (.slice (some ⟨w.heap.size, 0, none⟩) (i + k) c') w') ∧
      w'.ownsRow w.heap.size 69 3 (.slice (some ⟨w.heap.size, 0, none⟩) (i + k) c') (i + k) (xs.take (i * 3) ++ zrow k) ∧ Below w.heap.size w w' ∧ c' ≤ maxLen := by
  obtain ⟨x, hx⟩ : ∃ x, Tryd.prog.info? 69 = some x := by
    cases hq : Tryd.prog.info? 69 with
    | none => have := infoFi; rw [hq] at this; cases this
    | some x => exact ⟨x, rfl⟩
  have hI := infoFi
  rw [hx] at hI
  injection hI with hI
  injection hI with hz hI
  injection hI with hs4 hb32
  have hz : x.zero = some filV0 := hz
  have hcap : 0 < cap := by
    rcases h.2 with ⟨e, _⟩ | ⟨g, c, _, e, _, _, hnc, _⟩
    · injection e with _ e2 _; omega
    · injection e with _ _ e3; omega
  obtain ⟨hl0, a', cap', e1, _, _, _, hc⟩ := own_rd h
  injection e1 with e1 e2 e3
  subst e1 e3
  have hl : (xs.take (i * 3)).length = i * 3 := by rw [List.length_take, hl0]; exact Nat.min_eq_left (Nat.mul_le_mul_right _ hi)
  have hold : (Builtin.firstCells x.size i (.slice a i cap)).run Tryd.prog w.drew = .ok (xs.take (i * 3)).toArray w.drew := by
    obtain ⟨b, off, e4, hcell⟩ := hc (by rw [hl0]; omega)
    subst e4
    rw [hs4]
    refine run_firstCells_some (P := Tryd.prog) (w := w.drew) 3 i ⟨b, off, none⟩ i cap _ hl (fun j v hj => ?_)
    rw [addr_add]
    refine hcell j v ?_
    rw [List.getElem?_take] at hj
    split at hj
    · exact hj
    · cases hj
  have hnb : Builtin.nextslicecap (i + k) cap * x.bytes ≤ 281474976710656 := growslice_fits hk (by rw [hb32]; omega)
  have hr : ∀ ty, _ := fun ty => Lib.run_append_grow_zeros (P := Tryd.prog) w 31 3 ty 69 x filV0 .i64 .i64 Tryd.underlying31 Tryd.underlying3 hx hz a i cap (xs.take (i * 3)) hold k (by omega) (by rw [hs4]; decide) hk (by omega) (by rw [hb32]; omega) hnb
  refine ⟨_, _, hr, ?_, (Below.drew (Below.refl _ _)).alloc (Nat.le_refl _) _, grownCap_le_maxLen w (i + k) cap _ (by unfold maxLen; omega)⟩
  have hge := grownCap_ge w (i + k) cap 69
  have hcm : grownCap w (i + k) cap 69 ≤ maxLen := grownCap_le_maxLen w (i + k) cap _ (by unfold maxLen; omega)
  have hzl : (zrow k).length = k * 3 := by rw [zrow_length]
  have hlen : (xs.take (i * 3) ++ zrow k).length = (i + k) * 3 := by rw [List.length_append, hl, hzl, Nat.add_mul]
  refine ⟨hlen, .inr ⟨w.heap.size, _, _, rfl, Nat.le_refl _, heap_alloc_new w.drew _, hge, hcm, ?_, ?_⟩⟩
  · have z4 : filV0.cells.size = 3 := rfl
    simp only [Array.size_append, List.size_toArray, size_zeroCells, z4, hl, ← Nat.add_mul]
    rw [show i + k + (grownCap w (i + k) cap 69 - (i + k)) = grownCap w (i + k) cap 69 from by omega]
  · simp only [Array.toList_append]
    rw [zeros_cells, ← hlen]
    exact List.take_left

theorem ins_grow {xs z c : List Value} {n i : Nat} (hi : i ≤ n) (hx : xs.length = n * 3) (hz : z.length = (n + 1 - i) * 3) (hc : c.length = 3) :
    ((xs.take (i * 3) ++ z).take (i * 3) ++ c ++ (xs.take (i * 3) ++ z).drop (i * 3 + 3)).take ((i + 1) * 3) ++ xs.drop (i * 3) ++ ((xs.take (i * 3) ++ z).take (i * 3) ++ c ++ (xs.take (i * 3) ++ z).drop (i * 3 + 3)).drop ((i + 1) * 3 + (n - i) * 3) = xs.take (i * 3) ++ c ++ xs.drop (i * 3) := by
  have hl : (xs.take (i * 3)).length = i * 3 := by rw [List.length_take, hx]; omega
  have e1 : (xs.take (i * 3) ++ z).take (i * 3) = xs.take (i * 3) := List.take_left' hl
  have e2 : (xs.take (i * 3) ++ z).drop (i * 3 + 3) = z.drop 3 := by rw [← List.drop_drop, List.drop_left' hl]
  have l2 : (xs.take (i * 3) ++ c).length = (i + 1) * 3 := by rw [List.length_append, hl, hc]; omega
  have e3 : (xs.take (i * 3) ++ c ++ z.drop 3).drop ((i + 1) * 3 + (n - i) * 3) = [] := List.drop_of_length_le (by rw [List.length_append, l2, List.length_drop, hz]; omega)
  rw [e1, e2, List.take_left' l2, e3, List.append_nil]
theorem ins_place {xs ys c : List Value} {n i : Nat} (hi : i ≤ n) (hx : xs.length = n * 3) (hy : ys.length = 3) :
    ((xs ++ ys).take ((i + 1) * 3) ++ ((xs ++ ys).drop (i * 3)).take ((n - i) * 3) ++ (xs ++ ys).drop ((i + 1) * 3 + (n - i) * 3)).take (i * 3) ++ c ++ ((xs ++ ys).take ((i + 1) * 3) ++ ((xs ++ ys).drop (i * 3)).take ((n - i) * 3) ++ (xs ++ ys).drop ((i + 1) * 3 + (n - i) * 3)).drop (i * 3 + 3) = xs.take (i * 3) ++ c ++ xs.drop (i * 3) := by
  have ld : (xs.drop (i * 3)).length = (n - i) * 3 := by rw [List.length_drop, hx]; omega
  have e1 : ((xs ++ ys).drop (i * 3)).take ((n - i) * 3) = xs.drop (i * 3) := by
    rw [List.drop_append_of_le_length (by omega), List.take_left' ld]
  have e2 : (xs ++ ys).drop ((i + 1) * 3 + (n - i) * 3) = [] := List.drop_of_length_le (by rw [List.length_append, hx, hy]; omega)
  have l3 : ((xs ++ ys).take ((i + 1) * 3)).length = (i + 1) * 3 := by rw [List.length_take, List.length_append, hx, hy]; omega
  rw [e1, e2, List.append_nil]
  have e3 : ((xs ++ ys).take ((i + 1) * 3) ++ xs.drop (i * 3)).take (i * 3) = xs.take (i * 3) := by
    rw [List.take_append_of_le_length (by omega), List.take_take, Nat.min_eq_left (by omega), List.take_append_of_le_length (by omega)]
  have e4 : ((xs ++ ys).take ((i + 1) * 3) ++ xs.drop (i * 3)).drop (i * 3 + 3) = xs.drop (i * 3) := List.drop_left' (by rw [l3]; omega)
  rw [e3, e4]
theorem clear_raw {w : World} {B g n cap : Nat} {xs : List Value} (h : w.ownsRow B 69 3 (.slice (some ⟨g, 0, none⟩) n cap) n xs) (i : Nat) (hi : i < n) :
    ∃ w', (∀ ty c, (Builtin.clear_ #[31] ty #[.slice (some ⟨g, i * 3, none⟩) (n - i) c]).run Tryd.prog w = .ok (.tuple #[]) w') ∧ w'.ownsRow B 69 3 (.slice (some ⟨g, 0, none⟩) n cap) n (xs.take (i * 3) ++ zrow (n - i)) ∧ w.grownBy w' (some g) := by
  have hl : xs.length = n * 3 := h.1
  obtain ⟨w', h1, h2, h3⟩ := own_write (P := Tryd.prog) h (i * 3) (zrow (n - i)) (by rw [zrow_length]; omega) (zrow_one _)
  refine ⟨w', fun ty c => ?_, ?_, h3⟩
  · obtain ⟨m, hm⟩ : ∃ m, n - i = m + 1 := ⟨n - i - 1, by omega⟩
    rw [hm] at h1 ⊢
    simp only [Builtin.clear_]
    simp [run_underlying Tryd.underlying31]
    have hz := zeros_cells (m + 1)
    simp only [filV0] at hz
    rw [hz, h1]
    rfl
  · rw [List.drop_of_length_le (by rw [zrow_length]; omega), List.append_nil] at h2
    exact h2
theorem app_room {w : World} {B g n cap : Nat} {xs : List Value} (h : w.ownsRow B 69 3 (.slice (some ⟨g, 0, none⟩) n cap) n xs) {sa : Addr} {m sc : Nat} {news : List Value} (hs : Rd w 3 (.slice (some sa) m sc) m news) (h1 : ∀ u ∈ news, u.oneCell' = true) (hr : n + m ≤ cap) :
    ∃ w', (∀ ty, (Builtin.append_ #[31, 31] ty #[.slice (some ⟨g, 0, none⟩) n cap, .slice (some sa) m sc]).run Tryd.prog w = .ok (.slice (some ⟨g, 0, none⟩) (n + m) cap) w') ∧ w'.ownsRow B 69 3 (.slice (some ⟨g, 0, none⟩) (n + m) cap) (n + m) (xs ++ news) ∧ w.grownBy w' (some g) := by
  obtain ⟨x, hx⟩ : ∃ x, Tryd.prog.info? 69 = some x := by
    cases hq : Tryd.prog.info? 69 with
    | none => have := infoFi; rw [hq] at this; cases this
    | some x => exact ⟨x, rfl⟩
  have hI := infoFi
  rw [hx] at hI
  injection hI with hI
  injection hI with _ hI
  injection hI with hs4 _
  have hs4 : x.size = 3 := hs4
  obtain ⟨hl, a', cap', e1, _, _, _, hc⟩ := hs
  injection e1 with e1 e2 e3
  subst e3
  have hnews : ∀ j u, news[j]? = some u → w.cell? (sa.add j) = some u := fun j u hj => by
    have hp : 0 < news.length := by have := (List.getElem?_eq_some_iff.1 hj).1; omega
    obtain ⟨b, off, e4, hcell⟩ := hc hp
    rw [← e1] at e4
    obtain rfl := Option.some.inj e4
    rw [addr_add]; exact hcell j u hj
  rcases h.2 with ⟨h', _⟩ | ⟨g', c2, cur, h', hb, hg, hnc, hcm, hcs, htake⟩
  · cases h'
  · injection h' with h' _ h''
    injection h' with h'
    injection h' with h' _
    subst h' h''
    have hx1 := h.1
    have hfit : n * 3 + news.length ≤ cur.size := by rw [hl, hcs]; omega
    refine ⟨_, fun ty => run_append_room (P := Tryd.prog) w 31 ty 69 x Tryd.underlying31 hx g n cap cur hg sa m sc news (by rw [hs4]; exact hl) hnews h1 hr (by rw [hs4]; exact hfit), ⟨?_, .inr ⟨g, cap, _, rfl, hb, setRow_heap w g cur _ _ _ hg, hr, hcm, ?_, ?_⟩⟩, ⟨rfl, rfl, rfl, by simp, fun k _ hk => setRow_other w g k _ (fun e => hk (by rw [e]))⟩⟩
    · rw [List.length_append, hx1, hl, Nat.add_mul]
    · rw [hs4]
      simp only [List.size_toArray, List.length_append, List.length_take, List.length_drop, Array.length_toList]
      omega
    · rw [hs4, htake]
      have : (xs ++ news).length = (n + m) * 3 := by rw [List.length_append, hx1, hl, Nat.add_mul]
      rw [← this]
      exact List.take_left

set_option maxRecDepth 100000 in
theorem overlaps_run {w : World} {hb g : Nat} {ca cb : Array Value} (hne : hb ≠ g) (ha : w.heap[hb]? = some (.cells ca 69 (0, 0))) (hb' : w.heap[g]? = some (.cells cb 69 (0, 0))) (hn : cb.size ≠ 0) (off : Nat) :
    ∀ la c lb d, (callFunc 86 #[.slice (some ⟨hb, 0, none⟩) la c, .slice (some ⟨g, off, none⟩) lb d]).run Tryd.prog w = .ok (.value (.bool false)) w := fun la c lb d => by
  rw [run_callFunc_extern Tryd.func86 (by kernel_rfl) (by kernel_rfl) (by kernel_rfl) (e := Extern.SlicesOverlaps.overlaps #[31, 31] #[4]) (by kernel_rfl),
    Lib.run_overlaps_apart w 31 4 69 Tryd.underlying31 3 (elem_of elemFi).2 ⟨hb, 0, none⟩ ⟨g, off, none⟩ la c lb d hne 69 69 ca.size cb.size (by simp [World.shape?, ha]) (by simp [World.shape?, hb']) hn (by simp [World.frozen?, ha]) (by simp [World.frozen?, ha])]
  rfl

theorem slice_own1 (g n cap k : Nat) (hk : k + 1 ≤ n) (hc : k + 1 < cap) :
    ∀ W kl, (Instr.slice 31 (.slice (some ⟨g, 0, none⟩) n cap) (some (.int kl ((k : Int) + 1))) none none).run Tryd.prog W = .ok (.slice (some ⟨g, (k + 1) * 3, none⟩) (n - (k + 1)) (cap - (k + 1))) W := fun W kl => by
  have := slice_own (P := Tryd.prog) elemFi g n cap (k + 1) hk hc W kl
  rw [Int.natCast_add] at this
  exact this
theorem own_from {w : World} {B g n cap : Nat} {xs : List Value} (h : w.ownsRow B 69 3 (.slice (some ⟨g, 0, none⟩) n cap) n xs) (k : Nat) (hk : k ≤ n) (hc : k < cap) :
    Rd w 3 (.slice (some ⟨g, k * 3, none⟩) (n - k) (cap - k)) (n - k) (xs.drop (k * 3)) := by
  have hx := h.1
  have := rd_sliced (own_rd h) k n hk (Nat.le_refl _)
  have hne : cap ≠ k := by omega
  unfold sliced at this
  rw [if_neg hne] at this
  simp only [Option.map_some, addr_add, Nat.zero_add] at this
  rw [List.take_of_length_le (by rw [List.length_drop, hx, Nat.sub_mul]; omega)] at this
  exact this
theorem own_obj {w : World} {B g n cap : Nat} {xs : List Value} (h : w.ownsRow B 69 3 (.slice (some ⟨g, 0, none⟩) n cap) n xs) : ∃ cur, w.heap[g]? = some (.cells cur 69 (0, 0)) ∧ cur.size = cap * 3 ∧ n ≤ cap := by
  rcases h.2 with ⟨h', _⟩ | ⟨g', c2, cur, h', hb, hg, hnc, hcm, hcs, htake⟩
  · cases h'
  · injection h' with h' _ h''
    injection h' with h'
    injection h' with h' _
    subst h' h''
    exact ⟨cur, hg, hcs, hnc⟩
end Go.Proofs.YtkabcpmnbjllcaaDoor
