/- Several texts in one, each over the last: slices.Insert and slices.Delete at items: the laws of no walk. copy and a store into a row of bytes of the call's own. -/
import Derived.Test.YtenkeodfijladaaGreatDoorDf
import Derived.Lib.AppendZerosOnto
import Derived.Lib.Overlaps
import Derived.Test.YtenkeodfijladaaGreatDoorGQ
namespace Go.Proofs.YtenkeodfijladaaGreatDoor
open Go.RowKit

theorem copy_row {P : Program} {dT sT elem : TypeId} {sz bytes : Nat} (hE : ElemT P dT elem sz bytes) {w : World} {base : Nat} {e : TypeId} {n cap g : Nat} {xs : List Value} (h : w.ownsRow base e sz (.slice (some ⟨g, 0, none⟩) n cap) n xs)
    {sa : Option Addr} {m sc : Nat} {news : List Value} (hs : Rd w sz (.slice sa m sc) m news) (o dl dc k : Nat) (hk : k = Nat.min m dl) (h0 : 0 < k) (hsz : 0 < sz) (ho : o + k ≤ n) (h1 : ∀ u ∈ news.take (k * sz), u.oneCell' = true) :
    ∃ w', (∀ ty, (Builtin.copy_ #[dT, sT] ty #[.slice (some ⟨g, o * sz, none⟩) dl dc, .slice sa m sc]).run P w = .ok (.int .i64 (k : Int)) w') ∧
      w'.ownsRow base e sz (.slice (some ⟨g, 0, none⟩) n cap) n (xs.take (o * sz) ++ news.take (k * sz) ++ xs.drop (o * sz + k * sz)) ∧ w.grownBy w' (some g) := by
  obtain ⟨hl, a', cap', e1, _, _, _, hc⟩ := hs
  injection e1 with e1 e2 e3
  subst e1 e3
  have hkm : k ≤ m := by rw [hk]; exact Nat.min_le_left _ _
  have hlk : (news.take (k * sz)).length = k * sz := by rw [List.length_take, hl]; exact Nat.min_eq_left (Nat.mul_le_mul_right _ hkm)
  have hp : 0 < news.length := by rw [hl]; exact Nat.mul_pos (by omega) hsz
  obtain ⟨b, off, e4, hcell⟩ := hc hp
  subst e4
  obtain ⟨w', hrun, hown, hgr⟩ := own_write (P := P) h (o * sz) (news.take (k * sz)) (by rw [hlk, ← Nat.add_mul]; exact Nat.mul_le_mul_right _ ho) h1
  rw [hlk] at hown
  refine ⟨w', fun ty => ?_, hown, hgr⟩
  have hf := run_firstCells_some (P := P) (w := w) sz k ⟨b, off, none⟩ m sc (news.take (k * sz)) hlk (fun j v hj => by
    rw [addr_add]
    refine hcell j v ?_
    rw [List.getElem?_take] at hj
    split at hj
    · exact hj
    · cases hj)
  obtain ⟨ht, hZ⟩ := elem_of hE
  simp [Builtin.copy_, run_underlying ht, Builtin.lenOf, hZ, ← hk, hf, hrun, goInt]

theorem own_more {w : World} {base : Nat} {e : TypeId} {sz n cap g : Nat} {xs : List Value} (h : w.ownsRow base e sz (.slice (some ⟨g, 0, none⟩) n cap) n xs) (k : Nat) (hk : n + k ≤ cap) :
    ∃ ys, ys.length = k * sz ∧ w.ownsRow base e sz (.slice (some ⟨g, 0, none⟩) (n + k) cap) (n + k) (xs ++ ys) := by
  have hx := h.1
  rcases h.2 with ⟨h', _⟩ | ⟨g', cap', cur, h', hb, hg, hnc, hcm, hcs, htake⟩
  · cases h'
  · injection h' with h' _ h''
    injection h' with h'
    injection h' with h' _
    subst h' h''
    have hN : (n + k) * sz ≤ cur.toList.length := by rw [Array.length_toList, hcs]; exact Nat.mul_le_mul_right _ hk
    rw [Nat.add_mul] at hN
    refine ⟨(cur.toList.drop (n * sz)).take (k * sz), by rw [List.length_take, List.length_drop]; omega, ?_, .inr ⟨g, cap, cur, rfl, hb, hg, hk, hcm, hcs, ?_⟩⟩
    · rw [List.length_append, hx, List.length_take, List.length_drop, Nat.add_mul]; omega
    · rw [Nat.add_mul, List.take_add, htake]

theorem slice_own {P : Program} {t e : TypeId} {sz bytes : Nat} (hE : ElemT P t e sz bytes) (g n cap k : Nat) (hk : k ≤ n) (hc : k < cap) :
    ∀ W kl, (Instr.slice t (.slice (some ⟨g, 0, none⟩) n cap) (some (.int kl (k : Int))) none none).run P W = .ok (.slice (some ⟨g, k * sz, none⟩) (n - k) (cap - k)) W := by
  obtain ⟨h1, h2⟩ := elem_of hE
  intro W kl
  rw [run_slice_l W t (some ⟨g, 0, none⟩) n cap h1 kl (k : Int) (by omega) (by omega), h2]
  have : cap ≠ k := by omega
  simp [Result.andThen, sliced, this, addr_add]

theorem app_zeros {w : World} {B : Nat} {a : Option Addr} {n cap : Nat} {xs : List Value} (h : w.ownsRow B 77 4 (.slice a n cap) n xs) (i k : Nat) (hi : i ≤ n) (h0 : 0 < n) (hk : cap < i + k) (hs : i + k ≤ 1000001) :
    ∃ w' c', (∀ ty, (Builtin.append_ #[22, 3] ty #[.slice a i cap, .int .i64 (k : Int)]).run Tryz.prog w = .ok (.slice (some ⟨w.heap.size, 0, none⟩) (i + k) c') w') ∧
      w'.ownsRow w.heap.size 77 4 (.slice (some ⟨w.heap.size, 0, none⟩) (i + k) c') (i + k) (xs.take (i * 4) ++ itsC (List.replicate k it0)) ∧ Below w.heap.size w w' ∧ c' ≤ maxLen := by
  obtain ⟨x, hx⟩ : ∃ x, Tryz.prog.info? 77 = some x := by
    cases hq : Tryz.prog.info? 77 with
    | none => have := infoT; rw [hq] at this; cases this
    | some x => exact ⟨x, rfl⟩
  have hI := infoT
  rw [hx] at hI
  injection hI with hI
  injection hI with hz hI
  injection hI with hs4 hb32
  have hz : x.zero = some (itV it0) := hz
  have hcap : 0 < cap := by
    rcases h.2 with ⟨e, _⟩ | ⟨g, c, _, e, _, _, hnc, _⟩
    · injection e with _ e2 _; omega
    · injection e with _ _ e3; omega
  obtain ⟨hl0, a', cap', e1, _, _, _, hc⟩ := own_rd h
  injection e1 with e1 e2 e3
  subst e1 e3
  have hl : (xs.take (i * 4)).length = i * 4 := by rw [List.length_take, hl0]; exact Nat.min_eq_left (Nat.mul_le_mul_right _ hi)
  have hold : (Builtin.firstCells x.size i (.slice a i cap)).run Tryz.prog w.drew = .ok (xs.take (i * 4)).toArray w.drew := by
    obtain ⟨b, off, e4, hcell⟩ := hc (by rw [hl0]; omega)
    subst e4
    rw [hs4]
    refine run_firstCells_some (P := Tryz.prog) (w := w.drew) 4 i ⟨b, off, none⟩ i cap _ hl (fun j v hj => ?_)
    rw [addr_add]
    refine hcell j v ?_
    rw [List.getElem?_take] at hj
    split at hj
    · exact hj
    · cases hj
  have hnb : Builtin.nextslicecap (i + k) cap * x.bytes ≤ 281474976710656 := growslice_fits hk (by rw [hb32]; omega)
  have hr : ∀ ty, _ := fun ty => Lib.run_append_grow_zeros (P := Tryz.prog) w 22 3 ty 77 x (itV it0) .i64 .i64 Tryz.underlying22 Tryz.underlying3 hx hz a i cap (xs.take (i * 4)) hold k (by omega) (by rw [hs4]; decide) hk (by omega) (by rw [hb32]; omega) hnb
  refine ⟨_, _, hr, ?_, (Below.drew (Below.refl _ _)).alloc (Nat.le_refl _) _, grownCap_le_maxLen w (i + k) cap _ (by unfold maxLen; omega)⟩
  have hge := grownCap_ge w (i + k) cap 77
  have hcm : grownCap w (i + k) cap 77 ≤ maxLen := grownCap_le_maxLen w (i + k) cap _ (by unfold maxLen; omega)
  have hzl : (itsC (List.replicate k it0)).length = k * 4 := by rw [itsC_length, List.length_replicate]
  have hlen : (xs.take (i * 4) ++ itsC (List.replicate k it0)).length = (i + k) * 4 := by rw [List.length_append, hl, hzl, Nat.add_mul]
  refine ⟨hlen, .inr ⟨w.heap.size, _, _, rfl, Nat.le_refl _, heap_alloc_new w.drew _, hge, hcm, ?_, ?_⟩⟩
  · have z4 : (itV it0).cells.size = 4 := rfl
    simp only [Array.size_append, List.size_toArray, size_zeroCells, z4, hl, ← Nat.add_mul]
    rw [show i + k + (grownCap w (i + k) cap 77 - (i + k)) = grownCap w (i + k) cap 77 from by omega]
  · simp only [Array.toList_append]
    rw [zeros_cells, ← hlen]
    exact List.take_left

theorem ins_grow {xs z c : List Value} {n i : Nat} (hi : i ≤ n) (hx : xs.length = n * 4) (hz : z.length = (n + 1 - i) * 4) (hc : c.length = 4) :
    ((xs.take (i * 4) ++ z).take (i * 4) ++ c ++ (xs.take (i * 4) ++ z).drop (i * 4 + 4)).take ((i + 1) * 4) ++ xs.drop (i * 4) ++ ((xs.take (i * 4) ++ z).take (i * 4) ++ c ++ (xs.take (i * 4) ++ z).drop (i * 4 + 4)).drop ((i + 1) * 4 + (n - i) * 4) = xs.take (i * 4) ++ c ++ xs.drop (i * 4) := by
  have hl : (xs.take (i * 4)).length = i * 4 := by rw [List.length_take, hx]; omega
  have e1 : (xs.take (i * 4) ++ z).take (i * 4) = xs.take (i * 4) := List.take_left' hl
  have e2 : (xs.take (i * 4) ++ z).drop (i * 4 + 4) = z.drop 4 := by rw [← List.drop_drop, List.drop_left' hl]
  have l2 : (xs.take (i * 4) ++ c).length = (i + 1) * 4 := by rw [List.length_append, hl, hc]; omega
  have e3 : (xs.take (i * 4) ++ c ++ z.drop 4).drop ((i + 1) * 4 + (n - i) * 4) = [] := List.drop_of_length_le (by rw [List.length_append, l2, List.length_drop, hz]; omega)
  rw [e1, e2, List.take_left' l2, e3, List.append_nil]
theorem ins_place {xs ys c : List Value} {n i : Nat} (hi : i ≤ n) (hx : xs.length = n * 4) (hy : ys.length = 4) :
    ((xs ++ ys).take ((i + 1) * 4) ++ ((xs ++ ys).drop (i * 4)).take ((n - i) * 4) ++ (xs ++ ys).drop ((i + 1) * 4 + (n - i) * 4)).take (i * 4) ++ c ++ ((xs ++ ys).take ((i + 1) * 4) ++ ((xs ++ ys).drop (i * 4)).take ((n - i) * 4) ++ (xs ++ ys).drop ((i + 1) * 4 + (n - i) * 4)).drop (i * 4 + 4) = xs.take (i * 4) ++ c ++ xs.drop (i * 4) := by
  have ld : (xs.drop (i * 4)).length = (n - i) * 4 := by rw [List.length_drop, hx]; omega
  have e1 : ((xs ++ ys).drop (i * 4)).take ((n - i) * 4) = xs.drop (i * 4) := by
    rw [List.drop_append_of_le_length (by omega), List.take_left' ld]
  have e2 : (xs ++ ys).drop ((i + 1) * 4 + (n - i) * 4) = [] := List.drop_of_length_le (by rw [List.length_append, hx, hy]; omega)
  have l3 : ((xs ++ ys).take ((i + 1) * 4)).length = (i + 1) * 4 := by rw [List.length_take, List.length_append, hx, hy]; omega
  rw [e1, e2, List.append_nil]
  have e3 : ((xs ++ ys).take ((i + 1) * 4) ++ xs.drop (i * 4)).take (i * 4) = xs.take (i * 4) := by
    rw [List.take_append_of_le_length (by omega), List.take_take, Nat.min_eq_left (by omega), List.take_append_of_le_length (by omega)]
  have e4 : ((xs ++ ys).take ((i + 1) * 4) ++ xs.drop (i * 4)).drop (i * 4 + 4) = xs.drop (i * 4) := List.drop_left' (by rw [l3]; omega)
  rw [e3, e4]
theorem clear_raw {w : World} {B g n cap : Nat} {xs : List Value} (h : w.ownsRow B 77 4 (.slice (some ⟨g, 0, none⟩) n cap) n xs) (i : Nat) (hi : i < n) :
    ∃ w', (∀ ty c, (Builtin.clear_ #[22] ty #[.slice (some ⟨g, i * 4, none⟩) (n - i) c]).run Tryz.prog w = .ok (.tuple #[]) w') ∧ w'.ownsRow B 77 4 (.slice (some ⟨g, 0, none⟩) n cap) n (xs.take (i * 4) ++ itsC (List.replicate (n - i) it0)) ∧ w.grownBy w' (some g) := by
  have hl : xs.length = n * 4 := h.1
  obtain ⟨w', h1, h2, h3⟩ := own_write (P := Tryz.prog) h (i * 4) (itsC (List.replicate (n - i) it0)) (by rw [itsC_length, List.length_replicate]; omega) (itsC_one' _)
  refine ⟨w', fun ty c => ?_, ?_, h3⟩
  · obtain ⟨m, hm⟩ : ∃ m, n - i = m + 1 := ⟨n - i - 1, by omega⟩
    rw [hm] at h1 ⊢
    simp only [Builtin.clear_]
    simp [run_underlying Tryz.underlying22]
    have hz := zeros_cells (m + 1)
    simp only [itV, it0] at hz
    rw [hz, show itsC (List.replicate (m + 1) ⟨0, 0, 0, 0⟩) = itsC (List.replicate (m + 1) it0) from rfl, h1]
    rfl
  · rw [List.drop_of_length_le (by rw [itsC_length, List.length_replicate]; omega), List.append_nil] at h2
    exact h2
theorem app_room {w : World} {B g n cap : Nat} {xs : List Value} (h : w.ownsRow B 77 4 (.slice (some ⟨g, 0, none⟩) n cap) n xs) {sa : Addr} {m sc : Nat} {news : List Value} (hs : Rd w 4 (.slice (some sa) m sc) m news) (h1 : ∀ u ∈ news, u.oneCell' = true) (hr : n + m ≤ cap) :
    ∃ w', (∀ ty, (Builtin.append_ #[22, 22] ty #[.slice (some ⟨g, 0, none⟩) n cap, .slice (some sa) m sc]).run Tryz.prog w = .ok (.slice (some ⟨g, 0, none⟩) (n + m) cap) w') ∧ w'.ownsRow B 77 4 (.slice (some ⟨g, 0, none⟩) (n + m) cap) (n + m) (xs ++ news) ∧ w.grownBy w' (some g) := by
  obtain ⟨x, hx⟩ : ∃ x, Tryz.prog.info? 77 = some x := by
    cases hq : Tryz.prog.info? 77 with
    | none => have := infoT; rw [hq] at this; cases this
    | some x => exact ⟨x, rfl⟩
  have hI := infoT
  rw [hx] at hI
  injection hI with hI
  injection hI with _ hI
  injection hI with hs4 _
  have hs4 : x.size = 4 := hs4
  obtain ⟨hl, a', cap', e1, _, _, _, hc⟩ := hs
  injection e1 with e1 e2 e3
  subst e3
  have hnews : ∀ j u, news[j]? = some u → w.cell? (sa.add j) = some u := fun j u hj => by
    have hp : 0 < news.length := by have := (List.getElem?_eq_some_iff.1 hj).1; omega
    obtain ⟨b, off, e4, hcell⟩ := hc hp
    rw [← e1] at e4
    obtain rfl := Option.some.inj e4
    rw [addr_add]; exact hcell j u hj
  rcases h.2 with ⟨h', _⟩ | ⟨g', c2, cur, h', hb, hg, hnc, hcm, hcs, htake⟩
  · cases h'
  · injection h' with h' _ h''
    injection h' with h'
    injection h' with h' _
    subst h' h''
    have hx1 := h.1
    have hfit : n * 4 + news.length ≤ cur.size := by rw [hl, hcs]; omega
    refine ⟨_, fun ty => run_append_room (P := Tryz.prog) w 22 ty 77 x Tryz.underlying22 hx g n cap cur hg sa m sc news (by rw [hs4]; exact hl) hnews h1 hr (by rw [hs4]; exact hfit), ⟨?_, .inr ⟨g, cap, _, rfl, hb, setRow_heap w g cur _ _ _ hg, hr, hcm, ?_, ?_⟩⟩, ⟨rfl, rfl, rfl, by simp, fun k _ hk => setRow_other w g k _ (fun e => hk (by rw [e]))⟩⟩
    · rw [List.length_append, hx1, hl, Nat.add_mul]
    · rw [hs4]
      simp only [List.size_toArray, List.length_append, List.length_take, List.length_drop, Array.length_toList]
      omega
    · rw [hs4, htake]
      have : (xs ++ news).length = (n + m) * 4 := by rw [List.length_append, hx1, hl, Nat.add_mul]
      rw [← this]
      exact List.take_left
end Go.Proofs.YtenkeodfijladaaGreatDoor

namespace Go.Proofs.YtenkeodfijladaaGreatDoor
open Go.RowKit

theorem own_setRow {w : World} {base : Nat} {e : TypeId} {sz n cap g : Nat} {xs : List Value} (h : w.ownsRow base e sz (.slice (some ⟨g, 0, none⟩) n cap) n xs) (o : Nat) (vs : List Value) (ho : o + vs.length ≤ n * sz) :
    ∃ cur, w.heap[g]? = some (.cells cur e (0, 0)) ∧ n * sz ≤ cur.size ∧ (w.setRow g (cur.toList.take o ++ vs ++ cur.toList.drop (o + vs.length)).toArray).ownsRow base e sz (.slice (some ⟨g, 0, none⟩) n cap) n (xs.take o ++ vs ++ xs.drop (o + vs.length)) ∧
      w.grownBy (w.setRow g (cur.toList.take o ++ vs ++ cur.toList.drop (o + vs.length)).toArray) (some g) := by
  have hx := h.1
  rcases h.2 with ⟨h', _⟩ | ⟨g', cap', cur, h', hb, hg, hnc, hcm, hcs, htake⟩
  · cases h'
  · injection h' with h' _ h''
    injection h' with h'
    injection h' with h' _
    subst h' h''
    have hN : n * sz ≤ cur.size := by rw [hcs]; exact Nat.mul_le_mul_right _ hnc
    refine ⟨cur, hg, hN, ⟨?_, .inr ⟨g, cap, _, rfl, hb, setRow_heap w g cur _ e (0, 0) hg, hnc, hcm, ?_, ?_⟩⟩, ⟨rfl, rfl, rfl, by simp, fun k _ hk => setRow_other w g k _ (fun e => hk (by rw [e]))⟩⟩
    · simp only [List.length_append, List.length_take, List.length_drop, hx]; omega
    · simp only [List.size_toArray, List.length_append, List.length_take, List.length_drop, Array.length_toList]; omega
    · have e1 : xs.take o = cur.toList.take o := by rw [← htake, List.take_take, Nat.min_eq_left (by omega)]
      have e2 : xs.drop (o + vs.length) = (cur.toList.drop (o + vs.length)).take (n * sz - (o + vs.length)) := by rw [← htake, List.drop_take]
      rw [e1, e2]
      have l1 : (cur.toList.take o ++ vs).length = o + vs.length := by rw [List.length_append, List.length_take, Array.length_toList]; omega
      rw [List.take_append, List.take_of_length_le (l := cur.toList.take o ++ vs) (by rw [l1]; exact ho), l1]
theorem copy_own {w : World} {B g n cap : Nat} {l : List UInt8} (h : w.ownsRow B 5 1 (.slice (some ⟨g, 0, none⟩) n cap) n (l.map byteV)) {sa : Option Addr} {m sc : Nat} {s : List UInt8} (hs : RdB w (.slice sa m sc) s) (o dl dc : Nat) (hm : 0 < m) (hd : m ≤ dl) (ho : o + m ≤ n) :
    ∃ w', (∀ ty, (Builtin.copy_ #[34, 34] ty #[.slice (some ⟨g, o, none⟩) dl dc, .slice sa m sc]).run Tryz.prog w = .ok (.int .i64 (m : Int)) w') ∧
      w'.ownsRow B 5 1 (.slice (some ⟨g, 0, none⟩) n cap) n ((l.take o ++ s ++ l.drop (o + m)).map byteV) ∧ w.grownBy w' (some g) := by
  have hb := RdL.bounds hs
  obtain ⟨h0, a', cap', e, _, _, _, h5⟩ := hs
  injection e with e1 e2 e3
  obtain ⟨b, off, e4, hc⟩ := h5 (by rw [List.length_map]; omega)
  rw [e1, e4]
  have hsl : (s.map byteV).length = m := by rw [List.length_map]; omega
  obtain ⟨cur, hg, hN, h1, h2⟩ := own_setRow h o (s.map byteV) (by rw [hsl]; omega)
  refine ⟨_, fun ty => ?_, ?_, h2⟩
  · have hsz : (Tryz.prog.info? 5).map (·.size) = some 1 := by kernel_rfl
    have := run_copy_row (P := Tryz.prog) w 34 34 ty 5 g o dl dc ⟨b, off, none⟩ m sc cur 5 (s.map byteV) Tryz.underlying34 hsz hg (by rw [hsl]; exact (Nat.min_eq_left hd).symm) (fun j u hj => by rw [addr_add]; exact hc j u hj) (by rw [hsl]; omega) (bytes_one s)
    rw [this, hsl]; rfl
  · rw [hsl] at h1
    rw [List.map_append, List.map_append, List.map_take, List.map_drop, hsl]
    exact h1
end Go.Proofs.YtenkeodfijladaaGreatDoor
