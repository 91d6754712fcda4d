/- copy and a store into a row of bytes of the call's own. -/
import Derived.Test.YtenkeodfijladaaGreatGQ
namespace Go.Proofs.YtenkeodfijladaaGreat
open Go.RowKit

theorem own_setRow {w : World} {base : Nat} {e : TypeId} {sz n cap g : Nat} {xs : List Value} (h : w.ownsRow base e sz (.slice (some ⟨g, 0, none⟩) n cap) n xs) (o : Nat) (vs : List Value) (ho : o + vs.length ≤ n * sz) :
    ∃ cur, w.heap[g]? = some (.cells cur e (0, 0)) ∧ n * sz ≤ cur.size ∧ (w.setRow g (cur.toList.take o ++ vs ++ cur.toList.drop (o + vs.length)).toArray).ownsRow base e sz (.slice (some ⟨g, 0, none⟩) n cap) n (xs.take o ++ vs ++ xs.drop (o + vs.length)) ∧
      w.grownBy (w.setRow g (cur.toList.take o ++ vs ++ cur.toList.drop (o + vs.length)).toArray) (some g) := by
  have hx := h.1
  rcases h.2 with ⟨h', _⟩ | ⟨g', cap', cur, h', hb, hg, hnc, hcm, hcs, htake⟩
  · cases h'
  · injection h' with h' _ h''
    injection h' with h'
    injection h' with h' _
    subst h' h''
    have hN : n * sz ≤ cur.size := by rw [hcs]; exact Nat.mul_le_mul_right _ hnc
    refine ⟨cur, hg, hN, ⟨?_, .inr ⟨g, cap, _, rfl, hb, setRow_heap w g cur _ e (0, 0) hg, hnc, hcm, ?_, ?_⟩⟩, ⟨rfl, rfl, rfl, by simp, fun k _ hk => setRow_other w g k _ (fun e => hk (by rw [e]))⟩⟩
    · simp only [List.length_append, List.length_take, List.length_drop, hx]; omega
    · simp only [List.size_toArray, List.length_append, List.length_take, List.length_drop, Array.length_toList]; omega
    · have e1 : xs.take o = cur.toList.take o := by rw [← htake, List.take_take, Nat.min_eq_left (by omega)]
      have e2 : xs.drop (o + vs.length) = (cur.toList.drop (o + vs.length)).take (n * sz - (o + vs.length)) := by rw [← htake, List.drop_take]
      rw [e1, e2]
      have l1 : (cur.toList.take o ++ vs).length = o + vs.length := by rw [List.length_append, List.length_take, Array.length_toList]; omega
      rw [List.take_append, List.take_of_length_le (l := cur.toList.take o ++ vs) (by rw [l1]; exact ho), l1]
theorem copy_own {w : World} {B g n cap : Nat} {l : List UInt8} (h : w.ownsRow B 5 1 (.slice (some ⟨g, 0, none⟩) n cap) n (l.map byteV)) {sa : Option Addr} {m sc : Nat} {s : List UInt8} (hs : RdB w (.slice sa m sc) s) (o dl dc : Nat) (hm : 0 < m) (hd : m ≤ dl) (ho : o + m ≤ n) :
    ∃ w', (∀ ty, (Builtin.copy_ #[70, 70] ty #[.slice (some ⟨g, o, none⟩) dl dc, .slice sa m sc]).run Tryz.prog w = .ok (.int .i64 (m : Int)) w') ∧
      w'.ownsRow B 5 1 (.slice (some ⟨g, 0, none⟩) n cap) n ((l.take o ++ s ++ l.drop (o + m)).map byteV) ∧ w.grownBy w' (some g) := by
  have hb := RdL.bounds hs
  obtain ⟨h0, a', cap', e, _, _, _, h5⟩ := hs
  injection e with e1 e2 e3
  obtain ⟨b, off, e4, hc⟩ := h5 (by rw [List.length_map]; omega)
  rw [e1, e4]
  have hsl : (s.map byteV).length = m := by rw [List.length_map]; omega
  obtain ⟨cur, hg, hN, h1, h2⟩ := own_setRow h o (s.map byteV) (by rw [hsl]; omega)
  refine ⟨_, fun ty => ?_, ?_, h2⟩
  · have hsz : (Tryz.prog.info? 5).map (·.size) = some 1 := by kernel_rfl
    have := run_copy_row (P := Tryz.prog) w 70 70 ty 5 g o dl dc ⟨b, off, none⟩ m sc cur 5 (s.map byteV) Tryz.underlying70 hsz hg (by rw [hsl]; exact (Nat.min_eq_left hd).symm) (fun j u hj => by rw [addr_add]; exact hc j u hj) (by rw [hsl]; omega) (bytes_one s)
    rw [this, hsl]; rfl
  · rw [hsl] at h1
    rw [List.map_append, List.map_append, List.map_take, List.map_drop, hsl]
    exact h1
end Go.Proofs.YtenkeodfijladaaGreat
