/- The walks over the law's cut and made. -/
import Derived.Test.YtenkeodfijladaaGreatDoorSo
import Derived.Laws.OwnMore
import Derived.Laws.Bits128
namespace Go.Proofs.YtenkeodfijladaaGreatDoor
open Go.RowKit

theorem i64_and4095 (n : Int) : bits .and .i64 n 4095 = n % 4096 := by
  have hm : (BitVec.ofInt 64 4095).toNat = 2 ^ 12 - 1 := by decide
  have key : (BitVec.ofInt 64 n &&& BitVec.ofInt 64 4095).toNat = (n % ((2 ^ 64 : Nat) : Int)).toNat % 2 ^ 12 := by
    rw [BitVec.toNat_and, BitVec.toNat_ofInt, hm, Nat.and_two_pow_sub_one_eq_mod]
  show IntKind.i64.wrap ((BitVec.ofInt 64 n &&& BitVec.ofInt 64 4095).toNat : Nat) = n % 4096
  rw [key, IntKind.wrap_i64]
  omega
def mkIt (x : It) : It := ⟨x.key, x.ck, 16 + 8 * (x.off % 4096), x.size % 4096⟩
theorem mkIt_ok (x : It) : okP (mkIt x) := by
  unfold okP mkIt
  simp only []
  omega
def mk (l : List It) : List It := (srt (l.take 40)).map mkIt
theorem mk_length (l : List It) : (mk l).length ≤ 40 := by
  unfold mk
  have := srt_length (l.take 40)
  rw [List.length_map]
  rw [List.length_take] at this
  omega
theorem iat_map {l : List It} {j : Nat} (h : j < l.length) : iat (l.map mkIt) j = mkIt (iat l j) := by
  unfold iat
  rw [List.getD_eq_getElem?_getD, List.getD_eq_getElem?_getD, List.getElem?_map, List.getElem?_eq_getElem h]; rfl
theorem mk_valid (l : List It) : vldB (mk l) = true := by
  refine vldB_iff.2 ⟨fun j hj => ?_, fun x hx => ?_⟩
  · have hl : (mk l).length = (srt (l.take 40)).length := by simp [mk]
    unfold mk
    rw [iat_map (by omega), iat_map (by omega)]
    exact srt_asc _ j (by omega)
  · obtain ⟨y, _, rfl⟩ := List.mem_map.1 hx
    exact mkIt_ok y
theorem itsC_set (o s : Int) : ∀ (l : List It) (k : Nat), k < l.length → ((itsC l).set (k * 4 + 2) (.int .i64 o)).set (k * 4 + 3) (.int .i64 s) = itsC (l.set k ⟨(iat l k).key, (iat l k).ck, o, s⟩)
  | [], _, h => by simp at h
  | x :: r, 0, _ => rfl
  | x :: r, k + 1, h => by
    have ih := itsC_set o s r k (by simpa using h)
    have e1 : (k + 1) * 4 + 2 = k * 4 + 2 + 1 + 1 + 1 + 1 := by omega
    have e2 : (k + 1) * 4 + 3 = k * 4 + 3 + 1 + 1 + 1 + 1 := by omega
    rw [e1, e2]
    show _ = itC x ++ itsC (r.set k ⟨(iat r k).key, (iat r k).ck, o, s⟩)
    rw [← ih]
    rfl
/-- The first k items made. -/
def upd (o : List It) (k : Nat) : List It := (o.take k).map mkIt ++ o.drop k
theorem upd_length (o : List It) (k : Nat) : (upd o k).length = o.length := by
  unfold upd
  rw [List.length_append, List.length_map, List.length_take, List.length_drop]; omega
theorem upd_at {o : List It} {k : Nat} (h : k < o.length) : iat (upd o k) k = iat o k := by
  unfold upd iat
  rw [List.getD_eq_getElem?_getD, List.getElem?_append_right (by simp [List.length_take]; omega), List.length_map, List.length_take, Nat.min_eq_left (by omega), Nat.sub_self, List.getElem?_drop, Nat.add_zero, ← List.getD_eq_getElem?_getD]
theorem upd_succ {o : List It} {k : Nat} (h : k < o.length) : (upd o k).set k (mkIt (iat o k)) = upd o (k + 1) := by
  unfold upd
  rw [take_snoc h, List.map_append, List.set_append_right _ _ (by simp [List.length_take]; omega), List.length_map, List.length_take, Nat.min_eq_left (by omega), Nat.sub_self]
  rw [List.drop_eq_getElem_cons h, List.set_cons_zero]
  simp
end Go.Proofs.YtenkeodfijladaaGreatDoor
