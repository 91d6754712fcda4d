/- The walks over needle's small functions. -/
import Derived.Test.YtibddmnfplmonaaNu
import Derived.Test.YtibddmnfplmonaaNp
import Derived.Deep.RegionWith
import Derived.Deep.RegionLaw
import Derived.Lib.OwnKind
import Derived.OneCell
namespace Go.Proofs.Ytibddmnfplmonaa
open Go.RowKit

/-- What Size answers for a number of bytes. -/
def szN (n : Nat) : Nat := if n ≤ 4096 then nsz n else 0
theorem szN_of {n : Nat} (h : n ≤ 4096) : szN n = nsz n := by unfold szN; rw [if_pos h]
theorem szN_le (n : Nat) : szN n ≤ 4127 := by
  unfold szN
  split
  · have := nsz_bounds n; omega
  · omega
theorem nsize_any (n : Nat) (w : World) (h : n ≤ 1000000) : Calls Try.prog 12 #[.int .i64 (n : Int)] w fun e w' => e = .returned (.int .i64 ((szN n : Nat) : Int)) ∧ w = w' := by
  by_cases hn : n ≤ 4096
  · have HS := Lib.hid (show ((szN n : Nat) : Int) = (20 + (n : Int) + 4 + 8 - 1) / 8 * 8 by unfold szN nsz; rw [if_pos hn]; omega)
    have hd : decide ((4096 : Int) < (n : Int)) = false := by simp; omega
    have hd2 : decide ((n : Int) < 0) = false := by simp
    go_enter Try.func12, Try.ntmps12
    go_wp2_with fail
    go_ret
    exact ⟨ret_int (by rw [HS.out]), rfl⟩
  · have HS := Lib.hid (show szN n = 0 by unfold szN; rw [if_neg hn])
    have hd : decide ((4096 : Int) < (n : Int)) = true := by simp; omega
    have hd2 : decide ((n : Int) < 0) = false := by simp
    go_enter Try.func12, Try.ntmps12
    go_wp2_with fail
    go_ret
    exact ⟨ret_int (by rw [HS.out]; rfl), rfl⟩
/-- The bytes of a number, the least significant one first. -/
theorem le4_at {c j : Nat} (h : j < 4) : bat (le4 c) j = UInt8.ofNat (c / 2 ^ (8 * j)) := by
  match j, h with
  | 0, _ => show UInt8.ofNat c = _; rw [Nat.mul_zero, Nat.pow_zero, Nat.div_one]
  | 1, _ => rfl
  | 2, _ => rfl
  | 3, _ => rfl
/-- A row of the call's own does not lie in a block of another type. -/
theorem own_not_at {w : World} {B : Nat} {e e' : TypeId} {sz n p : Nat} {v : Value} {xs : List Value} {cs : Array Value} (h : w.ownsRow B e sz v n xs) (hp : w.heap[p]? = some (.cells cs e' (0, 0))) (hne : e ≠ e') : v.ownBlock ≠ some p := fun e1 => by
  obtain ⟨c, fz, h1⟩ := Lib.ownsRow_kind h p e1
  rw [h1] at hp
  injection hp with hp
  injection hp with _ hp
  exact hne hp
theorem own_set_ne {w : World} {B : Nat} {e : TypeId} {sz n : Nat} {v : Value} {xs : List Value} (h : w.ownsRow B e sz v n xs) {p : Addr} (hne : v.ownBlock ≠ some p.block) (u : Value) : (w.setCell p u).ownsRow B e sz v n xs := by
  refine ⟨h.1, ?_⟩
  rcases h.2 with h0 | ⟨g, cap, cur, rfl, hb, hg, rest⟩
  · exact .inl h0
  · refine .inr ⟨g, cap, cur, rfl, hb, ?_, rest⟩
    rw [Below.heap_setCell w p u g (fun e => hne (by rw [← e]; rfl))]; exact hg
end Go.Proofs.Ytibddmnfplmonaa
