/- Size of a record, of any number of bytes: the walks. -/
import Derived.Test.YtibddmnfplmonaaGreatGQ
namespace Go.Proofs.YtibddmnfplmonaaGreat
open Go.RowKit

theorem nsizeB (n : Nat) (w : World) : Calls Tryz.prog 52 #[.int .i64 (n : Int)] w fun e w' => e = .returned (.int .i64 ((szN n : Nat) : Int)) ∧ w = w' := by
  by_cases hn : n ≤ 4096
  · have HS := Lib.hid (show ((szN n : Nat) : Int) = (20 + (n : Int) + 4 + 8 - 1) / 8 * 8 by unfold szN nsz; rw [if_pos hn]; omega)
    have hd : decide ((4096 : Int) < (n : Int)) = false := by simp; omega
    have hd2 : decide ((n : Int) < 0) = false := by simp
    go_enter Tryz.func52, Tryz.ntmps52
    go_wp2_with fail
    go_ret
    exact ⟨ret_int (by rw [HS.out]), rfl⟩
  · have HS := Lib.hid (show szN n = 0 by unfold szN; rw [if_neg hn])
    have hd : decide ((4096 : Int) < (n : Int)) = true := by simp; omega
    have hd2 : decide ((n : Int) < 0) = false := by simp
    go_enter Tryz.func52, Tryz.ntmps52
    go_wp2_with fail
    go_ret
    exact ⟨ret_int (by rw [HS.out]; rfl), rfl⟩
theorem rsizeB (n : Nat) (w : World) : Calls Tryz.prog 55 #[.int .i64 (n : Int)] w fun e w' => e = .returned (.int .i64 ((szN n : Nat) : Int)) ∧ w = w' := by
  by_cases hn : n ≤ 4096
  · have HS := Lib.hid (show ((szN n : Nat) : Int) = (20 + (n : Int) + 4 + 8 - 1) / 8 * 8 by unfold szN nsz; rw [if_pos hn]; omega)
    have hd : decide ((4096 : Int) < (n : Int)) = false := by simp; omega
    have hd2 : decide ((n : Int) < 0) = false := by simp
    go_enter Tryz.func55, Tryz.ntmps55
    go_wp2_with fail
    go_ret
    exact ⟨ret_int (by rw [HS.out]; omega), rfl⟩
  · have HS := Lib.hid (show szN n = 0 by unfold szN; rw [if_neg hn])
    have hd : decide ((4096 : Int) < (n : Int)) = true := by simp; omega
    have hd2 : decide ((n : Int) < 0) = false := by simp
    go_enter Tryz.func55, Tryz.ntmps55
    go_wp2_with fail
    go_ret
    exact ⟨ret_int (by rw [HS.out]; rfl), rfl⟩
end Go.Proofs.YtibddmnfplmonaaGreat
