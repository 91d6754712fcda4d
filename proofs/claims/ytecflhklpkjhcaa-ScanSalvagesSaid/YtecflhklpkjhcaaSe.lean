/- Arrays of four bytes compared; a slice as an array. -/
import Derived.Test.YtecflhklpkjhcaaSd
import Derived.Laws.StructEq
import Derived.ChangeKeysEq
namespace Go.Proofs.Ytecflhklpkjhcaa
open Go.RowKit

theorem neqA (l m : List UInt8) (hl : l.length = 4) (hm : m.length = 4) (w : World) : (binOp .neq 96 (arr4 l) (arr4 m)).run Try.prog w = .ok (.bool (!decide (l = m))) w := by
  match l, hl, m, hm with
  | [a, b, c, d], _, [x, y, z, u], _ =>
    have u1 := Try.underlying5
    obtain ⟨i, hi, _⟩ := info_parts (P := Try.prog) (e := 5) (z := .int .u8 0) (size := 1) (bytes := 1) (by kernel_rfl)
    have hcl : Try.prog.cellsOf 5 = 1 := by kernel_rfl
    show (binOp .neq 96 (.agg #[.int .u8 (a.toNat : Int), .int .u8 (b.toNat : Int), .int .u8 (c.toNat : Int), .int .u8 (d.toNat : Int)]) (.agg #[.int .u8 (x.toNat : Int), .int .u8 (y.toNat : Int), .int .u8 (z.toNat : Int), .int .u8 (u.toNat : Int)])).run Try.prog w = _
    rw [run_neq_struct, show (10000 : Nat) = 9999 + 1 from rfl, run_equalIn_array w 9999 (t := 96) (e := 5) (n := 4) _ _ Try.underlying96 hi, hcl]
    simp only [show List.range 4 = [0, 1, 2, 3] from rfl, Op.eqItems]
    go_simp
    have e : ∀ s t : UInt8, ((s.toNat : Int) = (t.toNat : Int)) ↔ s = t := fun s t => by rw [← UInt8.toNat_inj]; omega
    simp only [e]
    by_cases h1 : a = x <;> by_cases h2 : b = y <;> by_cases h3 : c = z <;> by_cases h4 : d = u <;> simp [h1, h2, h3, h4]
theorem run_arr4 (w : World) (b off n cap : Nat) (h : 4 ≤ n) : (Instr.arrayAt 96 (.slice (some ⟨b, off, none⟩) n cap)).run Try.prog w = .ok (.pointer (some ⟨b, off, none⟩)) w := by
  unfold Instr.arrayAt
  have : ¬ n < 4 := by omega
  simp [run_underlying Try.underlying96, this]
/-- Four bytes of a slice. -/
theorem four_at {w : World} {a : Option Addr} {cap : Nat} {l : List UInt8} (h : RdB w (.slice a 4 cap) l) (hl : l.length = 4) : ∃ b off, a = some ⟨b, off, none⟩ ∧ arr4 l = .agg #[byteV (bat l 0), byteV (bat l 1), byteV (bat l 2), byteV (bat l 3)] ∧
    w.cell? ⟨b, off, none⟩ = some (byteV (bat l 0)) ∧ w.cell? ⟨b, off + 1, none⟩ = some (byteV (bat l 1)) ∧ w.cell? ⟨b, off + 2, none⟩ = some (byteV (bat l 2)) ∧ w.cell? ⟨b, off + 3, none⟩ = some (byteV (bat l 3)) := by
  obtain ⟨b, off, rfl, c0⟩ := RdB.at h (show 0 < 4 by omega)
  obtain ⟨_, _, e, c1⟩ := RdB.at h (show 1 < 4 by omega)
  injection e with e; injection e with ea eb; subst ea eb
  obtain ⟨_, _, e, c2⟩ := RdB.at h (show 2 < 4 by omega)
  injection e with e; injection e with ea eb; subst ea eb
  obtain ⟨_, _, e, c3⟩ := RdB.at h (show 3 < 4 by omega)
  injection e with e; injection e with ea eb; subst ea eb
  refine ⟨b, off, rfl, ?_, c0, c1, c2, c3⟩
  match l, hl with
  | [x, y, z, u], _ => rfl
end Go.Proofs.Ytecflhklpkjhcaa
