/- The walks over numbers as bytes: big, number, sum and the reference's Number, Value, Check. -/
import Derived.Test.YtibddmnfplmonaaCr
import Derived.Test.YtibddmnfplmonaaPe
import Derived.Laws.OwnMore
namespace Go.Proofs.Ytibddmnfplmonaa
open Go.RowKit

theorem infoB : (Try.prog.info? 5).map (fun i => (i.zero, i.size, i.bytes)) = some (some (.int .u8 0), 1, 1) := by kernel_rfl
/-- v is a slice of bytes of the call's own, in a block from base on. -/
abbrev OwnB (w : World) (base : Nat) (v : Value) (l : List UInt8) : Prop := w.ownsRow base 5 1 v l.length (l.map byteV)
theorem ownB_of {w : World} {base n : Nat} {v : Value} {l : List UInt8} {xs : List Value} (h : w.ownsRow base 5 1 v n xs) (e : xs = l.map byteV) : OwnB w base v l := by
  subst e
  have : l.length = n := by have := h.1; rw [List.length_map] at this; omega
  unfold OwnB; rw [this]; exact h
theorem OwnB.rd {w : World} {base : Nat} {v : Value} {l : List UInt8} (h : OwnB w base v l) : RdB w v l := own_rdl h
theorem rd_byte (w : World) (x : UInt8) (e : TypeId) : Rd (w.alloc (.cells #[.int .u8 (x.toNat : Int)] e)) 1 (.slice (some ⟨w.heap.size, 0, none⟩) 1 1) 1 ([x].map byteV) := Rd.new w 1 _ e 1 rfl (by decide)
theorem byte_be (v m : Nat) : ((v : Int) / 2 ^ m % 256) = ((UInt8.ofNat (v / 2 ^ m)).toNat : Int) := by
  rw [UInt8.toNat_ofNat', Int.natCast_emod, Int.natCast_ediv, Int.natCast_pow]; rfl
theorem val_bits (q : Nat) (x : UInt8) : bits .or .u64 (IntKind.u64.wrap ((q : Int) * 256)) (x.toNat : Int) = (((q * 256 + x.toNat) % 18446744073709551616 : Nat) : Int) := by
  have b3 := x.toNat_lt
  rw [← val_or, IntKind.wrap_u64]
  exact u64_or_nat (q * 256 % 18446744073709551616) x.toNat (by omega) (by omega)
theorem le4_len (c : Nat) : (le4 c).length = 4 := rfl
theorem le4_cells (c : Nat) (h : c < 4294967296) : (#[Value.int .u8 ((c : Int) % 256), .int .u8 ((c : Int) / 256 % 256), .int .u8 ((c : Int) / 65536 % 256), .int .u8 ((c : Int) / 16777216)] : Array Value) = ((le4 c).map byteV).toArray := by
  have e : ∀ m : Nat, ((UInt8.ofNat m).toNat : Int) = (m : Int) % 256 := fun m => by rw [UInt8.toNat_ofNat']; rfl
  show _ = (#[Value.int .u8 ((UInt8.ofNat c).toNat : Int), .int .u8 ((UInt8.ofNat (c / 2 ^ 8)).toNat : Int), .int .u8 ((UInt8.ofNat (c / 2 ^ 16)).toNat : Int), .int .u8 ((UInt8.ofNat (c / 2 ^ 24)).toNat : Int)] : Array Value)
  rw [e, e, e, e]
  have e4 : (c : Int) / 16777216 = ((c / 2 ^ 24 : Nat) : Int) % 256 := by omega
  rw [e4]
  rfl
theorem le4_own (w : World) (c : Nat) (h : c < 4294967296) : OwnB (w.alloc (.cells #[.int .u8 ((c : Int) % 256), .int .u8 ((c : Int) / 256 % 256), .int .u8 ((c : Int) / 65536 % 256), .int .u8 ((c : Int) / 16777216)] 5)) w.heap.size (.slice (some ⟨w.heap.size, 0, none⟩) 4 4) (le4 c) := by
  rw [le4_cells c h]
  exact World.ownsRow_lit w _ 4 (Nat.le_refl _) (by decide) rfl
end Go.Proofs.Ytibddmnfplmonaa
