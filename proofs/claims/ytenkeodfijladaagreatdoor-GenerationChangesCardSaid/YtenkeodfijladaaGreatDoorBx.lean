/- An item in a block of its own. -/
import Derived.Test.YtenkeodfijladaaGreatDoorIt
import Derived.Lib.OwnKind
namespace Go.Proofs.YtenkeodfijladaaGreatDoor
open Go.RowKit

/-- An item in the cells of block b. -/
structure BoxT (w : World) (b : Nat) (x : It) : Prop where
  c0 : w.cell? ⟨b, 0, none⟩ = some (.int .u64 x.key)
  c1 : w.cell? ⟨b, 1, none⟩ = some (.int .u32 x.ck)
  c2 : w.cell? ⟨b, 2, none⟩ = some (.int .i64 x.off)
  c3 : w.cell? ⟨b, 3, none⟩ = some (.int .i64 x.size)
theorem BoxT.below {w w' : World} {b : Nat} {x : It} (h : BoxT w b x) (hb : Below w.heap.size w w') : BoxT w' b x :=
  ⟨Below.keeps hb _ _ h.c0, Below.keeps hb _ _ h.c1, Below.keeps hb _ _ h.c2, Below.keeps hb _ _ h.c3⟩
abbrev boxC (x : It) : Obj := .cells #[.int .u64 x.key, .int .u32 x.ck, .int .i64 x.off, .int .i64 x.size] 77
theorem BoxT.new (w : World) (x : It) : BoxT (w.alloc (boxC x)) w.heap.size x := ⟨by simp, by simp, by simp, by simp⟩
theorem below_box (w : World) (x : It) : Below w.heap.size w (w.alloc (boxC x)) := (Below.refl _ _).alloc (Nat.le_refl _) _
theorem BoxT.set {w : World} {b : Nat} {x : It} (h : BoxT w b x) (y : It) : BoxT ((((w.setCell ⟨b, 0, none⟩ (.int .u64 y.key)).setCell ⟨b, 1, none⟩ (.int .u32 y.ck)).setCell ⟨b, 2, none⟩ (.int .i64 y.off)).setCell ⟨b, 3, none⟩ (.int .i64 y.size)) b y := by
  obtain ⟨h0, h1, h2, h3⟩ := h
  exact ⟨by simp [go_sem, h0], by simp [go_sem, h1], by simp [go_sem, h2], by simp [go_sem, h3]⟩
theorem own_ne {w : World} {B B' : Nat} {e e' : TypeId} {size size' n n' : Nat} {v v' : Value} {xs xs' : List Value} (h : w.ownsRow B e size v n xs) (h' : w.ownsRow B' e' size' v' n' xs') (hne : e ≠ e') : v.ownBlock = none ∨ v.ownBlock ≠ v'.ownBlock := by
  cases hv : v.ownBlock with
  | none => exact .inl rfl
  | some g =>
    refine .inr fun he => ?_
    obtain ⟨c, fz, h1⟩ := Lib.ownsRow_kind h g hv
    obtain ⟨c', fz', h2⟩ := Lib.ownsRow_kind h' g he.symm
    rw [h1] at h2
    injection h2 with h2
    injection h2 with _ h3
    exact hne h3
end Go.Proofs.YtenkeodfijladaaGreatDoor
