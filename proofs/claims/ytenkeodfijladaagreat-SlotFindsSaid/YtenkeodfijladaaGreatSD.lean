/- Several texts in one, each over the last: What the laws of slots look at. -/
import Derived.Test.YtenkeodfijladaaGreatSkb
import Derived.Test.YtenkeodfijladaaGreatSB
import Derived.Test.YtenkeodfijladaaGreatVB
import Derived.Test.YtenkeodfijladaaGreatGR
namespace Go.Proofs.YtenkeodfijladaaGreat
open Go.RowKit

/-- A slot in four cells. -/
structure SAt (w : World) (b o : Nat) (i l : Int) (r : Bool) (a : Option Addr) (n c : Nat) : Prop where
  c0 : w.cell? ⟨b, o, none⟩ = some (.int .i64 i)
  c1 : w.cell? ⟨b, o + 1, none⟩ = some (.int .i64 l)
  c2 : w.cell? ⟨b, o + 2, none⟩ = some (.bool r)
  c3 : w.cell? ⟨b, o + 3, none⟩ = some (.slice a n c)
theorem SAt.below {w w' : World} {b o : Nat} {i l : Int} {r : Bool} {a : Option Addr} {n c : Nat} (h : SAt w b o i l r a n c) (hb : Below w.heap.size w w') : SAt w' b o i l r a n c := ⟨hb.keeps' h.c0, hb.keeps' h.c1, hb.keeps' h.c2, hb.keeps' h.c3⟩
/-- The slot that the law looks at, in a row of two. -/
def SlIn (w : World) (b k : Nat) : Prop := ∃ (i l : Int) (r : Bool) (a : Option Addr) (n c : Nat) (L : List GP), SAt w b (k * 4) i l r a n c ∧ RdG w (.slice a n c) L ∧ (∀ p ∈ L, ∀ j, j < 8 → (p.1.m.st j).length ≤ 48) ∧ n ≤ 12
theorem SlIn.below {w w' : World} {b k : Nat} (h : SlIn w b k) (hb : Below w.heap.size w w') : SlIn w' b k := by
  obtain ⟨i, l, r, a, n, c, L, h1, h2, h3, h4⟩ := h
  exact ⟨i, l, r, a, n, c, L, h1.below hb, h2.below hb, h3, h4⟩
def twoS : Sta := ⟨fun v w => ∃ j, v = .slice (some ⟨j, 0, none⟩) 2 2 ∧ SlIn w j 0 ∧ SlIn w j 1, fun _ _ _ hb ⟨j, h1, h2, h3⟩ => ⟨j, h1, h2.below hb, h3.below hb⟩⟩
/-- A slot as a value, its generations read. -/
def slV (p : Slt) (k : Nat) : Sta := ⟨fun v w => ∃ a n c L, v = sloV p.id p.lim p.ro a n c ∧ RdG w (.slice a n c) L ∧ gns L = p.gens ∧ n ≤ k, fun _ _ _ hb ⟨a, n, c, L, h1, h2, h3, h4⟩ => ⟨a, n, c, L, h1, h2.below hb, h3, h4⟩⟩
theorem made_len (ac : List AcP) {L : List GP} (h : gns L = (madeS ac).gens) : (∀ p ∈ L, ∀ j, j < 8 → (p.1.m.st j).length ≤ 48) ∧ 1 ≤ L.length ∧ L.length ≤ 8 := by
  have hI := madeS_inv ac
  refine ⟨fun p hp j hj => hI.len p.1 (h ▸ List.mem_map_of_mem hp) j hj, ?_⟩
  have h1 := hI.v.len
  have h2 := congrArg List.length h
  rw [gns_len] at h2
  omega
theorem RdG.len {w : World} {a : Option Addr} {n c : Nat} {L : List GP} (h : RdG w (.slice a n c) L) : L.length = n := by
  obtain ⟨_, _, e, _⟩ := h.shape
  injection e with _ e _; exact e.symm
theorem le48 {L : List GP} (h : ∀ p ∈ L, ∀ j, j < 8 → (p.1.m.st j).length ≤ 48) : ∀ p ∈ L, ∀ j, j < 8 → (p.1.m.st j).length ≤ 10000 := fun p hp j hj => Nat.le_trans (h p hp j hj) (by decide)
end Go.Proofs.YtenkeodfijladaaGreat
