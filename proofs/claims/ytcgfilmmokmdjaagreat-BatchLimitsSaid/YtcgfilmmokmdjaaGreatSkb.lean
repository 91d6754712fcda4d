/- A part of the walk. -/
import Derived.Test.YtcgfilmmokmdjaaGreatQAR
import Derived.Test.YtcgfilmmokmdjaaGreatHe
import Derived.Test.YtcgfilmmokmdjaaGreatSln
import Derived.Test.YtcgfilmmokmdjaaGreatQAS
set_option linter.all false
namespace Go.Proofs.YtcgfilmmokmdjaaGreat
open Go.RowKit
theorem zIs (i l : Int) (r : Bool) (a : Option Addr) (n c : Nat) (L : List GP) (w : World) (h : RdG w (.slice a n c) L) (hs : ∀ p ∈ L, ∀ j, j < 8 → (p.1.m.st j).length ≤ 10000) (y : GP) (hy : RdM w y.2 y.1.m.st) (hyl : ∀ j, j < 8 → (y.1.m.st j).length ≤ 10000) : Calls Tryz.prog 44 #[zhq i l r a n c, ze y.1.num y.1.rev y.1.mode y.1.size y.2 y.1.m.live y.1.m.garb] w (SRes w (yb ⟨i, l, r, gns L⟩ y.1)) := by
 cases hv : zg ⟨i, l, r, gns L⟩
 ·
  exact zKG i l r a n c L w h hs y hy hyl hv
 exact zH7 i l r a n c L w h hs y hy hyl hv
structure RdA (w : World) (v : Value) (ac : List AcP) : Prop where
 r : RdS 4 acC w v ac
 n : ∀ x ∈ ac, RdN w x.lv x.l ∧ (∀ p ∈ x.l, p.1.Wf) ∧ RdU w x.kv x.keys
theorem RdA.below {w w' : World} {v : Value} {ac : List AcP} (h : RdA w v ac) (hb : Below w.heap.size w w') : RdA w' v ac := ⟨RdS.below h.r hb, fun x hx => ⟨(h.n x hx).1.below hb, (h.n x hx).2.1, RdL.below (h.n x hx).2.2 hb⟩⟩
theorem RdA.shape {w : World} {v : Value} {ac : List AcP} (h : RdA w v ac) : ∃ a cap, v = .slice a ac.length cap ∧ ac.length ≤ cap ∧ cap ≤ maxLen := by
 obtain ⟨a, cap, h1, h2, h3, _⟩ := RdS.shape h.r (by decide) zHn;exact ⟨a, cap, h1, h2, h3⟩
theorem RdA.at {w : World} {a : Option Addr} {n cap : Nat} {ac : List AcP} (h : RdA w (.slice a n cap) ac) {j : Nat} (hj : j < n) : ∃ b off, a = some ⟨b, off, none⟩ ∧ w.cell? ⟨b, off + j * 4, none⟩ = some (.int .i64 (qS ac j).kind) ∧ w.cell? ⟨b, off + j * 4 + 1, none⟩ = some (qS ac j).lv ∧ w.cell? ⟨b, off + j * 4 + 2, none⟩ = some (.int .i64 (qS ac j).gen) ∧ w.cell? ⟨b, off + j * 4 + 3, none⟩ = some (qS ac j).kv ∧ RdN w (qS ac j).lv (qS ac j).l ∧ (∀ p ∈ (qS ac j).l, p.1.Wf) ∧ RdU w (qS ac j).kv (qS ac j).keys := by
 obtain ⟨a', cap', e, h2, h3, _, h5⟩ := RdS.shape h.r (by decide) zHn;injection e with e1 e2 e3;subst e1 e2 e3;obtain ⟨b, off, e, hc⟩ := h5 (by omega);refine ⟨b, off, e, ?_, hc j hj 1 _ rfl, hc j hj 2 _ rfl, hc j hj 3 _ rfl, h.n _ (zIu hj)⟩;have := hc j hj 0 _ rfl; rwa [Nat.add_zero] at this
def SlR (w0 : World) (p : Slt) (e : Ending) (w' : World) : Prop := (∃ a n c L, e = .returned (zhq p.id p.lim p.ro a n c) ∧ RdG w' (.slice a n c) L ∧ gns L = p.gens) ∧ Below w0.heap.size w0 w'
theorem zJy (g : Int) (m : Nat) (hm : 0 < m) : ∃ (t : Int) (k : Nat), g.tmod (m : Int) = t ∧ -(m : Int) < t ∧ t < (m : Int) ∧ (t + (m : Int)).tmod (m : Int) = (k : Int) ∧ (t + (m : Int)) % (m : Int) = (k : Int) ∧ k < m ∧ g % (m : Int) = (k : Int) := by
 have h0 := Int.emod_nonneg g (show (m : Int) ≠ 0 by omega);have h1 := Int.emod_lt_of_pos g (show (0 : Int) < (m : Int) by omega);have h2 := Int.lt_tmod_of_pos g (show (0 : Int) < (m : Int) by omega);have h3 := Int.tmod_lt_of_pos g (show (0 : Int) < (m : Int) by omega);have h4 : (g.tmod (m : Int) + (m : Int)) % (m : Int) = g % (m : Int) := by
  rw [Int.add_emod_right, Int.tmod_def, Int.sub_mul_emod_self_left]
 refine ⟨g.tmod (m : Int), (g % (m : Int)).toNat, rfl, by omega, h3, ?_, by omega, by omega, by omega⟩;rw [Int.tmod_eq_emod_of_nonneg (by omega), h4];omega
theorem zHa {K : Nat} (g : Gn) (l : List Nd) (h : ∀ i, i < 8 → (g.m.st i).length ≤ K) : ∀ i, i < 8 → ((xM g l).2.m.st i).length ≤ K + l.length := fun i hi => by
 unfold xM
 split
 ·
  split
  ·
   split
   ·
    exact xx l g h i hi
   exact Nat.zero_le _
  exact Nat.zero_le _
 exact Nat.zero_le _
theorem zGO {K : Nat} (g : Gn) (l : List Int) (h : ∀ i, i < 8 → (g.m.st i).length ≤ K) : ∀ i, i < 8 → ((yW g l).2.m.st i).length ≤ K := fun i hi => by
 unfold yW
 split
 ·
  split
  ·
   exact Nat.zero_le _
  exact xu l g.m h i hi
 exact Nat.zero_le _
end Go.Proofs.YtcgfilmmokmdjaaGreat
