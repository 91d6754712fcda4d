/- A part of the walk. -/
import Derived.Test.YtcgfilmmokmdjaaGreatQAX
import Derived.Test.YtcgfilmmokmdjaaGreatBw
import Derived.Test.YtcgfilmmokmdjaaGreatBab
import Derived.Test.YtcgfilmmokmdjaaGreatQAY
namespace Go.Proofs.YtcgfilmmokmdjaaGreat
open Go.RowKit
/-! ### Plain -/
theorem zLU (jk : Bool) (q : Rq) : (Et jk q).Wf := ⟨by show q.key % 8 < _; omega, by show q.ck % 2 < _; omega⟩
theorem zIt (jk : Bool) (q : Rq) : (Et jk q).data.length ≤ 4106 := by
 unfold Et;dsimp only;rw [aA, ay]
 split
 ·
  rw [dm]; omega
 rw [dC]; omega
structure zMV (S : eE) (K : List Rq) (P : fg) : Prop where
 r16 : P.res.length ≤ 16
 rk : P.res.length ≤ K.length
 n16 : P.needs.length ≤ 16
 b : Oa P.needs = (0, Xx P.needs)
 bl : (Xx P.needs).length ≤ 16384 ∨ P.needs.length ≤ 1
 t : 0 < K.length → P.res.length = 0 → P.ep = true ∧ xe S = true ∧ (yy K 0).kind = 1 ∧ wW S ((yy K 0).data.length : Int) = false
 r : ∀ i, i < P.res.length → (uC P.res i = 9 → xe S = false) ∧ (uC P.res i = 8 → 4096 < (yy K i).data.length)
theorem zIM (q : List (Rq × Value)) (i : Nat) : yy (q.map (·.1)) i = (jX q i).1 := by
 unfold yy jX;rw [ax, ax, b8]
 cases q[i]? <;> rfl
theorem zLG {W : World} {ra : Option Addr} {rc : Nat} {res : List Int} (h : Rd W 1 (.slice ra res.length rc) res.length (res.map Dw)) {i : Nat} (hi : i < res.length) :
  ∃ b o, ra = some ⟨b, o, none⟩ ∧ W.cell? ⟨b, o + i, none⟩ = some (.int .i64 (uC res i)) := by
 obtain ⟨_, _, _, e, _, _, _, hc⟩ := h;injection e with e _ _;obtain ⟨b, o, e2, hc⟩ := hc (by rw [aI]; omega);refine ⟨b, o, e.trans e2, ?_⟩
 have := hc i (.int .i64 (uC res i)) (by
  rw [b8, aB hi]
  unfold uC
  rw [ax, aB hi]; rfl)
 exact this
/-! ### The walk -/
end Go.Proofs.YtcgfilmmokmdjaaGreat
