/- A part of the walk. -/
import Derived.Test.YtcgfilmmokmdjaaGreatQAX
import Derived.Test.YtcgfilmmokmdjaaGreatBw
import Derived.Test.YtcgfilmmokmdjaaGreatBab
import Derived.Test.YtcgfilmmokmdjaaGreatQAY
set_option linter.all false
namespace Go.Proofs.YtcgfilmmokmdjaaGreat
open Go.RowKit
/-! ### Plain -/
theorem zLU (much : Bool) (q : Rq) : (En much q).Wf := ⟨by show q.key % 8 < _; omega, by show q.ck % 2 < _; omega⟩
theorem zIt (much : Bool) (q : Rq) : (En much q).data.length ≤ 4106 := by
 unfold En;dsimp only;rw [aA, ay]
 split
 ·
  rw [dy]; omega
 rw [dI]; omega
structure zMV (S : eL) (K : List Rq) (P : fh) : Prop where
 r16 : P.res.length ≤ 16
 rk : P.res.length ≤ K.length
 n16 : P.needs.length ≤ 16
 b : NQ P.needs = (0, Xh P.needs)
 bl : (Xh P.needs).length ≤ 16384 ∨ P.needs.length ≤ 1
 t : 0 < K.length → P.res.length = 0 → P.ey = true ∧ xe S = true ∧ (yy K 0).kind = 1 ∧ wW S ((yy K 0).data.length : Int) = false
 r : ∀ i, i < P.res.length → (uC P.res i = 9 → xe S = false) ∧ (uC P.res i = 8 → 4096 < (yy K i).data.length)
theorem zIM (q : List (Rq × Value)) (i : Nat) : yy (q.map (·.1)) i = (jX q i).1 := by
 unfold yy jX;rw [ax, ax, cm]
 cases q[i]? <;> rfl
theorem zLG {W : World} {ra : Option Addr} {rc : Nat} {res : List Int} (h : Rd W 1 (.slice ra res.length rc) res.length (res.map Dp)) {i : Nat} (hi : i < res.length) :
  ∃ b o, ra = some ⟨b, o, none⟩ ∧ W.cell? ⟨b, o + i, none⟩ = some (.int .i64 (uC res i)) := by
 obtain ⟨_, _, _, e, _, _, _, hc⟩ := h;injection e with e _ _;obtain ⟨b, o, e2, hc⟩ := hc (by rw [aI]; omega);refine ⟨b, o, e.trans e2, ?_⟩
 have := hc i (.int .i64 (uC res i)) (by
  rw [cm, aB hi]
  unfold uC
  rw [ax, aB hi]; rfl)
 exact this
/-! ### The walk -/
end Go.Proofs.YtcgfilmmokmdjaaGreat
