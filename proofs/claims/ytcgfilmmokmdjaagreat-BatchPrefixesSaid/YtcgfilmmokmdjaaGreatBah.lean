/- A part of the walk. -/
import Derived.Test.YtcgfilmmokmdjaaGreatQAY
import Derived.Test.YtcgfilmmokmdjaaGreatBw
import Derived.Test.YtcgfilmmokmdjaaGreatBab
set_option linter.all false
namespace Go.Proofs.YtcgfilmmokmdjaaGreat
open Go.RowKit
/-! ### Plain -/
theorem zMD (much : Bool) (q : Rq) : (KR much q).Wf:=⟨by show q.key % 8 < _; omega,by show q.ck % 2 < _; omega⟩
theorem zJX (much : Bool) (q : Rq) : (KR much q).data.length ≤ 4106:=by
 unfold KR;dsimp only;rw [ax,ay]
 split
 ·
  rw [dB]; omega
 rw [dM]; omega
structure zNG (S : eL) (K : List Rq) (P : fG) : Prop where
 r16 : P.res.length ≤ 16
 rk : P.res.length ≤ K.length
 n16 : P.needs.length ≤ 16
 b : T8 P.needs = (0,zLp P.needs)
 bl : (zLp P.needs).length ≤ 16384 ∨ P.needs.length ≤ 1
 t : 0 < K.length → P.res.length = 0 → P.eN = true ∧ wh S = true ∧ (yC K 0).kind = 1 ∧ wl S ((yC K 0).data.length : Int) = false
 r : ∀ i,i < P.res.length → (xT P.res i = 9 → wh S = false) ∧ (xT P.res i = 8 → 4096 < (yC K i).data.length)
theorem zIv (q : List (Rq × Value)) (i : Nat) : yC (q.map (·.1)) i = (gZ q i).1:=by
 unfold yC gZ;rw [aw,aw,b9]
 cases q[i]? <;> rfl
theorem zLv {W : World} {ra : Option Addr} {rc : Nat} {res : List Int} (h : Rd W 1 (.slice ra res.length rc) res.length (res.map I3)) {i : Nat} (hi : i < res.length) :
  ∃ b o,ra = some ⟨b,o,none⟩ ∧ W.cell? ⟨b,o + i,none⟩ = some (.int .i64 (xT res i)):=by
 obtain ⟨_,_,_,e,_,_,_,hc⟩:=h;injection e with e _ _;obtain ⟨b,o,e2,hc⟩:=hc (by rw [aI]; omega);refine ⟨b,o,e.trans e2,?_⟩
 have:=hc i (.int .i64 (xT res i)) (by
  rw [b9,aB hi]
  unfold xT
  rw [aw,aB hi]; rfl)
 exact this
/-! ### The walk -/
end Go.Proofs.YtcgfilmmokmdjaaGreat
