import Derived.Test.YtcgfilmmokmdjaaGreatQAY
import Derived.Test.YtcgfilmmokmdjaaGreatBw
import Derived.Test.YtcgfilmmokmdjaaGreatBab
import Derived.Test.YtcgfilmmokmdjaaGreatQAZ
set_option linter.all false
namespace Go.Proofs.YtcgfilmmokmdjaaGreat
open Go.RowKit
/-! ### Plain -/
structure zMt (S:eX) (K:List Rq) (P:fB):Prop where
 r16:P.res.length≤16
 rk:P.res.length≤K.length
 n16:P.needs.length≤16
 b:QO P.needs=(0,zLI P.needs)
 bl:(zLI P.needs).length≤16384∨P.needs.length≤1
 t:0<K.length→P.res.length=0→P.ey=true∧vO S=true∧(J7 K 0).kind=1∧yY S ((J7 K 0).data.length:Int)=false
 r:∀ i,i<P.res.length→(FW P.res i=9→vO S=false)∧(FW P.res i=8→4096<(J7 K i).data.length)
theorem zLQ {W:World} {ra:Option Addr} {rc:Nat} {res:List Int} (h:Rd W 1 (.slice ra res.length rc) res.length (res.map tV)) {i:Nat} (hi:i<res.length) :
  ∃ b o,ra=some ⟨b,o,none⟩∧W.cell? ⟨b,o+i,none⟩=some (.int .i64 (FW res i)):=by
 obtain ⟨_,_,_,e,_,_,_,hc⟩:=h;injection e with e _ _;obtain ⟨b,o,e2,hc⟩:=hc (by rw[aH];omega);refine ⟨b,o,e.trans e2,?_⟩
 have:=hc i (.int .i64 (FW res i)) (by
  rw[b_,aB hi]
  unfold FW
  rw[ax,aB hi];rfl)
 exact this
/-! ### The walk -/
end Go.Proofs.YtcgfilmmokmdjaaGreat
