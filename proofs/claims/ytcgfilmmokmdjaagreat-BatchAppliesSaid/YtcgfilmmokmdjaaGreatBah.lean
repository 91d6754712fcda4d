import Derived.Test.YtcgfilmmokmdjaaGreatQBA
import Derived.Test.YtcgfilmmokmdjaaGreatQAZ
import Derived.Test.YtcgfilmmokmdjaaGreatBab
set_option linter.all false
namespace Go.Proofs.YtcgfilmmokmdjaaGreat
open Go.RowKit
/-! ### Plain -/
structure zOS (S:fk) (K:List Rq) (P:fP):Prop where
 r16:P.res.length<=16
 rk:P.res.length<=K.length
 n16:P.needs.length<=16
 b:xh P.needs=(0,wD P.needs)
 bl:(wD P.needs).length<=16384∨P.needs.length<=1
 t:0<K.length->P.res.length=0->P.eH=true/\wu S=true/\(E3 K 0).kind=1/\xA S ((E3 K 0).data.length:Int)=false
 r:∀ i,i<P.res.length->(Mt P.res i=9->wu S=false)/\(Mt P.res i=8->4096<(E3 K i).data.length)
/-! ### The walk -/
end Go.Proofs.YtcgfilmmokmdjaaGreat
