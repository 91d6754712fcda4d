/- The law's keeps: the walk. -/
import Derived.Test.YtkabcpmnbjllcaaDoorYv
namespace Go.Proofs.YtkabcpmnbjllcaaDoor
open Go.RowKit

/-- v is a slice of keeps of the call's own. -/
def OwnK (w : World) (B : Nat) (v : Value) (l : List Kp) : Prop := w.ownsRow B 52 3 v l.length (l.flatMap kpC)
theorem OwnK.nil (w : World) (B : Nat) : OwnK w B (.slice none 0 0) [] := World.ownsRow_nil w B 52 3
theorem OwnK.rd {w : World} {B : Nat} {v : Value} {l : List Kp} (h : OwnK w B v l) : RdK w v l := own_rds (fun _ _ => rfl) (by decide) h
end Go.Proofs.YtkabcpmnbjllcaaDoor
