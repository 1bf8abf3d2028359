import Derived.Test.YtobcnffjfclolaaDoorClsM
/- Objects: Get. -/
namespace Go.Proofs.YtobcnffjfclolaaDoor
set_option linter.unusedSimpArgs false
open Go.RowKit
set_option linter.unusedVariables false
/-- Get is done. -/
def GetDone (w : World) (Rs : List Res) (i h : Nat) (s : ByteArray) (r : Option (Value × HeapM)) (H : HeapM) (e : Ending) (W : World) : Prop :=
  match r with
  | some (a, H') => e = .returned (.tuple #[a, excZ]) ∧ Sep w (Rs.set i (heapR h H')) W
  | none => e = .returned (.tuple #[zeroV, excA s]) ∧ Sep w Rs W
section
variable {w W : World} {Rs : List Res} {h : Nat} {H : HeapM}
end
end Go.Proofs.YtobcnffjfclolaaDoor
/- Objects: Get, where it is asked of no class. -/
namespace Go.Proofs.YtobcnffjfclolaaDoor
set_option linter.unusedSimpArgs false
open Go.RowKit
set_option linter.unusedVariables false
section
variable {w W : World} {Rs : List Res} {h : Nat} {H : HeapM}
end
end Go.Proofs.YtobcnffjfclolaaDoor
