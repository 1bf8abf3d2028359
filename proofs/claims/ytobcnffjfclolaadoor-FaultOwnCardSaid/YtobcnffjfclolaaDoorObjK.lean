import Derived.Test.YtobcnffjfclolaaDoorObjF
/- Objects: Set, where the space is open. -/
namespace Go.Proofs.YtobcnffjfclolaaDoor
set_option linter.unusedSimpArgs false
open Go.RowKit
set_option linter.unusedVariables false
section
variable {w W : World} {Rs : List Res} {h : Nat} {H : HeapM}
end
end Go.Proofs.YtobcnffjfclolaaDoor
/- Objects: Set, where the space is not open. -/
namespace Go.Proofs.YtobcnffjfclolaaDoor
set_option linter.unusedSimpArgs false
open Go.RowKit
set_option linter.unusedVariables false
section
variable {w W : World} {Rs : List Res} {h : Nat} {H : HeapM}
end
end Go.Proofs.YtobcnffjfclolaaDoor
/- Objects: Del. -/
namespace Go.Proofs.YtobcnffjfclolaaDoor
set_option linter.unusedSimpArgs false
open Go.RowKit
set_option linter.unusedVariables false
section
variable {w W : World} {Rs : List Res} {h : Nat} {H : HeapM}
end
end Go.Proofs.YtobcnffjfclolaaDoor
/- Objects: Del, where the space is not open. -/
namespace Go.Proofs.YtobcnffjfclolaaDoor
set_option linter.unusedSimpArgs false
open Go.RowKit
set_option linter.unusedVariables false
section
variable {w W : World} {Rs : List Res} {h : Nat} {H : HeapM}
end
end Go.Proofs.YtobcnffjfclolaaDoor
