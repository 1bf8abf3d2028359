import Derived.Test.YtellmfimmghidaaGreatOprE
import Derived.Test.YtellmfimmghidaaGreatRegS
import Derived.Test.YtellmfimmghidaaGreatText1
import Derived.Test.YtellmfimmghidaaGreatText2
import Derived.Test.YtellmfimmghidaaGreatNumT
/- ch 16: add, of strs and rows. -/
namespace Go.Proofs.YtellmfimmghidaaGreat
set_option linter.unusedSimpArgs false
open Go.RowKit
set_option linter.unusedVariables false
section
variable {w W : World} {Rs : List Res} {h : Nat} {H : HeapM}
end
end Go.Proofs.YtellmfimmghidaaGreat
/- ch 16: the small ones: place, end, lost, str, num. -/
namespace Go.Proofs.YtellmfimmghidaaGreat
set_option linter.unusedSimpArgs false
open Go.RowKit
set_option linter.unusedVariables false
section
variable {w W : World} {Rs : List Res} {h : Nat} {H : HeapM}
end
end Go.Proofs.YtellmfimmghidaaGreat
