import Derived.Test.YtellmfimmghidaaGreatOprD
import Derived.Test.YtellmfimmghidaaGreatCmpT
import Derived.Test.YtellmfimmghidaaGreatText1
import Derived.Test.YtellmfimmghidaaGreatLawO
/- ch 16: <, <=, >, >=. -/
namespace Go.Proofs.YtellmfimmghidaaGreat
set_option linter.unusedSimpArgs false
open Go.RowKit
set_option linter.unusedVariables false
section
variable {w W : World} {Rs : List Res} {h : Nat} {H : HeapM}
end
end Go.Proofs.YtellmfimmghidaaGreat
/- ch 16: Cmp, op by op; order plainly. -/
namespace Go.Proofs.YtellmfimmghidaaGreat
set_option linter.unusedSimpArgs false
open Go.RowKit
set_option linter.unusedVariables false
section
variable {w W : World} {Rs : List Res} {h : Nat} {H : HeapM}
end
def vI (n : Int) (h : (Lit.int .i64 n).wf = true) : V := ⟨2, n, ⟨#[]⟩, by decide, h, by decide⟩
end Go.Proofs.YtellmfimmghidaaGreat
