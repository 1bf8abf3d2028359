/- The law's reached. -/
import Derived.Test.YtoancpjlkhijiaaGreatIn
import Derived.Test.YtoancpjlkhijiaaGreatSep
import Derived.Test.YtoancpjlkhijiaaGreatMade
import Derived.Deep.RegionHeld3
namespace Go.Proofs.YtoancpjlkhijiaaGreat
set_option linter.unusedSimpArgs false
open Go.RowKit
set_option linter.unusedVariables false
section
variable {w W : World} {h : Nat} {H : HeapM} {Rs : List Res} {N : Nat}
end
end Go.Proofs.YtoancpjlkhijiaaGreat
