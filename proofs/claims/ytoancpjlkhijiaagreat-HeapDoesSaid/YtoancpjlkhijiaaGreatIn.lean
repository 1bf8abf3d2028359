/- The law's in and ref. -/
import Derived.Test.YtoancpjlkhijiaaGreatKeptA
namespace Go.Proofs.YtoancpjlkhijiaaGreat
set_option linter.unusedSimpArgs false
open Go.RowKit
set_option linter.unusedVariables false
end Go.Proofs.YtoancpjlkhijiaaGreat
