/- Objects: Find, Sub. -/
import Derived.Test.YtobcnffjfclolaaDoorObjA
import Derived.Test.YtobcnffjfclolaaDoorRegI
import Derived.Sort.CutIn
import Derived.Stop.RegionWithIn
import Derived.Sort.AtCallIn
namespace Go.Proofs.YtobcnffjfclolaaDoor
set_option linter.unusedSimpArgs false
open Go.RowKit
set_option linter.unusedVariables false
attribute [local go_sem] Oper.semAt_some
abbrev zeroB (q : Nat) : Res := boxR q (.cells #[.int .i64 0, .int .i64 0, .string ⟨#[]⟩] 31)
abbrev valB (q : Nat) (x : V) : Res := boxR q (.cells #[.int .i64 x.kind, .int .i64 x.n, .string x.s] 31)
section
variable {w W : World} {Rs : List Res} {h : Nat} {H : HeapM}
theorem Sep.setVal {base : List Res} {q : Nat} {y : V} (S : Sep w (valB q y :: base) W) (x : V) : Sep w (valB q x :: base) (((W.setCell ⟨q, 0, none⟩ (.int .i64 x.kind)).setCell ⟨q, 1, none⟩ (.int .i64 x.n)).setCell ⟨q, 2, none⟩ (.string x.s)) := by
  have S1 := S.setBox (cs := #[.int .i64 y.kind, .int .i64 y.n, .string y.s]) (t := 31) 0 rfl 0 (.int .i64 x.kind)
  have S2 := S1.setBox (cs := #[.int .i64 x.kind, .int .i64 y.n, .string y.s]) (t := 31) 0 rfl 1 (.int .i64 x.n)
  exact S2.setBox (cs := #[.int .i64 x.kind, .int .i64 x.n, .string y.s]) (t := 31) 0 rfl 2 (.string x.s)
theorem Sep.setZero {base : List Res} {q : Nat} (S : Sep w (zeroB q :: base) W) (x : V) : Sep w (valB q x :: base) (((W.setCell ⟨q, 0, none⟩ (.int .i64 x.kind)).setCell ⟨q, 1, none⟩ (.int .i64 x.n)).setCell ⟨q, 2, none⟩ (.string x.s)) :=
  Sep.setVal (y := V.zero) S x
end
end Go.Proofs.YtobcnffjfclolaaDoor
