/- Objects: Find, Sub. -/
import Derived.Test.YtobcnffjfclolaaDoorObjA
import Derived.Test.YtobcnffjfclolaaDoorRegI
import Derived.Sort.CutIn
import Derived.Stop.RegionWithIn
import Derived.Sort.AtCallIn
namespace Go.Proofs.YtobcnffjfclolaaDoor
set_option linter.unusedSimpArgs false
open Go.RowKit
set_option linter.unusedVariables false
attribute [local go_sem] Oper.semAt_some
def HeapM.find (H : HeapM) (v key : V) : Option V := (H.order v).findSome? fun c => H.get c key
theorem find_none {H : HeapM} {v key : V} (h : ∀ j, j < (H.order v).length → H.get (atV (H.order v) j) key = none) : H.find v key = none := by
  unfold HeapM.find
  rw [List.findSome?_eq_none_iff]
  intro x hx
  obtain ⟨j, hj, rfl⟩ := List.getElem_of_mem hx
  have := h j hj
  unfold atV at this
  simpa [hj] using this
theorem find_some {H : HeapM} {v key x : V} {k : Nat} (hk : k < (H.order v).length) (h : ∀ j, j < k → H.get (atV (H.order v) j) key = none) (hx : H.get (atV (H.order v) k) key = some x) : H.find v key = some x := by
  unfold HeapM.find
  rw [List.findSome?_eq_some_iff]
  have e : (H.order v) = (H.order v).take k ++ ((H.order v)[k] :: (H.order v).drop (k + 1)) := by
    rw [← List.drop_eq_getElem_cons hk, List.take_append_drop]
  refine ⟨_, _, _, e, ?_, ?_⟩
  · unfold atV at hx; simpa [hk] using hx
  · intro y hy
    obtain ⟨j, hj, rfl⟩ := List.getElem_of_mem hy
    have hjk : j < k := by simp at hj; omega
    have := h j hjk
    unfold atV at this
    have hjl : j < (H.order v).length := by omega
    simpa [hjl] using this
abbrev zeroB (q : Nat) : Res := boxR q (.cells #[.int .i64 0, .int .i64 0, .string ⟨#[]⟩] 31)
abbrev valB (q : Nat) (x : V) : Res := boxR q (.cells #[.int .i64 x.kind, .int .i64 x.n, .string x.s] 31)
section
variable {w W : World} {Rs : List Res} {h : Nat} {H : HeapM}
theorem Sep.setVal {base : List Res} {q : Nat} {y : V} (S : Sep w (valB q y :: base) W) (x : V) : Sep w (valB q x :: base) (((W.setCell ⟨q, 0, none⟩ (.int .i64 x.kind)).setCell ⟨q, 1, none⟩ (.int .i64 x.n)).setCell ⟨q, 2, none⟩ (.string x.s)) := by
  have S1 := S.setBox (cs := #[.int .i64 y.kind, .int .i64 y.n, .string y.s]) (t := 31) 0 rfl 0 (.int .i64 x.kind)
  have S2 := S1.setBox (cs := #[.int .i64 x.kind, .int .i64 y.n, .string y.s]) (t := 31) 0 rfl 1 (.int .i64 x.n)
  exact S2.setBox (cs := #[.int .i64 x.kind, .int .i64 x.n, .string y.s]) (t := 31) 0 rfl 2 (.string x.s)
theorem Sep.setZero {base : List Res} {q : Nat} (S : Sep w (zeroB q :: base) W) (x : V) : Sep w (valB q x :: base) (((W.setCell ⟨q, 0, none⟩ (.int .i64 x.kind)).setCell ⟨q, 1, none⟩ (.int .i64 x.n)).setCell ⟨q, 2, none⟩ (.string x.s)) :=
  Sep.setVal (y := V.zero) S x
/-- Find's own cells. -/
abbrev findR (b3 b5 b6 b7 h : Nat) (s : ByteArray) (r : V) (ok : Bool) (Rs : List Res) : List Res := valB b6 r :: boxR b7 (.cells #[.bool ok] 4) :: boxR b5 (.cells #[.string s] 9) :: boxR b3 (.cells #[.pointer (some ⟨h, 0, none⟩)] 28) :: Rs
end
end Go.Proofs.YtobcnffjfclolaaDoor
