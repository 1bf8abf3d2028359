/- A law's arguments: rows of values, values. -/
import Derived.Test.YtobcnffjfclolaaDoorKeptA
import Derived.Test.YtobcnffjfclolaaDoorFrame
import Derived.Deep.Slices
namespace Go.Proofs.YtobcnffjfclolaaDoor
set_option linter.unusedSimpArgs false
open Go.ChangeShapes Go.WideShapes Go.ChangeAt Go.RowKit
set_option linter.unusedVariables false
section
variable {H : Type} {enc : TypeId × Value → H} {w : World} {base : Nat} {spare : Nat → Bool} {held : Bool}
theorem cells1 : Tryd.prog.cellsOf 3 = 1 ∧ Tryd.prog.cellsOf 2 = 1 ∧ Tryd.prog.cellsOf 9 = 1 ∧ Tryd.prog.cellsOf 31 = 3 := ⟨by kernel_rfl, by kernel_rfl, by kernel_rfl, by kernel_rfl⟩
set_option maxRecDepth 100000 in
theorem val_of_trod {n : Nat} {cs : List Value} {y : DataW H × List MemPlace} (h : DataW.trod enc Tryd.prog w base spare held n 31 cs = some y) : ∃ v : V, cs = v.cells := by
  obtain ⟨xs, n', _, hx, hlen, hxl, hf⟩ := DataW.trod_struct Tryd.underlying31 h
  rw [cells1.2.2.2] at hlen
  match cs, hlen with
  | [c0, c1, c2], _ =>
    match xs, hxl with
    | [y0, y1, y2], _ =>
      have h0 : DataW.trod enc Tryd.prog w base spare held n' 3 [c0] = some y0 := by have := hf 0 _ rfl; simpa [cells1.1] using this
      have h1 : DataW.trod enc Tryd.prog w base spare held n' 2 [c1] = some y1 := by have := hf 1 _ rfl; simpa [cells1.2.1] using this
      have h2 : DataW.trod enc Tryd.prog w base spare held n' 9 [c2] = some y2 := by have := hf 2 _ rfl; simpa [cells1.2.2.1] using this
      obtain ⟨k, e0, _, hk⟩ := DataW.trod_int Tryd.underlying3 h0
      obtain ⟨m, e1, _, hm⟩ := DataW.trod_int Tryd.underlying2 h1
      obtain ⟨s, e2, _, hs⟩ := DataW.trod_string Tryd.underlying9 h2
      simp only [List.cons.injEq, and_true] at e0 e1 e2
      exact ⟨⟨k, m, s, hk, hm, hs⟩, by rw [e0, e1, e2]; rfl⟩
end
end Go.Proofs.YtobcnffjfclolaaDoor
