import Derived.Test.YtobcnffjfclolaaDoorHeapF
/- The document's example, plainly. -/
namespace Go.Proofs.YtobcnffjfclolaaDoor
set_option linter.unusedSimpArgs false
open Go.RowKit
set_option linter.unusedVariables false
namespace K
def a : V := V.ref 1 (by decide)
def c : V := V.ref 3 (by decide)
def x : V := ⟨3, 0, ⟨#[120]⟩, by decide, by decide, by decide⟩
def oA : ObjM := ⟨1, ⟨#[]⟩, 0, [], [], by decide, by decide, by decide⟩
def oB : ObjM := ⟨1, ⟨#[]⟩, 0, [a, a], [], by decide, by decide, by decide⟩
def oC : ObjM := ⟨6, ⟨#[99]⟩, 7, [], [], by decide, by decide, by decide⟩
def oD : ObjM := ⟨6, ⟨#[99]⟩, 7, [], [(x, c)], by decide, by decide, by decide⟩
def H0 : HeapM := ⟨[], 0⟩
def H1 : HeapM := ⟨[(1, oA)], 1⟩
def H2 : HeapM := ⟨[(1, oA), (2, oB)], 2⟩
def H3 : HeapM := ⟨[(1, oA), (2, oB), (3, oC)], 3⟩
def H4 : HeapM := ⟨[(1, oA), (2, oB), (3, oD)], 3⟩
theorem e1 : H0.add oA = H1 := rfl
theorem e2 : H1.add oB = H2 := rfl
theorem e3 : H2.add oC = H3 := rfl
theorem key_x : x.isKey = true := by decide +kernel
theorem p1 : putOk ([] : List (V × V)) x = true := by simp [putOk, getL, key_x]
theorem e4 : H3.put c x c = H4 := by
  have h1 : H3.of c = some oC := rfl
  have h2 : putOk oC.pairs x = true := p1
  simp only [HeapM.put, h1, h2, if_true]
  rfl
end K
end Go.Proofs.YtobcnffjfclolaaDoor
/- The document's example: the walk. -/
namespace Go.Proofs.YtobcnffjfclolaaDoor
set_option linter.unusedSimpArgs false
open Go.RowKit
set_option linter.unusedVariables false
theorem SeesN.of_slIs {w : World} {sv : Value} {l : List Int} (h : slIs w 2 1 intCell sv l) : SeesN w sv l := by
  rcases h.shape with ⟨h1, h2⟩ | ⟨g, c, h1, h2, h3, h4⟩
  · subst h1; subst h2; exact ⟨none, 0, rfl, by simp, by simp, .inl rfl⟩
  · subst h1
    refine ⟨_, c, rfl, h2, h3, .inr ⟨g, 0, rfl, fun i n hi => ?_⟩⟩
    have := h.cell intCell_len rfl hi (j := 0) rfl
    simpa using this
def SameRel (w : World) (l m : List Int) (k : Nat) (wr : World) : Prop := l.take k = m.take k ∧ ∃ n, wr = w.drewN n
theorem SameRel.later {w wr : World} {l m : List Int} {k : Nat} (h : SameRel w l m k wr) (n : Nat) : SameRel w l m k (wr.drewN n) := by
  obtain ⟨h1, j, rfl⟩ := h; exact ⟨h1, _, World.drewN_drewN w j n⟩
end Go.Proofs.YtobcnffjfclolaaDoor
/- The document's example is as it says. -/
namespace Go.Proofs.YtobcnffjfclolaaDoor
set_option linter.unusedSimpArgs false
open Go.RowKit
set_option linter.unusedVariables false
namespace K
end K
end Go.Proofs.YtobcnffjfclolaaDoor
