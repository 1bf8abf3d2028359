/- What the laws over a made heap share. -/
import Derived.Test.YtoancpjlkhijiaaGreatKeepsM
import Derived.Test.YtoancpjlkhijiaaGreatRows2
import Derived.Test.YtoancpjlkhijiaaGreatAll
namespace Go.Proofs.YtoancpjlkhijiaaGreat
set_option linter.unusedSimpArgs false
open Go.ChangeShapes Go.WideShapes Go.ChangeAt Go.RowKit
set_option linter.unusedVariables false
def LawTrue (w : World) (e : Ending) (w' : World) : Prop := e = .returned (.bool true) ∧ Below w.heap.size w w'
theorem seesO_below {w w1 : World} {s : Value} {l : List OpM} (h : SeesO w s l) (hb : Below w.heap.size w w1) : SeesO w1 s l := by
  obtain ⟨a, cap, e, h1, h2, h3, h4⟩ := h
  refine ⟨a, cap, e, h1, h2, ?_, fun x hx => ⟨(h4 x hx).1.keep fun p v hp => cellBelow hp hb, fun g o n c e h0 => ?_⟩⟩
  · rcases h3 with h3 | ⟨g, o, h3, h5⟩
    · exact .inl h3
    · exact .inr ⟨g, o, h3, fun i x hx j u hu => cellBelow (h5 i x hx j u hu) hb⟩
  · rcases (h4 x hx).2 g o n c e h0 with h | ⟨_, h⟩
    · exact .inl (Nat.lt_of_lt_of_le h hb.size)
    · cases h
end Go.Proofs.YtoancpjlkhijiaaGreat
