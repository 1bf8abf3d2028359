/- ch 16's example: plainly. -/
import Derived.Test.YtellmfimmghidaaGreatOprE
import Derived.Test.YtellmfimmghidaaGreatRepr
namespace Go.Proofs.YtellmfimmghidaaGreat
set_option linter.unusedSimpArgs false
open Go.RowKit
set_option linter.unusedVariables false
namespace KO16
def H0 : HeapM := ⟨[], 0⟩
def sA : V := ⟨3, 0, ⟨#[97]⟩, by decide, by decide, by decide⟩
def v1 : V := ⟨2, 1, ⟨#[]⟩, by decide, by decide, by decide⟩
def vT : V := ⟨1, 1, ⟨#[]⟩, by decide, by decide, by decide⟩
def rT : V := ⟨4, 1, ⟨#[]⟩, by decide, by decide, by decide⟩
def rL : V := ⟨4, 2, ⟨#[]⟩, by decide, by decide, by decide⟩
def oT : ObjM := rowO 2 (by decide) [sA]
def oL : ObjM := rowO 1 (by decide) [v1, vT, rT]
def H1 : HeapM := H0.add oT
def H2 : HeapM := H1.add oL
theorem good0 : H0.Good 0 := good_empty
theorem good1 : H1.Good 10 := by have := good0.add oT; exact this.more (by simp [oT, rowO, ObjM.vals])
theorem good2 : H2.Good 100 := by have := good1.add oL; exact this.more (by simp [oL, rowO, ObjM.vals])
theorem kL : H2.kind rL = 1 := by decide
theorem kT : H2.kind rT = 2 := by decide
theorem iL : H2.items rL = [v1, vT, rT] := by rfl
theorem iT : H2.items rT = [sA] := by rfl
theorem wL : H2.wholeB rL = true := by decide
theorem wT : H2.wholeB rT = true := by decide
theorem w1 : H2.wholeB v1 = false := by decide
theorem wV : H2.wholeB vT = false := by decide
theorem wA : H2.wholeB sA = false := by decide
theorem p1 : H2.plainL v1 = [49] := by
  show textN 1 = [49]
  simp [textN, digitsU, Nat.toUInt8]
  try decide
theorem pV : H2.plainL vT = [84, 114, 117, 101] := by rfl
theorem pA : H2.plainL sA = [39, 97, 39] := by rfl
theorem tS (f : Nat) (v : V) (hw : H2.wholeB v = false) (l : List UInt8) : H2.tellF f v ⟨l, .no⟩ = TelM.say ⟨l, .no⟩ (H2.plainL v) := by
  cases f <;> simp [HeapM.tellF, HeapM.tellT, hw]
theorem tT (f : Nat) (l : List UInt8) : H2.tellF (f + 1) rT ⟨l, .no⟩ = rowF [40] [44, 41] [fun t => H2.tellF f sA t] ⟨l, .no⟩ := by
  simp [HeapM.tellF, HeapM.tellT, wT, kT, iT]
theorem tL (f : Nat) (l : List UInt8) : H2.tellF (f + 1) rL ⟨l, .no⟩ = rowF [91] [93] [fun t => H2.tellF f v1 t, fun t => H2.tellF f vT t, fun t => H2.tellF f rT t] ⟨l, .no⟩ := by
  simp [HeapM.tellF, HeapM.tellT, wL, kL, iL]
theorem told : H2.reprM rL = ⟨[91, 49, 44, 32, 84, 114, 117, 101, 44, 32, 40, 39, 97, 39, 44, 41, 93], .no⟩ := by
  have h : ∀ l, H2.tellF 29 rT ⟨l, .no⟩ = rowF [40] [44, 41] [fun t => H2.tellF 28 sA t] ⟨l, .no⟩ := tT 28
  show H2.tellF (29 + 1) rL ⟨[], .no⟩ = _
  rw [tL]
  simp [rowF, partsF, TelM.say, tS _ v1 w1, tS _ vT wV, tS _ sA wA, h, p1, pV, pA]
def P (v : V) : Prop := v = rL ∨ v = rT ∨ v = v1 ∨ v = vT ∨ v = sA
theorem pairs_nil (v : V) : H2.pairs v = [] := by
  unfold HeapM.pairs
  cases g : H2.of v with
  | none => rfl
  | some o =>
    have := getL_mem (HeapM.of_some g).2
    simp [H2, H1, H0, HeapM.add, oT, oL] at this
    rcases this with ⟨_, rfl⟩ | ⟨_, rfl⟩ <;> rfl
end KO16
end Go.Proofs.YtellmfimmghidaaGreat
