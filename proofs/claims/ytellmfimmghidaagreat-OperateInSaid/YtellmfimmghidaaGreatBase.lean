import Derived.Test.YtellmfimmghidaaGreatProg
import Derived.WalkKit
import Derived.WalkSpells
import Derived.Outline
import Derived.Deep.QuietTactic
import Derived.BigQuiet
import Derived.WalkLawsBesides
import Derived.Lib.Hide
namespace Go.Proofs.YtellmfimmghidaaGreat
set_option linter.unusedSimpArgs false
open Go.RowKit
theorem ret_i {k : IntKind} {a b : Int} (h : a = b) : Ending.returned (.int k a) = .returned (.int k b) := by rw [h]
theorem ret_ii {k l : IntKind} {a b c d : Int} (h : a = b) (h' : c = d) : Ending.returned (.tuple #[.int k a, .int l c]) = .returned (.tuple #[.int k b, .int l d]) := by rw [h, h']
theorem ret_b {a b : Bool} (h : a = b) : Ending.returned (.bool a) = .returned (.bool b) := by rw [h]
theorem isE_of_pos (s : ByteArray) (h : 0 < s.size) : s.toList.isEmpty = false := by
  rw [ByteArray.toList_eq]; cases h1 : s.data.toList with
  | nil => have : s.data.toList.length = s.size := rfl; rw [h1] at this; simp at this; omega
  | cons a l => rfl
theorem isE_of_zero (s : ByteArray) (h : s.size = 0) : s.toList.isEmpty = true := by
  have : s = ⟨#[]⟩ := by cases s with | mk d => cases d with | mk l => cases l with | nil => rfl | cons a l => simp [ByteArray.size] at h
  subst this; rw [ByteArray.toList_eq]; rfl
/-- What a frame is behind a step. -/
theorem pu : (∀ (a : Act) (d : Option Tmp) (v : Value), a.put d v = match d with | some d => { a with tmps := a.tmps.setIfInBounds d v } | none => a) ∧
    (∀ (l : List Value) (i : Nat) (v : Value), l.toArray.setIfInBounds i v = (l.set i v).toArray) ∧ (∀ (x y : Value) (l : List Value), (x :: l).set 0 y = y :: l) ∧ (∀ (x y : Value) (l : List Value) (n : Nat), (x :: l).set (n + 1) y = x :: l.set n y) :=
  ⟨fun _ d _ => by cases d <;> rfl, fun _ _ _ => by simp, fun _ _ _ => rfl, fun _ _ _ _ => rfl⟩
end Go.Proofs.YtellmfimmghidaaGreat
