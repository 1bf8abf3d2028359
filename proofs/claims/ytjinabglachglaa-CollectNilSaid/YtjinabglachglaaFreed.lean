/- What is freed, plainly. -/
import Derived.Test.YtjinabglachglaaCore
namespace Go.Proofs.Ytjinabglachglaa
set_option linter.unusedSimpArgs false
open Go.RowKit
set_option linter.unusedVariables false
theorem drop_objs (H : HeapM) (n : Int) : (H.drop n).objs = H.objs.filter fun p => !decide (p.1 = n) := rfl
theorem freeAll_objs (H : HeapM) (ns : List Int) : (H.freeAll ns).objs = H.objs.filter fun p => !decide (p.1 ∈ ns) := by
  induction ns generalizing H with
  | nil => show H.objs = _; rw [List.filter_eq_self.2]; intro p _; simp
  | cons n r ih =>
    show ((H.drop n).freeAll r).objs = _
    rw [ih, drop_objs, List.filter_filter]
    refine List.filter_congr fun p _ => ?_
    by_cases h1 : p.1 = n <;> by_cases h2 : p.1 ∈ r <;> simp [h1, h2]
theorem drop_len {l : List (Int × ObjM)} (hn : (l.map (·.1)).Nodup) (n : Int) : (getL l n).isSome.toNat + (l.filter fun p => !decide (p.1 = n)).length = l.length := by
  cases g : getL l n with
  | none => have := delL_none g; unfold delL at this; rw [this]; simp
  | some o => have := delL_length hn g; unfold delL at this; simp only [Option.isSome_some, Bool.toNat_true]; omega
theorem freed_len {H : HeapM} (hn : (H.objs.map (·.1)).Nodup) (ns : List Int) : H.freed ns + (H.freeAll ns).objs.length = H.objs.length := by
  induction ns generalizing H with
  | nil => simp [HeapM.freed, HeapM.freeAll]
  | cons n r ih =>
    have h1 := drop_len hn n
    have h2 : ((H.drop n).objs.map (·.1)).Nodup := (List.filter_sublist.map _).nodup hn
    have h3 := ih h2
    show (getL H.objs n).isSome.toNat + (H.drop n).freed r + ((H.drop n).freeAll r).objs.length = _
    rw [← drop_objs] at h1
    omega
theorem freeAll_keys (H : HeapM) (ns : List Int) : (H.freeAll ns).objs.map (·.1) = (H.objs.map (·.1)).filter fun n => !decide (n ∈ ns) := by
  rw [freeAll_objs, List.filter_map]; rfl
end Go.Proofs.Ytjinabglachglaa
