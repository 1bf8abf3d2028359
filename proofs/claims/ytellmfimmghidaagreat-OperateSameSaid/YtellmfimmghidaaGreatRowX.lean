/- ch 16: a heap of rows, one behind the other. -/
import Derived.Test.YtellmfimmghidaaGreatRowT
import Derived.Test.YtellmfimmghidaaGreatOprE
namespace Go.Proofs.YtellmfimmghidaaGreat
set_option linter.unusedSimpArgs false
open Go.RowKit
set_option linter.unusedVariables false
/-- A heap of these objects, numbered from 1. -/
def HX (os : List ObjM) : HeapM := os.foldl HeapM.add ⟨[], 0⟩
/-- The value of number n. -/
def vX (n : Int) (h : (Lit.int .i64 n).wf = true) : V := ⟨4, n, ⟨#[]⟩, by decide, h, by decide⟩
theorem HX_add (os : List ObjM) (o : ObjM) : (HX os).add o = HX (os ++ [o]) := by unfold HX; rw [List.foldl_append]; rfl
theorem fold_good {N : Nat} : ∀ (os : List ObjM) {H : HeapM} {M : Nat}, H.Good M → (∀ o ∈ os, o.vals.length ≤ N) → (os.foldl HeapM.add H).Good (M + os.length * (N + 2))
  | [], H, M, G, _ => by simpa using G
  | o :: os, H, M, G, h => by
    have G1 := fold_good os (G.add o) (fun q hq => h q (List.mem_cons_of_mem _ hq))
    refine G1.more ?_
    have := h o (List.mem_cons_self ..)
    rw [List.length_cons, Nat.succ_mul]
    omega
theorem HX_good {N : Nat} {os : List ObjM} (h : ∀ o ∈ os, o.vals.length ≤ N) : (HX os).Good (os.length * (N + 2)) := by
  have := fold_good os good_empty h
  rwa [Nat.zero_add] at this
theorem fold_last : ∀ (os : List ObjM) (H : HeapM), (os.foldl HeapM.add H).last = H.last + os.length
  | [], H => by simp
  | o :: os, H => by
    show (os.foldl HeapM.add (H.add o)).last = _
    rw [fold_last os]
    show H.last + 1 + (os.length : Int) = _
    rw [List.length_cons]; omega
theorem HX_last (os : List ObjM) : (HX os).last = os.length := by
  have := fold_last os ⟨[], 0⟩
  simpa [HX] using this
/-- All of them have 40 values at most. -/
def HXG (os : List ObjM) : Prop := ∀ o ∈ os, o.vals.length ≤ 40
theorem HXG.nil : HXG [] := fun o h => by cases h
theorem HXG.snoc {os : List ObjM} (g : HXG os) {k : Int} {hk : okI k} {P : List V} (h : P.length ≤ 40) : HXG (os ++ [rowO k hk P]) := fun o ho => by
  rcases List.mem_append.1 ho with h1 | h1
  · exact g o h1
  · rw [List.mem_singleton.1 h1]; simpa [rowO, ObjM.vals] using h
theorem HXG.good {os : List ObjM} (g : HXG os) (hl : os.length ≤ 20) : (HX os).Good 1000 := (HX_good g).more (by omega)
theorem and7 {n : Int} (h : (Lit.int .i8 n).wf = true) : ∃ m : Int, bits .and .i8 n 7 = m ∧ 0 ≤ m ∧ m ≤ 7 := by
  have key : ∀ k : Fin 256, 0 ≤ bits .and .i8 ((k.val : Int) - 128) 7 ∧ bits .and .i8 ((k.val : Int) - 128) 7 ≤ 7 := by decide +kernel
  simp [Lit.wf, IntKind.min, IntKind.max, IntKind.bits, IntKind.signed] at h
  have e := key ⟨(n + 128).toNat, by omega⟩
  rw [show (((⟨(n + 128).toNat, by omega⟩ : Fin 256).val : Int) - 128) = n by show ((n + 128).toNat : Int) - 128 = n; omega] at e
  exact ⟨_, rfl, e.1, e.2⟩
section
variable (k : Int) (hk : okI k) (a b c : List V) (j : Int) (hj : okI j)
example : (HX [rowO k hk a, rowO j hj b, rowO k hk c]).items (vX 2 (by decide)) = b := rfl
example : (HX [rowO k hk a, rowO j hj b, rowO k hk c]).kind (vX 3 (by decide)) = k := rfl
end
end Go.Proofs.YtellmfimmghidaaGreat
