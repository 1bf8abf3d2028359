/- A row of values of a law's own, beside the heap. -/
import Derived.Test.YtobcnffjfclolaaDoorLocal
import Derived.Deep.DeepCutAuto
namespace Go.Proofs.YtobcnffjfclolaaDoor
set_option linter.unusedSimpArgs false
open Go.RowKit
set_option linter.unusedVariables false
theorem own : ownKnob Tryd.prog.godebug = none := by kernel_rfl
/-- The row `v` shows `xs`, beside the heap; it was made after the world had `B` blocks. -/
def RowAt (B : Nat) (w : World) (h : Nat) (H : HeapM) (L : List (Nat × Obj)) (W : World) (v : Value) (xs : List V) : Prop :=
  HAt w h H (ownL W v ++ L) W ∧ slIs W 31 3 V.cells v xs ∧ (∀ g, v.ownBlock = some g → B ≤ g) ∧ (∀ p ∈ L, p.1 < B) ∧ w.heap.size ≤ B ∧ B ≤ W.heap.size
theorem RowAt.made {w W : World} {h : Nat} {H : HeapM} {L : List (Nat × Obj)} (A : HAt w h H L W) (hL : ∀ p ∈ L, p.1 < W.heap.size) : RowAt W.heap.size w h H L (W.alloc (.cells #[] 31)) (.slice (some ⟨W.heap.size, 0, none⟩) 0 0) [] := by
  have h0 : (W.alloc (.cells #[] 31)).ownsRow 0 31 3 (.slice (some ⟨W.heap.size, 0, none⟩) 0 0) 0 [] := World.ownsRow_made W #[] 0 (Nat.zero_le _) (Nat.zero_le _) rfl
  have hb : Below W.heap.size W (W.alloc (.cells #[] 31)) := belowAlloc _ _
  have hf : ∀ b, (Value.slice (some ⟨W.heap.size, 0, none⟩) 0 0).ownBlock = some b → W.heap.size ≤ b := fun b e => by simp [Value.ownBlock] at e; omega
  exact ⟨A.withSl hb hf, h0, hf, hL, A.below.size, by rw [World.size_alloc]; omega⟩
end Go.Proofs.YtobcnffjfclolaaDoor
