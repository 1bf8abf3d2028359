/- A number is pushed on a row of one's own. -/
import Derived.Test.YtellmfimmghidaaGreatHeapF
namespace Go.Proofs.YtellmfimmghidaaGreat
set_option linter.unusedSimpArgs false
open Go.RowKit
set_option linter.unusedVariables false
/-- A row of numbers of one's own, in a world that is as `w` was below. -/
def RowN (w : World) (W : World) (v : Value) (xs : List Int) : Prop := slIs W 2 1 intCell v xs ∧ (∀ g, v.ownBlock = some g → w.heap.size ≤ g) ∧ Below w.heap.size w W
theorem RowN.later {w W W' : World} {v : Value} {xs : List Int} (h : RowN w W v xs) (hb : Below W.heap.size W W') : RowN w W' v xs := ⟨h.1.of_block fun g hg => hb.block g (h.1.lt g hg), h.2.1, Below.next h.2.2 hb h.2.2.size⟩
theorem RowN.pushed {w W W' : World} {v v' : Value} {xs xs' : List Int} (h : RowN w W v xs) (h' : slIs W' 2 1 intCell v' xs') (hg : W.grownBy W' v.ownBlock) (hat : v'.ownBlock = v.ownBlock ∨ v'.ownBlock = some W.heap.size) : RowN w W' v' xs' := by
  obtain ⟨h1, h2, h3⟩ := h
  refine ⟨h', fun g hg' => ?_, Outside.below_of h3 (Outside.of_grown hg) (fun b hb => h2 b (by simpa using hb)) h3.size⟩
  rcases hat with e | e
  · exact h2 g (by rw [← e]; exact hg')
  · rw [e] at hg'; have := Option.some.inj hg'; have := h3.size; omega
theorem RowN.made {w W : World} (h : Below w.heap.size w W) : RowN w (W.alloc (.cells #[] 2)) (.slice (some ⟨W.heap.size, 0, none⟩) 0 0) [] := by
  have h0 : (W.alloc (.cells #[] 2)).ownsRow 0 2 1 (.slice (some ⟨W.heap.size, 0, none⟩) 0 0) 0 [] := World.ownsRow_made W #[] 0 (Nat.zero_le _) (Nat.zero_le _) rfl
  have := h.size
  exact ⟨h0, fun b e => by simp [Value.ownBlock] at e; omega, h.alloc h.size _⟩
end Go.Proofs.YtellmfimmghidaaGreat
