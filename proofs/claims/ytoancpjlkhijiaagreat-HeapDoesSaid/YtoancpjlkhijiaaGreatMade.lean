/- The law's made: a heap that some operations made. -/
import Derived.Test.YtoancpjlkhijiaaGreatOps
import Derived.Test.YtoancpjlkhijiaaGreatDoA
import Derived.Test.YtoancpjlkhijiaaGreatCore
namespace Go.Proofs.YtoancpjlkhijiaaGreat
set_option linter.unusedSimpArgs false
open Go.RowKit
set_option linter.unusedVariables false
noncomputable def madeM (l : List OpM) : HeapM := l.foldl HeapM.doo ⟨[], 0⟩
theorem madeM_good (l : List OpM) (h : ∀ x ∈ l, x.l.length ≤ 60) : (madeM l).Good (62 * l.length) := by
  have : ∀ (l : List OpM) (H : HeapM) (N : Nat), H.Good N → (∀ x ∈ l, x.l.length ≤ 60) → (l.foldl HeapM.doo H).Good (N + 62 * l.length) := by
    intro l
    induction l with
    | nil => intro H N h _; exact h
    | cons x r ih =>
      intro H N h hx
      have h1 := hx x List.mem_cons_self
      have := ih (H.doo x) (N + 62) ((h.doo x).more (by omega)) (fun y hy => hx y (List.mem_cons_of_mem _ hy))
      exact this.more (by simp only [List.length_cons]; omega)
  exact (this l ⟨[], 0⟩ 0 good_empty h).more (by omega)
theorem madeM_goodW (l : List OpM) : (madeM l).Good (opsW l) := by
  have : ∀ (l : List OpM) (H : HeapM) (N : Nat), H.Good N → (l.foldl HeapM.doo H).Good (N + opsW l) := by
    intro l
    induction l with
    | nil => intro H N h; exact h
    | cons x r ih =>
      intro H N h
      exact (ih (H.doo x) _ (h.doo x)).more (by rw [opsW_cons]; omega)
  exact (this l ⟨[], 0⟩ 0 good_empty).more (by omega)
theorem madeM_snoc (l : List OpM) (x : OpM) : madeM (l ++ [x]) = (madeM l).doo x := by simp [madeM, List.foldl_append]
theorem not_big {l : List OpM} (h : bigM l = false) : l.length ≤ 60 ∧ ∀ x ∈ l, x.l.length ≤ 60 := by
  simp only [bigM, Bool.or_eq_false_iff, decide_eq_false_iff_not, List.any_eq_false, decide_eq_true_eq] at h
  exact ⟨by omega, fun x hx => by have := h.2 x hx; omega⟩
/-- The operation at an index, as the world has it. -/
theorem SeesO.at_ {w : World} {a : Option Addr} {n c : Nat} {l : List OpM} (h : SeesO w (.slice a n c) l) {k : Nat} {x : OpM} (hx : l[k]? = some x) : ∃ g o, a = some ⟨g, o, none⟩ ∧ (∀ j u, x.cells[j]? = some u → w.cell? ⟨g, o + k * 16 + j, none⟩ = some u) ∧ x.In w := by
  obtain ⟨a', c', he, h1, h2, h3, h4⟩ := h
  obtain ⟨rfl, _, rfl⟩ := Value.slice.inj he
  rcases h3 with h3 | ⟨g, o, h3, h5⟩
  · subst h3; simp at hx
  · exact ⟨g, o, h3, h5 k x hx, h4 x (List.mem_of_getElem? hx)⟩
theorem opsW_small {l : List OpM} (h : bigM l = false) : opsW l ≤ 3720 := by
  obtain ⟨h1, h2⟩ := not_big h
  have : ∀ l : List OpM, (∀ x ∈ l, x.l.length ≤ 60) → opsW l ≤ 62 * l.length := by
    intro l
    induction l with
    | nil => intro _; simp [opsW]
    | cons x r ih => intro h; rw [opsW_cons, List.length_cons]; have := h x (by simp); have := ih (fun y hy => h y (by simp [hy])); omega
  have := this l h2; omega
theorem HeapM.Kinds.doo {H : HeapM} (h : H.Kinds) (o : OpM) : (H.doo o).Kinds := by
  unfold HeapM.doo
  split
  · split
    · rename_i hk
      intro p hp
      rcases List.mem_append.1 hp with hp | hp
      · exact h p hp
      · simp at hp; subst hp; exact hk
    · exact h
  split
  · unfold HeapM.setNum; split
    · rename_i g; exact h.set g _ rfl
    · exact h
  split
  · unfold HeapM.setAt; split
    · rename_i g; split
      · exact h.set g _ rfl
      · exact h
    · exact h
  split
  · unfold HeapM.replace; split
    · rename_i g; split
      · exact h.set g _ rfl
      · exact h
    · exact h
  split
  · unfold HeapM.put; split
    · rename_i g; split
      · exact h.set g _ rfl
      · exact h
    · exact h
  split
  · unfold HeapM.del; split
    · rename_i g; exact h.set g _ rfl
    · exact h
  split
  · exact h.filter _ fun p hp => (List.mem_filter.1 hp).1
  split
  · have : ∀ (ns : List Int) (H : HeapM), H.Kinds → (H.freeAll ns).Kinds := by
      intro ns
      induction ns with
      | nil => intro H h; exact h
      | cons n r ih => intro H h; exact ih _ (h.drop n)
    exact this _ _ h
  · exact h
theorem madeM_kinds (l : List OpM) : (madeM l).Kinds := by
  have : ∀ (l : List OpM) (H : HeapM), H.Kinds → (l.foldl HeapM.doo H).Kinds := by
    intro l
    induction l with
    | nil => intro H h; exact h
    | cons x r ih => intro H h; exact ih _ (h.doo x)
  exact this l _ (by simp [HeapM.Kinds])
end Go.Proofs.YtoancpjlkhijiaaGreat
