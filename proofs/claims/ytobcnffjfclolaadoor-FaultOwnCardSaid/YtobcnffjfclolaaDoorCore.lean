/- What any law over a heap shares. -/
import Derived.Test.YtobcnffjfclolaaDoorRows2
import Derived.Test.YtobcnffjfclolaaDoorAll
import Derived.Test.YtobcnffjfclolaaDoorKeptA
import Derived.Test.YtobcnffjfclolaaDoorLocal
namespace Go.Proofs.YtobcnffjfclolaaDoor
set_option linter.unusedSimpArgs false
open Go.RowKit
set_option linter.unusedVariables false
/-- Each object is of a kind that there is. -/
def HeapM.Kinds (H : HeapM) : Prop := ∀ p ∈ H.objs, 1 ≤ p.2.kind ∧ p.2.kind ≤ 12
theorem HeapM.Kinds.set {H : HeapM} (h : H.Kinds) {v : V} {o : ObjM} (g : H.of v = some o) (o' : ObjM) (hk : o'.kind = o.kind) : (H.set v.n o').Kinds := fun p hp => by
  obtain ⟨q, hq, e⟩ := List.mem_map.1 hp
  by_cases hn : q.1 = v.n
  · rw [if_pos hn] at e
    subst e
    rw [hk]
    exact h _ (getL_mem (HeapM.of_some g).2)
  · rw [if_neg hn] at e; subst e; exact h q hq
/-- All are numbers of objects, none twice. -/
def HeapM.Nums (H : HeapM) (l : List Int) : Prop := l.Nodup ∧ ∀ n ∈ l, (getL H.objs n).isSome = true
theorem HeapM.Nums.add {H : HeapM} {l : List Int} (h : H.Nums l) {n : Int} (hn : (getL H.objs n).isSome = true) (hm : n ∉ l) : H.Nums (l ++ [n]) :=
  ⟨List.nodup_append.2 ⟨h.1, by simp, fun a ha b hb e => by simp at hb; subst hb; subst e; exact hm ha⟩, fun m hm' => by
    rcases List.mem_append.1 hm' with h1 | h1
    · exact h.2 m h1
    · simp at h1; subst h1; exact hn⟩
theorem HeapM.Nums.len {H : HeapM} {l : List Int} (h : H.Nums l) : l.length ≤ H.objs.length := by
  have hs : l ⊆ H.objs.map (·.1) := fun n hn => by
    obtain ⟨o, ho⟩ := Option.isSome_iff_exists.1 (h.2 n hn)
    exact List.mem_map.2 ⟨_, getL_mem ho, rfl⟩
  have := List.Nodup.length_le_of_subset h.1 hs
  simpa using this
theorem HeapM.Good.len {H : HeapM} {N : Nat} (G : H.Good N) : H.objs.length ≤ N := by have := G.wt; unfold HeapM.weight at this; omega
theorem HeapM.Kinds.zero {H : HeapM} (h : H.Kinds) (v : V) : H.kind v = 0 ↔ (H.of v).isSome = false := by
  unfold HeapM.kind
  cases g : H.of v with
  | none => simp
  | some o => have := h _ (getL_mem (HeapM.of_some g).2); simp only at this; simp; omega
section
variable {w W : World} {h : Nat} {H : HeapM} {Rs : List Res} {N : Nat}
end
section
variable {w W : World} {h : Nat} {H : HeapM} {Rs : List Res} {N : Nat}
end
section
variable {w W : World} {Rs : List Res}
theorem Sep.setBox (S : Sep w Rs W) {b : Nat} {cs : Array Value} {t : TypeId} (i : Nat) (hi : Rs[i]? = some (boxR b (.cells cs t))) (k : Nat) (u : Value) : Sep w (Rs.set i (boxR b (.cells (cs.setIfInBounds k u) t))) (W.setCell ⟨b, k, none⟩ u) :=
  S.turn i hi fun F hF hn _ => ⟨[b], ⟨heap_setCell_same hF.1 k u, rfl⟩, by simp, fun c hc => .inl (by rw [hF.2]; exact hc), by rw [hF.2]; exact (Outside.refl _ _).setCell (.inl (by simp)) u⟩
end
theorem Sep.join {w W W' : World} {Rs Qs : List Res} (S : Sep w Rs W) (T : Sep W Qs W') : Sep w (Qs ++ Rs) W' := by
  obtain ⟨hb, G, g1, g2, g3⟩ := T
  exact S.more hb g1 g2 g3
end Go.Proofs.YtobcnffjfclolaaDoor
