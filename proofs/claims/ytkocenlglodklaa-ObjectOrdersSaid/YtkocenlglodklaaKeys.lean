/- Which keys a heap's dicts have. -/
import Derived.Test.YtkocenlglodklaaClsM
namespace Go.Proofs.Ytkocenlglodklaa
set_option linter.unusedSimpArgs false
open Go.RowKit
set_option linter.unusedVariables false
def nameK (k : Nat) : ByteArray := match k with | 0 => ⟨#[97]⟩ | 1 => ⟨#[98]⟩ | 2 => ⟨#[95, 95, 105, 110, 105, 116, 95, 95]⟩ | _ => ⟨#[]⟩
theorem nameK_le (k : Nat) : (nameK k).size ≤ maxLen := by
  match k with
  | 0 => decide
  | 1 => decide
  | 2 => decide
  | n + 3 => exact Nat.zero_le _
/-- No pair has that key. -/
def HeapM.NoKey (H : HeapM) (y : V) : Prop := ∀ p ∈ H.objs, ∀ q ∈ p.2.pairs, q.1 ≠ y
/-- All keys are names. -/
def HeapM.NamesOnly (H : HeapM) : Prop := ∀ y, (∀ k, keyS (nameK k) (nameK_le k) ≠ y) → H.NoKey y
theorem names_empty : (⟨[], 0⟩ : HeapM).NamesOnly := fun y _ p hp => by cases hp
theorem NoKey.pairs {H : HeapM} {y : V} (h : H.NoKey y) (v : V) : ∀ q ∈ H.pairs v, q.1 ≠ y := by
  unfold HeapM.pairs
  cases g : H.of v with
  | none => intro q hq; simp at hq
  | some o => exact h _ (getL_mem (HeapM.of_some g).2)
theorem NoKey.get {H : HeapM} {y : V} (h : H.NoKey y) (v : V) : H.get v y = none := by
  unfold HeapM.get
  exact getL_none.2 (NoKey.pairs h v)
theorem names_add {H : HeapM} (h : H.NamesOnly) (o : ObjM) (ho : ∀ y, (∀ k, keyS (nameK k) (nameK_le k) ≠ y) → ∀ q ∈ o.pairs, q.1 ≠ y) : (H.add o).NamesOnly := fun y hy p hp => by
  rcases List.mem_append.1 hp with h1 | h1
  · exact h y hy p h1
  · simp at h1; subst h1; exact ho y hy
theorem key_putL {L : List (V × V)} {k x : V} {q : V × V} (h : q ∈ putL L k x) : q.1 = k ∨ ∃ p ∈ L, q.1 = p.1 := by
  cases g : getL L k with
  | none =>
    rw [putL_none x g] at h
    rcases List.mem_append.1 h with h | h
    · exact .inr ⟨q, h, rfl⟩
    · simp at h; subst h; exact .inl rfl
  | some y =>
    rw [putL_some x g] at h
    obtain ⟨p, hp, e⟩ := List.mem_map.1 h
    by_cases hk : p.1 = k
    · rw [if_pos hk] at e; subst e; exact .inl rfl
    · rw [if_neg hk] at e; subst e; exact .inr ⟨p, hp, rfl⟩
theorem names_put {H : HeapM} (h : H.NamesOnly) (v : V) (k : Nat) (x : V) : (H.put v (keyS (nameK k) (nameK_le k)) x).NamesOnly := fun y hy p hp q hq => by
  obtain ⟨r, hr, _, _, _, h1 | ⟨_, h1⟩⟩ := mem_put hp
  · rw [h1] at hq; exact h y hy r hr q hq
  · rw [h1] at hq
    rcases key_putL hq with h2 | ⟨z, hz, h2⟩
    · rw [h2]; exact hy k
    · rw [h2]; exact h y hy r hr z hz
theorem names_mk {H H' : HeapM} (h : H.NamesOnly) {s : ByteArray} {hs : s.size ≤ maxLen} {bases : List V} {sp : V} (e : H.mkClass s hs bases sp = some H') : H'.NamesOnly := by
  obtain ⟨l, _, _, rfl⟩ := mkClass_some e
  exact names_add h _ fun y hy => NoKey.pairs (h y hy) sp
end Go.Proofs.Ytkocenlglodklaa
