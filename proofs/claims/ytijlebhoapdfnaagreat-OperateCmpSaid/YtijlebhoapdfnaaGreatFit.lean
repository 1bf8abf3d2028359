/- A heap in good order. -/
import Derived.Test.YtijlebhoapdfnaaGreatCore
import Derived.Test.YtijlebhoapdfnaaGreatSep
namespace Go.Proofs.YtijlebhoapdfnaaGreat
set_option linter.unusedSimpArgs false
open Go.RowKit
set_option linter.unusedVariables false
/-- An object's pairs are in order. -/
structure PairsOk (L : List (V × V)) : Prop where
 nd : (L.map (·.1)).Nodup
 key : ∀ q ∈ L, q.1.isKey = true
 len : L.length ≤ 4096
/-- A heap in good order, with a bound. -/
structure HeapM.Fit (H : HeapM) (N : Nat) : Prop where
 G : H.Good N
 K : H.Kinds
 P : ∀ p ∈ H.objs, PairsOk p.2.pairs
theorem HeapM.Fit.more {H : HeapM} {N M : Nat} (h : H.Fit N) (hM : N ≤ M) : H.Fit M := ⟨h.G.more hM, h.K, h.P⟩
theorem fit_empty : (⟨[], 0⟩ : HeapM).Fit 0 := ⟨good_empty, by simp [HeapM.Kinds], by simp⟩
theorem HeapM.Fit.set {H : HeapM} {N M : Nat} (h : H.Fit N) {v : V} {o : ObjM} (g : H.of v = some o) (o' : ObjM) (hk : o'.kind = o.kind) (hp : PairsOk o'.pairs) (G : (H.set v.n o').Good M) : (H.set v.n o').Fit M :=
 ⟨G, h.K.set g o' hk, fun p hp' => by
  obtain ⟨q, hq, e⟩ := List.mem_map.1 hp'
  by_cases hn : q.1 = v.n
  ·
   rw [if_pos hn] at e; subst e; exact hp
  ·
   rw [if_neg hn] at e; subst e; exact h.P q hq⟩
theorem HeapM.Fit.add {H : HeapM} {N : Nat} (h : H.Fit N) (o : ObjM) (hk : 1 ≤ o.kind ∧ o.kind ≤ 12) (hp : o.pairs = []) : (H.add o).Fit (N + o.items.length + 2) :=
 ⟨by have := h.G.add o; simpa [ObjM.vals, hp] using this, fun p hp' => by
  rcases List.mem_append.1 hp' with h1 | h1
  ·
   exact h.K p h1
  ·
   simp at h1; subst h1; exact hk, fun p hp' => by
  rcases List.mem_append.1 hp' with h1 | h1
  ·
   exact h.P p h1
  ·
   simp at h1; subst h1; exact ⟨by simp [hp], by simp [hp], by simp [hp]⟩⟩
theorem PairsOk.put {L : List (V × V)} (h : PairsOk L) (k x : V) (hp : putOk L k = true) : PairsOk (putL L k x) := by
 cases g : getL L k with
 | none =>
  simp only [putOk, g, Option.isSome_none, Bool.false_or, Bool.and_eq_true, decide_eq_true_eq] at hp
  refine ⟨nodup_putL h.nd k x, fun q hq => ?_, ?_⟩
  ·
   rw [putL_none x g] at hq
   rcases List.mem_append.1 hq with h1 | h1
   ·
    exact h.key q h1
   ·
    simp at h1; subst h1; exact hp.1
  ·
   rw [putL_none x g]; simp; omega
 | some y =>
  refine ⟨nodup_putL h.nd k x, fun q hq => ?_, ?_⟩
  ·
   rw [putL_some x g] at hq
   obtain ⟨p, hp', e⟩ := List.mem_map.1 hq
   by_cases hk : p.1 = k
   ·
    rw [if_pos hk] at e; subst e; show k.isKey = true; rw [← hk]; exact h.key p hp'
   ·
    rw [if_neg hk] at e; subst e; exact h.key p hp'
  ·
   rw [putL_some x g]; simpa using h.len
theorem HeapM.Fit.put {H : HeapM} {N : Nat} (h : H.Fit N) (v k x : V) : (H.put v k x).Fit (N + 1) := by
 have G := h.G.put v k x
 revert G
 unfold HeapM.put
 cases g : H.of v with
 | none => exact fun G => h.more (by omega)
 | some o =>
  simp only
  split
  ·
   rename_i hp
   exact fun G => h.set g _ rfl ((h.P _ (getL_mem (HeapM.of_some g).2)).put k x hp) G
  ·
   exact fun G => h.more (by omega)
theorem HeapM.Fit.replace {H : HeapM} {N : Nat} (h : H.Fit N) (v : V) (i j : Int) (l : List V) : (H.replace v i j l).Fit (N + l.length) := by
 have G := h.G.replace v i j l
 revert G
 unfold HeapM.replace
 cases g : H.of v with
 | none => exact fun G => h.more (by omega)
 | some o =>
  simp only
  split
  ·
   exact fun G => h.set g _ rfl (h.P _ (getL_mem (HeapM.of_some g).2)) G
  ·
   exact fun G => h.more (by omega)
theorem news_block {w : World} {B : Nat} {cs : Array Value} {t : TypeId} {fr : Nat × Nat} (hb : w.heap[B]? = some (.cells cs t fr)) : ∀ (j : Nat) (u : Value), cs.toList[j]? = some u → w.cell? ((⟨B, 0, none⟩ : Addr).add j) = some u := fun j u hu => by
 have hadd : (⟨B, 0, none⟩ : Addr).add j = ⟨B, j, none⟩ := by unfold Addr.add; split <;> simp_all
 rw [hadd, cell_of_row w B j cs t fr hb]
 simpa using hu
end Go.Proofs.YtijlebhoapdfnaaGreat
