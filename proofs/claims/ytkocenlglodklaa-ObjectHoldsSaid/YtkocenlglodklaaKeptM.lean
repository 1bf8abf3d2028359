/- What a sweep keeps, plainly: of any heap. -/
import Derived.Test.YtkocenlglodklaaCore
namespace Go.Proofs.Ytkocenlglodklaa
set_option linter.unusedSimpArgs false
open Go.RowKit
set_option linter.unusedVariables false
theorem snoc_ind {α : Type} {P : List α → Prop} (h0 : P []) (h1 : ∀ l x, P l → P (l ++ [x])) (l : List α) : P l := by
  have : ∀ m : List α, P m.reverse := by
    intro m
    induction m with
    | nil => exact h0
    | cons x r ih => rw [List.reverse_cons]; exact h1 _ _ ih
  have := this l.reverse
  rwa [List.reverse_reverse] at this
theorem kept_live {H : HeapM} {E : List V} {n : Int} (h : Kept H E n) : (getL H.objs n).isSome = true := by
  obtain ⟨S, h1, h2⟩ := h; exact (h1 n h2).1
theorem kept_sup (H : HeapM) (E : List V) : Sup H E (Kept H E) := fun n h => by
  obtain ⟨S, h1, h2⟩ := h
  refine ⟨(h1 n h2).1, ?_⟩
  rcases (h1 n h2).2 with h | ⟨m, o, k1, k2, k3⟩
  · exact .inl h
  · exact .inr ⟨m, o, ⟨S, h1, k1⟩, k2, k3⟩
theorem kept_more {H : HeapM} {E : List V} {n : Int} (hl : (getL H.objs n).isSome = true) (h : 0 < cnt E n ∨ ∃ m o, Kept H E m ∧ getL H.objs m = some o ∧ 0 < cnt o.vals n) : Kept H E n := by
  refine ⟨fun m => m = n ∨ Kept H E m, fun m hm => ?_, .inl rfl⟩
  rcases hm with rfl | hm
  · refine ⟨hl, ?_⟩
    rcases h with h | ⟨m, o, k1, k2, k3⟩
    · exact .inl h
    · exact .inr ⟨m, o, .inr k1, k2, k3⟩
  · refine ⟨kept_live hm, ?_⟩
    rcases (kept_sup H E m hm).2 with h | ⟨m', o, k1, k2, k3⟩
    · exact .inl h
    · exact .inr ⟨m', o, .inr k1, k2, k3⟩
theorem kept_held {H : HeapM} {E : List V} {v : V} (hv : v ∈ E) (h : (H.of v).isSome = true) : Kept H E v.n := by
  obtain ⟨o, ho⟩ := Option.isSome_iff_exists.1 h
  obtain ⟨hk, hg⟩ := HeapM.of_some ho
  exact kept_more (by rw [hg]; rfl) (.inl (cnt_pos.2 ⟨v, hv, hk, rfl⟩))
theorem kept_refs {H : HeapM} {E : List V} {n : Int} (h : Kept H E n) : ∀ m ∈ H.refsOf n, Kept H E m := by
  intro m hm
  have hl := H.refsOf_live n m hm
  unfold HeapM.refsOf at hm
  cases g : getL H.objs n with
  | none => rw [g] at hm; simp at hm
  | some o =>
    rw [g] at hm
    obtain ⟨x, hx, rfl⟩ := List.mem_map.1 hm
    obtain ⟨h1, h2⟩ := List.mem_filter.1 hx
    obtain ⟨o', ho'⟩ := Option.isSome_iff_exists.1 h2
    exact kept_more hl (.inr ⟨n, o, h, g, cnt_pos.2 ⟨x, h1, (HeapM.of_some ho').1, rfl⟩⟩)
theorem getL_filter_key {K X : Type} [DecidableEq K] (l : List (K × X)) (q : K → Bool) (k : K) : getL (l.filter fun p => q p.1) k = if q k then getL l k else none := by
  induction l with
  | nil => simp [getL]
  | cons p r ih =>
    by_cases hp : q p.1 = true
    · rw [List.filter_cons_of_pos (by simpa using hp)]
      by_cases e : p.1 = k
      · subst e; simp [getL, hp]
      · have e1 : ∀ l : List (K × X), getL (p :: l) k = getL l k := fun l => by simp [getL, e]
        rw [e1, e1, ih]
    · rw [List.filter_cons_of_neg (by simpa using hp)]
      by_cases e : p.1 = k
      · subst e; rw [ih]; simp [hp]
      · have e1 : ∀ l : List (K × X), getL (p :: l) k = getL l k := fun l => by simp [getL, e]
        rw [e1, ih]
theorem sweep_get (H : HeapM) (E : List V) (n : Int) : getL (H.sweep E).objs n = if @decide (Kept H E n) (Classical.propDecidable _) then getL H.objs n else none :=
  getL_filter_key H.objs (fun n => @decide (Kept H E n) (Classical.propDecidable _)) n
theorem sweep_kept {H : HeapM} {E : List V} {n : Int} (h : Kept H E n) : getL (H.sweep E).objs n = getL H.objs n := by
  rw [sweep_get, if_pos (by simpa using h)]
theorem sweep_gone {H : HeapM} {E : List V} {n : Int} (h : ¬ Kept H E n) : getL (H.sweep E).objs n = none := by
  rw [sweep_get, if_neg (by simpa using h)]
theorem sweep_of_held {H : HeapM} {E : List V} {v : V} (hv : v ∈ E) : ((H.sweep E).of v).isSome = (H.of v).isSome := by
  cases h : (H.of v).isSome with
  | true =>
    have hk := kept_held hv h
    obtain ⟨o, ho⟩ := Option.isSome_iff_exists.1 h
    obtain ⟨h4, -⟩ := HeapM.of_some ho
    unfold HeapM.of at h ⊢
    rw [if_pos h4] at h ⊢
    rw [sweep_kept hk]; exact h
  | false =>
    unfold HeapM.of at h ⊢
    split
    · rename_i h4
      rw [if_pos h4] at h
      rw [sweep_get]
      split
      · exact h
      · rfl
    · rfl
theorem sweep_refs {H : HeapM} {E : List V} {n : Int} (h : Kept H E n) : (H.sweep E).refsOf n = H.refsOf n := by
  unfold HeapM.refsOf
  rw [sweep_kept h]
  cases g : getL H.objs n with
  | none => rfl
  | some o =>
    simp only
    congr 1
    unfold HeapM.refs
    refine List.filter_congr fun x hx => ?_
    unfold HeapM.of
    split
    · rename_i h4
      cases gx : getL H.objs x.n with
      | none => rw [sweep_get]; split; exact congrArg _ gx; rfl
      | some ox =>
        have : Kept H E x.n := kept_more (by rw [gx]; rfl) (.inr ⟨n, o, h, g, cnt_pos.2 ⟨x, hx, h4, rfl⟩⟩)
        rw [sweep_kept this, gx]
    · rfl
end Go.Proofs.Ytkocenlglodklaa
