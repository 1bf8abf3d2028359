/- What a sweep keeps, plainly. -/
import Derived.Test.YtoancpjlkhijiaaReach
namespace Go.Proofs.Ytoancpjlkhijiaa
set_option linter.unusedSimpArgs false
open Go.RowKit
set_option linter.unusedVariables false
theorem snoc_ind {α : Type} {P : List α → Prop} (h0 : P []) (h1 : ∀ l x, P l → P (l ++ [x])) (l : List α) : P l := by
  have : ∀ m : List α, P m.reverse := by
    intro m
    induction m with
    | nil => exact h0
    | cons x r ih => rw [List.reverse_cons]; exact h1 _ _ ih
  have := this l.reverse
  rwa [List.reverse_reverse] at this
theorem kept_live {H : HeapM} {E : List V} {n : Int} (h : Kept H E n) : (getL H.objs n).isSome = true := by
  obtain ⟨S, h1, h2⟩ := h; exact (h1 n h2).1
theorem kept_sup (H : HeapM) (E : List V) : Sup H E (Kept H E) := fun n h => by
  obtain ⟨S, h1, h2⟩ := h
  refine ⟨(h1 n h2).1, ?_⟩
  rcases (h1 n h2).2 with h | ⟨m, o, k1, k2, k3⟩
  · exact .inl h
  · exact .inr ⟨m, o, ⟨S, h1, k1⟩, k2, k3⟩
theorem kept_more {H : HeapM} {E : List V} {n : Int} (hl : (getL H.objs n).isSome = true) (h : 0 < cnt E n ∨ ∃ m o, Kept H E m ∧ getL H.objs m = some o ∧ 0 < cnt o.vals n) : Kept H E n := by
  refine ⟨fun m => m = n ∨ Kept H E m, fun m hm => ?_, .inl rfl⟩
  rcases hm with rfl | hm
  · refine ⟨hl, ?_⟩
    rcases h with h | ⟨m, o, k1, k2, k3⟩
    · exact .inl h
    · exact .inr ⟨m, o, .inr k1, k2, k3⟩
  · refine ⟨kept_live hm, ?_⟩
    rcases (kept_sup H E m hm).2 with h | ⟨m', o, k1, k2, k3⟩
    · exact .inl h
    · exact .inr ⟨m', o, .inr k1, k2, k3⟩
theorem kept_held {H : HeapM} {E : List V} {v : V} (hv : v ∈ E) (h : (H.of v).isSome = true) : Kept H E v.n := by
  obtain ⟨o, ho⟩ := Option.isSome_iff_exists.1 h
  obtain ⟨hk, hg⟩ := HeapM.of_some ho
  exact kept_more (by rw [hg]; rfl) (.inl (cnt_pos.2 ⟨v, hv, hk, rfl⟩))
theorem kept_refs {H : HeapM} {E : List V} {n : Int} (h : Kept H E n) : ∀ m ∈ H.refsOf n, Kept H E m := by
  intro m hm
  have hl := H.refsOf_live n m hm
  unfold HeapM.refsOf at hm
  cases g : getL H.objs n with
  | none => rw [g] at hm; simp at hm
  | some o =>
    rw [g] at hm
    obtain ⟨x, hx, rfl⟩ := List.mem_map.1 hm
    obtain ⟨h1, h2⟩ := List.mem_filter.1 hx
    obtain ⟨o', ho'⟩ := Option.isSome_iff_exists.1 h2
    exact kept_more hl (.inr ⟨n, o, h, g, cnt_pos.2 ⟨x, h1, (HeapM.of_some ho').1, rfl⟩⟩)
theorem getL_filter_key {K X : Type} [DecidableEq K] (l : List (K × X)) (q : K → Bool) (k : K) : getL (l.filter fun p => q p.1) k = if q k then getL l k else none := by
  induction l with
  | nil => simp [getL]
  | cons p r ih =>
    by_cases hp : q p.1 = true
    · rw [List.filter_cons_of_pos (by simpa using hp)]
      by_cases e : p.1 = k
      · subst e; simp [getL, hp]
      · have e1 : ∀ l : List (K × X), getL (p :: l) k = getL l k := fun l => by simp [getL, e]
        rw [e1, e1, ih]
    · rw [List.filter_cons_of_neg (by simpa using hp)]
      by_cases e : p.1 = k
      · subst e; rw [ih]; simp [hp]
      · have e1 : ∀ l : List (K × X), getL (p :: l) k = getL l k := fun l => by simp [getL, e]
        rw [e1, ih]
theorem sweep_get (H : HeapM) (E : List V) (n : Int) : getL (H.sweep E).objs n = if @decide (Kept H E n) (Classical.propDecidable _) then getL H.objs n else none :=
  getL_filter_key H.objs (fun n => @decide (Kept H E n) (Classical.propDecidable _)) n
theorem sweep_kept {H : HeapM} {E : List V} {n : Int} (h : Kept H E n) : getL (H.sweep E).objs n = getL H.objs n := by
  rw [sweep_get, if_pos (by simpa using h)]
theorem sweep_gone {H : HeapM} {E : List V} {n : Int} (h : ¬ Kept H E n) : getL (H.sweep E).objs n = none := by
  rw [sweep_get, if_neg (by simpa using h)]
theorem sweep_of_held {H : HeapM} {E : List V} {v : V} (hv : v ∈ E) : ((H.sweep E).of v).isSome = (H.of v).isSome := by
  cases h : (H.of v).isSome with
  | true =>
    have hk := kept_held hv h
    obtain ⟨o, ho⟩ := Option.isSome_iff_exists.1 h
    obtain ⟨h4, -⟩ := HeapM.of_some ho
    unfold HeapM.of at h ⊢
    rw [if_pos h4] at h ⊢
    rw [sweep_kept hk]; exact h
  | false =>
    unfold HeapM.of at h ⊢
    split
    · rename_i h4
      rw [if_pos h4] at h
      rw [sweep_get]
      split
      · exact h
      · rfl
    · rfl
theorem sweep_refs {H : HeapM} {E : List V} {n : Int} (h : Kept H E n) : (H.sweep E).refsOf n = H.refsOf n := by
  unfold HeapM.refsOf
  rw [sweep_kept h]
  cases g : getL H.objs n with
  | none => rfl
  | some o =>
    simp only
    congr 1
    unfold HeapM.refs
    refine List.filter_congr fun x hx => ?_
    unfold HeapM.of
    split
    · rename_i h4
      cases gx : getL H.objs x.n with
      | none => rw [sweep_get]; split; exact congrArg _ gx; rfl
      | some ox =>
        have : Kept H E x.n := kept_more (by rw [gx]; rfl) (.inr ⟨n, o, h, g, cnt_pos.2 ⟨x, hx, h4, rfl⟩⟩)
        rw [sweep_kept this, gx]
    · rfl
theorem seed_kept (H : HeapM) (E : List V) : ∀ n ∈ H.seed E, Kept H E n := by
  have : ∀ (l : List V), (∀ v ∈ l, v ∈ E) → ∀ n ∈ H.seed l, Kept H E n := by
    refine snoc_ind (fun _ n hn => by simp [HeapM.seed] at hn) (fun l v ih => ?_)
    · intro hl n hn
      rw [HeapM.seed_snoc] at hn
      split at hn
      · rename_i h
        rcases List.mem_append.1 hn with hn | hn
        · exact ih (fun x hx => hl x (by simp [hx])) n hn
        · simp at hn; subst hn; exact kept_held (hl v (by simp)) h.1
      · exact ih (fun x hx => hl x (by simp [hx])) n hn
  exact this E fun _ h => h
theorem addNew_mem {out r : List Int} {n : Int} (h : n ∈ addNew out r) : n ∈ out ∨ n ∈ r := by
  induction r generalizing out with
  | nil => exact .inl h
  | cons m r ih =>
    rcases ih (out := if m ∈ out then out else out ++ [m]) h with h | h
    · split at h
      · exact .inl h
      · rcases List.mem_append.1 h with h | h
        · exact .inl h
        · simp at h; exact .inr (by simp [h])
    · exact .inr (by simp [h])
theorem reachK_kept (H : HeapM) (E : List V) : ∀ k, ∀ n ∈ H.reachK E k, Kept H E n
  | 0 => seed_kept H E
  | k + 1 => fun n hn => by
    unfold HeapM.reachK at hn
    split at hn
    · rename_i m hm
      rcases addNew_mem hn with h | h
      · exact reachK_kept H E k n h
      · exact kept_refs (reachK_kept H E k m (List.mem_of_getElem? hm)) n h
    · exact reachK_kept H E k n hn
theorem seed_sweep (H : HeapM) (E : List V) : (H.sweep E).seed E = H.seed E := by
  have : ∀ (l : List V), (∀ v ∈ l, v ∈ E) → (H.sweep E).seed l = H.seed l := by
    refine snoc_ind (fun _ => rfl) (fun l v ih => ?_)
    · intro hl
      rw [HeapM.seed_snoc, HeapM.seed_snoc, ih (fun x hx => hl x (by simp [hx])), sweep_of_held (hl v (by simp))]
  exact this E fun _ h => h
theorem reachK_sweep (H : HeapM) (E : List V) : ∀ k, (H.sweep E).reachK E k = H.reachK E k
  | 0 => seed_sweep H E
  | k + 1 => by
    unfold HeapM.reachK
    rw [reachK_sweep H E k]
    cases g : (H.reachK E k)[k]? with
    | none => rfl
    | some n => simp only; rw [sweep_refs (reachK_kept H E k n (List.mem_of_getElem? g))]
/-- Where nothing is left to be looked at, nothing comes any more. -/
theorem reachK_end (H : HeapM) (E : List V) {k k' : Nat} (h : (H.reachK E k).length = k) (h' : (H.reachK E k').length = k') : H.reachK E k = H.reachK E k' := by
  have step : ∀ k j, (H.reachK E k).length = k → H.reachK E (k + j) = H.reachK E k := by
    intro k j hk
    induction j with
    | zero => rfl
    | succ j ih =>
      show H.reachK E (k + j + 1) = _
      conv => lhs; unfold HeapM.reachK
      rw [ih, List.getElem?_eq_none (by omega)]
  rcases Nat.le_total k k' with hle | hle
  · have := step k (k' - k) h; rw [show k + (k' - k) = k' by omega] at this; exact this.symm
  · have := step k' (k - k') h'; rw [show k' + (k - k') = k by omega] at this; exact this
def HeapM.itemsN (H : HeapM) (n : Int) : List V := ((getL H.objs n).map ObjM.items).getD []
def HeapM.keysN (H : HeapM) (n : Int) : List V := (((getL H.objs n).map ObjM.pairs).getD []).map (·.1)
theorem HeapM.items_ref (H : HeapM) (n : Int) (hn : okI n) : H.items (V.ref n hn) = H.itemsN n := by unfold HeapM.items HeapM.itemsN HeapM.of; rw [if_pos (show (V.ref n hn).kind = 4 from rfl)]; rfl
theorem HeapM.keys_ref (H : HeapM) (n : Int) (hn : okI n) : (H.pairs (V.ref n hn)).map (·.1) = H.keysN n := by unfold HeapM.pairs HeapM.keysN HeapM.of; rw [if_pos (show (V.ref n hn).kind = 4 from rfl)]; rfl
theorem HeapM.kind_ref (H : HeapM) (n : Int) (hn : okI n) : H.kind (V.ref n hn) = ((getL H.objs n).map ObjM.kind).getD 0 := by unfold HeapM.kind HeapM.of; rw [if_pos (show (V.ref n hn).kind = 4 from rfl)]; rfl
theorem sweep_items {H : HeapM} {E : List V} {n : Int} (h : Kept H E n) : (H.sweep E).itemsN n = H.itemsN n := by unfold HeapM.itemsN; rw [sweep_kept h]
theorem sweep_keys {H : HeapM} {E : List V} {n : Int} (h : Kept H E n) : (H.sweep E).keysN n = H.keysN n := by unfold HeapM.keysN; rw [sweep_kept h]
theorem sweep_kind {H : HeapM} {E : List V} {n : Int} (hK : H.Kinds) (h : Kept H E n) (hn : okI n) : (H.sweep E).kind (V.ref n hn) ≠ 0 := by
  rw [HeapM.kind_ref, sweep_kept h]
  obtain ⟨o, ho⟩ := Option.isSome_iff_exists.1 (kept_live h)
  rw [ho]
  have := hK _ (getL_mem ho)
  simp only [Option.map_some, Option.getD_some] at this ⊢
  omega
theorem HeapM.Kinds.sweep {H : HeapM} (h : H.Kinds) (E : List V) : (H.sweep E).Kinds := h.filter _ fun p hp => (List.mem_filter.1 hp).1
end Go.Proofs.Ytoancpjlkhijiaa
