/- What a sweep keeps, plainly. -/
import Derived.Test.YtoancpjlkhijiaaGreatReach
import Derived.Test.YtoancpjlkhijiaaGreatKeptM
namespace Go.Proofs.YtoancpjlkhijiaaGreat
set_option linter.unusedSimpArgs false
open Go.RowKit
set_option linter.unusedVariables false
theorem seed_kept (H : HeapM) (E : List V) : ∀ n ∈ H.seed E, Kept H E n := by
  have : ∀ (l : List V), (∀ v ∈ l, v ∈ E) → ∀ n ∈ H.seed l, Kept H E n := by
    refine snoc_ind (fun _ n hn => by simp [HeapM.seed] at hn) (fun l v ih => ?_)
    · intro hl n hn
      rw [HeapM.seed_snoc] at hn
      split at hn
      · rename_i h
        rcases List.mem_append.1 hn with hn | hn
        · exact ih (fun x hx => hl x (by simp [hx])) n hn
        · simp at hn; subst hn; exact kept_held (hl v (by simp)) h.1
      · exact ih (fun x hx => hl x (by simp [hx])) n hn
  exact this E fun _ h => h
theorem addNew_mem {out r : List Int} {n : Int} (h : n ∈ addNew out r) : n ∈ out ∨ n ∈ r := by
  induction r generalizing out with
  | nil => exact .inl h
  | cons m r ih =>
    rcases ih (out := if m ∈ out then out else out ++ [m]) h with h | h
    · split at h
      · exact .inl h
      · rcases List.mem_append.1 h with h | h
        · exact .inl h
        · simp at h; exact .inr (by simp [h])
    · exact .inr (by simp [h])
theorem reachK_kept (H : HeapM) (E : List V) : ∀ k, ∀ n ∈ H.reachK E k, Kept H E n
  | 0 => seed_kept H E
  | k + 1 => fun n hn => by
    unfold HeapM.reachK at hn
    split at hn
    · rename_i m hm
      rcases addNew_mem hn with h | h
      · exact reachK_kept H E k n h
      · exact kept_refs (reachK_kept H E k m (List.mem_of_getElem? hm)) n h
    · exact reachK_kept H E k n hn
theorem seed_sweep (H : HeapM) (E : List V) : (H.sweep E).seed E = H.seed E := by
  have : ∀ (l : List V), (∀ v ∈ l, v ∈ E) → (H.sweep E).seed l = H.seed l := by
    refine snoc_ind (fun _ => rfl) (fun l v ih => ?_)
    · intro hl
      rw [HeapM.seed_snoc, HeapM.seed_snoc, ih (fun x hx => hl x (by simp [hx])), sweep_of_held (hl v (by simp))]
  exact this E fun _ h => h
theorem reachK_sweep (H : HeapM) (E : List V) : ∀ k, (H.sweep E).reachK E k = H.reachK E k
  | 0 => seed_sweep H E
  | k + 1 => by
    unfold HeapM.reachK
    rw [reachK_sweep H E k]
    cases g : (H.reachK E k)[k]? with
    | none => rfl
    | some n => simp only; rw [sweep_refs (reachK_kept H E k n (List.mem_of_getElem? g))]
/-- Where nothing is left to be looked at, nothing comes any more. -/
theorem reachK_end (H : HeapM) (E : List V) {k k' : Nat} (h : (H.reachK E k).length = k) (h' : (H.reachK E k').length = k') : H.reachK E k = H.reachK E k' := by
  have step : ∀ k j, (H.reachK E k).length = k → H.reachK E (k + j) = H.reachK E k := by
    intro k j hk
    induction j with
    | zero => rfl
    | succ j ih =>
      show H.reachK E (k + j + 1) = _
      conv => lhs; unfold HeapM.reachK
      rw [ih, List.getElem?_eq_none (by omega)]
  rcases Nat.le_total k k' with hle | hle
  · have := step k (k' - k) h; rw [show k + (k' - k) = k' by omega] at this; exact this.symm
  · have := step k' (k - k') h'; rw [show k' + (k - k') = k by omega] at this; exact this
def HeapM.itemsN (H : HeapM) (n : Int) : List V := ((getL H.objs n).map ObjM.items).getD []
def HeapM.keysN (H : HeapM) (n : Int) : List V := (((getL H.objs n).map ObjM.pairs).getD []).map (·.1)
theorem HeapM.items_ref (H : HeapM) (n : Int) (hn : okI n) : H.items (V.ref n hn) = H.itemsN n := by unfold HeapM.items HeapM.itemsN HeapM.of; rw [if_pos (show (V.ref n hn).kind = 4 from rfl)]; rfl
theorem HeapM.keys_ref (H : HeapM) (n : Int) (hn : okI n) : (H.pairs (V.ref n hn)).map (·.1) = H.keysN n := by unfold HeapM.pairs HeapM.keysN HeapM.of; rw [if_pos (show (V.ref n hn).kind = 4 from rfl)]; rfl
theorem HeapM.kind_ref (H : HeapM) (n : Int) (hn : okI n) : H.kind (V.ref n hn) = ((getL H.objs n).map ObjM.kind).getD 0 := by unfold HeapM.kind HeapM.of; rw [if_pos (show (V.ref n hn).kind = 4 from rfl)]; rfl
theorem sweep_items {H : HeapM} {E : List V} {n : Int} (h : Kept H E n) : (H.sweep E).itemsN n = H.itemsN n := by unfold HeapM.itemsN; rw [sweep_kept h]
theorem sweep_keys {H : HeapM} {E : List V} {n : Int} (h : Kept H E n) : (H.sweep E).keysN n = H.keysN n := by unfold HeapM.keysN; rw [sweep_kept h]
theorem sweep_kind {H : HeapM} {E : List V} {n : Int} (hK : H.Kinds) (h : Kept H E n) (hn : okI n) : (H.sweep E).kind (V.ref n hn) ≠ 0 := by
  rw [HeapM.kind_ref, sweep_kept h]
  obtain ⟨o, ho⟩ := Option.isSome_iff_exists.1 (kept_live h)
  rw [ho]
  have := hK _ (getL_mem ho)
  simp only [Option.map_some, Option.getD_some] at this ⊢
  omega
theorem HeapM.Kinds.sweep {H : HeapM} (h : H.Kinds) (E : List V) : (H.sweep E).Kinds := h.filter _ fun p hp => (List.mem_filter.1 hp).1
end Go.Proofs.YtoancpjlkhijiaaGreat
