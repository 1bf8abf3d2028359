import Derived.Test.YtilmhlblilmcfaaTextPieces
import Derived.Deep.LoopGhost
namespace Go.Proofs.Ytilmhlblilmcfaa
open Go.RowKit
set_option linter.unusedVariables false
theorem index_spec (s sub : List UInt8) : (Lib.index s sub = -1 ∧ ∀ j, j ≤ s.length → Lib.occAt s sub j = false) ∨
    ∃ i : Nat, Lib.index s sub = i ∧ i ≤ s.length ∧ Lib.occAt s sub i = true ∧ ∀ j, j < i → Lib.occAt s sub j = false := by
  by_cases h : ∃ j, j ≤ s.length ∧ Lib.occAt s sub j = true
  · obtain ⟨i, ⟨h1, h2⟩, h3⟩ := exists_least h
    have hn : ∀ j, j < i → Lib.occAt s sub j = false := fun j hj => by
      cases ho : Lib.occAt s sub j with
      | false => rfl
      | true => have := h3 j ⟨by omega, ho⟩; omega
    exact .inr ⟨i, Lib.index_first h1 h2 hn, h1, h2, hn⟩
  · have hn : ∀ j, j ≤ s.length → Lib.occAt s sub j = false := fun j hj => by
      cases ho : Lib.occAt s sub j with
      | false => rfl
      | true => exact absurd ⟨j, hj, ho⟩ h
    exact .inl ⟨Lib.index_none hn, hn⟩
theorem occAt_take {s sub : List UInt8} {m j : Nat} (h : Lib.occAt (s.take m) sub j = true) : Lib.occAt s sub j = true := by
  unfold Lib.occAt at h ⊢
  rw [List.isPrefixOf_iff_prefix] at h ⊢
  exact h.trans (by rw [List.drop_take]; exact List.take_prefix _ _)
/-- Ahead of the first place, nothing is found. -/
theorem index_take {s sub : List UInt8} {i m : Nat} (hsub : sub ≠ []) (hno : ∀ j, j < i → Lib.occAt s sub j = false) (hm : m < i + sub.length) : Lib.index (s.take m) sub = -1 := by
  refine Lib.index_none fun j _ => ?_
  cases ho : Lib.occAt (s.take m) sub j with
  | false => rfl
  | true =>
    rcases Lib.occAt_room ho with h | h
    · have h2 : (s.take m).length ≤ m := List.length_take_le _ _
      have := hno j (by omega); rw [occAt_take ho] at this; cases this
    · exact absurd h hsub
theorem cut_split {s sep : List UInt8} (h : (Lib.cut s sep).2.2 = true) : s = (Lib.cut s sep).1 ++ (sep ++ (Lib.cut s sep).2.1) := by
  rcases index_spec s sep with ⟨h1, _⟩ | ⟨i, h1, h2, h3, _⟩
  · unfold Lib.cut at h; rw [h1, if_neg (by omega)] at h; cases h
  · have e : Lib.cut s sep = (s.take i, s.drop (i + sep.length), true) := by unfold Lib.cut; rw [h1, if_pos (by omega)]; simp
    rw [e]
    obtain ⟨t, ht⟩ := List.isPrefixOf_iff_prefix.1 h3
    have : s.drop (i + sep.length) = t := by rw [← List.drop_drop, ← ht, List.drop_left]
    simp only [this, ht, List.take_append_drop]
theorem cut_whole {s sep : List UInt8} (h : (Lib.cut s sep).2.2 = false) : (Lib.cut s sep).1 = s ∧ Lib.index s sep = -1 := by
  rcases index_spec s sep with ⟨h1, _⟩ | ⟨i, h1, _⟩
  · unfold Lib.cut; rw [h1, if_neg (by omega)]; exact ⟨rfl, rfl⟩
  · unfold Lib.cut at h; rw [h1, if_pos (by omega)] at h; cases h
theorem cut_clean (s sep : List UInt8) (hsep : sep ≠ []) : Lib.index (Lib.cut s sep).1 sep = -1 := by
  rcases index_spec s sep with ⟨h1, _⟩ | ⟨i, h1, h2, h3, h4⟩
  · have : (Lib.cut s sep).1 = s := by unfold Lib.cut; rw [h1, if_neg (by omega)]
    rw [this]; exact h1
  · have e : (Lib.cut s sep).1 = s.take i := by unfold Lib.cut; rw [h1, if_pos (by omega)]; simp
    rw [e]; exact index_take hsep h4 (by have := List.length_pos_iff.2 hsep; omega)
theorem piece_clean (s sep : List UInt8) (k : Nat) (hsep : sep ≠ []) : Lib.index (pieceS s sep k).data.toList sep = -1 := by
  have := cut_clean (restL sep k s) sep hsep
  simpa [pieceS] using this
theorem join_more (sep x y : List UInt8) (r : List (List UInt8)) : Lib.join (x :: y :: r) sep = x ++ (sep ++ Lib.join (y :: r) sep) := by
  rw [Lib.join_cons, Lib.join_cons]; simp [Lib.joinTail]
theorem join_pieces (sep : List UInt8) : ∀ (n : Nat) (s : List UInt8), IsNum s sep n → Lib.join ((List.range n).map fun k => (pieceS s sep k).data.toList) sep = s
  | 0, _, h => absurd h.1 (Nat.lt_irrefl _)
  | 1, s, h => by
    have h1 : (Lib.cut s sep).2.2 = false := h.2.2
    have e : (pieceS s sep 0).data.toList = s := by simp [pieceS, restL, (cut_whole h1).1]
    simp [List.range_succ, e, Lib.join_one]
  | n + 2, s, h => by
    have h1 : (Lib.cut s sep).2.2 = true := h.2.1 0 (by omega)
    have hn : IsNum (Lib.cut s sep).2.1 sep (n + 1) := ⟨by omega, fun k hk => h.2.1 (k + 1) (by omega), h.2.2⟩
    have ih := join_pieces sep (n + 1) _ hn
    rw [List.range_succ_eq_map, List.map_cons, List.map_map]
    have e : ((fun k => (pieceS s sep k).data.toList) ∘ Nat.succ) = fun k => (pieceS (Lib.cut s sep).2.1 sep k).data.toList := rfl
    rw [e, List.range_succ_eq_map, List.map_cons] at *
    rw [join_more, ih]
    have e0 : (pieceS s sep 0).data.toList = (Lib.cut s sep).1 := by simp [pieceS, restL]
    rw [e0]; exact (cut_split h1).symm
end Go.Proofs.Ytilmhlblilmcfaa
