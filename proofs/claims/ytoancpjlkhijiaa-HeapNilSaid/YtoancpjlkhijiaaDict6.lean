/- Dicts: Put, Del. -/
import Derived.Test.YtoancpjlkhijiaaDict5
namespace Go.Proofs.Ytoancpjlkhijiaa
open Go.RowKit
set_option linter.unusedVariables false
def putOk (L : List (V × V)) (k : V) : Bool := (getL L k).isSome || (k.isKey && decide (L.length < 4096))
theorem dict_put (w : World) (d : Nat) (L : List (V × V)) (F : List Nat) (k x : V) (h : DictIs w d L F) : Calls Try.prog 75 #[.pointer (some ⟨d, 0, none⟩), k.val, x.val] w fun e w' =>
    e = .returned (.bool (putOk L k)) ∧ ∃ F', DictIs w' d (if putOk L k then putL L k x else L) F' ∧ Grow F F' w ∧ Outside F w w' := by
  have h4 : L.length ≤ 4096 := by obtain ⟨m, rv, rows, tb, hd, hm, hr, hL, hn, hat, hlen, rfl, hnd, h4, h5⟩ := h; exact h4
  cases hg : getL L k with
  | some y =>
    have e : putOk L k = true := by simp [putOk, hg]
    rw [e, if_pos rfl]
    exact (dict_put_there w d L F k x y h hg).mono fun e w' ⟨h1, h2, h3⟩ => ⟨h1, F, h2, Grow.refl _ _, h3⟩
  | none =>
    by_cases hk : k.isKey = true ∧ L.length < 4096
    · have e : putOk L k = true := by simp [putOk, hg, hk.1, hk.2]
      rw [e, if_pos rfl, putL_none x hg]
      exact dict_put_new w d L F k x h hg hk.1 hk.2
    · have e : putOk L k = false := by
        cases hb : k.isKey with
        | false => simp [putOk, hg, hb]
        | true => have : ¬ L.length < 4096 := fun h => hk ⟨hb, h⟩
                  simp [putOk, hg, hb, this]
      rw [e, if_neg (by simp)]
      exact (dict_put_no w d L F k x h hg (by
        cases hb : k.isKey with
        | false => exact .inl rfl
        | true => exact .inr (by have : ¬ L.length < 4096 := fun h => hk ⟨hb, h⟩
                                 omega))).mono fun e w' ⟨h1, h2⟩ => ⟨h1, F, h.below h2, Grow.refl _ _, Outside.of_below h2 _⟩
theorem delL_length {K X : Type} [DecidableEq K] {l : List (K × X)} (hn : (l.map (·.1)).Nodup) {k : K} {x : X} (h : getL l k = some x) : (delL l k).length + 1 = l.length := by
  obtain ⟨j, hj⟩ := List.getElem?_of_mem (getL_mem h)
  have hl := (List.getElem?_eq_some_iff.1 hj).1
  rw [← erase_eq_filter hn hj, List.length_eraseIdx_of_lt hl]; omega
def Row.out : Row := ⟨V.zero, V.zero, true⟩
theorem live_out {rows : List Row} (hn : ((liveRows rows).map (·.1)).Nodup) {i : Nat} {k x : V} (h : rows[i]? = some ⟨k, x, false⟩) : liveRows (rows.set i Row.out) = delL (liveRows rows) k := by
  induction rows generalizing i with
  | nil => simp at h
  | cons p r ih =>
    have cons_eq : ∀ q : Row, ∀ l, liveRows (q :: l) = (if q.gone then [] else [(q.k, q.x)]) ++ liveRows l := fun q l => by
      cases hg : q.gone <;> simp [liveRows, Row.live, hg]
    rw [cons_eq] at hn
    cases i with
    | zero =>
      simp at h; subst h
      simp only [List.set_cons_zero, cons_eq, Row.out]
      simp only [Bool.false_eq_true, if_false, List.cons_append, List.nil_append, List.map_cons, List.nodup_cons, if_true] at hn ⊢
      unfold delL
      rw [List.filter_cons_of_neg (by simp)]
      exact (List.filter_eq_self.2 fun q hq => by
        have : q.1 ≠ k := fun e => hn.1 (List.mem_map.2 ⟨q, hq, e⟩)
        simp [this]).symm
    | succ i =>
      simp at h
      simp only [List.set_cons_succ, cons_eq]
      have hn2 : ((liveRows r).map (·.1)).Nodup := by
        rw [List.map_append] at hn; exact (List.nodup_append.1 hn).2.1
      rw [ih hn2 h]
      unfold delL
      rw [List.filter_append]
      congr 1
      cases hg : p.gone with
      | true => simp
      | false =>
        have hmem : (k, x) ∈ liveRows r := List.mem_filterMap.2 ⟨_, List.mem_of_getElem? h, by simp [Row.live]⟩
        have : p.k ≠ k := fun e => by
          rw [hg] at hn
          simp only [Bool.false_eq_true, if_false, List.cons_append, List.nil_append, List.map_cons, List.nodup_cons] at hn
          exact hn.1 (List.mem_map.2 ⟨_, hmem, e.symm⟩)
        simp [this]
end Go.Proofs.Ytoancpjlkhijiaa
