/- C3's merge of rows, plainly. -/
import Derived.Test.YtobcnffjfclolaaDoorBase
namespace Go.Proofs.YtobcnffjfclolaaDoor
set_option linter.unusedSimpArgs false
set_option linter.unusedVariables false
def headsM (rows : List (List Int)) : List Int := rows.filterMap List.head?
def behindM (rows : List (List Int)) (x : Int) : Bool := rows.any fun r => decide (x ∈ r.tail)
def popR (x : Int) (r : List Int) : List Int := if r.head? = some x then r.tail else r
def popM (rows : List (List Int)) (x : Int) : List (List Int) := rows.map (popR x)
def pickM (rows : List (List Int)) : Option Int := (headsM rows).find? fun x => !behindM rows x
def sizeM (rows : List (List Int)) : Nat := (rows.map List.length).sum
def mergeF : Nat → List (List Int) → Option (List Int)
  | 0, rows => if headsM rows = [] then some [] else none
  | n + 1, rows => if headsM rows = [] then some [] else match pickM rows with | none => none | some x => (mergeF n (popM rows x)).map (x :: ·)
def mergeM (rows : List (List Int)) : Option (List Int) := mergeF (sizeM rows) rows
theorem pickM_some {rows : List (List Int)} {x : Int} (h : pickM rows = some x) : x ∈ headsM rows ∧ behindM rows x = false := by
  unfold pickM at h
  have h1 := List.find?_some h
  exact ⟨List.mem_of_find?_eq_some h, by simpa using h1⟩
theorem popR_len (x : Int) (r : List Int) : (popR x r).length ≤ r.length := by
  unfold popR; split
  · simp
  · exact Nat.le_refl _
theorem sizeM_cons (r : List Int) (rows : List (List Int)) : sizeM (r :: rows) = r.length + sizeM rows := by simp [sizeM]
theorem sizeM_pop_le (rows : List (List Int)) (x : Int) : sizeM (popM rows x) ≤ sizeM rows := by
  induction rows with
  | nil => exact Nat.le_refl _
  | cons r rows ih =>
    have := popR_len x r
    show sizeM (popR x r :: popM rows x) ≤ _
    rw [sizeM_cons, sizeM_cons]; omega
theorem sizeM_pop {rows : List (List Int)} {x : Int} (h : x ∈ headsM rows) : sizeM (popM rows x) < sizeM rows := by
  induction rows with
  | nil => simp [headsM] at h
  | cons r rows ih =>
    show sizeM (popR x r :: popM rows x) < _
    rw [sizeM_cons, sizeM_cons]
    by_cases e : r.head? = some x
    · have h1 : (popR x r).length + 1 = r.length := by
        unfold popR; rw [if_pos e]
        cases r with
        | nil => simp at e
        | cons a r => simp
      have := sizeM_pop_le rows x
      omega
    · have h1 := popR_len x r
      have h2 : x ∈ headsM rows := by
        unfold headsM at h ⊢
        rw [List.filterMap_cons] at h
        cases r with
        | nil => simpa using h
        | cons a r =>
          simp only [List.head?_cons, Option.some.injEq] at e
          simp only [List.head?_cons, List.mem_cons] at h
          rcases h with h | h
          · exact absurd h.symm e
          · exact h
      have := ih h2
      omega
theorem mergeF_more : ∀ (n : Nat) (rows : List (List Int)), sizeM rows ≤ n → mergeF n rows = mergeM rows := by
  have key : ∀ (k n m : Nat) (rows : List (List Int)), sizeM rows ≤ k → k ≤ n → k ≤ m → mergeF n rows = mergeF m rows := by
    intro k
    induction k with
    | zero =>
      intro n m rows hk hn hm
      have h0 : headsM rows = [] := by
        cases hh : headsM rows with
        | nil => rfl
        | cons x l =>
          have := sizeM_pop (rows := rows) (x := x) (by rw [hh]; simp)
          omega
      cases n <;> cases m <;> simp [mergeF, h0]
    | succ k ih =>
      intro n m rows hk hn hm
      obtain ⟨n, rfl⟩ : ∃ n', n = n' + 1 := ⟨n - 1, by omega⟩
      obtain ⟨m, rfl⟩ : ∃ m', m = m' + 1 := ⟨m - 1, by omega⟩
      unfold mergeF
      split
      · rfl
      · cases hp : pickM rows with
        | none => rfl
        | some x =>
          have := sizeM_pop (pickM_some hp).1
          simp only
          rw [ih n m (popM rows x) (by omega) (by omega) (by omega)]
  intro n rows h
  exact key (sizeM rows) n (sizeM rows) rows (Nat.le_refl _) h (Nat.le_refl _)
theorem mergeM_empty {rows : List (List Int)} (h : headsM rows = []) : mergeM rows = some [] := by
  unfold mergeM; cases sizeM rows <;> simp [mergeF, h]
theorem mergeM_none {rows : List (List Int)} (h : headsM rows ≠ []) (hp : pickM rows = none) : mergeM rows = none := by
  unfold mergeM; cases sizeM rows <;> simp [mergeF, h, hp]
theorem mergeM_step {rows : List (List Int)} {x : Int} (hp : pickM rows = some x) : mergeM rows = (mergeM (popM rows x)).map (x :: ·) := by
  have h1 := pickM_some hp
  have h2 := sizeM_pop h1.1
  have h0 : headsM rows ≠ [] := by intro e; rw [e] at h1; simp at h1
  conv => lhs; unfold mergeM
  obtain ⟨n, hn⟩ : ∃ n, sizeM rows = n + 1 := ⟨sizeM rows - 1, by omega⟩
  rw [hn]
  unfold mergeF
  rw [if_neg h0, hp]
  simp only
  rw [mergeF_more n _ (by omega)]
/-- Induction over a merge. -/
theorem merge_ind {p : List (List Int) → Prop} (h0 : ∀ rows, headsM rows = [] → p rows) (h1 : ∀ rows, headsM rows ≠ [] → pickM rows = none → p rows)
    (h2 : ∀ rows x, pickM rows = some x → p (popM rows x) → p rows) (rows : List (List Int)) : p rows := by
  have : ∀ n rows, sizeM rows ≤ n → p rows := by
    intro n
    induction n with
    | zero =>
      intro rows h
      refine h0 rows ?_
      cases hh : headsM rows with
      | nil => rfl
      | cons x l => have := sizeM_pop (rows := rows) (x := x) (by rw [hh]; simp); omega
    | succ n ih =>
      intro rows h
      by_cases e : headsM rows = []
      · exact h0 rows e
      · cases hp : pickM rows with
        | none => exact h1 rows e hp
        | some x =>
          have := sizeM_pop (pickM_some hp).1
          exact h2 rows x hp (ih _ (by omega))
  exact this _ rows (Nat.le_refl _)
theorem heads_nil {rows : List (List Int)} (h : headsM rows = []) : ∀ r ∈ rows, r = [] := fun r hr => by
  unfold headsM at h
  rw [List.filterMap_eq_nil_iff] at h
  have := h r hr
  simpa using this
theorem mem_popM {rows : List (List Int)} {x y : Int} (hb : behindM rows x = false) : (∃ r ∈ popM rows x, y ∈ r) ↔ y ≠ x ∧ ∃ r ∈ rows, y ∈ r := by
  have hb' : ∀ r ∈ rows, x ∉ r.tail := fun r hr => by
    unfold behindM at hb
    rw [List.any_eq_false] at hb
    simpa using hb r hr
  unfold popM
  constructor
  · rintro ⟨r', hr', hy⟩
    obtain ⟨r, hr, rfl⟩ := List.mem_map.1 hr'
    unfold popR at hy
    split at hy
    · exact ⟨fun e => hb' r hr (by rw [← e]; exact hy), r, hr, List.mem_of_mem_tail hy⟩
    · rename_i hne
      refine ⟨fun e => ?_, r, hr, hy⟩
      cases r with
      | nil => simp at hy
      | cons a t =>
        rcases List.mem_cons.1 hy with h | h
        · exact hne (by simp [← h, e])
        · exact hb' _ hr (by rw [← e]; exact h)
  · rintro ⟨hne, r, hr, hy⟩
    refine ⟨popR x r, List.mem_map.2 ⟨r, hr, rfl⟩, ?_⟩
    unfold popR
    split
    · rename_i e
      cases r with
      | nil => simp at hy
      | cons a t =>
        simp only [List.head?_cons, Option.some.injEq] at e
        rcases List.mem_cons.1 hy with h | h
        · exact absurd (h.trans e) hne
        · exact h
    · exact hy
theorem mem_heads {rows : List (List Int)} {x : Int} (h : x ∈ headsM rows) : ∃ r ∈ rows, x ∈ r := by
  unfold headsM at h
  obtain ⟨r, hr, he⟩ := List.mem_filterMap.1 h
  refine ⟨r, hr, ?_⟩
  cases r with
  | nil => simp at he
  | cons a t => simp at he; simp [he]
theorem mem_merge : ∀ (rows : List (List Int)) (l : List Int), mergeM rows = some l → ∀ y, y ∈ l ↔ ∃ r ∈ rows, y ∈ r := by
  intro rows
  induction rows using merge_ind with
  | h0 rows h =>
    intro l hl y
    rw [mergeM_empty h] at hl
    cases hl
    constructor
    · intro hy; simp at hy
    · rintro ⟨r, hr, hy⟩; rw [heads_nil h r hr] at hy; simp at hy
  | h1 rows h hp => intro l hl; rw [mergeM_none h hp] at hl; cases hl
  | h2 rows x hp ih =>
    intro l hl y
    rw [mergeM_step hp] at hl
    obtain ⟨l', hl', rfl⟩ := Option.map_eq_some_iff.1 hl
    have h1 := pickM_some hp
    rw [List.mem_cons, ih l' hl' y, mem_popM h1.2]
    constructor
    · rintro (h | ⟨-, h⟩)
      · rw [h]; exact mem_heads h1.1
      · exact h
    · intro h
      by_cases e : y = x
      · exact .inl e
      · exact .inr ⟨e, h⟩
theorem merge_nodup : ∀ (rows : List (List Int)) (l : List Int), mergeM rows = some l → l.Nodup := by
  intro rows
  induction rows using merge_ind with
  | h0 rows h => intro l hl; rw [mergeM_empty h] at hl; cases hl; exact List.nodup_nil
  | h1 rows h hp => intro l hl; rw [mergeM_none h hp] at hl; cases hl
  | h2 rows x hp ih =>
    intro l hl
    rw [mergeM_step hp] at hl
    obtain ⟨l', hl', rfl⟩ := Option.map_eq_some_iff.1 hl
    refine List.nodup_cons.2 ⟨fun hx => ?_, ih l' hl'⟩
    have := (mem_merge _ l' hl' x).1 hx
    exact ((mem_popM (pickM_some hp).2).1 this).1 rfl
theorem merge_len : ∀ (rows : List (List Int)) (l : List Int), mergeM rows = some l → l.length ≤ sizeM rows := by
  intro rows
  induction rows using merge_ind with
  | h0 rows h => intro l hl; rw [mergeM_empty h] at hl; cases hl; simp
  | h1 rows h hp => intro l hl; rw [mergeM_none h hp] at hl; cases hl
  | h2 rows x hp ih =>
    intro l hl
    rw [mergeM_step hp] at hl
    obtain ⟨l', hl', rfl⟩ := Option.map_eq_some_iff.1 hl
    have := ih l' hl'
    have := sizeM_pop (pickM_some hp).1
    simp; omega
end Go.Proofs.YtobcnffjfclolaaDoor
