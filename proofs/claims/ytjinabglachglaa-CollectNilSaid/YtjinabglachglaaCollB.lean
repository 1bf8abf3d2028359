/- collect, plainly: what is reached. -/
import Derived.Test.YtjinabglachglaaCollA
namespace Go.Proofs.Ytjinabglachglaa
set_option linter.unusedSimpArgs false
open Go.RowKit
set_option linter.unusedVariables false
/-- Some are taken off. -/
def subM (f : Int → Option Int) (T : List Int) : Int → Option Int := fun n => (f n).map (· - (T.count n : Int))
theorem subM_nil (f : Int → Option Int) : subM f [] = f := by funext n; unfold subM; cases f n <;> simp
theorem subM_snoc (f : Int → Option Int) (T : List Int) (n x : Int) (hf : f n = some x) : (fun m => if m = n then some (x - (T.count n : Int) - 1) else subM f T m) = subM f (T ++ [n]) := by
  funext m
  unfold subM
  by_cases e : m = n
  · subst e; simp [hf, List.count_append]; omega
  · simp [e, List.count_append, List.count_cons, Ne.symm e]
def isIn (L : List Int) : Int → Option Bool := fun n => if n ∈ L then some true else none
theorem isIn_nil : isIn [] = fun _ => none := by funext n; simp [isIn]
theorem isIn_snoc (L : List Int) (n : Int) : (fun m => if m = n then some true else isIn L m) = isIn (L ++ [n]) := by
  funext m
  unfold isIn
  by_cases e : m = n
  · simp [e]
  · simp [e]
/-- From these on, k looked at. -/
def HeapM.goK (H : HeapM) (xs : List Int) : Nat → List Int
  | 0 => xs
  | k + 1 => match (H.goK xs k)[k]? with | some n => addNew (H.goK xs k) (H.refsOf n) | none => H.goK xs k
theorem addNew_pre (out r : List Int) : ∃ s, addNew out r = out ++ s := by
  induction r generalizing out with
  | nil => exact ⟨[], by simp [addNew]⟩
  | cons n r ih =>
    obtain ⟨s, hs⟩ := ih (if n ∈ out then out else out ++ [n])
    refine ⟨(if n ∈ out then [] else [n]) ++ s, ?_⟩
    show addNew (if n ∈ out then out else out ++ [n]) r = _
    rw [hs]; split <;> simp
theorem addNew_has {out r : List Int} {n : Int} (h : n ∈ r) : n ∈ addNew out r := by
  induction r generalizing out with
  | nil => cases h
  | cons m r ih =>
    show n ∈ addNew (if m ∈ out then out else out ++ [m]) r
    rcases List.mem_cons.1 h with rfl | h
    · obtain ⟨s, hs⟩ := addNew_pre (if n ∈ out then out else out ++ [n]) r
      rw [hs]
      refine List.mem_append_left _ ?_
      split
      · assumption
      · simp
    · exact ih h
theorem addNew_from {out r : List Int} {n : Int} (h : n ∈ addNew out r) : n ∈ out ∨ n ∈ r := by
  induction r generalizing out with
  | nil => exact .inl h
  | cons m r ih =>
    rcases ih (out := if m ∈ out then out else out ++ [m]) h with h | h
    · split at h
      · exact .inl h
      · rcases List.mem_append.1 h with h | h
        · exact .inl h
        · simp at h; exact .inr (by simp [h])
    · exact .inr (by simp [h])
theorem HeapM.goK_pre (H : HeapM) (xs : List Int) (k : Nat) : ∃ s, H.goK xs (k + 1) = H.goK xs k ++ s := by
  conv => arg 1; ext s; lhs; unfold HeapM.goK
  split
  · exact addNew_pre _ _
  · exact ⟨[], by simp⟩
theorem HeapM.goK_nums {H : HeapM} {xs : List Int} (h : H.Nums xs) : ∀ k, H.Nums (H.goK xs k)
  | 0 => h
  | k + 1 => by
    unfold HeapM.goK
    split
    · exact addNew_nums (HeapM.goK_nums h k) (H.refsOf_live _)
    · exact HeapM.goK_nums h k
theorem HeapM.goK_refs (H : HeapM) (xs : List Int) : ∀ k i n, i < k → (H.goK xs k)[i]? = some n → ∀ m ∈ H.refsOf n, m ∈ H.goK xs k
  | 0, i, n, h, _ => by omega
  | k + 1, i, n, hi, hn => by
    intro m hm
    obtain ⟨s, hs⟩ := H.goK_pre xs k
    cases hk : (H.goK xs k)[k]? with
    | none =>
      have e : H.goK xs (k + 1) = H.goK xs k := by conv => lhs; unfold HeapM.goK
                                                   rw [hk]
      rw [e] at hn ⊢
      by_cases hik : i < k
      · exact HeapM.goK_refs H xs k i n hik hn m hm
      · obtain rfl : i = k := by omega
        rw [hk] at hn; cases hn
    | some n' =>
      have e : H.goK xs (k + 1) = addNew (H.goK xs k) (H.refsOf n') := by conv => lhs; unfold HeapM.goK
                                                                          rw [hk]
      have hkl := (List.getElem?_eq_some_iff.1 hk).1
      have hn' : (H.goK xs k)[i]? = some n := by
        rw [hs, List.getElem?_append_left (by omega)] at hn; exact hn
      by_cases hik : i < k
      · rw [hs]; exact List.mem_append_left _ (HeapM.goK_refs H xs k i n hik hn' m hm)
      · obtain rfl : i = k := by omega
        rw [hk] at hn'; cases hn'
        rw [e]; exact addNew_has hm
/-- What is reached from what is held. -/
inductive HeapM.R (H : HeapM) (E : List V) : Int → Prop
  | seed {n : Int} : (getL H.objs n).isSome = true → 0 < cnt E n → HeapM.R H E n
  | step {n m : Int} : HeapM.R H E n → m ∈ H.refsOf n → HeapM.R H E m
theorem HeapM.goK_R {H : HeapM} {E : List V} {xs : List Int} (h : ∀ n ∈ xs, H.R E n) : ∀ k, ∀ n ∈ H.goK xs k, H.R E n
  | 0 => h
  | k + 1 => fun n hn => by
    unfold HeapM.goK at hn
    split at hn
    · rename_i m hm
      rcases addNew_from hn with h' | h'
      · exact HeapM.goK_R h k n h'
      · exact .step (HeapM.goK_R h k m (List.mem_of_getElem? hm)) h'
    · exact HeapM.goK_R h k n hn
theorem HeapM.goK_sub (H : HeapM) (xs : List Int) : ∀ k, ∀ n ∈ xs, n ∈ H.goK xs k
  | 0 => fun _ h => h
  | k + 1 => fun n hn => by
    obtain ⟨s, hs⟩ := H.goK_pre xs k
    rw [hs]; exact List.mem_append_left _ (HeapM.goK_sub H xs k n hn)
theorem HeapM.goK_end {H : HeapM} {E : List V} {xs : List Int} (h : ∀ n, n ∈ xs ↔ (getL H.objs n).isSome = true ∧ 0 < cnt E n) {k : Nat} (hk : (H.goK xs k).length ≤ k) (n : Int) : n ∈ H.goK xs k ↔ H.R E n := by
  constructor
  · exact HeapM.goK_R (fun n hn => .seed ((h n).1 hn).1 ((h n).1 hn).2) k n
  · intro hr
    induction hr with
    | seed h1 h2 => exact H.goK_sub xs k _ ((h _).2 ⟨h1, h2⟩)
    | step _ h2 ih =>
      obtain ⟨i, hi⟩ := List.getElem?_of_mem ih
      exact H.goK_refs xs k i _ (by have := (List.getElem?_eq_some_iff.1 hi).1; omega) hi _ h2
/-- All that live objects hold. -/
theorem HeapM.refs_count {H : HeapM} {N : Nat} (G : H.Good N) (n : Int) (hn : (getL H.objs n).isSome = true) : (((H.objs.map (·.1)).flatMap H.refsOf).count n : Int) = cnt (allVals H.objs) n := by
  have hone : ∀ p ∈ H.objs, H.refsOf p.1 = (H.refs p.2).map (·.n) := fun p hp => by
    unfold HeapM.refsOf
    rw [getL_of_mem G.ok.nk hp]
  have hvals : ∀ l : List V, ((l.filter fun x => (H.of x).isSome).map (·.n)).count n = (l.filter (isRef n)).length := by
    intro l
    induction l with
    | nil => rfl
    | cons x r ih =>
      by_cases hx : (H.of x).isSome = true
      · rw [List.filter_cons_of_pos (p := fun x => (H.of x).isSome) hx, List.map_cons, List.count_cons, ih]
        obtain ⟨o, ho⟩ := Option.isSome_iff_exists.1 hx
        have hk := (HeapM.of_some ho).1
        by_cases e : x.n = n
        · rw [List.filter_cons_of_pos (by simp [isRef, hk, e])]; simp [e]
        · rw [List.filter_cons_of_neg (by simp [isRef, e])]; simp [e]
      · rw [List.filter_cons_of_neg (p := fun x => (H.of x).isSome) hx, ih]
        rw [List.filter_cons_of_neg]
        intro h
        simp only [isRef, Bool.and_eq_true, decide_eq_true_eq] at h
        refine hx ?_
        unfold HeapM.of; rw [if_pos h.1, h.2]; exact hn
  have : ∀ l : List (Int × ObjM), (∀ p ∈ l, p ∈ H.objs) → (((l.map (·.1)).flatMap H.refsOf).count n : Int) = cnt (allVals l) n := by
    intro l
    induction l with
    | nil => intro _; rfl
    | cons p r ih =>
      intro hl
      have hc : allVals (p :: r) = p.2.vals ++ allVals r := by simp [allVals]
      rw [List.map_cons, List.flatMap_cons, List.count_append, hone p (hl p (by simp)), hc, cnt_append, ← ih (fun q hq => hl q (by simp [hq]))]
      unfold HeapM.refs
      rw [hvals p.2.vals]
      unfold cnt
      omega
  exact this H.objs (fun _ h => h)
/-- What is left when all that objects hold is taken off. -/
theorem HeapM.left_sub {H : HeapM} {N : Nat} (G : H.Good N) (E : List V) : subM (H.leftM (H.objs.map (·.1)) E) ((H.objs.map (·.1)).flatMap H.refsOf) = fun n => if (getL H.objs n).isSome = true then some (cnt E n) else none := by
  funext n
  unfold subM HeapM.leftM
  by_cases hn : (getL H.objs n).isSome = true
  · have hm : n ∈ H.objs.map (·.1) := by
      obtain ⟨o, ho⟩ := Option.isSome_iff_exists.1 hn
      exact List.mem_map.2 ⟨_, getL_mem ho, rfl⟩
    rw [if_pos hm, if_pos hn, Option.map_some, HeapM.refs_count G n hn]
    congr 1; omega
  · have hm : n ∉ H.objs.map (·.1) := fun h => hn ((HeapM.keys_nums G).2 n h)
    rw [if_neg hm, if_neg hn]; rfl
theorem HeapM.count_le {H : HeapM} {N : Nat} (G : H.Good N) (T : List Int) (n : Int) (hT : T.Sublist ((H.objs.map (·.1)).flatMap H.refsOf)) (hn : (getL H.objs n).isSome = true) : (T.count n : Int) ≤ cnt (allVals H.objs) n := by
  rw [← HeapM.refs_count G n hn]
  have := hT.count_le n
  omega
end Go.Proofs.Ytjinabglachglaa
