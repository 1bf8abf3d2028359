import Derived.Test.YtjinabglachglaaColl2
import Derived.Test.YtjinabglachglaaShownM
import Derived.Test.YtjinabglachglaaKeptM
import Derived.Test.YtjinabglachglaaGraph
/- What is reached, what is garbage, and what a collection leaves: plain facts. -/
namespace Go.Proofs.Ytjinabglachglaa
set_option linter.unusedSimpArgs false
open Go.RowKit
set_option linter.unusedVariables false
section
variable {H : HeapM} {N : Nat} {E : List V} {n : Int}
theorem HeapM.key_of_live (h : (getL H.objs n).isSome = true) : n ∈ H.objs.map (·.1) := by
  obtain ⟨o, ho⟩ := Option.isSome_iff_exists.1 h
  exact List.mem_map.2 ⟨_, getL_mem ho, rfl⟩
theorem HeapM.live_key (G : H.Good N) : n ∈ H.objs.map (·.1) ↔ (getL H.objs n).isSome = true := ⟨fun h => (HeapM.keys_nums G).2 n h, HeapM.key_of_live⟩
theorem HeapM.mem_reached : n ∈ H.reachedM E ↔ H.R E n := by
  unfold HeapM.reachedM
  rw [List.mem_filter]
  constructor
  · intro h; simpa using h.2
  · intro h; exact ⟨HeapM.key_of_live h.live, by simpa using h⟩
theorem HeapM.mem_garbage (G : H.Good N) : n ∈ H.garbageM E ↔ (getL H.objs n).isSome = true ∧ ¬ H.R E n ∧ 0 < cnt (allVals H.objs) n := by
  unfold HeapM.garbageM
  rw [List.mem_filter, HeapM.live_key G]
  simp
theorem HeapM.reached_asc (G : H.Good N) : (H.reachedM E).Pairwise (· < ·) := by
  unfold HeapM.reachedM; exact G.ok.asc.filter _
theorem HeapM.garbage_asc (G : H.Good N) : (H.garbageM E).Pairwise (· < ·) := by
  unfold HeapM.garbageM; exact G.ok.asc.filter _
theorem HeapM.R_held {v : V} (hv : v ∈ E) (h : (H.of v).isSome = true) : H.R E v.n := by
  obtain ⟨o, ho⟩ := Option.isSome_iff_exists.1 h
  obtain ⟨hk, hg⟩ := HeapM.of_some ho
  exact .seed (by rw [hg]; rfl) (cnt_pos.2 ⟨v, hv, hk, rfl⟩)
theorem HeapM.R_mono {E' : List V} (h : ∀ n, 0 < cnt E n → (getL H.objs n).isSome = true → 0 < cnt E' n) (hr : H.R E n) : H.R E' n := by
  induction hr with
  | seed h1 h2 => exact .seed h1 (h _ h2 h1)
  | step _ h2 ih => exact .step ih h2
theorem HeapM.R_append {E' : List V} : H.R (E ++ E') n ↔ H.R E n ∨ H.R E' n := by
  constructor
  · intro h
    induction h with
    | @seed m h1 h2 =>
      rw [cnt_append] at h2
      by_cases hp : 0 < cnt E m
      · exact .inl (.seed h1 hp)
      · exact .inr (.seed h1 (by have := cnt_nonneg E m; omega))
    | step _ h2 ih =>
      rcases ih with ih | ih
      · exact .inl (.step ih h2)
      · exact .inr (.step ih h2)
  · rintro (h | h)
    · exact HeapM.R_mono (fun n h1 _ => by rw [cnt_append]; have := cnt_nonneg E' n; omega) h
    · exact HeapM.R_mono (fun n h1 _ => by rw [cnt_append]; have := cnt_nonneg E n; omega) h
theorem HeapM.R_congr {E' : List V} (h : ∀ n, (getL H.objs n).isSome = true → (0 < cnt E n ↔ 0 < cnt E' n)) : H.R E n ↔ H.R E' n :=
  ⟨HeapM.R_mono fun n h1 h2 => (h n h2).1 h1, HeapM.R_mono fun n h1 h2 => (h n h2).2 h1⟩
theorem HeapM.reached_congr {E' : List V} (h : ∀ n, (getL H.objs n).isSome = true → (0 < cnt E n ↔ 0 < cnt E' n)) : H.reachedM E = H.reachedM E' := by
  unfold HeapM.reachedM
  refine List.filter_congr fun n _ => ?_
  rw [decide_eq_decide]; exact HeapM.R_congr h
theorem HeapM.garbage_congr {E' : List V} (h : ∀ n, (getL H.objs n).isSome = true → (0 < cnt E n ↔ 0 < cnt E' n)) : H.garbageM E = H.garbageM E' := by
  unfold HeapM.garbageM
  refine List.filter_congr fun n _ => ?_
  have := HeapM.R_congr (n := n) h
  rw [Bool.eq_iff_iff]
  simp [this]
theorem HeapM.reached_none (h : ∀ n, (getL H.objs n).isSome = true → ¬ 0 < cnt E n) : H.reachedM E = [] := by
  rw [HeapM.reached_congr (E' := []) (fun n hn => by simp [cnt_nil, h n hn])]
  unfold HeapM.reachedM
  rw [List.filter_eq_nil_iff]
  intro n _ hr
  exact HeapM.R_nil (by simpa using hr)
/-- What is reached is kept by a sweep. -/
theorem HeapM.R.R_kept (h : H.R E n) : Kept H E n := by
  induction h with
  | seed h1 h2 => exact kept_more h1 (.inl h2)
  | step _ h2 ih => exact kept_refs ih _ h2
theorem HeapM.R_sweep : (H.sweep E).R E n ↔ H.R E n := by
  constructor
  · intro h
    induction h with
    | seed h1 h2 =>
      refine .seed ?_ h2
      rw [sweep_get] at h1
      split at h1
      · exact h1
      · cases h1
    | step h1 h2 ih => exact .step ih (by rw [sweep_refs ih.R_kept] at h2; exact h2)
  · intro h
    induction h with
    | seed h1 h2 => exact .seed (by rw [sweep_kept (kept_more h1 (.inl h2))]; exact h1) h2
    | step h1 h2 ih => exact .step ih (by rw [sweep_refs h1.R_kept]; exact h2)
/-- A collection leaves just what is reached. -/
theorem HeapM.collect_objs (G : H.Good N) : (H.collect E).objs = H.objs.filter fun p => @decide (H.R E p.1) (Classical.propDecidable _) := by
  have G1 := G.sweep E
  unfold HeapM.collect
  rw [freeAll_objs]
  show (H.objs.filter _).filter _ = _
  rw [List.filter_filter]
  refine List.filter_congr fun p hp => ?_
  rw [Bool.eq_iff_iff]
  simp only [Bool.and_eq_true, Bool.not_eq_true', decide_eq_false_iff_not, decide_eq_true_eq, HeapM.mem_garbage G1, HeapM.R_sweep]
  constructor
  · rintro ⟨h1, h2⟩
    refine Classical.byContradiction fun hr => h1 ⟨?_, hr, ?_⟩
    · rw [sweep_kept h2]; exact kept_live h2
    · rcases (kept_sup H E p.1 h2).2 with h | ⟨m, o, k1, k2, k3⟩
      · exact absurd (HeapM.R.seed (kept_live h2) h) hr
      · obtain ⟨x, hx, x1, x2⟩ := cnt_pos.1 k3
        exact cnt_pos.2 ⟨x, List.mem_flatMap.2 ⟨(m, o), getL_mem (by rw [sweep_kept k1]; exact k2), hx⟩, x1, x2⟩
  · intro h
    exact ⟨fun hh => hh.2.1 h, h.R_kept⟩
theorem HeapM.collect_last : (H.collect E).last = H.last := by
  have : ∀ (ns : List Int) (H : HeapM), (H.freeAll ns).last = H.last := by
    intro ns
    induction ns with
    | nil => intro H; rfl
    | cons n ns ih => intro H; exact ih (H.drop n)
  unfold HeapM.collect
  rw [this]; rfl
theorem HeapM.collect_keys (G : H.Good N) : (H.collect E).objs.map (·.1) = H.reachedM E := by
  rw [HeapM.collect_objs G]
  unfold HeapM.reachedM
  rw [List.filter_map]
  rfl
theorem HeapM.collect_get (G : H.Good N) (h : H.R E n) : getL (H.collect E).objs n = getL H.objs n := by
  rw [HeapM.collect_objs G, getL_filter_key H.objs (fun n => @decide (H.R E n) (Classical.propDecidable _)) n, if_pos (by simpa using h)]
theorem HeapM.collect_gone (G : H.Good N) (h : ¬ H.R E n) : getL (H.collect E).objs n = none := by
  rw [HeapM.collect_objs G, getL_filter_key H.objs (fun n => @decide (H.R E n) (Classical.propDecidable _)) n, if_neg (by simpa using h)]
theorem HeapM.collect_refs (G : H.Good N) (h : H.R E n) : (H.collect E).refsOf n = H.refsOf n := by
  unfold HeapM.refsOf
  rw [HeapM.collect_get G h]
  cases g : getL H.objs n with
  | none => rfl
  | some o =>
    simp only
    congr 1
    unfold HeapM.refs
    refine List.filter_congr fun x hx => ?_
    unfold HeapM.of
    split
    · rename_i h4
      by_cases hr : H.R E x.n
      · rw [HeapM.collect_get G hr]
      · rw [HeapM.collect_gone G hr]
        cases gx : getL H.objs x.n with
        | none => rfl
        | some ox =>
          refine absurd (h.step ?_) hr
          unfold HeapM.refsOf
          rw [g]
          refine List.mem_map.2 ⟨x, List.mem_filter.2 ⟨hx, ?_⟩, rfl⟩
          unfold HeapM.of
          rw [if_pos h4, gx]; rfl
    · rfl
theorem HeapM.R_collect (G : H.Good N) : (H.collect E).R E n ↔ H.R E n := by
  constructor
  · intro h
    induction h with
    | seed h1 h2 =>
      refine Classical.byContradiction fun hr => ?_
      rw [HeapM.collect_gone G hr] at h1; cases h1
    | step h1 h2 ih => exact .step ih (by rw [HeapM.collect_refs G ih] at h2; exact h2)
  · intro h
    induction h with
    | seed h1 h2 => exact .seed (by rw [HeapM.collect_get G (.seed h1 h2)]; exact h1) h2
    | step h1 h2 ih => exact .step ih (by rw [HeapM.collect_refs G h1]; exact h2)
theorem HeapM.Good.collect (G : H.Good N) : (H.collect E).Good N := (G.sweep E).freeAll _
theorem HeapM.Kinds.collect (h : H.Kinds) : (H.collect E).Kinds := (h.sweep' E).freeAll _
theorem HeapM.reached_collect (G : H.Good N) : (H.collect E).reachedM E = H.reachedM E := by
  unfold HeapM.reachedM
  rw [HeapM.collect_objs G]
  have : ∀ l : List (Int × ObjM), ((l.filter fun p => @decide (H.R E p.1) (Classical.propDecidable _)).map (·.1)).filter (fun n => @decide ((H.collect E).R E n) (Classical.propDecidable _)) = (l.map (·.1)).filter fun n => @decide (H.R E n) (Classical.propDecidable _) := by
    intro l
    induction l with
    | nil => rfl
    | cons p r ih =>
      by_cases hp : H.R E p.1
      · rw [List.filter_cons_of_pos (by simpa using hp), List.map_cons, List.map_cons, List.filter_cons_of_pos (by simpa using (HeapM.R_collect G).2 hp), List.filter_cons_of_pos (by simpa using hp), ih]
      · rw [List.filter_cons_of_neg (by simpa using hp), List.map_cons, List.filter_cons_of_neg (by simpa using hp), ih]
  exact this H.objs
theorem HeapM.garbage_collect (G : H.Good N) : (H.collect E).garbageM E = [] := by
  unfold HeapM.garbageM
  rw [List.filter_eq_nil_iff]
  intro n hn
  rw [HeapM.collect_keys G, HeapM.mem_reached] at hn
  simp [(HeapM.R_collect G).2 hn]
theorem HeapM.collect_collect (G : H.Good N) : (H.collect E).collect E = H.collect E := by
  have h1 : ((H.collect E).collect E).objs = (H.collect E).objs := by
    rw [HeapM.collect_objs G.collect]
    refine List.filter_eq_self.2 fun p hp => ?_
    have : p.1 ∈ (H.collect E).objs.map (·.1) := List.mem_map.2 ⟨p, hp, rfl⟩
    rw [HeapM.collect_keys G, HeapM.mem_reached] at this
    simpa using (HeapM.R_collect G).2 this
  have h2 : ∀ H : HeapM, H = ⟨H.objs, H.last⟩ := fun H => rfl
  rw [h2 ((H.collect E).collect E), h1, HeapM.collect_last]
end
end Go.Proofs.Ytjinabglachglaa
/- What the laws of ch 13 share: calls beside all else. -/
namespace Go.Proofs.Ytjinabglachglaa
set_option linter.unusedSimpArgs false
open Go.RowKit
set_option linter.unusedVariables false
section
variable {w W : World} {Rs : List Res} {h : Nat} {H : HeapM} {N : Nat}
theorem Sep.reachedN (S : Sep w Rs W) (i : Nat) (hi : Rs[i]? = some (heapR h H)) (F : H.Fit N) (hN : N ≤ 4000000) (sv : Value) (E : List V) (hs : SeesV W sv E) (hE : E.length ≤ 4000000) :
    Calls Try.prog 16 #[.pointer (some ⟨h, 0, none⟩), sv] W fun e W' => ∃ v, e = .returned v ∧ Sep w (numsR v (H.reachedM E) :: Rs) W' := by
  obtain ⟨G, h1, _⟩ := S.get i hi
  exact (reached_is W _ (HAns.of h1 F.G hN) F.G hN F.K sv E hs hE).mono fun e W' ⟨v, x1, x2⟩ => ⟨v, x1, S.join x2⟩
theorem Sep.garbageN (S : Sep w Rs W) (i : Nat) (hi : Rs[i]? = some (heapR h H)) (F : H.Fit N) (hN : N ≤ 4000000) (sv : Value) (E : List V) (hs : SeesV W sv E) (hE : E.length ≤ 4000000) :
    Calls Try.prog 17 #[.pointer (some ⟨h, 0, none⟩), sv] W fun e W' => ∃ v, e = .returned v ∧ Sep w (numsR v (H.garbageM E) :: Rs) W' := by
  obtain ⟨G, h1, _⟩ := S.get i hi
  exact (garbage_is W _ (HAns.of h1 F.G hN) F.G hN F.K sv E hs hE).mono fun e W' ⟨v, x1, x2⟩ => ⟨v, x1, S.join x2⟩
theorem Sep.inN (S : Sep w Rs W) {v : Value} {l : List Int} (j : Nat) (hj : Rs[j]? = some (numsR v l)) (n : Int) :
    Calls Try.prog 20 #[v, .int .i64 n] W fun e W' => e = .returned (.bool (decide (n ∈ l))) ∧ Sep w Rs W' :=
  (in_ok W v l n (SeesN.of_slIs (S.row j hj))).mono fun e W' ⟨x, q, hq⟩ => ⟨x, by rw [hq]; exact S.drewN q⟩
theorem Sep.sameN (S : Sep w Rs W) {v u : Value} {l m : List Int} (i j : Nat) (hi : Rs[i]? = some (numsR v l)) (hj : Rs[j]? = some (numsR u m)) (hl : ∀ n ∈ l, okI n) (hm : ∀ n ∈ m, okI n) :
    Calls Try.prog 24 #[v, u] W fun e W' => e = .returned (.bool (decide (l = m))) ∧ Sep w Rs W' :=
  (same_numbers W v u l m (SeesN.of_slIs (S.row i hi)) (SeesN.of_slIs (S.row j hj)) ⟨hl, hm⟩).mono fun e W' ⟨x, q, hq⟩ => ⟨x, by rw [hq]; exact S.drewN q⟩
theorem Sep.refN (S : Sep w Rs W) (n : Int) : Calls Try.prog 21 #[.int .i64 n] W fun e W' => e = .returned (.agg #[.int .i64 4, .int .i64 n, .string ⟨#[]⟩]) ∧ Sep w Rs W' :=
  (ref_ok W n).mono fun e W' ⟨x, hb⟩ => ⟨x, S.later hb⟩
theorem held_len (l : List Nat) : (heldM l).length ≤ 12 := by unfold heldM; simp; omega
theorem HeapM.Fit.collect {E : List V} (h : H.Fit N) : (H.collect E).Fit N := ⟨h.G.collect, h.K.collect, fun p hp => by
  rw [HeapM.collect_objs h.G] at hp
  exact h.P p (List.mem_filter.1 hp).1⟩
theorem madeM_fit (g : GraphM) : (madeM g).Fit 100 := madeK_fit g 40 (by omega)
theorem HeapM.live_ok (G : H.Good N) (hN : N ≤ 4000000) {n : Int} (h : (getL H.objs n).isSome = true) : okI n := (HeapM.keys_nums G).ok G hN n (HeapM.key_of_live h)
theorem HeapM.reached_ok (G : H.Good N) (hN : N ≤ 4000000) (E : List V) : ∀ n ∈ H.reachedM E, okI n := fun n hn => HeapM.live_ok G hN (HeapM.mem_reached.1 hn).live
theorem HeapM.garbage_ok (G : H.Good N) (hN : N ≤ 4000000) (E : List V) : ∀ n ∈ H.garbageM E, okI n := fun n hn => HeapM.live_ok G hN ((HeapM.mem_garbage G).1 hn).1
theorem HeapM.reached_len (G : H.Good N) (E : List V) : (H.reachedM E).length ≤ N := by
  unfold HeapM.reachedM
  refine Nat.le_trans (List.length_filter_le _ _) ?_
  rw [List.length_map]; exact G.len
theorem HeapM.garbage_len (G : H.Good N) (E : List V) : (H.garbageM E).length ≤ N := by
  unfold HeapM.garbageM
  refine Nat.le_trans (List.length_filter_le _ _) ?_
  rw [List.length_map]; exact G.len
end
end Go.Proofs.Ytjinabglachglaa
