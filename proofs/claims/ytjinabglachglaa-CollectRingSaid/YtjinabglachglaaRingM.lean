/- A ring of objects, with others that hang on it in a row: plainly. -/
import Derived.Test.YtjinabglachglaaLaw13
namespace Go.Proofs.Ytjinabglachglaa
set_option linter.unusedSimpArgs false
open Go.RowKit
set_option linter.unusedVariables false
namespace RG
def node (i : Nat) : V := V.ref (((i % 1000 : Nat) : Int) + 1) (okI_of ⟨by omega, by omega⟩)
theorem node_n {i : Nat} (h : i < 1000) : (node i).n = (i : Int) + 1 := by show ((i % 1000 : Nat) : Int) + 1 = _; rw [Nat.mod_eq_of_lt h]
def nx : V := ⟨3, 0, ⟨#[110, 101, 120, 116]⟩, by decide, by decide, by decide⟩
def o0 : ObjM := ⟨6, ⟨#[]⟩, 0, [], [], by decide, by decide, by decide⟩
def obj (m T : Nat) (d : Bool) (i : Nat) : ObjM :=
  ⟨6, ⟨#[]⟩, 0, (if d = false ∧ i + 1 < T then [node (i + 1)] else []) ++ (if i + 1 = m then [node 0] else []), if d = true ∧ i + 1 < T then [(nx, node (i + 1))] else [], by decide, by decide, by decide⟩
/-- Behind k steps. -/
def ring (m T : Nat) (d : Bool) (k : Nat) : HeapM := ⟨(List.range T).map fun i : Nat => ((i : Int) + 1, if i < k then obj m T d i else o0), T⟩
theorem ring_zero (m T : Nat) (d : Bool) : baseM (fun _ => o0) T = ring m T d 0 := by
  have h1 := baseM_objs (fun _ => o0) T
  have h2 := baseM_last (fun _ => o0) T
  have : ∀ H : HeapM, H = ⟨H.objs, H.last⟩ := fun H => rfl
  rw [this (baseM (fun _ => o0) T), h1, h2]
  rfl
theorem ring_keys (m T : Nat) (d : Bool) (k : Nat) : (ring m T d k).objs.map (·.1) = (List.range T).map fun i : Nat => (i : Int) + 1 := by
  show ((List.range T).map _).map _ = _
  rw [List.map_map]; rfl
theorem ring_nodup (m T : Nat) (d : Bool) (k : Nat) : ((ring m T d k).objs.map (·.1)).Nodup := by
  rw [ring_keys]
  exact List.pairwise_map.2 (List.nodup_range.imp fun h e => h (by omega))
theorem ring_get {m T : Nat} {d : Bool} {k i : Nat} (hi : i < T) : getL (ring m T d k).objs ((i : Int) + 1) = some (if i < k then obj m T d i else o0) :=
  getL_of_mem (ring_nodup m T d k) (List.mem_map.2 ⟨i, List.mem_range.2 hi, rfl⟩)
theorem ring_of {m T : Nat} {d : Bool} {k i : Nat} (hi : i < T) (hT : T ≤ 100) : (ring m T d k).of (node i) = some (if i < k then obj m T d i else o0) := by
  unfold HeapM.of
  rw [if_pos (show (node i).kind = 4 from rfl), node_n (by omega)]
  exact ring_get hi
theorem ring_live {m T : Nat} {d : Bool} {k : Nat} {n : Int} (h : (getL (ring m T d k).objs n).isSome = true) : ∃ i, i < T ∧ n = (i : Int) + 1 := by
  obtain ⟨o, ho⟩ := Option.isSome_iff_exists.1 h
  obtain ⟨i, hi, e⟩ := List.mem_map.1 (getL_mem ho)
  exact ⟨i, List.mem_range.1 hi, by have := congrArg Prod.fst e; simpa using this.symm⟩
/-- One step. -/
def st1 (m : Nat) (H : HeapM) (k : Nat) : HeapM := if k + 1 = m then H.replace (node k) 0 0 [node 0] else H
def step (m T : Nat) (d : Bool) (H : HeapM) (k : Nat) : HeapM :=
  if k + 1 < T then (if d = true then (st1 m H k).put (node k) nx (node (k + 1)) else (st1 m H k).replace (node k) 0 0 [node (k + 1)]) else st1 m H k
theorem set_ring {m T : Nat} {d : Bool} {k : Nat} (hk : k < T) (hT : T ≤ 100) (o : ObjM) (f : Nat → ObjM) (hf : ∀ i, i < T → f i = if i = k then o else if i < k then obj m T d i else o0) :
    ((ring m T d k).set (node k).n o) = ⟨(List.range T).map fun i : Nat => ((i : Int) + 1, f i), T⟩ := by
  unfold HeapM.set
  rw [node_n (by omega)]
  have : ∀ l m : List (Int × ObjM), ∀ t, l = m → (⟨l, t⟩ : HeapM) = ⟨m, t⟩ := fun l m t h => by rw [h]
  refine this _ _ _ ?_
  show ((List.range T).map _).map _ = _
  rw [List.map_map]
  refine List.map_congr_left fun i hi => ?_
  have hi' := List.mem_range.1 hi
  simp only [Function.comp]
  rw [hf i hi']
  by_cases e : i = k
  · subst e; simp
  · rw [if_neg (by omega), if_neg e]
theorem replace_set {H : HeapM} {v : V} {o : ObjM} (g : H.of v = some o) (x : V) : H.replace v 0 0 [x] = H.set v.n { o with items := x :: o.items } := by
  unfold HeapM.replace
  rw [g]
  simp only
  rw [if_pos ⟨by omega, by omega, by omega⟩]
  simp
theorem set_set {H : HeapM} (v : Int) (o o' : ObjM) : (H.set v o).set v o' = H.set v o' := by
  unfold HeapM.set
  simp only [List.map_map]
  congr 1
  refine List.map_congr_left fun p _ => ?_
  simp only [Function.comp]
  by_cases e : p.1 = v
  · simp [e]
  · simp [e]
theorem of_set {H : HeapM} {v : V} {o : ObjM} (hn : (H.objs.map (·.1)).Nodup) (g : H.of v = some o) (o' : ObjM) : (H.set v.n o').of v = some o' := by
  unfold HeapM.of at g ⊢
  split at g
  · rename_i hk
    rw [if_pos hk]
    have hm := getL_mem g
    refine getL_of_mem (by rw [show (H.set v.n o').objs.map (·.1) = H.objs.map (·.1) from map_set_keys _ _ _]; exact hn) ?_
    exact List.mem_map.2 ⟨_, hm, by simp⟩
  · cases g
theorem step_ring {m T : Nat} {d : Bool} {k : Nat} (hk : k < T) (hT : T ≤ 100) (hm : 1 ≤ m ∧ m ≤ T) : step m T d (ring m T d k) k = ring m T d (k + 1) := by
  have g := ring_of (m := m) (d := d) (k := k) hk hT
  rw [if_neg (by omega)] at g
  have hn := ring_nodup m T d k
  have fin : ∀ o : ObjM, o = obj m T d k → (ring m T d k).set (node k).n o = ring m T d (k + 1) := fun o ho => by
    refine set_ring hk hT o (fun i => if i < k + 1 then obj m T d i else o0) fun i hi => ?_
    subst ho
    by_cases e : i = k
    · subst e; simp
    · by_cases h : i < k
      · rw [if_pos (by omega), if_neg e, if_pos h]
      · rw [if_neg (by omega), if_neg e, if_neg h]
  have hpo : putOk ([] : List (V × V)) nx = true := by decide +kernel
  by_cases h1 : k + 1 = m
  · have hs1 : st1 m (ring m T d k) k = (ring m T d k).set (node k).n { o0 with items := node 0 :: o0.items } := by
      unfold st1; rw [if_pos h1, replace_set g]
    have g2 := of_set hn g { o0 with items := node 0 :: o0.items }
    unfold step
    rw [hs1]
    by_cases h2 : k + 1 < T
    · rw [if_pos h2]
      cases d with
      | true =>
        rw [if_pos rfl]
        unfold HeapM.put
        rw [g2]
        simp only
        rw [show ({ o0 with items := node 0 :: o0.items } : ObjM).pairs = [] from rfl, hpo, if_pos rfl, set_set]
        refine fin _ ?_
        unfold obj
        simp [h1, show m < T by omega, o0, putL, getL]
      | false =>
        rw [if_neg (by simp), replace_set g2, set_set]
        refine fin _ ?_
        unfold obj
        simp [h1, show m < T by omega, o0]
    · rw [if_neg h2]
      refine fin _ ?_
      unfold obj
      simp [h1, show ¬ m < T by omega, o0]
  · have hs1 : st1 m (ring m T d k) k = ring m T d k := by unfold st1; rw [if_neg h1]
    unfold step
    rw [hs1]
    by_cases h2 : k + 1 < T
    · rw [if_pos h2]
      cases d with
      | true =>
        rw [if_pos rfl]
        unfold HeapM.put
        rw [g]
        simp only
        rw [show o0.pairs = [] from rfl, hpo, if_pos rfl]
        refine fin _ ?_
        unfold obj
        simp [h1, h2, o0, putL, getL]
      | false =>
        rw [if_neg (by simp), replace_set g]
        refine fin _ ?_
        unfold obj
        simp [h1, h2, o0]
    · rw [if_neg h2]
      have : obj m T d k = o0 := by unfold obj; simp [h1, h2, o0]
      rw [← fin o0 this.symm, HeapM.set_same hn g]
theorem mem_refs {H : HeapM} {v : V} {o : ObjM} (g : H.of v = some o) {x : V} (hx : x ∈ o.vals) (hl : (H.of x).isSome = true) : x.n ∈ H.refsOf v.n := by
  unfold HeapM.refsOf
  rw [(HeapM.of_some g).2]
  exact List.mem_map.2 ⟨x, List.mem_filter.2 ⟨hx, hl⟩, rfl⟩
section
variable {m T : Nat} {d : Bool} {k : Nat}
theorem ref_next {i : Nat} (hi : i + 1 < T) (hT : T ≤ 100) : (node (i + 1)).n ∈ (ring m T d T).refsOf (node i).n := by
  have g := ring_of (m := m) (d := d) (k := T) (i := i) (by omega) hT
  rw [if_pos (by omega)] at g
  refine mem_refs g ?_ (by rw [ring_of hi hT]; rfl)
  unfold obj ObjM.vals
  cases d <;> simp [hi]
theorem ref_back (hT : T ≤ 100) (hm : 1 ≤ m ∧ m ≤ T) : (node 0).n ∈ (ring m T d T).refsOf (node (m - 1)).n := by
  have g := ring_of (m := m) (d := d) (k := T) (i := m - 1) (by omega) hT
  rw [if_pos (by omega)] at g
  refine mem_refs g ?_ (by rw [ring_of (by omega) hT]; rfl)
  unfold obj ObjM.vals
  simp [show m - 1 + 1 = m by omega]
theorem R_all (hT : T ≤ 100) (hm : 1 ≤ m ∧ m ≤ T) {j : Nat} (hj : j < m) {n : Int} (hn : (getL (ring m T d T).objs n).isSome = true) : (ring m T d T).R [node j] n := by
  have up : ∀ a i, a + i < T → (ring m T d T).R [node j] (node a).n → (ring m T d T).R [node j] (node (a + i)).n := by
    intro a i
    induction i with
    | zero => intro _ h; exact h
    | succ i ih => intro hi h; exact .step (ih (by omega) h) (ref_next (i := a + i) hi hT)
  have h0 : (ring m T d T).R [node j] (node j).n := .seed (by rw [node_n (by omega), ring_get (by omega)]; rfl) (cnt_pos.2 ⟨node j, by simp, rfl, rfl⟩)
  have h1 : (ring m T d T).R [node j] (node (m - 1)).n := by have := up j (m - 1 - j) (by omega) h0; rwa [show j + (m - 1 - j) = m - 1 by omega] at this
  have h2 : (ring m T d T).R [node j] (node 0).n := .step h1 (ref_back hT hm)
  obtain ⟨i, hi, rfl⟩ := ring_live hn
  have := up 0 i (by omega) h2
  rwa [Nat.zero_add, node_n (by omega)] at this
theorem held_by (hT : T ≤ 100) (hm : 1 ≤ m ∧ m ≤ T) {n : Int} (hn : (getL (ring m T d T).objs n).isSome = true) : ∃ i o, getL (ring m T d T).objs i = some o ∧ 0 < cnt o.vals n := by
  have conv : ∀ {a b : Nat}, a < T → (node b).n ∈ (ring m T d T).refsOf (node a).n → ∃ i o, getL (ring m T d T).objs i = some o ∧ 0 < cnt o.vals (node b).n := by
    intro a b ha h
    unfold HeapM.refsOf at h
    cases g : getL (ring m T d T).objs (node a).n with
    | none => rw [g] at h; simp at h
    | some o =>
      rw [g] at h
      obtain ⟨x, hx, e⟩ := List.mem_map.1 h
      obtain ⟨h1, h2⟩ := List.mem_filter.1 hx
      obtain ⟨o', ho'⟩ := Option.isSome_iff_exists.1 h2
      exact ⟨_, o, g, cnt_pos.2 ⟨x, h1, (HeapM.of_some ho').1, e⟩⟩
  obtain ⟨i, hi, rfl⟩ := ring_live hn
  rw [← node_n (show i < 1000 by omega)]
  cases i with
  | zero => exact conv (show m - 1 < T by omega) (ref_back hT hm)
  | succ i => exact conv (show i < T by omega) (ref_next hi hT)
theorem cnt_of {H : HeapM} {i n : Int} {o : ObjM} (g : getL H.objs i = some o) (h : 0 < cnt o.vals n) : 0 < cnt (allVals H.objs) n := by
  obtain ⟨x, hx, h1, h2⟩ := cnt_pos.1 h
  exact cnt_pos.2 ⟨x, List.mem_flatMap.2 ⟨_, getL_mem g, hx⟩, h1, h2⟩
theorem sweep_same (hT : T ≤ 100) (hm : 1 ≤ m ∧ m ≤ T) : (ring m T d T).sweep [] = ring m T d T := by
  have h1 : ((ring m T d T).sweep []).objs = (ring m T d T).objs := by
    show List.filter _ _ = _
    refine List.filter_eq_self.2 fun p hp => ?_
    have hl : (getL (ring m T d T).objs p.1).isSome = true := by rw [getL_of_mem (ring_nodup m T d T) hp]; rfl
    have : Kept (ring m T d T) [] p.1 := ⟨fun n => (getL (ring m T d T).objs n).isSome = true, fun n hn => ⟨hn, by
      obtain ⟨i, o, h1, h2⟩ := held_by hT hm hn
      exact .inr ⟨i, o, show (getL (ring m T d T).objs i).isSome = true by rw [h1]; rfl, h1, h2⟩⟩, hl⟩
    simpa using this
  have h2 : ∀ H : HeapM, H = ⟨H.objs, H.last⟩ := fun H => rfl
  rw [h2 ((ring m T d T).sweep []), h1]; rfl
theorem collect_same {N : Nat} (G : (ring m T d T).Good N) (hT : T ≤ 100) (hm : 1 ≤ m ∧ m ≤ T) {j : Nat} (hj : j < m) : (ring m T d T).collect [node j] = ring m T d T := by
  have h1 : ((ring m T d T).collect [node j]).objs = (ring m T d T).objs := by
    rw [HeapM.collect_objs G]
    refine List.filter_eq_self.2 fun p hp => ?_
    have hl : (getL (ring m T d T).objs p.1).isSome = true := by rw [getL_of_mem (ring_nodup m T d T) hp]; rfl
    simpa using R_all hT hm hj hl
  have h2 : ∀ H : HeapM, H = ⟨H.objs, H.last⟩ := fun H => rfl
  rw [h2 ((ring m T d T).collect [node j]), h1, HeapM.collect_last]
theorem garbage_all {N : Nat} (G : (ring m T d T).Good N) (hT : T ≤ 100) (hm : 1 ≤ m ∧ m ≤ T) : ((ring m T d T).garbageM []).length = T := by
  have : (ring m T d T).garbageM [] = (ring m T d T).objs.map (·.1) := by
    unfold HeapM.garbageM
    refine List.filter_eq_self.2 fun n hn => ?_
    obtain ⟨i, o, h1, h2⟩ := held_by hT hm ((HeapM.live_key G).1 hn)
    have h3 := cnt_of h1 h2
    have h4 : ¬ (ring m T d T).R [] n := fun h => HeapM.R_nil h
    simp [h3, h4]
  rw [this, ring_keys]; simp
theorem collect_none {N : Nat} (G : (ring m T d T).Good N) : (ring m T d T).collect [] = ⟨[], T⟩ := by
  have h1 : ((ring m T d T).collect []).objs = [] := by
    rw [HeapM.collect_objs G, List.filter_eq_nil_iff]
    intro p _
    have h4 : ¬ (ring m T d T).R [] p.1 := fun h => HeapM.R_nil h
    simpa using h4
  have h2 : ∀ H : HeapM, H = ⟨H.objs, H.last⟩ := fun H => rfl
  rw [h2 ((ring m T d T).collect []), h1, HeapM.collect_last]; rfl
theorem ring_live6 : (ring m T d T).live 6 = T := by
  unfold HeapM.live
  rw [List.filter_eq_self.2]
  · simp [ring]
  · intro p hp
    obtain ⟨i, hi, rfl⟩ := List.mem_map.1 hp
    simp only
    rw [if_pos (List.mem_range.1 hi)]
    rfl
theorem ring_len : (ring m T d k).objs.length = T := by simp [ring]
theorem step_fit {H : HeapM} {N : Nat} (h : H.Fit N) (k : Nat) : (step m T d H k).Fit (N + 2) := by
  have h1 : (st1 m H k).Fit (N + 1) := by
    unfold st1
    split
    · exact h.replace _ 0 0 [_]
    · exact h.more (by omega)
  unfold step
  split
  · split
    · exact h1.put _ _ _
    · exact h1.replace _ 0 0 [_]
  · exact h1.more (by omega)
theorem ring_fit (hT : T ≤ 35) (hm : 1 ≤ m ∧ m ≤ T) : ∀ k, k ≤ T → (ring m T d k).Fit (70 + 2 * k)
  | 0, _ => by
    rw [← ring_zero]
    exact (baseM_fit (fun _ => o0) (fun _ => ⟨⟨by decide, by decide⟩, rfl, rfl⟩) T).more (by omega)
  | k + 1, hk => by
    rw [← step_ring (by omega) (by omega) hm]
    exact (step_fit (ring_fit hT hm k (by omega)) k).more (by omega)
end
end RG
end Go.Proofs.Ytjinabglachglaa
