/- Objects, plainly: what object's functions make of a heap. -/
import Derived.Test.YtobcnffjfclolaaDoorObjC
import Derived.Test.YtobcnffjfclolaaDoorC3
import Derived.Test.YtobcnffjfclolaaDoorFit
namespace Go.Proofs.YtobcnffjfclolaaDoor
set_option linter.unusedSimpArgs false
set_option linter.unusedVariables false
open Classical in
/-- The value of an object. -/
noncomputable def refN (n : Int) : V := if h : okI n then V.ref n h else V.zero
theorem refN_ok {n : Int} (h : okI n) : refN n = V.ref n h := by unfold refN; rw [dif_pos h]
def HeapM.ordN (H : HeapM) (v : V) : List Int := (H.order v).map (·.n)
def HeapM.c3 (H : HeapM) (bases : List V) : Option (List Int) := if bases.all H.isClass = true then mergeM (bases.map H.ordN ++ [bases.map (·.n)]) else none
noncomputable def classO (s : ByteArray) (hs : s.size ≤ maxLen) (l : List Int) (pairs : List (V × V)) : ObjM := ⟨5, s, 0, l.map refN, pairs, by decide, by decide, hs⟩
/-- A class is made, or not. -/
noncomputable def HeapM.mkClass (H : HeapM) (s : ByteArray) (hs : s.size ≤ maxLen) (bases : List V) (space : V) : Option HeapM :=
  match H.c3 bases with | some l => if H.kind space = 3 then some (H.add (classO s hs l (H.pairs space))) else none | none => none
def instO (s : ByteArray) (hs : s.size ≤ maxLen) (c : V) : ObjM := ⟨6, s, 0, [c.asRef], [], by decide, by decide, hs⟩
def HeapM.ofM (H : HeapM) (v : V) : Option V := if H.kind v = 6 ∧ H.isClass ((H.at v 0).getD V.zero) = true then some ((H.at v 0).getD V.zero).asRef else none
def HeapM.opens (H : HeapM) (v : V) : Bool := (H.ofM v).isSome || H.isClass v
theorem add_of_new {H : HeapM} {N : Nat} (G : H.Good N) (o : ObjM) (hn : okI (H.last + 1)) : (H.add o).of (V.ref (H.last + 1) hn) = some o := by
  unfold HeapM.of
  rw [if_pos (show (V.ref (H.last + 1) hn).kind = 4 from rfl)]
  exact getL_of_mem (G.add o).ok.nk (List.mem_append_right _ (by simp [V.ref]))
theorem add_of_old {H : HeapM} {N : Nat} (G : H.Good N) (o : ObjM) {v : V} {ob : ObjM} (h : H.of v = some ob) : (H.add o).of v = some ob := by
  have h1 := HeapM.of_some h
  unfold HeapM.of
  rw [if_pos h1.1]
  exact getL_of_mem (G.add o).ok.nk (List.mem_append_left _ (getL_mem h1.2))
theorem add_set {H : HeapM} {N : Nat} (G : H.Good N) (o o' : ObjM) : (H.add o).set (H.last + 1) o' = H.add o' := by
  have h1 : (H.objs.map fun p => if p.1 = H.last + 1 then (H.last + 1, o') else p) = H.objs := by
    conv => rhs; rw [← List.map_id H.objs]
    refine List.map_congr_left fun p hp => ?_
    have := G.ok.pos p hp
    rw [if_neg (by omega)]; rfl
  unfold HeapM.set HeapM.add
  simp only [List.map_append, h1, List.map_cons, List.map_nil, if_pos]
/-- Pair by pair, in order. -/
theorem add_put {H : HeapM} {N : Nat} (G : H.Good N) (o : ObjM) {P : List (V × V)} (hP : PairsOk P) {j : Nat} {k x : V} (hj : P[j]? = some (k, x)) (hn : okI (H.last + 1)) :
    (H.add { o with pairs := P.take j }).put (V.ref (H.last + 1) hn) k x = H.add { o with pairs := P.take (j + 1) } := by
  have hjl := (List.getElem?_eq_some_iff.1 hj).1
  have hg : getL (P.take j) k = none := by
    rw [getL_none]
    intro p hp e
    obtain ⟨m, hm, rfl⟩ := List.mem_take_iff_getElem.1 hp
    have h2 := List.nodup_iff_pairwise_ne.1 hP.nd
    rw [List.pairwise_iff_getElem] at h2
    have h3 := h2 m j (by simp; omega) (by simpa using hjl) (by omega)
    rw [List.getElem_map, List.getElem_map] at h3
    have h4 : P[j] = (k, x) := (List.getElem?_eq_some_iff.1 hj).2
    rw [h4] at h3
    exact h3 e
  have hput : putOk (P.take j) k = true := by
    have h1 : k.isKey = true := hP.key (k, x) (List.mem_of_getElem? hj)
    have h2 := hP.len
    simp only [putOk, hg, Option.isSome_none, Bool.false_or, Bool.and_eq_true, decide_eq_true_eq]
    exact ⟨h1, by rw [List.length_take]; omega⟩
  unfold HeapM.put
  rw [add_of_new G _ hn]
  simp only [hput, if_true]
  rw [putL_none x hg]
  have e : P.take (j + 1) = P.take j ++ [(k, x)] := by rw [List.take_add_one, hj]; rfl
  rw [e]
  exact add_set G _ _
theorem HeapM.isClass_of {H : HeapM} {v : V} (h : H.isClass v = true) : ∃ o, H.of v = some o ∧ o.kind = 5 := by
  unfold HeapM.isClass HeapM.kind at h
  cases g : H.of v with
  | none => rw [g] at h; simp at h
  | some o => rw [g] at h; exact ⟨o, rfl, by simpa using h⟩
theorem HeapM.class_pos {H : HeapM} {N : Nat} (G : H.Good N) {v : V} (h : H.isClass v = true) : 1 ≤ v.n ∧ v.n ≤ H.last := by
  obtain ⟨o, ho, -⟩ := HeapM.isClass_of h
  exact G.ok.pos _ (getL_mem (HeapM.of_some ho).2)
theorem HeapM.ordN_pos {H : HeapM} {N : Nat} (G : H.Good N) {v : V} : ∀ n ∈ H.ordN v, 1 ≤ n ∧ n ≤ H.last := by
  intro n hn
  unfold HeapM.ordN HeapM.order at hn
  split at hn
  · rename_i hv
    rw [List.map_cons, List.mem_cons] at hn
    rcases hn with h | h
    · rw [h]; exact HeapM.class_pos (v := v) G hv
    · rw [List.map_map] at h
      obtain ⟨x, hx, rfl⟩ := List.mem_map.1 h
      exact HeapM.class_pos (v := x) G (List.mem_filter.1 hx).2
  · simp at hn
theorem HeapM.ordN_len {H : HeapM} {N : Nat} (G : H.Good N) (v : V) : (H.ordN v).length ≤ N + 1 := by
  unfold HeapM.ordN HeapM.order
  split
  · have h1 := List.length_filter_le H.isClass (H.items v)
    have h2 := G.items v
    simp; omega
  · simp
theorem HeapM.c3_pos {H : HeapM} {N : Nat} (G : H.Good N) {bases : List V} (hc : bases.all H.isClass = true) {l : List Int} (h : mergeM (bases.map H.ordN ++ [bases.map (·.n)]) = some l) : ∀ n ∈ l, 1 ≤ n ∧ n ≤ H.last := by
  intro n hn
  obtain ⟨r, hr, hx⟩ := (mem_merge _ l h n).1 hn
  rcases List.mem_append.1 hr with h1 | h1
  · obtain ⟨b, hb, rfl⟩ := List.mem_map.1 h1
    exact HeapM.ordN_pos G n hx
  · simp only [List.mem_singleton] at h1
    subst h1
    obtain ⟨b, hb, rfl⟩ := List.mem_map.1 hx
    exact HeapM.class_pos G (List.all_eq_true.1 hc b hb)
theorem sizeM_ord {H : HeapM} {N : Nat} (G : H.Good N) (bases : List V) : sizeM (bases.map H.ordN) ≤ bases.length * (N + 1) := by
  induction bases with
  | nil => simp [sizeM]
  | cons b r ih =>
    have := HeapM.ordN_len G b
    rw [List.map_cons, sizeM_cons, List.length_cons, Nat.succ_mul]; omega
theorem add_pairs {H : HeapM} {N : Nat} (G : H.Good N) (o : ObjM) {v : V} (h : (H.of v).isSome = true) : (H.add o).pairs v = H.pairs v := by
  obtain ⟨ob, hob⟩ := Option.isSome_iff_exists.1 h
  unfold HeapM.pairs
  rw [hob, add_of_old G o hob]
theorem kind_some {H : HeapM} {v : V} {k : Int} (h : H.kind v = k) (hk : k ≠ 0) : (H.of v).isSome = true := by
  unfold HeapM.kind at h
  cases g : H.of v with
  | none => rw [g] at h; exact absurd h.symm hk
  | some o => rfl
end Go.Proofs.YtobcnffjfclolaaDoor
