/- More of the plain heap's good order; three writers beside what a law laid. -/
import Derived.Test.YtellmfimmghidaaGreatHeapF
namespace Go.Proofs.YtellmfimmghidaaGreat
set_option linter.unusedSimpArgs false
open Go.RowKit
set_option linter.unusedVariables false
def HeapM.setNum (H : HeapM) (v : V) (n : Int) (hn : okI n) : HeapM := match H.of v with | some o => H.set v.n { o with num := n, hn := hn } | none => H
theorem allVals_cons (q : Int × ObjM) (l : List (Int × ObjM)) : allVals (q :: l) = q.2.vals ++ allVals l := by simp [allVals]
theorem map_set_keys (l : List (Int × ObjM)) (n : Int) (o : ObjM) : (l.map fun p => if p.1 = n then (n, o) else p).map (·.1) = l.map (·.1) := by
  rw [List.map_map]
  refine List.map_congr_left fun p _ => ?_
  by_cases e : p.1 = n
  · simp [e]
  · simp [e]
theorem HeapM.Ok.set {H : HeapM} (h : H.Ok) (n : Int) (o : ObjM) : (H.set n o).Ok := by
  refine ⟨by rw [HeapM.set, map_set_keys]; exact h.asc, fun p hp => ?_, h.last⟩
  have : p.1 ∈ (H.objs.map (·.1)) := by rw [← map_set_keys H.objs n o]; exact List.mem_map.2 ⟨p, hp, rfl⟩
  obtain ⟨q, hq, e⟩ := List.mem_map.1 this
  have := h.pos q hq
  rw [← e]; exact this
theorem weight_map_set : ∀ {l : List (Int × ObjM)}, (l.map (·.1)).Nodup → ∀ {n : Int} {o : ObjM}, getL l n = some o → ∀ o' : ObjM, (allVals (l.map fun p => if p.1 = n then (n, o') else p)).length + o.vals.length = (allVals l).length + o'.vals.length
  | [], _, n, o, g, o' => by simp [getL] at g
  | p :: r, hn, n, o, g, o' => by
    simp only [List.map_cons, List.nodup_cons] at hn
    by_cases e : p.1 = n
    · have e1 : p.2 = o := by simpa [getL, e] using g
      have e2 : r.map (fun p => if p.1 = n then (n, o') else p) = r := by
        conv => rhs; rw [← List.map_id r]
        refine List.map_congr_left fun q hq => ?_
        have : q.1 ≠ n := fun e' => hn.1 (List.mem_map.2 ⟨q, hq, e'.trans e.symm⟩)
        simp [this]
      rw [List.map_cons, if_pos e, e2, allVals_cons, allVals_cons, List.length_append, List.length_append, e1]; simp only; omega
    · have g' : getL r n = some o := by simpa [getL, e] using g
      have := weight_map_set hn.2 g' o'
      rw [List.map_cons, if_neg e, allVals_cons, allVals_cons, List.length_append, List.length_append]; omega
theorem HeapM.Good.set {H : HeapM} {N : Nat} (h : H.Good N) {v : V} {o : ObjM} (g : H.of v = some o) (o' : ObjM) (k : Nat) (hk : o'.vals.length ≤ o.vals.length + k) : (H.set v.n o').Good (N + k) := by
  refine ⟨h.ok.set _ _, ?_⟩
  have := weight_map_set h.ok.nk (HeapM.of_some g).2 o'
  have := h.wt
  simp only [HeapM.weight, HeapM.set, List.length_map] at *
  omega
theorem HeapM.Good.more {H : HeapM} {N M : Nat} (h : H.Good N) (hM : N ≤ M) : H.Good M := ⟨h.ok, Nat.le_trans h.wt hM⟩
theorem allVals_filter (l : List (Int × ObjM)) (f : Int × ObjM → Bool) : (allVals (l.filter f)).length ≤ (allVals l).length := by
  induction l with
  | nil => simp
  | cons p r ih =>
    rw [List.filter_cons]
    split
    · rw [allVals_cons, allVals_cons, List.length_append, List.length_append]; omega
    · rw [allVals_cons, List.length_append]; omega
theorem HeapM.Good.filter {H H' : HeapM} {N : Nat} (h : H.Good N) (f : Int × ObjM → Bool) (he : H'.objs = H.objs.filter f) (hl : H'.last = H.last) : H'.Good N := by
  refine ⟨⟨?_, fun p hp => ?_, by rw [hl]; exact h.ok.last⟩, ?_⟩
  · rw [he]; exact h.ok.asc.sublist (List.Sublist.map _ (List.filter_sublist))
  · rw [he] at hp; rw [hl]; exact h.ok.pos p (List.mem_filter.1 hp).1
  · have := h.wt
    have h1 := allVals_filter H.objs f
    have h2 := List.length_filter_le f H.objs
    simp only [HeapM.weight] at *
    rw [he, hl]; omega
theorem HeapM.Good.freeAll {H : HeapM} {N : Nat} (h : H.Good N) (ns : List Int) : (H.freeAll ns).Good N := by
  induction ns generalizing H with
  | nil => exact h
  | cons n r ih => exact ih (h.filter _ rfl rfl)
theorem putL_len {l : List (V × V)} {k x : V} : (putL l k x).length ≤ l.length + 1 := by
  unfold putL; split <;> simp
theorem delL_len (l : List (V × V)) (k : V) : (delL l k).length ≤ l.length := List.length_filter_le _ _
theorem HeapM.Good.add {H : HeapM} {N : Nat} (h : H.Good N) (o : ObjM) : (H.add o).Good (N + o.vals.length + 2) := by
  have h1 := h.ok.last
  refine ⟨⟨?_, fun p hp => ?_, ?_⟩, ?_⟩
  · show (List.map (·.1) (H.objs ++ [(H.last + 1, o)])).Pairwise (· < ·)
    rw [List.map_append, List.pairwise_append]
    refine ⟨h.ok.asc, by simp, fun a ha b hb => ?_⟩
    obtain ⟨p, hp, rfl⟩ := List.mem_map.1 ha
    have := h.ok.pos p hp
    simp at hb; subst hb; omega
  · rcases List.mem_append.1 hp with hp | hp
    · have := h.ok.pos p hp; exact ⟨this.1, by show p.1 ≤ H.last + 1; omega⟩
    · simp at hp; subst hp; exact ⟨by show 1 ≤ H.last + 1; omega, by show H.last + 1 ≤ H.last + 1; omega⟩
  · show 0 ≤ H.last + 1; omega
  · have := h.wt
    have e : (allVals (H.objs ++ [(H.last + 1, o)])).length = (allVals H.objs).length + o.vals.length := by simp [allVals]
    simp only [HeapM.weight, HeapM.add, List.length_append, List.length_singleton] at *
    rw [e]; omega
theorem HeapM.Good.setNum {H : HeapM} {N : Nat} (h : H.Good N) (v : V) (n : Int) (hn : okI n) : (H.setNum v n hn).Good N := by
  unfold HeapM.setNum
  split
  · rename_i g; exact h.set g _ 0 (by simp [ObjM.vals])
  · exact h
theorem HeapM.Good.setAt {H : HeapM} {N : Nat} (h : H.Good N) (v : V) (i : Int) (x : V) : (H.setAt v i x).Good N := by
  unfold HeapM.setAt
  split
  · rename_i g; split
    · exact h.set g _ 0 (by simp [ObjM.vals])
    · exact h
  · exact h
theorem HeapM.Good.replace {H : HeapM} {N : Nat} (h : H.Good N) (v : V) (i j : Int) (l : List V) : (H.replace v i j l).Good (N + l.length) := by
  unfold HeapM.replace
  split
  · rename_i g; split
    · exact h.set g _ l.length (by simp [ObjM.vals]; omega)
    · exact h.more (by omega)
  · exact h.more (by omega)
theorem HeapM.Good.put {H : HeapM} {N : Nat} (h : H.Good N) (v k x : V) : (H.put v k x).Good (N + 1) := by
  unfold HeapM.put
  split
  · rename_i g; split
    · rename_i oo _
      have := putL_len (l := oo.pairs) (k := k) (x := x)
      exact h.set g _ 1 (by simp [ObjM.vals]; omega)
    · exact h.more (by omega)
  · exact h.more (by omega)
theorem HeapM.Good.del {H : HeapM} {N : Nat} (h : H.Good N) (v k : V) : (H.del v k).Good N := by
  unfold HeapM.del
  split
  · rename_i oo g
    have := delL_len oo.pairs k
    exact h.set g _ 0 (by simp [ObjM.vals]; omega)
  · exact h
theorem HeapM.Good.sweep {H : HeapM} {N : Nat} (h : H.Good N) (E : List V) : (H.sweep E).Good N := h.filter (fun p => @decide (Kept H E p.1) (Classical.propDecidable _)) rfl rfl
section
variable {w W : World} {h : Nat} {H : HeapM} {L : List (Nat × Obj)} {N : Nat}
theorem HAt.setAt (A : HAt w h H L W) (v : V) (i : Int) (x : V) (hi : okI i) :
    Calls Tryz.prog 82 #[.pointer (some ⟨h, 0, none⟩), v.val, .int .i64 i, x.val] W fun e W' => e = .returned (.bool (H.inItems v i)) ∧ HAt w h (H.setAt v i x) L W' := by
  obtain ⟨F, f1, f2, f3, f4⟩ := A
  exact (heap_setAt W h v i x hi f1).mono fun e W' ⟨e1, e2⟩ => ⟨e1, HAt.post f2 f3 f4 e2⟩
theorem HAt.del (A : HAt w h H L W) (v k : V) :
    Calls Tryz.prog 86 #[.pointer (some ⟨h, 0, none⟩), v.val, k.val] W fun e W' => e = .returned (.bool (H.has v k)) ∧ HAt w h (H.del v k) L W' := by
  obtain ⟨F, f1, f2, f3, f4⟩ := A
  exact (heap_del W h v k f1).mono fun e W' ⟨e1, e2⟩ => ⟨e1, HAt.post f2 f3 f4 e2⟩
end
end Go.Proofs.YtellmfimmghidaaGreat
