/- The heap, plainly: objects by rising numbers. -/
import Derived.Test.YtellmfimmghidaaGreatVal
import Derived.Test.YtellmfimmghidaaGreatDictB
import Derived.Test.YtellmfimmghidaaGreatHeap1
namespace Go.Proofs.YtellmfimmghidaaGreat
set_option linter.unusedSimpArgs false
open Go.RowKit
set_option linter.unusedVariables false
/-- An object. -/
structure ObjM where
  kind : Int
  name : ByteArray
  num : Int
  items : List V
  pairs : List (V × V)
  hk : okI kind
  hn : okI num
  hs : name.size ≤ maxLen
/-- A heap: its objects, each behind its number; the last number that was given. -/
structure HeapM where
  objs : List (Int × ObjM)
  last : Int
def HeapM.of (H : HeapM) (v : V) : Option ObjM := if v.kind = 4 then getL H.objs v.n else none
def ObjM.vals (o : ObjM) : List V := o.items ++ o.pairs.map (·.2)
def HeapM.refs (H : HeapM) (o : ObjM) : List V := o.vals.filter fun x => (H.of x).isSome
def allVals (l : List (Int × ObjM)) : List V := l.flatMap (·.2.vals)
def isRef (n : Int) (v : V) : Bool := decide (v.kind = 4) && decide (v.n = n)
/-- How often a number is held. -/
def cnt (l : List V) (n : Int) : Int := ((l.filter (isRef n)).length : Int)
theorem cnt_nil (n : Int) : cnt [] n = 0 := rfl
theorem cnt_append (l m : List V) (n : Int) : cnt (l ++ m) n = cnt l n + cnt m n := by simp [cnt, List.filter_append]
theorem cnt_cons (v : V) (l : List V) (n : Int) : cnt (v :: l) n = (if v.kind = 4 ∧ v.n = n then 1 else 0) + cnt l n := by
  unfold cnt
  by_cases h : v.kind = 4 ∧ v.n = n
  · rw [List.filter_cons_of_pos (by simp [isRef, h.1, h.2]), if_pos h]; simp; omega
  · rw [List.filter_cons_of_neg (by simpa [isRef] using h), if_neg h]; simp
theorem cnt_nonneg (l : List V) (n : Int) : 0 ≤ cnt l n := by unfold cnt; omega
theorem cnt_le (l : List V) (n : Int) : cnt l n ≤ l.length := by unfold cnt; have := List.length_filter_le (isRef n) l; omega
theorem cnt_pos {l : List V} {n : Int} : 0 < cnt l n ↔ ∃ v ∈ l, v.kind = 4 ∧ v.n = n := by
  unfold cnt
  constructor
  · intro h
    have : 0 < (l.filter (isRef n)).length := by omega
    obtain ⟨v, hv⟩ := List.exists_mem_of_length_pos this
    have := List.mem_filter.1 hv
    exact ⟨v, this.1, by simpa [isRef] using this.2⟩
  · rintro ⟨v, hv, h1, h2⟩
    have : v ∈ l.filter (isRef n) := List.mem_filter.2 ⟨hv, by simp [isRef, h1, h2]⟩
    have := List.length_pos_of_mem this
    omega
theorem wrap64_add_left (a b : Int) : wrap64 (wrap64 a + b) = wrap64 (a + b) := by
  unfold wrap64; omega
theorem cntL_hold1 {r : List (Int × Int)} {c : Int → Int} (d : Int) (v : V) (h : ∀ n, cntL r n = wrap64 (c n)) (n : Int) : cntL (hold1 d r v) n = wrap64 (c n + if v.kind = 4 ∧ v.n = n then d else 0) := by
  unfold hold1
  by_cases hk : v.kind = 4
  · rw [if_pos hk]
    unfold cntL
    rw [getL_putL]
    by_cases e : n = v.n
    · subst e
      rw [if_pos rfl, if_pos ⟨hk, rfl⟩]
      show wrap64 (cntL r v.n + d) = _
      rw [h, wrap64_add_left]
    · rw [if_neg e, if_neg (fun h => e h.2.symm)]
      show cntL r n = _
      rw [h]; simp
  · rw [if_neg hk, if_neg (fun h => hk h.1), h]; simp
theorem cntL_holdL {r : List (Int × Int)} {c : Int → Int} (d : Int) (l : List V) (h : ∀ n, cntL r n = wrap64 (c n)) (n : Int) : cntL (holdL d l r) n = wrap64 (c n + d * cnt l n) := by
  induction l generalizing r c with
  | nil => simp [holdL, cnt_nil, h]
  | cons v l ih =>
    have := ih (r := hold1 d r v) (c := fun n => c n + if v.kind = 4 ∧ v.n = n then d else 0) (fun n => cntL_hold1 d v h n)
    show cntL (holdL d l (hold1 d r v)) n = _
    rw [this, cnt_cons]
    congr 1
    split
    · rw [Int.mul_add]; omega
    · simp
theorem HeapM.of_some {H : HeapM} {v : V} {o : ObjM} (h : H.of v = some o) : v.kind = 4 ∧ getL H.objs v.n = some o := by
  unfold HeapM.of at h
  by_cases e : v.kind = 4
  · rw [if_pos e] at h; exact ⟨e, h⟩
  · rw [if_neg e] at h; cases h
theorem cnt_setL {l : List (Int × ObjM)} (hn : (l.map (·.1)).Nodup) {n : Int} {o : ObjM} (g : getL l n = some o) (o' : ObjM) (m : Int) :
    cnt (allVals (l.map fun p => if p.1 = n then (n, o') else p)) m = cnt (allVals l) m - cnt o.vals m + cnt o'.vals m := by
  induction l with
  | nil => simp [getL] at g
  | cons p r ih =>
    simp only [List.map_cons, List.nodup_cons] at hn
    have hc : ∀ q : Int × ObjM, ∀ l, allVals (q :: l) = q.2.vals ++ allVals l := fun q l => by simp [allVals]
    rw [List.map_cons, hc, hc, cnt_append, cnt_append]
    by_cases e : p.1 = n
    · have hr : r.map (fun p => if p.1 = n then (n, o') else p) = r := by
        conv => rhs; rw [← List.map_id' r]
        exact List.map_congr_left fun q hq => if_neg fun e' => hn.1 (List.mem_map.2 ⟨q, hq, e'.trans e.symm⟩)
      have : p.2 = o := by simpa [getL, e] using g
      rw [if_pos e, hr, this]
      simp only
      omega
    · have g' : getL r n = some o := by simpa [getL, e] using g
      rw [if_neg e, ih hn.2 g']
      omega
end Go.Proofs.YtellmfimmghidaaGreat
