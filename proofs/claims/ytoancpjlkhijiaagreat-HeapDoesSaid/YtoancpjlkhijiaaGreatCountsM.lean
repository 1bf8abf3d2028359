/- All counts together, plainly. -/
import Derived.Test.YtoancpjlkhijiaaGreatPre
namespace Go.Proofs.YtoancpjlkhijiaaGreat
set_option linter.unusedSimpArgs false
open Go.RowKit
set_option linter.unusedVariables false
def cntSum (vals : List V) (ns : List Int) : Int := (ns.map (cnt vals)).sum
def refsSum (H : HeapM) (ns : List Int) : Int := (ns.map fun n => ((H.refsOf n).length : Int)).sum
theorem cntSum_snoc (vals : List V) (ns : List Int) (n : Int) : cntSum vals (ns ++ [n]) = cntSum vals ns + cnt vals n := by simp [cntSum]
theorem refsSum_snoc (H : HeapM) (ns : List Int) (n : Int) : refsSum H (ns ++ [n]) = refsSum H ns + (H.refsOf n).length := by simp [refsSum]
def liveIn (ns : List Int) (v : V) : Bool := decide (v.kind = 4) && decide (v.n ∈ ns)
theorem sum_ite {ns : List Int} (hn : ns.Nodup) (k : Int) : (ns.map fun n => if k = n then (1 : Int) else 0).sum = if k ∈ ns then 1 else 0 := by
  induction ns with
  | nil => rfl
  | cons m r ih =>
    have hn' := List.nodup_cons.1 hn
    rw [List.map_cons, List.sum_cons, ih hn'.2]
    by_cases e : k = m
    · subst e; simp [hn'.1]
    · simp [e]
theorem cntSum_eq (vals : List V) {ns : List Int} (hn : ns.Nodup) : cntSum vals ns = ((vals.filter (liveIn ns)).length : Int) := by
  induction vals with
  | nil =>
    have : ∀ ns : List Int, (ns.map (cnt [])).sum = 0 := fun ns => by
      induction ns with
      | nil => rfl
      | cons m r ih => rw [List.map_cons, List.sum_cons, ih]; rfl
    simp [cntSum, this]
  | cons v r ih =>
    have h1 : cntSum (v :: r) ns = (ns.map fun n => if v.kind = 4 ∧ v.n = n then (1 : Int) else 0).sum + cntSum r ns := by
      unfold cntSum
      have : ∀ ns : List Int, (ns.map (cnt (v :: r))).sum = (ns.map fun n => if v.kind = 4 ∧ v.n = n then (1 : Int) else 0).sum + (ns.map (cnt r)).sum := fun ns => by
        induction ns with
        | nil => rfl
        | cons m q ih => rw [List.map_cons, List.sum_cons, ih, List.map_cons, List.sum_cons, List.map_cons, List.sum_cons, cnt_cons]; omega
      exact this ns
    rw [h1, ih]
    by_cases hk : v.kind = 4
    · have h2 : (ns.map fun n => if v.kind = 4 ∧ v.n = n then (1 : Int) else 0) = ns.map fun n => if v.n = n then (1 : Int) else 0 := by
        refine List.map_congr_left fun n _ => ?_
        simp [hk]
      rw [h2, sum_ite hn]
      by_cases hm : v.n ∈ ns
      · rw [if_pos hm, List.filter_cons_of_pos (by simp [liveIn, hk, hm])]; simp; omega
      · rw [if_neg hm, List.filter_cons_of_neg (by simp [liveIn, hm])]; simp
    · have h2 : (ns.map fun n => if v.kind = 4 ∧ v.n = n then (1 : Int) else 0).sum = 0 := by
        have : ∀ ns : List Int, (ns.map fun n => if v.kind = 4 ∧ v.n = n then (1 : Int) else 0).sum = 0 := fun ns => by
          induction ns with
          | nil => rfl
          | cons m q ih => rw [List.map_cons, List.sum_cons, ih, if_neg (fun h => hk h.1)]; rfl
        exact this ns
      rw [h2, List.filter_cons_of_neg (by simp [liveIn, hk])]; simp
theorem liveIn_of {H : HeapM} {N : Nat} (G : H.Good N) (v : V) : liveIn (H.objs.map (·.1)) v = (H.of v).isSome := by
  unfold liveIn HeapM.of
  by_cases hk : v.kind = 4
  · rw [if_pos hk, Bool.eq_iff_iff]
    simp only [hk, decide_true, Bool.true_and, decide_eq_true_eq]
    constructor
    · exact (HeapM.keys_nums G).2 v.n
    · intro h
      obtain ⟨o, ho⟩ := Option.isSome_iff_exists.1 h
      exact List.mem_map.2 ⟨_, getL_mem ho, rfl⟩
  · rw [if_neg hk]; simp [hk]
theorem refsSum_eq {H : HeapM} {N : Nat} (G : H.Good N) : refsSum H (H.objs.map (·.1)) = (((allVals H.objs).filter fun v => (H.of v).isSome).length : Int) := by
  have : ∀ l : List (Int × ObjM), (∀ p ∈ l, p ∈ H.objs) → refsSum H (l.map (·.1)) = (((allVals l).filter fun v => (H.of v).isSome).length : Int) := by
    intro l
    induction l with
    | nil => intro _; rfl
    | cons p r ih =>
      intro hl
      have hr := ih fun q hq => hl q (by simp [hq])
      have hp : (H.refsOf p.1).length = (H.refs p.2).length := by
        unfold HeapM.refsOf
        rw [getL_of_mem G.ok.nk (hl p (by simp))]; simp
      have hc : allVals (p :: r) = p.2.vals ++ allVals r := by simp [allVals]
      have h1 : refsSum H ((p :: r).map (·.1)) = ((H.refsOf p.1).length : Int) + refsSum H (r.map (·.1)) := by simp [refsSum]
      rw [h1, hr, hc, List.filter_append, List.length_append, hp]
      unfold HeapM.refs
      omega
  exact this H.objs fun p hp => hp
theorem counts_refs {H : HeapM} {N : Nat} (G : H.Good N) : cntSum (allVals H.objs) (H.objs.map (·.1)) = refsSum H (H.objs.map (·.1)) := by
  rw [cntSum_eq _ G.ok.nk, refsSum_eq G]
  congr 2
  exact List.filter_congr fun v _ => liveIn_of G v
theorem cntSum_bd (vals : List V) {ns : List Int} (hn : ns.Nodup) : 0 ≤ cntSum vals ns ∧ cntSum vals ns ≤ vals.length := by
  rw [cntSum_eq vals hn]
  have := List.length_filter_le (liveIn ns) vals
  omega
theorem refsSum_bd {H : HeapM} {N : Nat} (G : H.Good N) (ns : List Int) : 0 ≤ refsSum H ns ∧ refsSum H ns ≤ ns.length * N := by
  induction ns with
  | nil => simp [refsSum]
  | cons n r ih =>
    have h1 : refsSum H (n :: r) = ((H.refsOf n).length : Int) + refsSum H r := by simp [refsSum]
    have := G.refs_len n
    rw [h1, List.length_cons]
    have h2 : ((r.length + 1 : Nat) : Int) * (N : Int) = r.length * N + N := by rw [Int.natCast_add, Int.add_mul]; simp
    rw [h2]; omega
/-- What an object holds is an object, and held. -/
theorem refs_counted {H : HeapM} {n m : Int} (hm : m ∈ H.refsOf n) : 1 ≤ cnt (allVals H.objs) m := by
  unfold HeapM.refsOf at hm
  cases g : getL H.objs n with
  | none => rw [g] at hm; simp at hm
  | some o =>
    rw [g] at hm
    obtain ⟨x, hx, rfl⟩ := List.mem_map.1 hm
    obtain ⟨h1, h2⟩ := List.mem_filter.1 hx
    obtain ⟨o', ho'⟩ := Option.isSome_iff_exists.1 h2
    have : 0 < cnt (allVals H.objs) x.n := cnt_pos.2 ⟨x, List.mem_flatMap.2 ⟨(n, o), getL_mem g, h1⟩, (HeapM.of_some ho').1, rfl⟩
    omega
theorem live_all (H : HeapM) : H.live 0 = H.objs.length := by
  unfold HeapM.live
  rw [List.filter_eq_self.2 (fun p _ => by simp)]
end Go.Proofs.YtoancpjlkhijiaaGreat
