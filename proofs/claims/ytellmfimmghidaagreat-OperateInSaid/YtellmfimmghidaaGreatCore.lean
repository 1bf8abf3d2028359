/- What any law over a heap shares. -/
import Derived.Test.YtellmfimmghidaaGreatRows2
import Derived.Test.YtellmfimmghidaaGreatAll
import Derived.Test.YtellmfimmghidaaGreatKeptA
import Derived.Test.YtellmfimmghidaaGreatLocal
namespace Go.Proofs.YtellmfimmghidaaGreat
set_option linter.unusedSimpArgs false
open Go.RowKit
set_option linter.unusedVariables false
/-- Each object is of a kind that there is. -/
def HeapM.Kinds (H : HeapM) : Prop := ∀ p ∈ H.objs, 1 ≤ p.2.kind ∧ p.2.kind ≤ 12
theorem HeapM.Kinds.set {H : HeapM} (h : H.Kinds) {v : V} {o : ObjM} (g : H.of v = some o) (o' : ObjM) (hk : o'.kind = o.kind) : (H.set v.n o').Kinds := fun p hp => by
  obtain ⟨q, hq, e⟩ := List.mem_map.1 hp
  by_cases hn : q.1 = v.n
  · rw [if_pos hn] at e
    subst e
    rw [hk]
    exact h _ (getL_mem (HeapM.of_some g).2)
  · rw [if_neg hn] at e; subst e; exact h q hq
theorem HeapM.Kinds.filter {H : HeapM} (h : H.Kinds) (H' : HeapM) (hs : ∀ p ∈ H'.objs, p ∈ H.objs) : H'.Kinds := fun p hp => h p (hs p hp)
theorem HeapM.Kinds.drop {H : HeapM} (h : H.Kinds) (n : Int) : (H.drop n).Kinds := fun p hp => h p ((List.mem_filter.1 hp).1)
def addNew (out r : List Int) : List Int := r.foldl (fun o n => if n ∈ o then o else o ++ [n]) out
theorem addNew_snoc (out r : List Int) (n : Int) : addNew out (r ++ [n]) = if n ∈ addNew out r then addNew out r else addNew out r ++ [n] := by unfold addNew; rw [List.foldl_append]; rfl
theorem addNew_len (out r : List Int) : out.length ≤ (addNew out r).length := by
  induction r generalizing out with
  | nil => exact Nat.le_refl _
  | cons n r ih =>
    refine Nat.le_trans ?_ (ih (if n ∈ out then out else out ++ [n]))
    split <;> simp
def HeapM.seed (H : HeapM) (E : List V) : List Int := E.foldl (fun o v => if (H.of v).isSome = true ∧ v.n ∉ o then o ++ [v.n] else o) []
theorem HeapM.seed_snoc (H : HeapM) (E : List V) (v : V) : H.seed (E ++ [v]) = if (H.of v).isSome = true ∧ v.n ∉ H.seed E then H.seed E ++ [v.n] else H.seed E := by unfold HeapM.seed; rw [List.foldl_append]; rfl
def HeapM.refsOf (H : HeapM) (n : Int) : List Int := match getL H.objs n with | some o => (H.refs o).map (·.n) | none => []
def HeapM.reachK (H : HeapM) (E : List V) : Nat → List Int
  | 0 => H.seed E
  | k + 1 => match (H.reachK E k)[k]? with | some n => addNew (H.reachK E k) (H.refsOf n) | none => H.reachK E k
theorem HeapM.refNs_ref (H : HeapM) (n : Int) (hn : okI n) : H.refNs (V.ref n hn) = H.refsOf n := by unfold HeapM.refNs HeapM.refsOf HeapM.of; rw [if_pos (show (V.ref n hn).kind = 4 from rfl)]; rfl
/-- All are numbers of objects, none twice. -/
def HeapM.Nums (H : HeapM) (l : List Int) : Prop := l.Nodup ∧ ∀ n ∈ l, (getL H.objs n).isSome = true
theorem HeapM.Nums.add {H : HeapM} {l : List Int} (h : H.Nums l) {n : Int} (hn : (getL H.objs n).isSome = true) (hm : n ∉ l) : H.Nums (l ++ [n]) :=
  ⟨List.nodup_append.2 ⟨h.1, by simp, fun a ha b hb e => by simp at hb; subst hb; subst e; exact hm ha⟩, fun m hm' => by
    rcases List.mem_append.1 hm' with h1 | h1
    · exact h.2 m h1
    · simp at h1; subst h1; exact hn⟩
theorem HeapM.seed_nums (H : HeapM) (E : List V) : ∀ k, H.Nums (H.seed (E.take k)) := by
  intro k
  induction k with
  | zero => exact ⟨by simp [HeapM.seed], by simp [HeapM.seed]⟩
  | succ k ih =>
    rw [List.take_add_one]
    cases hv : E[k]? with
    | none => simpa using ih
    | some v =>
      simp only [Option.toList_some]
      rw [HeapM.seed_snoc]
      split
      · rename_i h
        refine ih.add ?_ h.2
        obtain ⟨o, ho⟩ := Option.isSome_iff_exists.1 h.1
        rw [(HeapM.of_some ho).2]; rfl
      · exact ih
theorem addNew_nums {H : HeapM} {l r : List Int} (h : H.Nums l) (hr : ∀ n ∈ r, (getL H.objs n).isSome = true) : H.Nums (addNew l r) := by
  induction r generalizing l with
  | nil => exact h
  | cons n r ih =>
    simp only [addNew, List.foldl_cons]
    refine ih ?_ (fun m hm => hr m (by simp [hm]))
    split
    · exact h
    · rename_i hm; exact h.add (hr n (by simp)) hm
theorem HeapM.refsOf_live (H : HeapM) (n : Int) : ∀ m ∈ H.refsOf n, (getL H.objs m).isSome = true := by
  intro m hm
  unfold HeapM.refsOf at hm
  split at hm
  · obtain ⟨x, hx, rfl⟩ := List.mem_map.1 hm
    have := (List.mem_filter.1 hx).2
    obtain ⟨o, ho⟩ := Option.isSome_iff_exists.1 this
    rw [(HeapM.of_some ho).2]; rfl
  · simp at hm
theorem HeapM.reachK_nums (H : HeapM) (E : List V) : ∀ k, H.Nums (H.reachK E k)
  | 0 => by have := H.seed_nums E E.length; rwa [List.take_length] at this
  | k + 1 => by
    unfold HeapM.reachK
    split
    · exact addNew_nums (HeapM.reachK_nums H E k) (H.refsOf_live _)
    · exact HeapM.reachK_nums H E k
theorem HeapM.Nums.len {H : HeapM} {l : List Int} (h : H.Nums l) : l.length ≤ H.objs.length := by
  have hs : l ⊆ H.objs.map (·.1) := fun n hn => by
    obtain ⟨o, ho⟩ := Option.isSome_iff_exists.1 (h.2 n hn)
    exact List.mem_map.2 ⟨_, getL_mem ho, rfl⟩
  have := List.Nodup.length_le_of_subset h.1 hs
  simpa using this
theorem HeapM.Nums.ok {H : HeapM} {l : List Int} {N : Nat} (h : H.Nums l) (G : H.Good N) (hN : N ≤ 4000000) : ∀ n ∈ l, okI n := fun n hn => by
  obtain ⟨o, ho⟩ := Option.isSome_iff_exists.1 (h.2 n hn)
  exact G.key hN (getL_mem ho)
theorem HeapM.Good.len {H : HeapM} {N : Nat} (G : H.Good N) : H.objs.length ≤ N := by have := G.wt; unfold HeapM.weight at this; omega
theorem HeapM.Good.refs_len {H : HeapM} {N : Nat} (G : H.Good N) (n : Int) : (H.refsOf n).length ≤ N := by
  unfold HeapM.refsOf
  cases g : getL H.objs n with
  | none => simp
  | some o =>
    have h1 : o.vals.length ≤ H.weight := vals_le_weight (getL_mem g)
    have h2 : (H.refs o).length ≤ o.vals.length := List.length_filter_le _ _
    have := G.wt
    simp; omega
theorem HeapM.Kinds.zero {H : HeapM} (h : H.Kinds) (v : V) : H.kind v = 0 ↔ (H.of v).isSome = false := by
  unfold HeapM.kind
  cases g : H.of v with
  | none => simp
  | some o => have := h _ (getL_mem (HeapM.of_some g).2); simp only at this; simp; omega
section
variable {w W : World} {h : Nat} {H : HeapM} {Rs : List Res} {N : Nat}
end
theorem sep_of {w W : World} {h : Nat} {H : HeapM} (A : HAt w h H [] W) : Sep w [heapR h H] W := by
  obtain ⟨F, f1, f2, f3, _⟩ := A
  exact ⟨f3, F, ⟨F, [], f1, rfl, by simp⟩, f1.nodup, f2⟩
section
variable {w W : World} {h : Nat} {H : HeapM} {Rs : List Res} {N : Nat}
theorem Sep.madeNums (S : Sep w Rs W) : Sep w (numsR (.slice (some ⟨W.heap.size, 0, none⟩) 0 0) [] :: Rs) (W.alloc (.cells #[] 2)) :=
  S.addRow (belowAlloc W _) (World.ownsRow_made W #[] 0 (Nat.zero_le _) (Nat.zero_le _) rfl) (by simp [Value.ownBlock])
theorem Sep.madeSls (S : Sep w Rs W) : Sep w (slsR (.slice (some ⟨W.heap.size, 0, none⟩) 0 0) [] :: Rs) (W.alloc (.cells #[] 22)) :=
  S.addRow (belowAlloc W _) (World.ownsRow_made W #[] 0 (Nat.zero_le _) (Nat.zero_le _) rfl) (by simp [Value.ownBlock])
theorem Sep.numCell (S : Sep w Rs W) {g c : Nat} {L : List Int} (i : Nat) (hi : Rs[i]? = some (numsR (.slice (some ⟨g, 0, none⟩) L.length c) L)) {k : Nat} {n : Int} (hn : L[k]? = some n) : W.cell? ⟨g, k, none⟩ = some (.int .i64 n) := by
  have := (S.row i hi).cell (f := intCell) (m := 1) (fun _ => rfl) rfl hn (j := 0) (u := .int .i64 n) rfl
  rwa [Nat.mul_one, Nat.add_zero] at this
theorem Sep.numAddr (S : Sep w Rs W) {a : Option Addr} {c : Nat} {L : List Int} (i : Nat) (hi : Rs[i]? = some (numsR (.slice a L.length c) L)) {k : Nat} (hk : k < L.length) : ∃ g, a = some ⟨g, 0, none⟩ := by
  rcases (S.row i hi).shape with ⟨h1, h2⟩ | ⟨g, cap, h1, _⟩
  · rw [h2] at hk; simp at hk
  · exact ⟨g, (Value.slice.inj h1).1⟩
end
theorem HeapM.keys_nums {H : HeapM} {N : Nat} (G : H.Good N) : H.Nums (H.objs.map (·.1)) := ⟨G.ok.nk, fun n hn => by
  obtain ⟨p, hp, rfl⟩ := List.mem_map.1 hn
  rw [getL_of_mem G.ok.nk hp]; rfl⟩
theorem HeapM.count_ref (H : HeapM) (n : Int) (hn : okI n) (hl : (getL H.objs n).isSome = true) : H.count (V.ref n hn) = cnt (allVals H.objs) n := by
  unfold HeapM.count HeapM.of
  rw [if_pos (show (V.ref n hn).kind = 4 from rfl)]
  exact if_pos hl
section
variable {w W : World} {Rs : List Res}
theorem Sep.setBox (S : Sep w Rs W) {b : Nat} {cs : Array Value} {t : TypeId} (i : Nat) (hi : Rs[i]? = some (boxR b (.cells cs t))) (k : Nat) (u : Value) : Sep w (Rs.set i (boxR b (.cells (cs.setIfInBounds k u) t))) (W.setCell ⟨b, k, none⟩ u) :=
  S.turn i hi fun F hF hn _ => ⟨[b], ⟨heap_setCell_same hF.1 k u, rfl⟩, by simp, fun c hc => .inl (by rw [hF.2]; exact hc), by rw [hF.2]; exact (Outside.refl _ _).setCell (.inl (by simp)) u⟩
/-- The cells of a block of three, and of five. -/
theorem cells3 {W : World} {b : Nat} {u0 u1 u2 : Value} {t : TypeId} (h : W.heap[b]? = some (.cells #[u0, u1, u2] t)) :
    W.cell? ⟨b, 0, none⟩ = some u0 ∧ W.cell? ⟨b, 1, none⟩ = some u1 ∧ W.cell? ⟨b, 2, none⟩ = some u2 ∧ W.frozen? ⟨b, 0, none⟩ = false ∧ W.frozen? ⟨b, 1, none⟩ = false ∧ W.frozen? ⟨b, 2, none⟩ = false :=
  ⟨cellAt h 0 rfl, cellAt h 1 rfl, cellAt h 2 rfl, frozenAt h 0, frozenAt h 1, frozenAt h 2⟩
theorem cells5 {W : World} {b : Nat} {u0 u1 u2 u3 u4 : Value} {t : TypeId} (h : W.heap[b]? = some (.cells #[u0, u1, u2, u3, u4] t)) :
    W.cell? ⟨b, 0, none⟩ = some u0 ∧ W.cell? ⟨b, 1, none⟩ = some u1 ∧ W.cell? ⟨b, 2, none⟩ = some u2 ∧ W.cell? ⟨b, 3, none⟩ = some u3 ∧ W.cell? ⟨b, 4, none⟩ = some u4 ∧
    W.frozen? ⟨b, 0, none⟩ = false ∧ W.frozen? ⟨b, 1, none⟩ = false ∧ W.frozen? ⟨b, 2, none⟩ = false ∧ W.frozen? ⟨b, 3, none⟩ = false ∧ W.frozen? ⟨b, 4, none⟩ = false :=
  ⟨cellAt h 0 rfl, cellAt h 1 rfl, cellAt h 2 rfl, cellAt h 3 rfl, cellAt h 4 rfl, frozenAt h 0, frozenAt h 1, frozenAt h 2, frozenAt h 3, frozenAt h 4⟩
theorem Sep.set3 {w W : World} {Rs : List Res} (S : Sep w Rs W) {b : Nat} {u0 u1 u2 : Value} {t : TypeId} (i : Nat) (hi : Rs[i]? = some (boxR b (.cells #[u0, u1, u2] t))) (v0 v1 v2 : Value) :
    Sep w (Rs.set i (boxR b (.cells #[v0, v1, v2] t))) (((W.setCell ⟨b, 0, none⟩ v0).setCell ⟨b, 1, none⟩ v1).setCell ⟨b, 2, none⟩ v2) := by
  obtain ⟨hlt, -⟩ := List.getElem?_eq_some_iff.1 hi
  have s0 := S.setBox i hi 0 v0
  have s1 := s0.setBox i (by rw [List.getElem?_set_self hlt]) 1 v1
  rw [List.set_set] at s1
  have s2 := s1.setBox i (by rw [List.getElem?_set_self hlt]) 2 v2
  rw [List.set_set] at s2
  exact s2
theorem Sep.set5 {w W : World} {Rs : List Res} (S : Sep w Rs W) {b : Nat} {u0 u1 u2 u3 u4 : Value} {t : TypeId} (i : Nat) (hi : Rs[i]? = some (boxR b (.cells #[u0, u1, u2, u3, u4] t))) (v0 v1 v2 v3 v4 : Value) :
    Sep w (Rs.set i (boxR b (.cells #[v0, v1, v2, v3, v4] t))) (((((W.setCell ⟨b, 0, none⟩ v0).setCell ⟨b, 1, none⟩ v1).setCell ⟨b, 2, none⟩ v2).setCell ⟨b, 3, none⟩ v3).setCell ⟨b, 4, none⟩ v4) := by
  obtain ⟨hlt, -⟩ := List.getElem?_eq_some_iff.1 hi
  have s0 := S.setBox i hi 0 v0
  have s1 := s0.setBox i (by rw [List.getElem?_set_self hlt]) 1 v1
  rw [List.set_set] at s1
  have s2 := s1.setBox i (by rw [List.getElem?_set_self hlt]) 2 v2
  rw [List.set_set] at s2
  have s3 := s2.setBox i (by rw [List.getElem?_set_self hlt]) 3 v3
  rw [List.set_set] at s3
  have s4 := s3.setBox i (by rw [List.getElem?_set_self hlt]) 4 v4
  rw [List.set_set] at s4
  exact s4
theorem wpList_append_sep {ops : Array Oper} {rest : List Oper} {o : Oper} {a : Act} {Q : Exit → Act → World → Prop} (hg : o.guard = none) (s x : Operand)
    (ho : o.op = .call { callee := .builtin .append, args := #[s, x], argTypes := #[22, 22] }) {v : Value} {xs : List V} (S : Sep w Rs W) (j : Nat) (hj : Rs[j]? = some (valsR v xs)) (hs : a.eval s = v) (sv : Value) (l : List V) (hx : a.eval x = sv) (hsv : SeesV W sv l) (hlen : xs.length + l.length ≤ 4194304)
    (k : ∀ va vc w', Sep w (Rs.set j (valsR (.slice va (xs.length + l.length) vc) (xs ++ l))) w' → wpList Tryz.prog ops Q rest (a.put o.dst (.slice va (xs.length + l.length) vc)) w') :
    wpList Tryz.prog ops Q (o :: rest) a W :=
  wpList_append_sees hg s x ho v xs hs (S.row j hj) sv l hx hsv hlen fun va vc w' h1 h2 h3 => k va vc w' (S.grown j hj h1 h2 h3)
end
theorem Sep.join {w W W' : World} {Rs Qs : List Res} (S : Sep w Rs W) (T : Sep W Qs W') : Sep w (Qs ++ Rs) W' := by
  obtain ⟨hb, G, g1, g2, g3⟩ := T
  exact S.more hb g1 g2 g3
end Go.Proofs.YtellmfimmghidaaGreat
