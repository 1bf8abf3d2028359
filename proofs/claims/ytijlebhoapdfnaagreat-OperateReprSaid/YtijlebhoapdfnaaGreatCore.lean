/- What any law over a heap shares. -/
import Derived.Test.YtijlebhoapdfnaaGreatAll
import Derived.Test.YtijlebhoapdfnaaGreatKeptA
import Derived.Test.YtijlebhoapdfnaaGreatLocal
import Derived.Test.YtijlebhoapdfnaaGreatSep
/- Rows of slices; things in another order. -/
namespace Go.Proofs.YtijlebhoapdfnaaGreat
set_option linter.unusedSimpArgs false
open Go.RowKit
set_option linter.unusedVariables false
theorem SepF.perm {Rs Qs : List Res} (p : Rs.Perm Qs) : ∀ {W : World} {F : List Nat}, SepF Rs W F → ∃ G, SepF Qs W G ∧ F.Perm G := by
 induction p with
 | nil => intro W F h; exact ⟨F, h, List.Perm.refl _⟩
 | cons R p ih =>
  rintro W F ⟨F1, F2, h1, h2, rfl⟩
  obtain ⟨G, g1, g2⟩ := ih h2
  exact ⟨F1 ++ G, ⟨F1, G, h1, g1, rfl⟩, List.Perm.append_left _ g2⟩
 | swap A B l =>
  rintro W F ⟨F1, F2, h1, ⟨F3, F4, h3, h4, rfl⟩, rfl⟩
  refine ⟨F3 ++ (F1 ++ F4), ⟨F3, F1 ++ F4, h3, ⟨F1, F4, h1, h4, rfl⟩, rfl⟩, ?_⟩
  rw [← List.append_assoc, ← List.append_assoc]; exact List.Perm.append_right _ List.perm_append_comm
 | trans p q ih1 ih2 =>
  intro W F h
  obtain ⟨G, g1, g2⟩ := ih1 h
  obtain ⟨K, k1, k2⟩ := ih2 g1
  exact ⟨K, k1, g2.trans k2⟩
theorem Sep.perm {w W : World} {Rs Qs : List Res} (S : Sep w Rs W) (p : Rs.Perm Qs) : Sep w Qs W := by
 obtain ⟨hw, F, f1, f2, f3⟩ := S
 obtain ⟨G, g1, g2⟩ := f1.perm p
 exact ⟨hw, G, g1, g2.nodup_iff.1 f2, fun b hb => f3 b (g2.mem_iff.2 hb)⟩
theorem Sep.behind {w W : World} {A T : List Res} {R : Res} (S : Sep w (R :: (A ++ T)) W) : Sep w (A ++ R :: T) W := S.perm List.perm_middle.symm
section
variable {w W : World} {h : Nat} {H : HeapM} {Rs : List Res}
end
end Go.Proofs.YtijlebhoapdfnaaGreat
namespace Go.Proofs.YtijlebhoapdfnaaGreat
set_option linter.unusedSimpArgs false
open Go.RowKit
set_option linter.unusedVariables false
/-- Each object is of a kind that there is. -/
def HeapM.Kinds (H : HeapM) : Prop := ∀ p ∈ H.objs, 1 ≤ p.2.kind ∧ p.2.kind ≤ 12
theorem HeapM.Kinds.set {H : HeapM} (h : H.Kinds) {v : V} {o : ObjM} (g : H.of v = some o) (o' : ObjM) (hk : o'.kind = o.kind) : (H.set v.n o').Kinds := fun p hp => by
 obtain ⟨q, hq, e⟩ := List.mem_map.1 hp
 by_cases hn : q.1 = v.n
 ·
  rw [if_pos hn] at e
  subst e
  rw [hk]
  exact h _ (getL_mem (HeapM.of_some g).2)
 ·
  rw [if_neg hn] at e; subst e; exact h q hq
theorem HeapM.Kinds.filter {H : HeapM} (h : H.Kinds) (H' : HeapM) (hs : ∀ p ∈ H'.objs, p ∈ H.objs) : H'.Kinds := fun p hp => h p (hs p hp)
theorem HeapM.Kinds.drop {H : HeapM} (h : H.Kinds) (n : Int) : (H.drop n).Kinds := fun p hp => h p ((List.mem_filter.1 hp).1)
/-- All are numbers of objects, none twice. -/
def HeapM.Nums (H : HeapM) (l : List Int) : Prop := l.Nodup ∧ ∀ n ∈ l, (getL H.objs n).isSome = true
theorem HeapM.Nums.add {H : HeapM} {l : List Int} (h : H.Nums l) {n : Int} (hn : (getL H.objs n).isSome = true) (hm : n ∉ l) : H.Nums (l ++ [n]) :=
 ⟨List.nodup_append.2 ⟨h.1, by simp, fun a ha b hb e => by simp at hb; subst hb; subst e; exact hm ha⟩, fun m hm' => by
  rcases List.mem_append.1 hm' with h1 | h1
  ·
   exact h.2 m h1
  ·
   simp at h1; subst h1; exact hn⟩
theorem HeapM.Nums.len {H : HeapM} {l : List Int} (h : H.Nums l) : l.length ≤ H.objs.length := by
 have hs : l ⊆ H.objs.map (·.1) := fun n hn => by
  obtain ⟨o, ho⟩ := Option.isSome_iff_exists.1 (h.2 n hn)
  exact List.mem_map.2 ⟨_, getL_mem ho, rfl⟩
 have := List.Nodup.length_le_of_subset h.1 hs
 simpa using this
theorem HeapM.Nums.ok {H : HeapM} {l : List Int} {N : Nat} (h : H.Nums l) (G : H.Good N) (hN : N ≤ 4000000) : ∀ n ∈ l, okI n := fun n hn => by
 obtain ⟨o, ho⟩ := Option.isSome_iff_exists.1 (h.2 n hn)
 exact G.key hN (getL_mem ho)
theorem HeapM.Good.len {H : HeapM} {N : Nat} (G : H.Good N) : H.objs.length ≤ N := by have := G.wt; unfold HeapM.weight at this; omega
theorem HeapM.Kinds.zero {H : HeapM} (h : H.Kinds) (v : V) : H.kind v = 0 ↔ (H.of v).isSome = false := by
 unfold HeapM.kind
 cases g : H.of v with
 | none => simp
 | some o => have := h _ (getL_mem (HeapM.of_some g).2); simp only at this; simp; omega
section
variable {w W : World} {h : Nat} {H : HeapM} {Rs : List Res} {N : Nat}
theorem wpList_push_sep {ops : Array Oper} {rest : List Oper} {o : Oper} {a : Act} {Q : Exit → Act → World → Prop} (hg : o.guard = none) (s x : Operand)
  (ho : o.op = .call { callee := .builtin .append, args := #[s, x], argTypes := #[95, 95] }) {v : Value} {xs : List Int} (S : Sep w Rs W) (j : Nat) (hj : Rs[j]? = some (numsR v xs)) (hs : a.eval s = v) (n : Int) (g : Nat) (hx : a.eval x = .slice (some ⟨g, 0, none⟩) 1 1) (hc : W.cell? ⟨g, 0, none⟩ = some (.int .i64 n)) (hlen : xs.length + 1 ≤ 17592186044416)
  (k : ∀ va vc w', Sep w (Rs.set j (numsR (.slice va (xs.length + 1) vc) (xs ++ [n]))) w' → wpList Tryz.prog ops Q rest (a.put o.dst (.slice va (xs.length + 1) vc)) w') :
  wpList Tryz.prog ops Q (o :: rest) a W :=
 wpList_push_n hg s x ho v xs hs (S.row j hj) n g hx hc hlen fun va vc w' h1 h2 h3 => k va vc w' (S.grown j hj h1 h2 h3)
end
section
variable {w W : World} {h : Nat} {H : HeapM} {Rs : List Res} {N : Nat}
theorem Sep.all (S : Sep w Rs W) (i : Nat) (hi : Rs[i]? = some (heapR h H)) (G : H.Good N) (hN : N ≤ 4000000) : Calls Tryz.prog 69 #[.pointer (some ⟨h, 0, none⟩)] W fun e W' => ∃ sv, e = .returned sv ∧ Sep w (numsR sv (H.objs.map (·.1)) :: Rs) W' ∧ Below W.heap.size W W' := by
 obtain ⟨F, h1, _⟩ := S.get i hi
 have := G.len
 exact (heap_all W h h1 (by omega) G.ok.asc).mono fun e W' ⟨sv, e1, e2, e3, e4⟩ => ⟨sv, e1, S.addRow e4 e2 e3, e4⟩
theorem Sep.madeNums (S : Sep w Rs W) : Sep w (numsR (.slice (some ⟨W.heap.size, 0, none⟩) 0 0) [] :: Rs) (W.alloc (.cells #[] 2)) :=
 S.addRow (belowAlloc W _) (World.ownsRow_made W #[] 0 (Nat.zero_le _) (Nat.zero_le _) rfl) (by simp [Value.ownBlock])
end
theorem HeapM.keys_nums {H : HeapM} {N : Nat} (G : H.Good N) : H.Nums (H.objs.map (·.1)) := ⟨G.ok.nk, fun n hn => by
 obtain ⟨p, hp, rfl⟩ := List.mem_map.1 hn
 rw [getL_of_mem G.ok.nk hp]; rfl⟩
section
variable {w W : World} {Rs : List Res}
theorem Sep.setBox (S : Sep w Rs W) {b : Nat} {cs : Array Value} {t : TypeId} (i : Nat) (hi : Rs[i]? = some (boxR b (.cells cs t))) (k : Nat) (u : Value) : Sep w (Rs.set i (boxR b (.cells (cs.setIfInBounds k u) t))) (W.setCell ⟨b, k, none⟩ u) :=
 S.turn i hi fun F hF hn _ => ⟨[b], ⟨heap_setCell_same hF.1 k u, rfl⟩, by simp, fun c hc => .inl (by rw [hF.2]; exact hc), by rw [hF.2]; exact (Outside.refl _ _).setCell (.inl (by simp)) u⟩
theorem Sep.set3 {w W : World} {Rs : List Res} (S : Sep w Rs W) {b : Nat} {u0 u1 u2 : Value} {t : TypeId} (i : Nat) (hi : Rs[i]? = some (boxR b (.cells #[u0, u1, u2] t))) (v0 v1 v2 : Value) :
  Sep w (Rs.set i (boxR b (.cells #[v0, v1, v2] t))) (((W.setCell ⟨b, 0, none⟩ v0).setCell ⟨b, 1, none⟩ v1).setCell ⟨b, 2, none⟩ v2) := by
 obtain ⟨hlt, -⟩ := List.getElem?_eq_some_iff.1 hi
 have s0 := S.setBox i hi 0 v0
 have s1 := s0.setBox i (by rw [List.getElem?_set_self hlt]) 1 v1
 rw [List.set_set] at s1
 have s2 := s1.setBox i (by rw [List.getElem?_set_self hlt]) 2 v2
 rw [List.set_set] at s2
 exact s2
theorem Sep.set5 {w W : World} {Rs : List Res} (S : Sep w Rs W) {b : Nat} {u0 u1 u2 u3 u4 : Value} {t : TypeId} (i : Nat) (hi : Rs[i]? = some (boxR b (.cells #[u0, u1, u2, u3, u4] t))) (v0 v1 v2 v3 v4 : Value) :
  Sep w (Rs.set i (boxR b (.cells #[v0, v1, v2, v3, v4] t))) (((((W.setCell ⟨b, 0, none⟩ v0).setCell ⟨b, 1, none⟩ v1).setCell ⟨b, 2, none⟩ v2).setCell ⟨b, 3, none⟩ v3).setCell ⟨b, 4, none⟩ v4) := by
 obtain ⟨hlt, -⟩ := List.getElem?_eq_some_iff.1 hi
 have s0 := S.setBox i hi 0 v0
 have s1 := s0.setBox i (by rw [List.getElem?_set_self hlt]) 1 v1
 rw [List.set_set] at s1
 have s2 := s1.setBox i (by rw [List.getElem?_set_self hlt]) 2 v2
 rw [List.set_set] at s2
 have s3 := s2.setBox i (by rw [List.getElem?_set_self hlt]) 3 v3
 rw [List.set_set] at s3
 have s4 := s3.setBox i (by rw [List.getElem?_set_self hlt]) 4 v4
 rw [List.set_set] at s4
 exact s4
theorem wpList_append_sep {ops : Array Oper} {rest : List Oper} {o : Oper} {a : Act} {Q : Exit → Act → World → Prop} (hg : o.guard = none) (s x : Operand)
  (ho : o.op = .call { callee := .builtin .append, args := #[s, x], argTypes := #[56, 56] }) {v : Value} {xs : List V} (S : Sep w Rs W) (j : Nat) (hj : Rs[j]? = some (valsR v xs)) (hs : a.eval s = v) (sv : Value) (l : List V) (hx : a.eval x = sv) (hsv : SeesV W sv l) (hlen : xs.length + l.length ≤ 4194304)
  (k : ∀ va vc w', Sep w (Rs.set j (valsR (.slice va (xs.length + l.length) vc) (xs ++ l))) w' → wpList Tryz.prog ops Q rest (a.put o.dst (.slice va (xs.length + l.length) vc)) w') :
  wpList Tryz.prog ops Q (o :: rest) a W :=
 wpList_append_sees hg s x ho v xs hs (S.row j hj) sv l hx hsv hlen fun va vc w' h1 h2 h3 => k va vc w' (S.grown j hj h1 h2 h3)
end
theorem Sep.join {w W W' : World} {Rs Qs : List Res} (S : Sep w Rs W) (T : Sep W Qs W') : Sep w (Qs ++ Rs) W' := by
 obtain ⟨hb, G, g1, g2, g3⟩ := T
 exact S.more hb g1 g2 g3
end Go.Proofs.YtijlebhoapdfnaaGreat
