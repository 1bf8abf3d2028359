/- Two graphs side by side: plain facts. -/
import Derived.Test.YtjinabglachglaaLaw13
namespace Go.Proofs.Ytjinabglachglaa
set_option linter.unusedSimpArgs false
open Go.RowKit
set_option linter.unusedVariables false
/-- A reference that is moved. -/
def movV (f : Nat) (v : V) : V := if h : okI (v.n + f) then V.ref (v.n + f) h else v
def movO (f : Nat) (o : ObjM) : ObjM := ⟨o.kind, o.name, 0, o.items.map (movV f), o.pairs.map fun p => (p.1, movV f p.2), o.hk, okI_of (by omega), o.hs⟩
def movL (f : Nat) (l : List (Int × ObjM)) : List (Int × ObjM) := l.map fun p => (p.1 + f, movO f p.2)
def joinM (H K : HeapM) (f : Nat) : HeapM := ⟨movL 0 H.objs ++ movL f K.objs, H.last + K.last⟩
theorem movV_node (f m a : Nat) (hf : f < 100) : movV f (nodeV 0 m a) = nodeV f m a := by
  have h1 : (nodeV 0 m a).n + f = (nodeV f m a).n := by
    show 1 + ((0 % 100 + a % (m % 100 + 1) : Nat) : Int) + f = 1 + ((f % 100 + a % (m % 100 + 1) : Nat) : Int)
    omega
  have h2 : okI ((nodeV 0 m a).n + f) := by rw [h1]; exact (nodeV f m a).hn
  unfold movV
  rw [dif_pos h2]
  have key : ∀ (x y : Int) (hx : okI x) (hy : okI y), x = y → V.ref x hx = V.ref y hy := fun x y hx hy e => by subst e; rfl
  exact key _ _ _ _ h1
theorem getL_app {X : Type} (A B : List (Int × X)) (k : Int) : getL (A ++ B) k = (getL A k).or (getL B k) := by
  unfold getL
  rw [List.find?_append]
  cases A.find? _ <;> rfl
theorem getL_mov (f : Nat) (l : List (Int × ObjM)) (n : Int) : getL (movL f l) (n + f) = (getL l n).map (movO f) := by
  unfold getL movL
  rw [List.find?_map]
  have : ((fun p : Int × ObjM => decide (p.1 = n + f)) ∘ fun p : Int × ObjM => (p.1 + (f : Int), movO f p.2)) = fun p => decide (p.1 = n) := by
    funext p; simp only [Function.comp, decide_eq_decide]; omega
  rw [this]
  cases l.find? _ <;> rfl
theorem getL_no {X : Type} {A : List (Int × X)} {k : Int} (h : ∀ p ∈ A, p.1 ≠ k) : getL A k = none := getL_none.2 h
theorem getL_pairs (f : Nat) (L : List (V × V)) (k : V) : getL (L.map fun p => (p.1, movV f p.2)) k = (getL L k).map (movV f) := by
  unfold getL
  rw [List.find?_map]
  have : ((fun p : V × V => decide (p.1 = k)) ∘ fun p : V × V => (p.1, movV f p.2)) = fun p => decide (p.1 = k) := rfl
  rw [this]
  cases L.find? _ <;> rfl
theorem putL_pairs (f : Nat) (L : List (V × V)) (k x : V) : putL (L.map fun p => (p.1, movV f p.2)) k (movV f x) = (putL L k x).map fun p => (p.1, movV f p.2) := by
  unfold putL
  rw [getL_pairs, Option.isSome_map]
  split
  · rw [List.map_map, List.map_map]
    refine List.map_congr_left fun p _ => ?_
    simp only [Function.comp]
    split <;> rfl
  · rw [List.map_append]; rfl
theorem putOk_pairs (f : Nat) (L : List (V × V)) (k : V) : putOk (L.map fun p => (p.1, movV f p.2)) k = putOk L k := by
  unfold putOk
  rw [getL_pairs, Option.isSome_map, List.length_map]
theorem set_part {A B l : List (Int × ObjM)} {f : Nat} {n : Int} (hA : ∀ p ∈ A, p.1 ≠ n + f) (hB : ∀ p ∈ B, p.1 ≠ n + f) (o : ObjM) :
    (A ++ movL f l ++ B).map (fun p => if p.1 = n + f then (n + f, movO f o) else p) = A ++ movL f (l.map fun p => if p.1 = n then (n, o) else p) ++ B := by
  have e : ∀ C : List (Int × ObjM), (∀ p ∈ C, p.1 ≠ n + f) → C.map (fun p => if p.1 = n + f then (n + f, movO f o) else p) = C := fun C hC => by
    conv => rhs; rw [← List.map_id' C]
    exact List.map_congr_left fun p hp => if_neg (hC p hp)
  rw [List.map_append, List.map_append, e A hA, e B hB]
  congr 2
  unfold movL
  rw [List.map_map, List.map_map]
  refine List.map_congr_left fun p _ => ?_
  simp only [Function.comp]
  by_cases h : p.1 = n
  · rw [if_pos h, if_pos (by omega)]
  · rw [if_neg h, if_neg (by omega)]
theorem get_part {A B l : List (Int × ObjM)} {f : Nat} {n : Int} (hA : ∀ p ∈ A, p.1 ≠ n + f) (hB : ∀ p ∈ B, p.1 ≠ n + f) : getL (A ++ movL f l ++ B) (n + f) = (getL l n).map (movO f) := by
  rw [getL_app, getL_app, getL_no hA, getL_no hB, getL_mov]
  simp
/-- An edge of the one part. -/
theorem edge_part {A B l : List (Int × ObjM)} {f m : Nat} {last last' : Int} (hf : f < 100) (hA : ∀ p ∈ A, ∀ n : Int, 1 ≤ n → n ≤ m % 100 + 1 → p.1 ≠ n + f) (hB : ∀ p ∈ B, ∀ n : Int, 1 ≤ n → n ≤ m % 100 + 1 → p.1 ≠ n + f) (e : Nat × Nat × Nat) :
    edgeM f m ⟨A ++ movL f l ++ B, last⟩ e = ⟨A ++ movL f (edgeM 0 m ⟨l, last'⟩ e).objs ++ B, last⟩ := by
  have hn : ∀ a, 1 ≤ (nodeV 0 m a).n ∧ (nodeV 0 m a).n ≤ m % 100 + 1 := fun a => by
    show 1 ≤ 1 + ((0 % 100 + a % (m % 100 + 1) : Nat) : Int) ∧ 1 + ((0 % 100 + a % (m % 100 + 1) : Nat) : Int) ≤ m % 100 + 1
    have := Nat.mod_lt a (show 0 < m % 100 + 1 by omega)
    omega
  have hnf : ∀ a, (nodeV f m a).n = (nodeV 0 m a).n + f := fun a => by
    show 1 + ((f % 100 + a % (m % 100 + 1) : Nat) : Int) = 1 + ((0 % 100 + a % (m % 100 + 1) : Nat) : Int) + f
    omega
  have hk4 : ∀ g a, (nodeV g m a).kind = 4 := fun g a => rfl
  have hof : ∀ a, (⟨A ++ movL f l ++ B, last⟩ : HeapM).of (nodeV f m a) = ((⟨l, last'⟩ : HeapM).of (nodeV 0 m a)).map (movO f) := fun a => by
    unfold HeapM.of
    rw [if_pos (hk4 f a), if_pos (hk4 0 a), hnf]
    exact get_part (fun p hp => hA p hp _ (hn a).1 (hn a).2) (fun p hp => hB p hp _ (hn a).1 (hn a).2)
  unfold edgeM
  split
  · unfold HeapM.put
    rw [hof]
    cases g : (⟨l, last'⟩ : HeapM).of (nodeV 0 m e.1) with
    | none => rfl
    | some o =>
      simp only [Option.map_some]
      have h1 : putOk (movO f o).pairs (keyM e.2.2) = putOk o.pairs (keyM e.2.2) := putOk_pairs f o.pairs _
      rw [h1]
      split
      · unfold HeapM.set
        have h2 : ({ movO f o with pairs := putL (movO f o).pairs (keyM e.2.2) (nodeV f m e.2.1) } : ObjM) = movO f { o with pairs := putL o.pairs (keyM e.2.2) (nodeV 0 m e.2.1) } := by
          unfold movO
          simp only [ObjM.mk.injEq, true_and]
          rw [← movV_node f m e.2.1 hf]
          exact putL_pairs f o.pairs _ _
        rw [h2, hnf]
        simp only
        rw [set_part (fun p hp => hA p hp _ (hn _).1 (hn _).2) (fun p hp => hB p hp _ (hn _).1 (hn _).2)]
      · rfl
  · unfold HeapM.replace
    rw [hof]
    cases g : (⟨l, last'⟩ : HeapM).of (nodeV 0 m e.1) with
    | none => rfl
    | some o =>
      simp only [Option.map_some]
      rw [if_pos (by simp [movO]), if_pos (by simp)]
      unfold HeapM.set
      have h2 : ({ movO f o with items := (movO f o).items.take (0 : Int).toNat ++ [nodeV f m e.2.1] ++ (movO f o).items.drop (0 : Int).toNat } : ObjM) = movO f { o with items := o.items.take (0 : Int).toNat ++ [nodeV 0 m e.2.1] ++ o.items.drop (0 : Int).toNat } := by
        unfold movO
        simp only [ObjM.mk.injEq, true_and]
        rw [← movV_node f m e.2.1 hf]
        simp
      rw [h2, hnf]
      simp only
      rw [set_part (fun p hp => hA p hp _ (hn _).1 (hn _).2) (fun p hp => hB p hp _ (hn _).1 (hn _).2)]
theorem edge_last (b m : Nat) (H : HeapM) (e : Nat × Nat × Nat) : (edgeM b m H e).last = H.last := by
  unfold edgeM
  split
  · exact HeapM.last_put _ _ _ _
  · exact HeapM.last_replace _ _ _ _ _
theorem wire_part {A B : List (Int × ObjM)} {f m : Nat} {last : Int} (hf : f < 100) (hA : ∀ p ∈ A, ∀ n : Int, 1 ≤ n → n ≤ m % 100 + 1 → p.1 ≠ n + f) (hB : ∀ p ∈ B, ∀ n : Int, 1 ≤ n → n ≤ m % 100 + 1 → p.1 ≠ n + f) (es : List (Nat × Nat × Nat)) :
    ∀ K : HeapM, wireM f m ⟨A ++ movL f K.objs ++ B, last⟩ es = ⟨A ++ movL f (wireM 0 m K es).objs ++ B, last⟩ := by
  induction es with
  | nil => intro K; rfl
  | cons e es ih =>
    intro K
    show wireM f m (edgeM f m ⟨A ++ movL f K.objs ++ B, last⟩ e) es = ⟨A ++ movL f (wireM 0 m (edgeM 0 m K e) es).objs ++ B, last⟩
    rw [edge_part (last' := K.last) hf hA hB, ih]
/-- All that is held are nodes. -/
def Nodes (m : Nat) (K : HeapM) : Prop := ∀ p ∈ K.objs, ∀ x ∈ p.2.vals, ∃ a, x = nodeV 0 m a
theorem Nodes.set {m : Nat} {K : HeapM} (h : Nodes m K) (n : Int) (o : ObjM) (ho : ∀ x ∈ o.vals, ∃ a, x = nodeV 0 m a) : Nodes m (K.set n o) := fun p hp => by
  obtain ⟨q, hq, e⟩ := List.mem_map.1 hp
  by_cases hn : q.1 = n
  · rw [if_pos hn] at e; subst e; exact ho
  · rw [if_neg hn] at e; subst e; exact h q hq
theorem Nodes.edge {m : Nat} {K : HeapM} (h : Nodes m K) (e : Nat × Nat × Nat) : Nodes m (edgeM 0 m K e) := by
  unfold edgeM
  split
  · unfold HeapM.put
    cases g : K.of (nodeV 0 m e.1) with
    | none => exact h
    | some o =>
      simp only
      split
      · refine h.set _ _ fun x hx => ?_
        have ho := h _ (getL_mem (HeapM.of_some g).2)
        rcases List.mem_append.1 hx with h1 | h1
        · exact ho x (List.mem_append.2 (.inl h1))
        · obtain ⟨q, hq, rfl⟩ := List.mem_map.1 h1
          have hold : ∀ q ∈ o.pairs, ∃ a, q.2 = nodeV 0 m a := fun q hq => ho q.2 (List.mem_append.2 (.inr (List.mem_map.2 ⟨q, hq, rfl⟩)))
          simp only [putL] at hq
          split at hq
          · obtain ⟨r, hr, e1⟩ := List.mem_map.1 hq
            split at e1
            · exact ⟨_, by rw [← e1]⟩
            · rw [← e1]; exact hold r hr
          · rcases List.mem_append.1 hq with h2 | h2
            · exact hold q h2
            · simp at h2; exact ⟨_, by rw [h2]⟩
      · exact h
  · unfold HeapM.replace
    cases g : K.of (nodeV 0 m e.1) with
    | none => exact h
    | some o =>
      simp only
      split
      · refine h.set _ _ fun x hx => ?_
        have ho := h _ (getL_mem (HeapM.of_some g).2)
        rcases List.mem_append.1 hx with h1 | h1
        · simp at h1
          rcases h1 with rfl | h1
          · exact ⟨_, rfl⟩
          · exact ho x (List.mem_append.2 (.inl h1))
        · exact ho x (List.mem_append.2 (.inr h1))
      · exact h
theorem Nodes.wire {m : Nat} {K : HeapM} (h : Nodes m K) (es : List (Nat × Nat × Nat)) : Nodes m (wireM 0 m K es) := by
  induction es generalizing K with
  | nil => exact h
  | cons e es ih => exact ih (h.edge e)
theorem nodes_made (g : GraphM) : Nodes (manyM g.kinds - 1) (madeM g) := by
  refine Nodes.wire (fun p hp => ?_) _
  unfold baseG at hp
  rw [baseM_objs] at hp
  obtain ⟨i, _, rfl⟩ := List.mem_map.1 hp
  intro x hx
  simp [objM, ObjM.vals] at hx
theorem made_keys (g : GraphM) : ∀ p ∈ (madeM g).objs, 1 ≤ p.1 ∧ p.1 ≤ manyM g.kinds := fun p hp => by
  have h := (madeM_fit g).G.ok.pos p hp
  have : (madeM g).last = manyM g.kinds := by unfold madeM madeK; rw [wireM_last]; exact baseM_last _ _
  rw [this] at h; exact h
theorem movL_keys {f : Nat} {l : List (Int × ObjM)} {p : Int × ObjM} (h : p ∈ movL f l) : ∃ q ∈ l, p.1 = q.1 + f := by
  obtain ⟨q, hq, rfl⟩ := List.mem_map.1 h
  exact ⟨q, hq, rfl⟩
theorem getL_key {X : Type} {l : List (Int × X)} {n : Int} (h : (getL l n).isSome = true) : ∃ p ∈ l, p.1 = n := by
  obtain ⟨o, ho⟩ := Option.isSome_iff_exists.1 h
  exact ⟨_, getL_mem ho, rfl⟩
/-- Two heaps, side by side: their keys, what they hold. -/
structure Beside (H K : HeapM) (f m : Nat) : Prop where
  hf : f < 100
  hf0 : 1 ≤ f
  hm : m < 100
  kH : ∀ p ∈ H.objs, 1 ≤ p.1 ∧ p.1 ≤ f
  kK : ∀ p ∈ K.objs, 1 ≤ p.1 ∧ p.1 ≤ m + 1
  nH : Nodes (f - 1) H
  nK : Nodes m K
section
variable {H K : HeapM} {f m : Nat} {N : Nat}
theorem Beside.left (B : Beside H K f m) {n : Int} (h : n ≤ f) : getL (joinM H K f).objs n = (getL H.objs n).map (movO 0) := by
  have := get_part (A := []) (B := movL f K.objs) (l := H.objs) (f := 0) (n := n) (by simp) (fun p hp => by
    obtain ⟨q, hq, e⟩ := movL_keys hp
    have := B.kK q hq
    simp; omega)
  simpa [joinM] using this
theorem Beside.right (B : Beside H K f m) {n : Int} (h : 1 ≤ n) : getL (joinM H K f).objs (n + f) = (getL K.objs n).map (movO f) := by
  have := get_part (A := movL 0 H.objs) (B := []) (l := K.objs) (f := f) (n := n) (fun p hp => by
    obtain ⟨q, hq, e⟩ := movL_keys hp
    have := B.kH q hq
    simp at e; omega) (by simp)
  simpa [joinM] using this
theorem node_n {g k a : Nat} (hk : k < 100) : 1 ≤ (nodeV 0 k a).n ∧ (nodeV 0 k a).n ≤ k + 1 := by
  show 1 ≤ 1 + ((0 % 100 + a % (k % 100 + 1) : Nat) : Int) ∧ 1 + ((0 % 100 + a % (k % 100 + 1) : Nat) : Int) ≤ k + 1
  have := Nat.mod_lt a (show 0 < k % 100 + 1 by omega)
  omega
theorem movV_n {g k a : Nat} (hg : g < 100) : (movV g (nodeV 0 k a)).n = (nodeV 0 k a).n + g ∧ (movV g (nodeV 0 k a)).kind = 4 := by
  rw [movV_node g k a hg]
  refine ⟨?_, rfl⟩
  show 1 + ((g % 100 + a % (k % 100 + 1) : Nat) : Int) = 1 + ((0 % 100 + a % (k % 100 + 1) : Nat) : Int) + g
  omega
theorem movO_vals (g : Nat) (o : ObjM) : (movO g o).vals = o.vals.map (movV g) := by
  unfold movO ObjM.vals
  simp [Function.comp_def]
theorem Beside.refsL (B : Beside H K f m) {n : Int} (h : (getL H.objs n).isSome = true) : (joinM H K f).refsOf n = H.refsOf n := by
  obtain ⟨o, ho⟩ := Option.isSome_iff_exists.1 h
  have hk := B.kH _ (getL_mem ho)
  unfold HeapM.refsOf
  rw [B.left hk.2, ho]
  simp only [Option.map_some]
  unfold HeapM.refs
  rw [movO_vals, List.filter_map, List.map_map]
  have e : ∀ x ∈ o.vals, ((joinM H K f).of (movV 0 x)).isSome = (H.of x).isSome ∧ (movV 0 x).n = x.n := fun x hx => by
    obtain ⟨a, rfl⟩ := B.nH _ (getL_mem ho) x hx
    have h1 := movV_n (g := 0) (k := f - 1) (a := a) (by omega)
    have h2 := node_n (g := 0) (k := f - 1) (a := a) (by have := B.hf; omega)
    have hf0 := B.hf0
    have h3 : (movV 0 (nodeV 0 (f - 1) a)).n = (nodeV 0 (f - 1) a).n := by rw [h1.1]; simp
    refine ⟨?_, h3⟩
    unfold HeapM.of
    rw [if_pos h1.2, h3, if_pos (show (nodeV 0 (f - 1) a).kind = 4 from rfl), B.left (by omega), Option.isSome_map]
  have e1 : o.vals.filter ((fun x => ((joinM H K f).of x).isSome) ∘ movV 0) = o.vals.filter fun x => (H.of x).isSome := List.filter_congr fun x hx => (e x hx).1
  rw [e1]
  exact List.map_congr_left fun x hx => (e x (List.mem_filter.1 hx).1).2
theorem Beside.refsR (B : Beside H K f m) {n : Int} (h : (getL K.objs n).isSome = true) : (joinM H K f).refsOf (n + f) = (K.refsOf n).map (· + (f : Int)) := by
  obtain ⟨o, ho⟩ := Option.isSome_iff_exists.1 h
  have hk := B.kK _ (getL_mem ho)
  unfold HeapM.refsOf
  rw [B.right hk.1, ho]
  simp only [Option.map_some]
  unfold HeapM.refs
  rw [movO_vals, List.filter_map, List.map_map, List.map_map]
  have e : ∀ x ∈ o.vals, ((joinM H K f).of (movV f x)).isSome = (K.of x).isSome ∧ (movV f x).n = x.n + f := fun x hx => by
    obtain ⟨a, rfl⟩ := B.nK _ (getL_mem ho) x hx
    have h1 := movV_n (g := f) (k := m) (a := a) B.hf
    have h2 := node_n (g := 0) (k := m) (a := a) B.hm
    refine ⟨?_, h1.1⟩
    unfold HeapM.of
    rw [if_pos h1.2, h1.1, if_pos (show (nodeV 0 m a).kind = 4 from rfl), B.right h2.1, Option.isSome_map]
  have e1 : o.vals.filter ((fun x => ((joinM H K f).of x).isSome) ∘ movV f) = o.vals.filter fun x => (K.of x).isSome := List.filter_congr fun x hx => (e x hx).1
  rw [e1]
  exact List.map_congr_left fun x hx => (e x (List.mem_filter.1 hx).1).2
/-- What is held is of objects of the part. -/
def HeldIn (E : List V) (k : Nat) : Prop := ∀ v ∈ E, v.kind = 4 ∧ 1 ≤ v.n ∧ v.n ≤ k
theorem HeldIn.mov {E : List V} {k g : Nat} (h : HeldIn E k) (hk : k ≤ 100) (hg : g < 100) : ∀ v ∈ E, (movV g v).kind = 4 ∧ (movV g v).n = v.n + g := fun v hv => by
  obtain ⟨h1, h2, h3⟩ := h v hv
  unfold movV
  rw [dif_pos (okI_of (by omega))]
  exact ⟨rfl, rfl⟩
theorem Beside.R_iff (B : Beside H K f m) {E1 E2 : List V} (h1 : HeldIn E1 f) (h2 : HeldIn E2 (m + 1)) (j : Int) :
    (joinM H K f).R (E1.map (movV 0) ++ E2.map (movV f)) j ↔ (j ≤ f ∧ H.R E1 j) ∨ (∃ n, 1 ≤ n ∧ j = n + f ∧ K.R E2 n) := by
  have hf := B.hf
  have hm := B.hm
  have m1 := h1.mov (g := 0) (by omega) (by omega)
  have m2 := h2.mov (g := f) (by omega) hf
  constructor
  · intro h
    induction h with
    | @seed j hl hc =>
      obtain ⟨v, hv, k1, k2⟩ := cnt_pos.1 hc
      rcases List.mem_append.1 hv with hv | hv
      · obtain ⟨u, hu, rfl⟩ := List.mem_map.1 hv
        have h3 := h1 u hu
        have h4 := (m1 u hu).2
        have h5 : j = u.n := by rw [← k2, h4]; simp
        subst h5
        rw [B.left h3.2.2, Option.isSome_map] at hl
        exact .inl ⟨h3.2.2, .seed hl (cnt_pos.2 ⟨u, hu, h3.1, rfl⟩)⟩
      · obtain ⟨u, hu, rfl⟩ := List.mem_map.1 hv
        have h3 := h2 u hu
        have h4 := (m2 u hu).2
        have h5 : j = u.n + f := by rw [← k2, h4]
        subst h5
        rw [B.right h3.2.1, Option.isSome_map] at hl
        exact .inr ⟨u.n, h3.2.1, rfl, .seed hl (cnt_pos.2 ⟨u, hu, h3.1, rfl⟩)⟩
    | @step i j hi hj ih =>
      rcases ih with ⟨hi1, hi2⟩ | ⟨n, hn, rfl, hR⟩
      · rw [B.refsL hi2.live] at hj
        have hl := H.refsOf_live i j hj
        obtain ⟨p, hp, rfl⟩ := getL_key hl
        exact .inl ⟨(B.kH p hp).2, .step hi2 hj⟩
      · rw [B.refsR hR.live] at hj
        obtain ⟨x, hx, rfl⟩ := List.mem_map.1 hj
        have hl := K.refsOf_live n x hx
        obtain ⟨p, hp, rfl⟩ := getL_key hl
        exact .inr ⟨p.1, (B.kK p hp).1, rfl, .step hR hx⟩
  · rintro (⟨hj, h⟩ | ⟨n, hn, rfl, h⟩)
    · clear hj
      induction h with
      | @seed j hl hc =>
        obtain ⟨v, hv, k1, k2⟩ := cnt_pos.1 hc
        obtain ⟨p, hp, rfl⟩ := getL_key hl
        refine .seed (by rw [B.left (B.kH p hp).2, Option.isSome_map]; exact hl) (cnt_pos.2 ⟨movV 0 v, List.mem_append.2 (.inl (List.mem_map.2 ⟨v, hv, rfl⟩)), (m1 v hv).1, ?_⟩)
        rw [(m1 v hv).2, ← k2]; simp
      | @step i j hi hj ih => exact .step ih (by rw [B.refsL hi.live]; exact hj)
    · clear hn
      induction h with
      | @seed j hl hc =>
        obtain ⟨v, hv, k1, k2⟩ := cnt_pos.1 hc
        obtain ⟨p, hp, rfl⟩ := getL_key hl
        refine .seed (by rw [B.right (B.kK p hp).1, Option.isSome_map]; exact hl) (cnt_pos.2 ⟨movV f v, List.mem_append.2 (.inr (List.mem_map.2 ⟨v, hv, rfl⟩)), (m2 v hv).1, ?_⟩)
        rw [(m2 v hv).2, ← k2]
      | @step i j hi hj ih => exact .step ih (by rw [B.refsR hi.live]; exact List.mem_map.2 ⟨j, hj, rfl⟩)
/-- What a collection leaves of both is what it leaves of each. -/
theorem Beside.collect (B : Beside H K f m) {N1 N2 N3 : Nat} (G1 : H.Good N1) (G2 : K.Good N2) (G3 : (joinM H K f).Good N3) {E1 E2 : List V} (h1 : HeldIn E1 f) (h2 : HeldIn E2 (m + 1)) :
    ((joinM H K f).collect (E1.map (movV 0) ++ E2.map (movV f))).objs = movL 0 (H.collect E1).objs ++ movL f (K.collect E2).objs := by
  rw [HeapM.collect_objs G3, HeapM.collect_objs G1, HeapM.collect_objs G2]
  show (movL 0 H.objs ++ movL f K.objs).filter _ = _
  rw [List.filter_append]
  unfold movL
  rw [List.filter_map, List.filter_map]
  congr 2
  · refine List.filter_congr fun p hp => ?_
    simp only [Function.comp, decide_eq_decide]
    rw [B.R_iff h1 h2]
    have hk := B.kH p hp
    constructor
    · rintro (⟨_, h⟩ | ⟨n, hn, e, h⟩)
      · simpa using h
      · simp at e; omega
    · intro h; exact .inl ⟨by simp; omega, by simpa using h⟩
  · refine List.filter_congr fun p hp => ?_
    simp only [Function.comp, decide_eq_decide]
    rw [B.R_iff h1 h2]
    have hk := B.kK p hp
    constructor
    · rintro (⟨h0, h⟩ | ⟨n, hn, e, h⟩)
      · omega
      · obtain rfl : p.1 = n := by omega
        exact h
    · intro h; exact .inr ⟨p.1, hk.1, rfl, h⟩
end
theorem movL_len (f : Nat) (l : List (Int × ObjM)) : (movL f l).length = l.length := by simp [movL]
theorem movL_live (f : Nat) (l : List (Int × ObjM)) (a b : Int) (k : Int) : (⟨movL f l, a⟩ : HeapM).live k = (⟨l, b⟩ : HeapM).live k := by
  unfold HeapM.live movL
  simp only
  rw [List.filter_map, List.length_map]; rfl
theorem live_app (l l' : List (Int × ObjM)) (a b c : Int) (k : Int) : (⟨l ++ l', a⟩ : HeapM).live k = (⟨l, b⟩ : HeapM).live k + (⟨l', c⟩ : HeapM).live k := by
  unfold HeapM.live
  simp
end Go.Proofs.Ytjinabglachglaa
