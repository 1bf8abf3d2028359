/- The heap: one object, opened and shut. -/
import Derived.Test.YtoancpjlkhijiaaHeap3
namespace Go.Proofs.Ytoancpjlkhijiaa
open Go.RowKit
set_option linter.unusedVariables false
theorem nodup_swap {A P P' B : List Nat} {N : Nat} (h : (A ++ (P ++ B)).Nodup) (hP' : P'.Nodup) (hg : ∀ x ∈ P', x ∈ P ∨ N ≤ x) (hlt : ∀ x ∈ A ++ B, x < N) : (A ++ (P' ++ B)).Nodup := by
  simp only [List.nodup_append, List.mem_append] at h hlt ⊢
  obtain ⟨hA, ⟨hP, hB, hPB⟩, hAPB⟩ := h
  refine ⟨hA, ⟨hP', hB, fun a ha b hb e => ?_⟩, fun a ha b hb e => ?_⟩
  · subst e
    rcases hg a ha with h1 | h1
    · exact hPB a h1 a hb rfl
    · have := hlt a (.inr hb); omega
  · subst e
    rcases hb with hb | hb
    · rcases hg a hb with h1 | h1
      · exact hAPB a ha a (.inl h1) rfl
      · have := hlt a (.inl ha); omega
    · exact hAPB a ha a (.inr hb) rfl
/-- An object is put in another one's place. -/
def HeapM.set (H : HeapM) (n : Int) (o : ObjM) : HeapM := { H with objs := H.objs.map fun p => if p.1 = n then (n, o) else p }
def objBlock (o : ObjM) (rv : Value) (d : Nat) : Obj := .cells #[.int .i64 o.kind, .string o.name, .int .i64 o.num, rv, .pointer (some ⟨d, 0, none⟩)] 81
structure OpenAt (w : World) (h : Nat) (H : HeapM) (ε : Int → Int) (F : List Nat) (v : V) (o : ObjM) (ma mr b d : Nat) (rv : Value) (G : List Nat) (obs : List (Int × Nat)) (r : List (Int × Int)) : Prop where
  hd : w.heap[h]? = some (.cells #[.map (some ma), .map (some mr), .int .i64 H.last] 75)
  hm : mapIs w Try.prog 2 ekI exP ma obs
  hb : ofB obs v = some b
  hr : mapIs w Try.prog 2 ekI exI mr r
  hc : CountsAre H ε r
  nk : (H.objs.map (·.1)).Nodup
  hg : H.of v = some o
  ho : w.heap[b]? = some (objBlock o rv d)
  hi : slIs w 26 3 V.cells rv o.items
  hdict : DictIs w d o.pairs G
  nd : (h :: ma :: mr :: (b :: rv.ownBlock.toList ++ G)).Nodup
  sub : ∀ x ∈ (h :: ma :: mr :: (b :: rv.ownBlock.toList ++ G)), x ∈ F
  shut : ∀ (w' : World) (o' : ObjM) (rv' : Value) (G' : List Nat) (r' : List (Int × Int)) (ε' : Int → Int), w'.heap[b]? = some (objBlock o' rv' d) → slIs w' 26 3 V.cells rv' o'.items → DictIs w' d o'.pairs G' →
    mapIs w' Try.prog 2 ekI exI mr r' → CountsAre (H.set v.n o') ε' r' → (b :: rv'.ownBlock.toList ++ G').Nodup → Grow (b :: rv.ownBlock.toList ++ G) (b :: rv'.ownBlock.toList ++ G') w →
    Outside (mr :: (b :: rv.ownBlock.toList ++ G)) w w' → ∃ F', HeapIs w' h (H.set v.n o') ε' F' ∧ Grow F F' w ∧ Outside F w w'
theorem HeapIs.open {w : World} {h : Nat} {H : HeapM} {ε : Int → Int} {F : List Nat} {v : V} {o : ObjM} (hh : HeapIs w h H ε F) (g : H.of v = some o) :
    ∃ ma mr b d rv G obs r, OpenAt w h H ε F v o ma mr b d rv G obs r := by
  have hlt := hh.lt
  obtain ⟨ma, mr, rows, r, h1, h2, h3, h4, h5, h6, h7, h8⟩ := hh
  rcases ofB_cases h5 v with ⟨g1, g2⟩ | ⟨p, hp, hk, hn, g1, g2⟩
  · rw [g] at g2; cases g2
  rw [g] at g2
  have e := Option.some.inj g2
  subst e
  obtain ⟨rv, d, G, k1, k2, k3, k4, k5⟩ := h4 p hp
  obtain ⟨l1, l2, hl⟩ := List.append_of_mem hp
  have hnk := h2.nodup
  subst hl
  have hne : ∀ q ∈ l1 ++ l2, q.n ≠ p.n := by
    intro q hq e
    simp only [List.map_append, List.map_cons, List.map_map, List.nodup_append, List.nodup_cons, List.mem_map, List.mem_cons, Function.comp] at hnk
    obtain ⟨_, ⟨hn1, _⟩, hn2⟩ := hnk
    rcases List.mem_append.1 hq with hq | hq
    · exact hn2 q.n ⟨q, hq, rfl⟩ p.n (.inl rfl) e
    · exact hn1 ⟨q, hq, e⟩
  have h7' : (h :: ma :: mr :: l1.flatMap (·.F) ++ (p.F ++ l2.flatMap (·.F))).Nodup := by
    rw [h6] at h7; simpa [List.flatMap_append, List.flatMap_cons] using h7
  have hsub : ∀ x ∈ (h :: ma :: mr :: (p.b :: rv.ownBlock.toList ++ G)), x ∈ F := by
    intro x hx
    rw [h6, List.flatMap_append, List.flatMap_cons, k4]
    simp only [List.mem_cons, List.mem_append] at hx ⊢
    rcases hx with hx | hx | hx | hx
    · simp [hx]
    · simp [hx]
    · simp [hx]
    · right; right; right; right; left; exact hx
  refine ⟨ma, mr, p.b, d, rv, G, _, r, h1, h2, g1, h3, h8, by rw [h5]; simpa [List.map_map, Function.comp_def] using hnk, g, k1, k2, k3, ?_, hsub, ?_⟩
  · have : (h :: ma :: mr :: p.F).Sublist (h :: ma :: mr :: l1.flatMap (·.F) ++ (p.F ++ l2.flatMap (·.F))) := by
      simp only [List.cons_append]
      refine List.Sublist.cons_cons _ (List.Sublist.cons_cons _ (List.Sublist.cons_cons _ ?_))
      exact (List.sublist_append_left _ _).trans (List.sublist_append_right _ _)
    have := this.nodup h7'
    rwa [k4] at this
  · intro w' o' rv' G' r' ε' j1 j2 j3 j4 j5 j6 j7 j8
    have hoth : ∀ x ∈ F, x ∉ mr :: (p.b :: rv.ownBlock.toList ++ G) → w'.heap[x]? = w.heap[x]? := fun x hx hn => j8.block x (hlt x hx) hn
    have hpF : ∀ q ∈ l1 ++ l2, ∀ x ∈ q.F, x ∈ F ∧ x ∉ mr :: (p.b :: rv.ownBlock.toList ++ G) := by
      intro q hq x hx
      have hxA : x ∈ l1.flatMap (·.F) ∨ x ∈ l2.flatMap (·.F) := by
        rcases List.mem_append.1 hq with hq | hq
        · exact .inl (List.mem_flatMap.2 ⟨q, hq, hx⟩)
        · exact .inr (List.mem_flatMap.2 ⟨q, hq, hx⟩)
      constructor
      · rw [h6]; simp only [List.mem_cons, List.flatMap_append, List.flatMap_cons, List.mem_append]
        rcases hxA with h | h
        · simp [h]
        · simp [h]
      · rw [← k4]
        intro hm
        simp only [List.cons_append, List.nodup_cons, List.nodup_append, List.mem_append, List.mem_cons] at h7'
        obtain ⟨q1, q2, q3, q4, ⟨q5, q6, q7⟩, q8⟩ := h7'
        rcases List.mem_cons.1 hm with rfl | hm
        · rcases hxA with h | h
          · exact q3 (.inl h)
          · exact q3 (.inr (.inr h))
        · rcases hxA with h | h
          · exact q8 x h x (.inl hm) rfl
          · exact q7 x hm x h rfl
    have hFn : (h :: ma :: mr :: l1.flatMap (·.F) ++ ((p.b :: rv'.ownBlock.toList ++ G') ++ l2.flatMap (·.F))).Nodup :=
      nodup_swap (N := w.heap.size) h7' j6 (by rw [k4]; exact j7) (fun x hx => hlt x (by
        rw [h6]; simp only [List.cons_append, List.mem_cons, List.flatMap_append, List.flatMap_cons, List.mem_append] at hx ⊢
        rcases hx with hx | hx | hx | hx | hx <;> simp [hx]))
    have hne3 : h ∉ mr :: (p.b :: rv.ownBlock.toList ++ G) ∧ ma ∉ mr :: (p.b :: rv.ownBlock.toList ++ G) := by
      rw [← k4]
      simp only [List.cons_append, List.nodup_cons, List.nodup_append, List.mem_append, List.mem_cons] at h7' ⊢
      obtain ⟨q1, q2, q3, q4, ⟨q5, q6, q7⟩, q8⟩ := h7'
      constructor
      · rintro (hx | hx)
        · exact q1 (.inr (.inl hx))
        · exact q1 (.inr (.inr (.inr (.inl hx))))
      · rintro (hx | hx)
        · exact q2 (.inl hx)
        · exact q2 (.inr (.inr (.inl hx)))
    refine ⟨h :: ma :: mr :: (l1 ++ ⟨p.n, p.b, o', p.b :: rv'.ownBlock.toList ++ G'⟩ :: l2).flatMap (·.F), ⟨ma, mr, l1 ++ ⟨p.n, p.b, o', p.b :: rv'.ownBlock.toList ++ G'⟩ :: l2, r', ?_, ?_, j4, ?_, ?_, rfl, ?_, j5⟩, ?_, ?_⟩
    · exact (hoth h (hsub h (by simp)) hne3.1).trans h1
    · have := h2.of_block (hoth ma (hsub ma (by simp)) hne3.2)
      simpa using this
    · intro q hq
      simp only [List.mem_append, List.mem_cons] at hq
      have old : q ∈ l1 ++ l2 → ObjIs w' q := fun hq => (h4 q (by simp only [List.mem_append, List.mem_cons] at hq ⊢; rcases hq with h | h <;> simp [h])).of_block fun x hx => hoth x (hpF q hq x hx).1 (hpF q hq x hx).2
      rcases hq with hq | rfl | hq
      · exact old (by simp [hq])
      · exact ⟨rv', d, G', j1, j2, j3, rfl, j6⟩
      · exact old (by simp [hq])
    · simp only [HeapM.set, h5, List.map_append, List.map_cons, List.map_map]
      rw [if_pos hn]
      have e1 : l1.map ((fun p_1 => if p_1.1 = v.n then (v.n, o') else p_1) ∘ fun p => (p.n, p.o)) = l1.map fun p => (p.n, p.o) := List.map_congr_left fun q hq => by
        simp only [Function.comp]; rw [if_neg (fun e => hne q (by simp [hq]) (e.trans hn.symm))]
      have e2 : l2.map ((fun p_1 => if p_1.1 = v.n then (v.n, o') else p_1) ∘ fun p => (p.n, p.o)) = l2.map fun p => (p.n, p.o) := List.map_congr_left fun q hq => by
        simp only [Function.comp]; rw [if_neg (fun e => hne q (by simp [hq]) (e.trans hn.symm))]
      rw [e1, e2, hn]
    · simpa [List.flatMap_append, List.flatMap_cons] using hFn
    · intro x hx
      simp only [List.mem_cons, List.flatMap_append, List.flatMap_cons, List.mem_append] at hx
      rw [h6]
      simp only [List.mem_cons, List.flatMap_append, List.flatMap_cons, List.mem_append]
      rcases hx with hx | hx | hx | hx | hx | hx
      · simp [hx]
      · simp [hx]
      · simp [hx]
      · simp [hx]
      · rcases j7 x (by simpa [or_assoc] using hx) with h | h
        · rw [← k4] at h; simp [h]
        · exact .inr h
      · simp [hx]
    · exact j8.mono fun x hx => hsub x (by
        simp only [List.mem_cons] at hx ⊢
        rcases hx with hx | hx
        · simp [hx]
        · right; right; right; simpa using hx)
theorem OpenAt.of {w : World} {h : Nat} {H : HeapM} {ε : Int → Int} {F : List Nat} {v : V} {o : ObjM} {ma mr b d : Nat} {rv : Value} {G : List Nat} {obs : List (Int × Nat)} {r : List (Int × Int)} (O : OpenAt w h H ε F v o ma mr b d rv G obs r) (W : World) (hW : Below w.heap.size w W) :
    Calls Try.prog 45 #[.pointer (some ⟨h, 0, none⟩), v.val] W fun e w' => e = .returned (.pointer (some ⟨b, 0, none⟩)) ∧ Below W.heap.size W w' :=
  heap_of W h v (cellBelow (cellAt O.hd 0 (v := .map (some ma)) rfl) hW) (O.hm.of_block (hW.block _ O.hm.lt)) (some b) O.hb
theorem HeapIs.of_none {w : World} {h : Nat} {H : HeapM} {ε : Int → Int} {F : List Nat} {v : V} (hh : HeapIs w h H ε F) (g : H.of v = none) (W : World) (hW : Below w.heap.size w W) :
    Calls Try.prog 45 #[.pointer (some ⟨h, 0, none⟩), v.val] W fun e w' => e = .returned (.pointer none) ∧ Below W.heap.size W w' := by
  obtain ⟨ma, mr, rows, r, h1, h2, h3, h4, h5, h6, h7, h8⟩ := hh
  rcases ofB_cases h5 v with ⟨g1, g2⟩ | ⟨p, hp, hk, hn, g1, g2⟩
  · exact heap_of W h v (cellBelow (cellAt h1 0 (v := .map (some ma)) rfl) hW) (h2.of_block (hW.block _ h2.lt)) none g1
  · rw [g] at g2; cases g2
end Go.Proofs.Ytoancpjlkhijiaa
