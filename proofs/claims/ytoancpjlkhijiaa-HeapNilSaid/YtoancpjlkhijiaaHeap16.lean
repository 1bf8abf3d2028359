/- The heap: New; a new object. -/
import Derived.Test.YtoancpjlkhijiaaHeap15
namespace Go.Proofs.Ytoancpjlkhijiaa
open Go.RowKit
set_option linter.unusedVariables false
/-- Numbers rise. -/
structure HeapM.Ok (H : HeapM) : Prop where
  asc : (H.objs.map (·.1)).Pairwise (· < ·)
  pos : ∀ p ∈ H.objs, 1 ≤ p.1 ∧ p.1 ≤ H.last
  last : 0 ≤ H.last
theorem heap_new (w : World) : Calls Try.prog 12 #[] w fun e w' => ∃ h F, e = .returned (.pointer (some ⟨h, 0, none⟩)) ∧ HeapIs w' h ⟨[], 0⟩ (fun _ => 0) F ∧ (∀ b ∈ F, w.heap.size ≤ b) ∧ Below w.heap.size w w' := by
  go_enter Try.func12, Try.ntmps12
  have hmk : ∀ w1 : World, (Instr.makeMap 72 none).run Try.prog w1 = .ok (.map (some w1.heap.size)) (w1.alloc (.map #[] 0)) := fun w1 => run_makeMap _ w1
  have hmk2 : ∀ w1 : World, (Instr.makeMap 73 none).run Try.prog w1 = .ok (.map (some w1.heap.size)) (w1.alloc (.map #[] 0)) := fun w1 => run_makeMap _ w1
  go_wp2
  go_ret
  refine ⟨w.heap.size + 1 + 1, [w.heap.size + 1 + 1, w.heap.size, w.heap.size + 1], rfl, ⟨w.heap.size, w.heap.size + 1, [], [], ?_, ((mapIs_made w _ _ _ _).alloc _).alloc _, ?_, by simp, rfl, rfl, by simp; omega, fun n => by simp [cntL, getL, allVals, cnt, wrap64]⟩, ?_, (((Below.refl _ _).alloc (Nat.le_refl _) _).alloc (by simp) _).alloc (by simp; omega) _⟩
  · have := heapAllocNew ((w.alloc (.map #[] 0)).alloc (.map #[] 0)) (.cells #[.map (some w.heap.size), .map (some (w.heap.size + 1)), .int .i64 0] 75)
    rwa [World.size_alloc, World.size_alloc] at this
  · have := (mapIs_made (w.alloc (.map #[] 0)) Try.prog 2 ekI exI).alloc (.cells #[.map (some w.heap.size), .map (some (w.heap.size + 1)), .int .i64 0] 75)
    rw [World.size_alloc] at this
    exact this
  · intro b hb; simp at hb; omega
def HeapM.add (H : HeapM) (o : ObjM) : HeapM := ⟨H.objs ++ [(H.last + 1, o)], H.last + 1⟩
structure MakeAt (w : World) (h : Nat) (H : HeapM) (ε : Int → Int) (F : List Nat) (ma mr : Nat) (obs : List (Int × Nat)) : Prop where
  hd : w.heap[h]? = some (.cells #[.map (some ma), .map (some mr), .int .i64 H.last] 75)
  hm : mapIs w Try.prog 2 ekI exP ma obs
  hno : getL obs (H.last + 1) = none
  ne : h ≠ ma
  shut : ∀ (w' : World) (d ob : Nat) (Fd : List Nat) (o' : ObjM), w'.heap[h]? = some (.cells #[.map (some ma), .map (some mr), .int .i64 (H.last + 1)] 75) → mapIs w' Try.prog 2 ekI exP ma (obs ++ [(H.last + 1, ob)]) →
    w'.heap[ob]? = some (objBlock o' (.slice none 0 0) d) → DictIs w' d [] Fd → o'.items = [] → o'.pairs = [] → (ob :: Fd).Nodup → (∀ b ∈ ob :: Fd, w.heap.size ≤ b) → Outside [h, ma] w w' →
    HeapPost h (H.add o') ε F w w'
theorem HeapIs.make {w : World} {h : Nat} {H : HeapM} {ε : Int → Int} {F : List Nat} (hh : HeapIs w h H ε F) (hok : H.Ok) : ∃ ma mr obs, MakeAt w h H ε F ma mr obs := by
  have hlt := hh.lt
  obtain ⟨ma, mr, rows, r, h1, h2, h3, h4, h5, h6, h7, h8⟩ := hh
  have h7' := h7
  rw [h6] at h7'
  simp only [List.nodup_cons, List.mem_cons, not_or] at h7'
  obtain ⟨⟨n1, n2, n3⟩, ⟨n4, n5⟩, n6, n7⟩ := h7'
  refine ⟨ma, mr, _, h1, h2, ?_, n1, ?_⟩
  · rw [getL_none]
    intro p hp e
    obtain ⟨q, hq, rfl⟩ := List.mem_map.1 hp
    have := (hok.pos (q.n, q.o) (by rw [h5]; exact List.mem_map.2 ⟨q, hq, rfl⟩)).2
    simp only at this e
    omega
  · intro w' d ob Fd o' j1 j2 j3 j4 j5 j6 j7 j8 j9
    have hoth : ∀ x ∈ F, x ≠ h → x ≠ ma → w'.heap[x]? = w.heap[x]? := fun x hx e1 e2 => j9.block x (hlt x hx) (by simp [e1, e2])
    have hsubF : ∀ q ∈ rows, ∀ x ∈ q.F, x ∈ F ∧ x ≠ h ∧ x ≠ ma ∧ x ≠ mr := fun q hq x hx => by
      have hm : x ∈ rows.flatMap (·.F) := List.mem_flatMap.2 ⟨q, hq, hx⟩
      refine ⟨by rw [h6]; simp only [List.mem_cons]; exact .inr (.inr (.inr hm)), ?_, ?_, ?_⟩
      · intro e; subst e; exact n3 hm
      · intro e; subst e; exact n5 hm
      · intro e; subst e; exact n6 hm
    refine ⟨h :: ma :: mr :: (rows ++ [(⟨H.last + 1, ob, o', ob :: Fd⟩ : HRow)]).flatMap (·.F), ⟨ma, mr, rows ++ [(⟨H.last + 1, ob, o', ob :: Fd⟩ : HRow)], r, j1, by simpa using j2, ?_, ?_, ?_, rfl, ?_, ?_⟩, ?_, ?_⟩
    · exact h3.of_block (hoth mr (by rw [h6]; simp) (fun e => n2 e.symm) (fun e => n4 e.symm))
    · intro q hq
      rcases List.mem_append.1 hq with hq | hq
      · exact (h4 q hq).of_block fun x hx => hoth x (hsubF q hq x hx).1 (hsubF q hq x hx).2.1 (hsubF q hq x hx).2.2.1
      · simp only [List.mem_singleton] at hq
        subst hq
        refine ⟨_, d, Fd, j3, ?_, ?_, by simp [Value.ownBlock], j7⟩
        · show slIs _ _ _ _ _ o'.items
          rw [j5]; exact World.ownsRow_nil _ _ _ _
        · show DictIs _ _ o'.pairs _
          rw [j6]; exact j4
    · simp [HeapM.add, h5]
    · have hfl : ∀ x ∈ h :: ma :: mr :: rows.flatMap (·.F), x < w.heap.size := fun x hx => hlt x (by rw [h6]; exact hx)
      have e : h :: ma :: mr :: (rows ++ [(⟨H.last + 1, ob, o', ob :: Fd⟩ : HRow)]).flatMap (·.F) = (h :: ma :: mr :: rows.flatMap (·.F)) ++ (ob :: Fd) := by simp
      rw [e]
      refine List.nodup_append.2 ⟨by rw [← h6]; exact h7, j7, fun a ha b hb e => ?_⟩
      subst e
      have := hfl a ha; have := j8 a hb; omega
    · intro n
      rw [h8]
      simp [HeapM.add, allVals, ObjM.vals, j5, j6]
    · intro x hx
      have e : h :: ma :: mr :: (rows ++ [(⟨H.last + 1, ob, o', ob :: Fd⟩ : HRow)]).flatMap (·.F) = (h :: ma :: mr :: rows.flatMap (·.F)) ++ (ob :: Fd) := by simp
      rw [e] at hx
      rcases List.mem_append.1 hx with hx | hx
      · left; rw [h6]; exact hx
      · exact .inr (j8 x hx)
    · exact j9.mono fun x hx => by
        rw [h6]; simp only [List.mem_cons, List.not_mem_nil, or_false] at hx ⊢
        rcases hx with h | h <;> simp [h]
end Go.Proofs.Ytoancpjlkhijiaa
