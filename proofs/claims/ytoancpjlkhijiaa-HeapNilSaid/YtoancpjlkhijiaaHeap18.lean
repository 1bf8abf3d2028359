/- The heap: Make of no kind; drop, Free. -/
import Derived.Test.YtoancpjlkhijiaaHeap17
namespace Go.Proofs.Ytoancpjlkhijiaa
open Go.RowKit
set_option linter.unusedVariables false
theorem heap_make_no (w : World) (h : Nat) (k n : Int) (s : ByteArray) (a : Option Addr) (x c : Nat) (hk : k < 1 ∨ 12 < k) :
    Calls Try.prog 44 #[.pointer (some ⟨h, 0, none⟩), .int .i64 k, .string s, .int .i64 n, .slice a x c] w fun e w' => e = .returned V.zero.val ∧ Below w.heap.size w w' := by
  rcases hk with hk | hk
  all_goals
    go_enter Try.func44, Try.ntmps44
    go_wp2
    exact bodyPost_ret (v := V.zero.val) (by simp [results, Try.results44, go_sem, V.zero, V.val]) rfl ⟨rfl, by below_tac⟩
def HeapM.drop (H : HeapM) (n : Int) : HeapM := { H with objs := delL H.objs n }
theorem cnt_delObj {l : List (Int × ObjM)} (hn : (l.map (·.1)).Nodup) {n : Int} {o : ObjM} (g : getL l n = some o) (m : Int) : cnt (allVals (delL l n)) m = cnt (allVals l) m - cnt o.vals m := by
  induction l with
  | nil => simp [getL] at g
  | cons p r ih =>
    simp only [List.map_cons, List.nodup_cons] at hn
    have hc : ∀ q : Int × ObjM, ∀ l, allVals (q :: l) = q.2.vals ++ allVals l := fun q l => by simp [allVals]
    by_cases e : p.1 = n
    · have hd : delL (p :: r) n = r := by
        have h1 : delL (p :: r) n = delL r n := by simp [delL, e]
        rw [h1]
        refine delL_none ?_
        rw [getL_none]
        intro q hq e'
        exact hn.1 (List.mem_map.2 ⟨q, hq, e'.trans e.symm⟩)
      have : p.2 = o := by simpa [getL, e] using g
      rw [hd, hc, cnt_append, this]; omega
    · have g' : getL r n = some o := by simpa [getL, e] using g
      have hd : delL (p :: r) n = p :: delL r n := by simp [delL, e]
      rw [hd, hc, hc, cnt_append, cnt_append, ih hn.2 g']; omega
structure DropAt (w : World) (h : Nat) (H : HeapM) (ε : Int → Int) (F : List Nat) (n : Int) (o : ObjM) (ma mr b d : Nat) (rv : Value) (G : List Nat) (obs : List (Int × Nat)) (r : List (Int × Int)) : Prop where
  hd : w.heap[h]? = some (.cells #[.map (some ma), .map (some mr), .int .i64 H.last] 75)
  hm : mapIs w Try.prog 2 ekI exP ma obs
  hb : getL obs n = some b
  hr : mapIs w Try.prog 2 ekI exI mr r
  hc : CountsAre H ε r
  ho : w.heap[b]? = some (objBlock o rv d)
  hi : slIs w 26 3 V.cells rv o.items
  hdict : DictIs w d o.pairs G
  ne : h ≠ ma ∧ h ≠ mr ∧ ma ≠ mr
  sub : ∀ x ∈ b :: rv.ownBlock.toList ++ G, x ≠ ma ∧ x ≠ mr
  shut : ∀ (w' : World) (r' : List (Int × Int)) (ε' : Int → Int), mapIs w' Try.prog 2 ekI exP ma (delL obs n) → mapIs w' Try.prog 2 ekI exI mr r' → CountsAre (H.drop n) ε' r' → Outside [ma, mr] w w' → ∃ F', HeapIs w' h (H.drop n) ε' F' ∧ (∀ x ∈ F', x ∈ F) ∧ Outside F w w'
theorem HeapIs.dropAt {w : World} {h : Nat} {H : HeapM} {ε : Int → Int} {F : List Nat} {n : Int} {o : ObjM} (hh : HeapIs w h H ε F) (g : getL H.objs n = some o) : ∃ ma mr b d rv G obs r, DropAt w h H ε F n o ma mr b d rv G obs r := by
  have hlt := hh.lt
  obtain ⟨ma, mr, rows, r, h1, h2, h3, h4, h5, h6, h7, h8⟩ := hh
  have h7' := h7
  rw [h6] at h7'
  simp only [List.nodup_cons, List.mem_cons, not_or] at h7'
  obtain ⟨⟨n1, n2, n3⟩, ⟨n4, n5⟩, n6, n7⟩ := h7'
  have hsubF : ∀ q ∈ rows, ∀ x ∈ q.F, x ∈ F ∧ x ≠ h ∧ x ≠ ma ∧ x ≠ mr := fun q hq x hx => by
    have hm : x ∈ rows.flatMap (·.F) := List.mem_flatMap.2 ⟨q, hq, hx⟩
    refine ⟨by rw [h6]; simp only [List.mem_cons]; exact .inr (.inr (.inr hm)), ?_, ?_, ?_⟩
    · intro e; subst e; exact n3 hm
    · intro e; subst e; exact n5 hm
    · intro e; subst e; exact n6 hm
  rw [h5] at g
  rcases getL_map2 HRow.n HRow.b HRow.o rows n with ⟨_, h9⟩ | ⟨p, hp, e1, e2, e3⟩
  · rw [g] at h9; cases h9
  rw [g] at e3
  have e := Option.some.inj e3
  subst e
  obtain ⟨rv, d, G, k1, k2, k3, k4, k5⟩ := h4 p hp
  refine ⟨ma, mr, p.b, d, rv, G, _, r, h1, h2, e2, h3, h8, k1, k2, k3, ⟨n1, n2, n4⟩, fun x hx => by rw [← k4] at hx; exact ⟨(hsubF p hp x hx).2.2.1, (hsubF p hp x hx).2.2.2⟩, ?_⟩
  intro w' r' ε' j1 j2 j3 j4
  have hfilt : (rows.filter fun q => !decide (q.n = n)).map (fun p => (p.n, p.b)) = delL (rows.map fun p => (p.n, p.b)) n := by
    unfold delL; rw [List.filter_map]; rfl
  have hfilt2 : (rows.filter fun q => !decide (q.n = n)).map (fun p => (p.n, p.o)) = delL (rows.map fun p => (p.n, p.o)) n := by
    unfold delL; rw [List.filter_map]; rfl
  have hsl : ((rows.filter fun q => !decide (q.n = n)).flatMap (·.F)).Sublist (rows.flatMap (·.F)) := by
    generalize rows = rs
    induction rs with
    | nil => simp
    | cons a l ih =>
      rw [List.filter_cons]
      split
      · rw [List.flatMap_cons, List.flatMap_cons]; exact List.Sublist.append (List.Sublist.refl _) ih
      · rw [List.flatMap_cons]; exact ih.trans (List.sublist_append_right _ _)
  have hsl3 : (h :: ma :: mr :: (rows.filter fun q => !decide (q.n = n)).flatMap (·.F)).Sublist F := by
    rw [h6]; exact ((hsl.cons_cons _).cons_cons _).cons_cons _
  refine ⟨h :: ma :: mr :: (rows.filter fun q => !decide (q.n = n)).flatMap (·.F), ⟨ma, mr, rows.filter fun q => !decide (q.n = n), r', ?_, by rw [hfilt]; exact j1, j2, ?_, ?_, rfl, hsl3.nodup h7, j3⟩, ?_, ?_⟩
  · exact (j4.block h (blockLt h1) (by simp [n1, n2])).trans h1
  · intro q hq
    have hq' := (List.mem_filter.1 hq).1
    exact (h4 q hq').of_block fun x hx => j4.block x (hlt x (hsubF q hq' x hx).1) (by simp [(hsubF q hq' x hx).2.2.1, (hsubF q hq' x hx).2.2.2])
  · show delL H.objs n = _
    rw [h5, hfilt2]
  · exact fun x hx => hsl3.subset hx
  · exact j4.mono fun x hx => by
      rw [h6]; simp only [List.mem_cons, List.not_mem_nil, or_false] at hx ⊢
      rcases hx with h | h <;> simp [h]
end Go.Proofs.Ytoancpjlkhijiaa
