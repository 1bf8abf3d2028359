import Derived.Test.YtilmhlblilmcfaaText4
import Derived.Maps.AppendAt
import Derived.RangeFuncBox
namespace Go.Proofs.Ytilmhlblilmcfaa
open Go.RowKit Go.Shelf
set_option linter.unusedVariables false
attribute [local go_sem] Oper.semAt_some
set_option maxHeartbeats 400000 in
theorem pieces_i (s sep : ByteArray) (w : World) : Calls Try.prog 37 #[.string s, .string sep] w fun e w' =>
    e = .returned (.func (.func 48) #[] #[.pointer (some ⟨w.heap.size, 0, none⟩), .pointer (some ⟨w.heap.size + 1, 0, none⟩)]) ∧
    w' = (w.alloc (.cells #[.string s] 9)).alloc (.cells #[.string sep] 9) := by
  go_enter Try.func37, Try.ntmps37
  go_wp2
  go_ret
  exact ⟨rfl, rfl⟩
theorem info_s : (Try.prog.info? 9).map (fun i => (i.zero, i.size, i.bytes)) = some (some (.string ⟨#[]⟩), 1, 16) := by kernel_rfl
theorem enters_pieces : Enters Try.prog 48 := enters_of Try.func48 (by kernel_rfl) rfl
def SplitI (s sep : List UInt8) (w : World) (B : Nat) (k : Nat) (W : World) : Prop :=
  Boxed W B 31 (.slice none 0 0) ∧ Boxed W (B + 1) 9 (.string ⟨#[]⟩) ∧
  (∃ v, Boxed W (B + 2) 31 v ∧ W.ownsRow (B + 7) 9 1 v k ((List.range k).map fun j => .string (pieceS s sep j))) ∧ Below B w W ∧ B + 7 ≤ W.heap.size
def SplitPost (n : Nat) (s sep : List UInt8) (w : World) (e : Ending) (w' : World) : Prop :=
  ∃ g cap, e = .returned (.tuple #[.slice (some ⟨g, 0, none⟩) n cap, .string ⟨#[]⟩]) ∧ (∀ j, j < n → w'.cell? ⟨g, j, none⟩ = some (.string (pieceS s sep j))) ∧ n ≤ cap ∧ w.heap.size ≤ g ∧ g < w'.heap.size ∧ Below w.heap.size w w'
def SplitMem (w : World) (e : Ending) (w' : World) : Prop :=
  e = .returned (.tuple #[.slice none 0 0, .string ⟨#[77, 101, 109, 111, 114, 121, 69, 114, 114, 111, 114]⟩]) ∧ Below w.heap.size w w'
def SplitX (w : World) (B : Nat) (c : Code) (W : World) : Prop :=
  c = .ret ∧ Boxed W B 31 (.slice none 0 0) ∧ Boxed W (B + 1) 9 (.string ⟨#[77, 101, 109, 111, 114, 121, 69, 114, 114, 111, 114]⟩) ∧ Below B w W ∧ B + 7 ≤ W.heap.size
set_option maxHeartbeats 400000 in
theorem split_ok (s sep : ByteArray) (n : Nat) (m : Int) (w : World) (hsep : 0 < sep.size) (hn : 0 < n) (hn2 : n ≤ 4096) (hs : s.size < 4294967281)
    (hf : ∀ k, k + 1 < n → foundS s.data.toList sep.data.toList k = true) (hl : foundS s.data.toList sep.data.toList (n - 1) = false) (hm : w.cell? ⟨0, 0, none⟩ = some (.int .i64 m)) :
    Calls Try.prog 26 #[.string s, .string sep] w (SplitPost n s.data.toList sep.data.toList w) := by
  have he := isE_of_pos sep hsep
  refine (callsIn_wide (n := 9)).1 ?_
  refine callsIn_of_wp_marks Try.func26 rfl trivial ?_ rfl
  simp only [Try.ntmps26, List.size_toArray, List.length_cons, List.length_nil, Nat.reduceAdd, Nat.reduceSub, Array.replicate_succ, Array.replicate_zero, List.push_toArray, List.append_toArray, List.nil_append, List.cons_append]
  gi_wp2_with fail
  refine ⟨trivial, (callsIn_wide.2 (pieces_i _ _ _)).mono ?_⟩
  rintro e w' ⟨rfl, rfl⟩
  gi_wp2_with fail
  obtain ⟨B, hB⟩ : ∃ B, w.heap.size = B := ⟨_, rfl⟩
  obtain ⟨W0, hW0⟩ : ∃ W0, (((((w.alloc (Obj.cells #[Value.slice none 0 0] 31)).alloc (Obj.cells #[Value.string { data := #[] }] 9)).alloc (Obj.cells #[Value.slice none 0 0] 31)).alloc (Obj.cells #[Value.string s] 9)).alloc (Obj.cells #[Value.string sep] 9)) = W0 := ⟨_, rfl⟩
  rw [hW0, hB]
  have z0 : W0.heap.size = B + 5 := by rw [← hW0]; simp [hB]
  have b0 : Below B w W0 := by
    rw [← hW0, ← hB]
    exact (((((Below.refl _ _).alloc (Nat.le_refl _) _).alloc (by simp) _).alloc (by simp; omega) _).alloc (by simp; omega) _).alloc (by simp; omega) _
  have c0 : Boxed W0 B 31 (.slice none 0 0) := by rw [← hW0, ← hB]; exact ((((Boxed.new w _ _).alloc _).alloc _).alloc _).alloc _
  have c1 : Boxed W0 (B + 1) 9 (.string ⟨#[]⟩) := by
    rw [← hW0, ← hB]; have := Boxed.new (w.alloc (Obj.cells #[Value.slice none 0 0] 31)) 9 (.string ⟨#[]⟩)
    rw [World.size_alloc] at this; exact ((this.alloc _).alloc _).alloc _
  have c2 : Boxed W0 (B + 2) 31 (.slice none 0 0) := by
    rw [← hW0, ← hB]; have := Boxed.new ((w.alloc (Obj.cells #[Value.slice none 0 0] 31)).alloc (Obj.cells #[Value.string { data := #[] }] 9)) 31 (.slice none 0 0)
    rw [World.size_alloc, World.size_alloc] at this; exact (this.alloc _).alloc _
  have c3 : Boxed W0 (B + 3) 9 (.string s) := by
    rw [← hW0, ← hB]; have := Boxed.new (((w.alloc (Obj.cells #[Value.slice none 0 0] 31)).alloc (Obj.cells #[Value.string { data := #[] }] 9)).alloc (Obj.cells #[Value.slice none 0 0] 31)) 9 (.string s)
    rw [World.size_alloc, World.size_alloc, World.size_alloc] at this; exact this.alloc _
  have c4 : Boxed W0 (B + 4) 9 (.string sep) := by
    rw [← hW0, ← hB]; have := Boxed.new ((((w.alloc (Obj.cells #[Value.slice none 0 0] 31)).alloc (Obj.cells #[Value.string { data := #[] }] 9)).alloc (Obj.cells #[Value.slice none 0 0] 31)).alloc (Obj.cells #[Value.string s] 9)) 9 (.string sep)
    rw [World.size_alloc, World.size_alloc, World.size_alloc, World.size_alloc] at this; exact this
  have m0 : W0.cell? ⟨0, 0, none⟩ = some (.int .i64 m) := by
    rw [b0.cell (p := ⟨0, 0, none⟩) (by have := World.block_lt_of_cell? w _ hm; simpa [hB] using this)]; exact hm
  have hB0 : 0 < B := by have := World.block_lt_of_cell? w _ hm; simpa [hB] using this
  clear hW0 he
  refine range_law (B := B + 5) z0 (hg := rfl) enters_pieces (fun _ => rfl) (SplitI s.data.toList sep.data.toList w B) (fun _ _ _ => False) (n := n) (St := StP (B + 3)) (Kp := KpP (B + 3) (B + 4))
    (encs := fun k => #[.string (pieceS s.data.toList sep.data.toList k)]) ?iter ?st ?hI (fun _ _ _ _ h _ => h) ?put (fun _ _ _ _ _ h _ => h) ?kt ?kput ?start
    (fun k => { tmps := #[.string s, .string sep, undef, undef, .pointer (some ⟨B, 0, none⟩), .pointer (some ⟨B + 1, 0, none⟩), .pointer (some ⟨B + 1 + 1, 0, none⟩), .string (pieceS s.data.toList sep.data.toList k), .string sep, .bool false, .string s, .string sep,
      .func (.func 48) #[] #[.pointer (some ⟨B + 1 + 1 + 1, 0, none⟩), .pointer (some ⟨B + 1 + 1 + 1 + 1, 0, none⟩)], .string (pieceS s.data.toList sep.data.toList k), undef, undef, undef, undef, undef, undef, undef, undef], defers := [] }) ?assign ?body ?done (fun _ _ _ _ h _ => h.elim)
  case iter =>
    intro r
    have hr0 : restB s.data.toList sep.data.toList 0 = s := by simp [restB, restL]
    refine pieces_iter s.data.toList sep.data.toList n (B + 3) (B + 4) m _ (by intro h; have : sep.data.toList.length = sep.size := rfl; rw [h] at this; simp at this; omega) hn (by simpa using hs) hf hl ?_ ?_ ?_ (by omega) (by omega)
    · rw [hr0]; exact (c3.alloc _).alloc _
    · exact (c4.alloc _).alloc _
    · rw [(((Below.refl _ W0).alloc (Nat.le_refl _) _).alloc (by simp) _).cell (p := ⟨0, 0, none⟩) (by rw [z0]; simp)]; exact m0
  case st =>
    rintro W W' (⟨v, rfl⟩ | ⟨v, rfl⟩) o
    · exact ⟨fun h => (Below.heap_setCell _ _ _ _ (by simp)).trans h, fun h => (Below.heap_setCell _ _ _ _ (by simp)).trans h⟩
    · exact ⟨fun h => h, fun h => h⟩
  case hI =>
    rintro k W W' ⟨d0, d1, ⟨v, d2, d3⟩, d4, d5⟩ (⟨u, rfl⟩ | ⟨u, rfl⟩)
    · exact ⟨d0.other (by omega) _, d1.other (by omega) _, ⟨v, d2.other (by omega) _, ownsRow_setCell_below d3 (by simp) _⟩, d4.setCell (by simp) _, by simpa [World.setCell] using d5⟩
    · exact ⟨d0, d1, ⟨v, d2, d3⟩, d4.trans ⟨rfl, rfl, rfl, Nat.le_refl _, fun _ _ => rfl⟩, d5⟩
  case put =>
    rintro k W r r0 ⟨d0, d1, ⟨v, d2, d3⟩, d4, d5⟩ hl
    exact ⟨(World.putObj_heap_other (by omega)).trans d0, (World.putObj_heap_other (by omega)).trans d1, ⟨v, (World.putObj_heap_other (by omega)).trans d2, ownsRow_putObj d3 _ hl rfl⟩,
      d4.trans ⟨rfl, rfl, rfl, by simp, fun j hj => World.putObj_heap_other (by omega)⟩, by simpa using d5⟩
  case kt => exact fun X Y Z h1 h2 b hb => (h2 b hb).trans (h1 b hb)
  case kput => exact fun W r r0 _ b hb => World.putObj_heap_other (by omega)
  case start =>
    intro r
    exact ⟨(c0.alloc _).alloc _, (c1.alloc _).alloc _, ⟨_, (c2.alloc _).alloc _, World.ownsRow_nil _ _ _ _⟩, (b0.alloc (by omega) _).alloc (by simp; omega) _, by simp; omega⟩
  case assign =>
    intro l k W K hk hK
    gi_wp2
    exact hK
  case body =>
    rintro l k W hk hl' ⟨d0, d1, ⟨v, d2, d3⟩, d4, d5⟩ hz _
    obtain ⟨a, cap, rfl⟩ : ∃ a cap, v = .slice a k cap := by
      rcases d3.2 with ⟨rfl, rfl⟩ | ⟨g, cap, cur, rfl, _⟩
      · exact ⟨_, _, rfl⟩
      · exact ⟨_, _, rfl⟩
    have q2 := d2.cell
    have hk4 : ((k : Int) == 4096) = false := by rw [beq_eq_false_iff_ne]; omega
    obtain ⟨i0, hi, hz0, hz1, hz2⟩ := info_parts info_s
    gi_wp2_with (gi_at_builtin; refine wpListIn_append_own _ rfl _ _ 31 rfl (B + 7) 9 i0 (.string ⟨#[]⟩) 1 16 Try.underlying31 hi hz0 hz1 hz2 rfl (by decide) _ _ _ rfl (d3.alloc _) ⟨W.heap.size, 0, none⟩ 1 1 [.string (pieceS s.data.toList sep.data.toList k)] rfl rfl (cell_one_new _ _ _) (by simp [Value.oneCell']) (by unfold maxLen; omega) (by omega) (by simp; omega) ?_; intro v' w1 hown' hgrow _; obtain ⟨g', cap', rfl⟩ := ownsRow_succ hown'; obtain ⟨hv1, hv2, hr2, hk2, hb2⟩ := boxed_appended d2 d3 d5 (by omega) hown' hgrow; have hc1 := hv1.cell; have hf1 := hv1.frozen)
    refine ⟨⟨hk2 _ (by omega) (by omega), hk2 _ (by omega) (by omega)⟩, fun b hb => hk2 b (by omega) (by omega), (hk2 _ (by omega) (by omega)).trans d0, (hk2 _ (by omega) (by omega)).trans d1, ⟨_, hv2, ?_⟩, d4.trans (hb2 B (by omega)), Nat.le_trans d5 (hb2 B (by omega)).size⟩
    rw [List.range_succ, List.map_append]; exact hr2
  case done =>
    rintro W ⟨d0, d1, ⟨v, d2, d3⟩, d4, d5⟩ hK
    have q0 := d0.cell
    have f0 := d0.frozen
    have q1 := d1.cell
    have f1 := d1.frozen
    have q2 := d2.cell
    obtain ⟨g, cap, cur, rfl, hg, hcur, hcap, hcm, hsz, htk⟩ : ∃ g cap cur, v = .slice (some ⟨g, 0, none⟩) n cap ∧ B + 7 ≤ g ∧ W.heap[g]? = some (.cells cur 9 (0, 0)) ∧ n ≤ cap ∧ cap ≤ maxLen ∧ cur.size = cap * 1 ∧ cur.toList.take (n * 1) = ((List.range n).map fun j => .string (pieceS s.data.toList sep.data.toList j)) := by
      rcases d3.2 with ⟨rfl, rfl⟩ | ⟨g, cap, cur, h⟩
      · omega
      · exact ⟨g, cap, cur, h⟩
    gi_wp2
    obtain ⟨W2, hW2⟩ : ∃ W2, (W.setCell ⟨B, 0, none⟩ (.slice (some ⟨g, 0, none⟩) n cap)).setCell ⟨B + 1, 0, none⟩ (.string ⟨#[]⟩) = W2 := ⟨_, rfl⟩
    rw [hW2]
    have hs2 : ∀ b, b ≠ B → b ≠ B + 1 → W2.heap[b]? = W.heap[b]? := fun b h1 h2 => by
      rw [← hW2, Below.heap_setCell _ _ _ _ h2, Below.heap_setCell _ _ _ _ h1]
    have e0 : Boxed W2 B 31 (.slice (some ⟨g, 0, none⟩) n cap) := by rw [← hW2]; exact (d0.set _).other (by omega) _
    have e1 : Boxed W2 (B + 1) 9 (.string ⟨#[]⟩) := by rw [← hW2]; exact (d1.other (by omega) _).set _
    have hK2 := (hs2 (B + 5) (by omega) (by omega)).trans hK
    refine ⟨by simp, .inl ⟨_, _, rfl, run_takeDeferred hK2, ?_⟩⟩
    have p0 : Boxed (W2.putObj (B + 5) (.deferred none)) B 31 (.slice (some ⟨g, 0, none⟩) n cap) := (World.putObj_heap_other (by omega)).trans e0
    have p1 : Boxed (W2.putObj (B + 5) (.deferred none)) (B + 1) 9 (.string ⟨#[]⟩) := (World.putObj_heap_other (by omega)).trans e1
    have r0 := p0.cell
    have r1 := p1.cell
    have hsz2 : (W2.putObj (B + 5) (.deferred none)).heap.size = W.heap.size := by rw [World.putObj_size, ← hW2]; simp [World.setCell]
    have hgl := (Array.getElem?_eq_some_iff.1 hcur).1
    have hc2 : (W2.putObj (B + 5) (.deferred none)).heap[g]? = some (.cells cur 9 (0, 0)) := by
      rw [World.putObj_heap_other (by omega), hs2 g (by omega) (by omega)]; exact hcur
    refine ⟨.tuple #[.slice (some ⟨g, 0, none⟩) n cap, .string ⟨#[]⟩], by simp [results, Try.results26, go_sem, r0, r1], g, cap, rfl, ?_, hcap, by omega, by omega, ?_⟩
    · intro j hj
      rw [World.cell?, hc2]
      have : cur.toList[j]? = some (.string (pieceS s.data.toList sep.data.toList j)) := by
        have h1 : (cur.toList.take (n * 1))[j]? = cur.toList[j]? := by rw [List.getElem?_take_of_lt (by omega)]
        rw [← h1, htk]; simp [hj]
      simpa using this
    · rw [hB]
      refine d4.trans ⟨?_, ?_, ?_, by omega, fun b hb => by rw [World.putObj_heap_other (by omega), hs2 b (by omega) (by omega)]⟩ <;> (rw [← hW2]; rfl)
set_option maxHeartbeats 400000 in
theorem split_many (s sep : ByteArray) (n : Nat) (m : Int) (w : World) (hsep : 0 < sep.size) (hn : 0 < n) (hn2 : 4096 < n) (hs : s.size < 4294967281)
    (hf : ∀ k, k + 1 < n → foundS s.data.toList sep.data.toList k = true) (hl : foundS s.data.toList sep.data.toList (n - 1) = false) (hm : w.cell? ⟨0, 0, none⟩ = some (.int .i64 m)) :
    Calls Try.prog 26 #[.string s, .string sep] w (SplitMem w) := by
  have he := isE_of_pos sep hsep
  refine (callsIn_wide (n := 9)).1 ?_
  refine callsIn_of_wp_marks Try.func26 rfl trivial ?_ rfl
  simp only [Try.ntmps26, List.size_toArray, List.length_cons, List.length_nil, Nat.reduceAdd, Nat.reduceSub, Array.replicate_succ, Array.replicate_zero, List.push_toArray, List.append_toArray, List.nil_append, List.cons_append]
  gi_wp2_with fail
  refine ⟨trivial, (callsIn_wide.2 (pieces_i _ _ _)).mono ?_⟩
  rintro e w' ⟨rfl, rfl⟩
  gi_wp2_with fail
  obtain ⟨B, hB⟩ : ∃ B, w.heap.size = B := ⟨_, rfl⟩
  obtain ⟨W0, hW0⟩ : ∃ W0, (((((w.alloc (Obj.cells #[Value.slice none 0 0] 31)).alloc (Obj.cells #[Value.string { data := #[] }] 9)).alloc (Obj.cells #[Value.slice none 0 0] 31)).alloc (Obj.cells #[Value.string s] 9)).alloc (Obj.cells #[Value.string sep] 9)) = W0 := ⟨_, rfl⟩
  rw [hW0, hB]
  have z0 : W0.heap.size = B + 5 := by rw [← hW0]; simp [hB]
  have b0 : Below B w W0 := by
    rw [← hW0, ← hB]
    exact (((((Below.refl _ _).alloc (Nat.le_refl _) _).alloc (by simp) _).alloc (by simp; omega) _).alloc (by simp; omega) _).alloc (by simp; omega) _
  have c0 : Boxed W0 B 31 (.slice none 0 0) := by rw [← hW0, ← hB]; exact ((((Boxed.new w _ _).alloc _).alloc _).alloc _).alloc _
  have c1 : Boxed W0 (B + 1) 9 (.string ⟨#[]⟩) := by
    rw [← hW0, ← hB]; have := Boxed.new (w.alloc (Obj.cells #[Value.slice none 0 0] 31)) 9 (.string ⟨#[]⟩)
    rw [World.size_alloc] at this; exact ((this.alloc _).alloc _).alloc _
  have c2 : Boxed W0 (B + 2) 31 (.slice none 0 0) := by
    rw [← hW0, ← hB]; have := Boxed.new ((w.alloc (Obj.cells #[Value.slice none 0 0] 31)).alloc (Obj.cells #[Value.string { data := #[] }] 9)) 31 (.slice none 0 0)
    rw [World.size_alloc, World.size_alloc] at this; exact (this.alloc _).alloc _
  have c3 : Boxed W0 (B + 3) 9 (.string s) := by
    rw [← hW0, ← hB]; have := Boxed.new (((w.alloc (Obj.cells #[Value.slice none 0 0] 31)).alloc (Obj.cells #[Value.string { data := #[] }] 9)).alloc (Obj.cells #[Value.slice none 0 0] 31)) 9 (.string s)
    rw [World.size_alloc, World.size_alloc, World.size_alloc] at this; exact this.alloc _
  have c4 : Boxed W0 (B + 4) 9 (.string sep) := by
    rw [← hW0, ← hB]; have := Boxed.new ((((w.alloc (Obj.cells #[Value.slice none 0 0] 31)).alloc (Obj.cells #[Value.string { data := #[] }] 9)).alloc (Obj.cells #[Value.slice none 0 0] 31)).alloc (Obj.cells #[Value.string s] 9)) 9 (.string sep)
    rw [World.size_alloc, World.size_alloc, World.size_alloc, World.size_alloc] at this; exact this
  have m0 : W0.cell? ⟨0, 0, none⟩ = some (.int .i64 m) := by
    rw [b0.cell (p := ⟨0, 0, none⟩) (by have := World.block_lt_of_cell? w _ hm; simpa [hB] using this)]; exact hm
  have hB0 : 0 < B := by have := World.block_lt_of_cell? w _ hm; simpa [hB] using this
  clear hW0 he
  refine range_law (B := B + 5) z0 (hg := rfl) enters_pieces (fun _ => rfl) (fun k W => SplitI s.data.toList sep.data.toList w B k W ∧ k ≤ 4096) (fun c _ W => SplitX w B c W) (n := n) (St := StP (B + 3)) (Kp := KpP (B + 3) (B + 4))
    (encs := fun k => #[.string (pieceS s.data.toList sep.data.toList k)]) ?iter ?st ?hI ?hIx ?put ?putx ?kt ?kput ?start
    (fun k => { tmps := #[.string s, .string sep, undef, undef, .pointer (some ⟨B, 0, none⟩), .pointer (some ⟨B + 1, 0, none⟩), .pointer (some ⟨B + 1 + 1, 0, none⟩), .string (pieceS s.data.toList sep.data.toList k), .string sep, .bool false, .string s, .string sep,
      .func (.func 48) #[] #[.pointer (some ⟨B + 1 + 1 + 1, 0, none⟩), .pointer (some ⟨B + 1 + 1 + 1 + 1, 0, none⟩)], .string (pieceS s.data.toList sep.data.toList k), undef, undef, undef, undef, undef, undef, undef, undef], defers := [] }) ?assign ?body ?done ?stop
  case iter =>
    intro r
    have hr0 : restB s.data.toList sep.data.toList 0 = s := by simp [restB, restL]
    refine pieces_iter s.data.toList sep.data.toList n (B + 3) (B + 4) m _ (by intro h; have : sep.data.toList.length = sep.size := rfl; rw [h] at this; simp at this; omega) hn (by simpa using hs) hf hl ?_ ?_ ?_ (by omega) (by omega)
    · rw [hr0]; exact (c3.alloc _).alloc _
    · exact (c4.alloc _).alloc _
    · rw [(((Below.refl _ W0).alloc (Nat.le_refl _) _).alloc (by simp) _).cell (p := ⟨0, 0, none⟩) (by rw [z0]; simp)]; exact m0
  case st =>
    rintro W W' (⟨v, rfl⟩ | ⟨v, rfl⟩) o
    · exact ⟨fun h => (Below.heap_setCell _ _ _ _ (by simp)).trans h, fun h => (Below.heap_setCell _ _ _ _ (by simp)).trans h⟩
    · exact ⟨fun h => h, fun h => h⟩
  case hI =>
    rintro k W W' ⟨⟨d0, d1, ⟨v, d2, d3⟩, d4, d5⟩, d6⟩ (⟨u, rfl⟩ | ⟨u, rfl⟩)
    · exact ⟨⟨d0.other (by omega) _, d1.other (by omega) _, ⟨v, d2.other (by omega) _, ownsRow_setCell_below d3 (by simp) _⟩, d4.setCell (by simp) _, by simpa [World.setCell] using d5⟩, d6⟩
    · exact ⟨⟨d0, d1, ⟨v, d2, d3⟩, d4.trans ⟨rfl, rfl, rfl, Nat.le_refl _, fun _ _ => rfl⟩, d5⟩, d6⟩
  case hIx =>
    rintro c k W W' ⟨hc, d0, d1, d4, d5⟩ (⟨u, rfl⟩ | ⟨u, rfl⟩)
    · exact ⟨hc, d0.other (by omega) _, d1.other (by omega) _, d4.setCell (by simp) _, by simpa [World.setCell] using d5⟩
    · exact ⟨hc, d0, d1, d4.trans ⟨rfl, rfl, rfl, Nat.le_refl _, fun _ _ => rfl⟩, d5⟩
  case put =>
    rintro k W r r0 ⟨⟨d0, d1, ⟨v, d2, d3⟩, d4, d5⟩, d6⟩ hl
    exact ⟨⟨(World.putObj_heap_other (by omega)).trans d0, (World.putObj_heap_other (by omega)).trans d1, ⟨v, (World.putObj_heap_other (by omega)).trans d2, ownsRow_putObj d3 _ hl rfl⟩,
      d4.trans ⟨rfl, rfl, rfl, by simp, fun j hj => World.putObj_heap_other (by omega)⟩, by simpa using d5⟩, d6⟩
  case putx =>
    rintro c k W r r0 ⟨hc, d0, d1, d4, d5⟩ hl
    exact ⟨hc, (World.putObj_heap_other (by omega)).trans d0, (World.putObj_heap_other (by omega)).trans d1,
      d4.trans ⟨rfl, rfl, rfl, by simp, fun j hj => World.putObj_heap_other (by omega)⟩, by simpa using d5⟩
  case kt => exact fun X Y Z h1 h2 b hb => (h2 b hb).trans (h1 b hb)
  case kput => exact fun W r r0 _ b hb => World.putObj_heap_other (by omega)
  case start =>
    intro r
    exact ⟨⟨(c0.alloc _).alloc _, (c1.alloc _).alloc _, ⟨_, (c2.alloc _).alloc _, World.ownsRow_nil _ _ _ _⟩, (b0.alloc (by omega) _).alloc (by simp; omega) _, by simp; omega⟩, by omega⟩
  case assign =>
    intro l k W K hk hK
    gi_wp2
    exact hK
  case body =>
    rintro l k W hk hl' ⟨⟨d0, d1, ⟨v, d2, d3⟩, d4, d5⟩, d6⟩ hz _
    obtain ⟨a, cap, rfl⟩ : ∃ a cap, v = .slice a k cap := by
      rcases d3.2 with ⟨rfl, rfl⟩ | ⟨g, cap, cur, rfl, _⟩
      · exact ⟨_, _, rfl⟩
      · exact ⟨_, _, rfl⟩
    have q2 := d2.cell
    have q0 := d0.cell
    have f0 := d0.frozen
    have q1 := d1.cell
    have f1 := d1.frozen
    by_cases h46 : k = 4096
    · have hk4 : ((k : Int) == 4096) = true := by rw [beq_iff_eq]; omega
      clear h46
      gi_wp2
      refine ⟨⟨?_, ?_⟩, rfl, ?_, ?_, ?_, ?_⟩
      · rw [Below.heap_setCell _ _ _ _ (show B + 5 ≠ B + 1 by omega), Below.heap_setCell _ _ _ _ (show B + 5 ≠ B by omega)]
      · rw [Below.heap_setCell _ _ _ _ (show B + 5 + 1 ≠ B + 1 by omega), Below.heap_setCell _ _ _ _ (show B + 5 + 1 ≠ B by omega)]
      · exact (d0.set _).other (by omega) _
      · exact (d1.other (by omega) _).set _
      · exact (d4.setCell (by simp) _).setCell (by simp) _
      · simpa [World.setCell] using d5
    have hk4 : ((k : Int) == 4096) = false := by rw [beq_eq_false_iff_ne]; omega
    obtain ⟨i0, hi, hz0, hz1, hz2⟩ := info_parts info_s
    gi_wp2_with (gi_at_builtin; refine wpListIn_append_own _ rfl _ _ 31 rfl (B + 7) 9 i0 (.string ⟨#[]⟩) 1 16 Try.underlying31 hi hz0 hz1 hz2 rfl (by decide) _ _ _ rfl (d3.alloc _) ⟨W.heap.size, 0, none⟩ 1 1 [.string (pieceS s.data.toList sep.data.toList k)] rfl rfl (cell_one_new _ _ _) (by simp [Value.oneCell']) (by unfold maxLen; omega) (by omega) (by simp; omega) ?_; intro v' w1 hown' hgrow _; obtain ⟨g', cap', rfl⟩ := ownsRow_succ hown'; obtain ⟨hv1, hv2, hr2, hk2, hb2⟩ := boxed_appended d2 d3 d5 (by omega) hown' hgrow; have hc1 := hv1.cell; have hf1 := hv1.frozen)
    refine ⟨⟨hk2 _ (by omega) (by omega), hk2 _ (by omega) (by omega)⟩, fun b hb => hk2 b (by omega) (by omega), ⟨(hk2 _ (by omega) (by omega)).trans d0, (hk2 _ (by omega) (by omega)).trans d1, ⟨_, hv2, ?_⟩, d4.trans (hb2 B (by omega)), Nat.le_trans d5 (hb2 B (by omega)).size⟩, by omega⟩
    rw [List.range_succ, List.map_append]; exact hr2
  case done =>
    rintro W ⟨_, d6⟩ hK
    omega
  case stop =>
    rintro c k W _ ⟨rfl, d0, d1, d4, d5⟩ hK
    gi_wp2
    refine ⟨by simp, .inl ⟨_, _, rfl, run_takeDeferred hK, ?_⟩⟩
    have p0 : Boxed (W.putObj (B + 5) (.deferred none)) B 31 (.slice none 0 0) := (World.putObj_heap_other (by omega)).trans d0
    have p1 : Boxed (W.putObj (B + 5) (.deferred none)) (B + 1) 9 (.string ⟨#[77, 101, 109, 111, 114, 121, 69, 114, 114, 111, 114]⟩) := (World.putObj_heap_other (by omega)).trans d1
    have r0 := p0.cell
    have r1 := p1.cell
    refine ⟨.tuple #[.slice none 0 0, .string ⟨#[77, 101, 109, 111, 114, 121, 69, 114, 114, 111, 114]⟩], by simp [results, Try.results26, go_sem, r0, r1], rfl, ?_⟩
    rw [hB]
    exact d4.trans ⟨rfl, rfl, rfl, by simp, fun b hb => World.putObj_heap_other (by omega)⟩

set_option maxHeartbeats 400000 in
theorem split_empty (s sep : ByteArray) (w : World) (hsep : sep.size = 0) :
    Calls Try.prog 26 #[.string s, .string sep] w fun e w' => e = .returned (.tuple #[.slice none 0 0, .string ⟨#[86, 97, 108, 117, 101, 69, 114, 114, 111, 114]⟩]) ∧ Below w.heap.size w w' := by
  have he := isE_of_zero sep hsep
  refine (callsIn_wide (n := 9)).1 ?_
  refine callsIn_of_wp_marks Try.func26 rfl trivial ?_ rfl
  simp only [Try.ntmps26, List.size_toArray, List.length_cons, List.length_nil, Nat.reduceAdd, Nat.reduceSub, Array.replicate_succ, Array.replicate_zero, List.push_toArray, List.append_toArray, List.nil_append, List.cons_append]
  gi_wp2
  refine ⟨.tuple #[.slice none 0 0, .string ⟨#[86, 97, 108, 117, 101, 69, 114, 114, 111, 114]⟩], by simp [results, Try.results26, go_sem], rfl, ?_⟩
  exact ((Below.refl _ _).alloc (Nat.le_refl _) _).alloc (by simp) _
end Go.Proofs.Ytilmhlblilmcfaa
