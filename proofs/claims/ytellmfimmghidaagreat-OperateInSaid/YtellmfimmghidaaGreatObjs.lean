/- ch 16: objects as they come in. -/
import Derived.Test.YtellmfimmghidaaGreatRows3
import Derived.Test.YtellmfimmghidaaGreatOpen
import Derived.Test.YtellmfimmghidaaGreatPairs14
namespace Go.Proofs.YtellmfimmghidaaGreat
set_option linter.unusedSimpArgs false
open Go.ChangeShapes Go.WideShapes Go.ChangeAt Go.RowKit
set_option linter.unusedVariables false
/-- An object as it comes in: its kind, and the slices of its items and pairs, with what they hold. -/
structure ObjI where
  kind : Int
  iv : Value
  pv : Value
  items : List V
  pairs : List (V × V)
def ObjI.cells (p : ObjI) : List Value := [.int .u8 p.kind, p.iv, p.pv]
theorem ObjI.cells_len (p : ObjI) : p.cells.length = 3 := rfl
def ObjI.In (w : World) (p : ObjI) : Prop := (Lit.int .u8 p.kind).wf = true ∧ SeesV w p.iv p.items ∧ SeesR pairC 6 w p.pv p.pairs
/-- A row of them. -/
def SeesO (w : World) (sv : Value) (l : List ObjI) : Prop := SeesR ObjI.cells 3 w sv l ∧ ∀ p ∈ l, p.In w
theorem ObjI.In.below {w W : World} {p : ObjI} (h : p.In w) (b : Below w.heap.size w W) : p.In W := by
  refine ⟨h.1, ?_, h.2.2.keep fun p v hp => cellBelow hp b⟩
  obtain ⟨a, c, h1, h2, h3, h4⟩ := h.2.1
  refine ⟨a, c, h1, h2, h3, ?_⟩
  rcases h4 with h4 | ⟨g, o, h5, h6⟩
  · exact .inl h4
  · exact .inr ⟨g, o, h5, fun i v hv => by obtain ⟨c0, c1, c2⟩ := h6 i v hv; exact ⟨cellBelow c0 b, cellBelow c1 b, cellBelow c2 b⟩⟩
theorem SeesO.below {w W : World} {sv : Value} {l : List ObjI} (h : SeesO w sv l) (b : Below w.heap.size w W) : SeesO W sv l :=
  ⟨h.1.keep fun p v hp => cellBelow hp b, fun p hp => (h.2 p hp).below b⟩
section
variable {H : Type} {enc : TypeId × Value → H} {w : World} {base : Nat} {spare : Nat → Bool} {held : Bool}
theorem cellsO : Tryz.prog.cellsOf 116 = 3 ∧ Tryz.prog.cellsOf 5 = 1 ∧ Tryz.prog.cellsOf 22 = 1 ∧ Tryz.prog.cellsOf 114 = 1 := ⟨by kernel_rfl, by kernel_rfl, by kernel_rfl, by kernel_rfl⟩
set_option maxRecDepth 100000 in
theorem obj_of_trod {n : Nat} {cs : List Value} {y : DataW H × List MemPlace} (h : DataW.trod enc Tryz.prog w base spare held n 116 cs = some y) : ∃ p : ObjI, cs = p.cells ∧ p.In w := by
  obtain ⟨xs, n', _, hx, hlen, hxl, hf⟩ := DataW.trod_struct Tryz.underlying116 h
  rw [cellsO.1] at hlen
  match cs, hlen with
  | [c0, c1, c2], _ =>
    match xs, hxl with
    | [y0, y1, y2], _ =>
      have h0 : DataW.trod enc Tryz.prog w base spare held n' 5 [c0] = some y0 := by have := hf 0 _ rfl; simpa [cellsO.2.1] using this
      have h1 : DataW.trod enc Tryz.prog w base spare held n' 22 [c1] = some y1 := by have := hf 1 _ rfl; simpa [cellsO.2.2.1, cellsO.2.1] using this
      have h2 : DataW.trod enc Tryz.prog w base spare held n' 114 [c2] = some y2 := by have := hf 2 _ rfl; simpa [cellsO.2.2.2, cellsO.2.2.1, cellsO.2.1] using this
      obtain ⟨k, e0, _, hk⟩ := DataW.trod_int Tryz.underlying5 h0
      simp only [List.cons.injEq, and_true] at e0
      obtain ⟨l1, s1, _⟩ := open_vals h1
      obtain ⟨l2, s2⟩ := open_pairs h2
      exact ⟨⟨k, c1, c2, l1, l2⟩, by rw [e0]; rfl, hk, s1, s2⟩
instance : Inhabited ObjI := ⟨⟨0, .slice none 0 0, .slice none 0 0, [], []⟩⟩
set_option maxRecDepth 100000 in
theorem open_objs {fuel : Nat} {v : Value} {x : DataW H × List MemPlace} (h : DataW.trod enc Tryz.prog w base spare held fuel 53 [v] = some x) : ∃ l : List ObjI, SeesO w v l := by
  rcases Deep.open_slice Tryz.underlying53 h with ⟨h0, _⟩ | ⟨a, len, cap, m, n, D, Pl, hcs, hb, hl, hm, hmm, hx, hi⟩
  · simp only [List.cons.injEq, and_true] at h0
    subst h0
    exact ⟨[], ⟨none, 0, rfl, by simp, by simp, .inl rfl⟩, by simp⟩
  · simp only [List.cons.injEq, and_true] at hcs
    subst hcs
    have hlm : len ≤ m := by rw [hmm]; split <;> omega
    rw [cellsO.1] at hi
    obtain ⟨f, hf⟩ : ∃ f : Nat → ObjI, ∀ i, i < len → (∀ j, j < 3 → w.cell? (a.add (i * 3 + j)) = (f i).cells[j]?) ∧ (f i).In w :=
      Deep.choose_lt (α := ObjI) (p := fun i v => (∀ j, j < 3 → w.cell? (a.add (i * 3 + j)) = v.cells[j]?) ∧ v.In w) (fun i hil => by
        obtain ⟨cs, h1, h2⟩ := hi i (by omega)
        obtain ⟨v, rfl, hv⟩ := obj_of_trod h2
        obtain ⟨_, _, h3⟩ := World.cells?_some h1
        exact ⟨v, fun j hj => by rw [← Deep.add_add]; exact h3 j hj, hv⟩)
    have hlen : ((List.range len).map f).length = len := by simp
    obtain ⟨g, o, spot⟩ := a
    refine ⟨(List.range len).map f, ⟨some ⟨g, o, spot⟩, cap, by rw [hlen], by rw [hlen]; exact hl, hm, ?_⟩, fun p hp => ?_⟩
    · rcases Nat.eq_zero_or_pos len with h0 | h0
      · left; subst h0; rfl
      · right
        have hs : spot = none := by
          have := (hf 0 h0).1 0 (by omega)
          have h9 : w.cell? (Addr.add ⟨g, o, spot⟩ 0) = some (.int .u8 (f 0).kind) := by simpa [ObjI.cells] using this
          simpa [Addr.add] using World.cell?_spot h9
        subst hs
        refine ⟨g, o, rfl, fun i v hv j u hu => ?_⟩
        have hil : i < len := by have := (List.getElem?_eq_some_iff.1 hv).1; rwa [hlen] at this
        have hv' : f i = v := by rw [List.getElem?_map, List.getElem?_range hil] at hv; exact Option.some.inj hv
        subst hv'
        have hadd : ∀ j, (⟨g, o, none⟩ : Addr).add j = ⟨g, o + j, none⟩ := fun j => by unfold Addr.add; split <;> simp_all
        have hj : j < 3 := by have := (List.getElem?_eq_some_iff.1 hu).1; rwa [ObjI.cells_len] at this
        have k0 := (hf i hil).1 j hj
        rw [hadd, ← Nat.add_assoc, hu] at k0
        exact k0
    · obtain ⟨i, hi, rfl⟩ := List.mem_map.1 hp
      exact (hf i (List.mem_range.1 hi)).2
end
end Go.Proofs.YtellmfimmghidaaGreat
