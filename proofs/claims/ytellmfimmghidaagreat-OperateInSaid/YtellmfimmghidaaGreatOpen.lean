/- A law's arguments: rows of values, values. -/
import Derived.Test.YtellmfimmghidaaGreatKeptA
import Derived.Test.YtellmfimmghidaaGreatFrame
import Derived.Deep.Slices
namespace Go.Proofs.YtellmfimmghidaaGreat
set_option linter.unusedSimpArgs false
open Go.ChangeShapes Go.WideShapes Go.ChangeAt Go.RowKit
set_option linter.unusedVariables false
section
variable {H : Type} {enc : TypeId × Value → H} {w : World} {base : Nat} {spare : Nat → Bool} {held : Bool}
theorem cells1 : Tryz.prog.cellsOf 3 = 1 ∧ Tryz.prog.cellsOf 2 = 1 ∧ Tryz.prog.cellsOf 9 = 1 ∧ Tryz.prog.cellsOf 29 = 3 := ⟨by kernel_rfl, by kernel_rfl, by kernel_rfl, by kernel_rfl⟩
instance : Inhabited V := ⟨V.zero⟩
set_option maxRecDepth 100000 in
theorem val_of_trod {n : Nat} {cs : List Value} {y : DataW H × List MemPlace} (h : DataW.trod enc Tryz.prog w base spare held n 29 cs = some y) : ∃ v : V, cs = v.cells := by
  obtain ⟨xs, n', _, hx, hlen, hxl, hf⟩ := DataW.trod_struct Tryz.underlying29 h
  rw [cells1.2.2.2] at hlen
  match cs, hlen with
  | [c0, c1, c2], _ =>
    match xs, hxl with
    | [y0, y1, y2], _ =>
      have h0 : DataW.trod enc Tryz.prog w base spare held n' 3 [c0] = some y0 := by have := hf 0 _ rfl; simpa [cells1.1] using this
      have h1 : DataW.trod enc Tryz.prog w base spare held n' 2 [c1] = some y1 := by have := hf 1 _ rfl; simpa [cells1.2.1] using this
      have h2 : DataW.trod enc Tryz.prog w base spare held n' 9 [c2] = some y2 := by have := hf 2 _ rfl; simpa [cells1.2.2.1] using this
      obtain ⟨k, e0, _, hk⟩ := DataW.trod_int Tryz.underlying3 h0
      obtain ⟨m, e1, _, hm⟩ := DataW.trod_int Tryz.underlying2 h1
      obtain ⟨s, e2, _, hs⟩ := DataW.trod_string Tryz.underlying9 h2
      simp only [List.cons.injEq, and_true] at e0 e1 e2
      exact ⟨⟨k, m, s, hk, hm, hs⟩, by rw [e0, e1, e2]; rfl⟩
/-- A row of values that came in. -/
theorem open_vals {fuel : Nat} {v : Value} {x : DataW H × List MemPlace} (h : DataW.trod enc Tryz.prog w base spare held fuel 22 [v] = some x) : ∃ l : List V, SeesV w v l ∧ Arg w [] v := by
  rcases Deep.open_slice Tryz.underlying22 h with ⟨h0, _⟩ | ⟨a, len, cap, m, n, D, Pl, hcs, hb, hl, hm, hmm, hx, hi⟩
  · simp only [List.cons.injEq, and_true] at h0
    subst h0
    exact ⟨[], ⟨none, 0, rfl, by simp, by simp, .inl rfl⟩, fun g o n c e => by cases e⟩
  · simp only [List.cons.injEq, and_true] at hcs
    subst hcs
    have hlm : len ≤ m := by rw [hmm]; split <;> omega
    rw [cells1.2.2.2] at hi
    obtain ⟨f, hf⟩ : ∃ f : Nat → V, ∀ i, i < len → ∀ j, j < 3 → w.cell? (a.add (i * 3 + j)) = (f i).cells[j]? :=
      Deep.choose_lt (α := V) (p := fun i v => ∀ j, j < 3 → w.cell? (a.add (i * 3 + j)) = v.cells[j]?) (fun i hil => by
        obtain ⟨cs, h1, h2⟩ := hi i (by omega)
        obtain ⟨v, rfl⟩ := val_of_trod h2
        obtain ⟨_, _, h3⟩ := World.cells?_some h1
        exact ⟨v, fun j hj => by rw [← Deep.add_add]; exact h3 j hj⟩)
    have hlen : ((List.range len).map f).length = len := by simp
    obtain ⟨g, o, spot⟩ := a
    refine ⟨(List.range len).map f, ⟨some ⟨g, o, spot⟩, cap, by rw [hlen], by rw [hlen]; exact hl, hm, ?_⟩, fun g' o' n' c' e h0 => ?_⟩
    · rcases Nat.eq_zero_or_pos len with h0 | h0
      · left; subst h0; rfl
      · right
        have hs : spot = none := by
          have := hf 0 h0 0 (by omega)
          have h9 : w.cell? (Addr.add ⟨g, o, spot⟩ 0) = some (.int .i64 (f 0).kind) := by simpa [V.cells] using this
          simpa [Addr.add] using World.cell?_spot h9
        subst hs
        refine ⟨g, o, rfl, fun i v hv => ?_⟩
        have hil : i < len := by have := (List.getElem?_eq_some_iff.1 hv).1; rwa [hlen] at this
        have hv' : f i = v := by rw [List.getElem?_map, List.getElem?_range hil] at hv; exact Option.some.inj hv
        subst hv'
        have hadd : ∀ j, (⟨g, o, none⟩ : Addr).add j = ⟨g, o + j, none⟩ := fun j => by unfold Addr.add; split <;> simp_all
        have k0 := hf i hil 0 (by omega)
        have k1 := hf i hil 1 (by omega)
        have k2 := hf i hil 2 (by omega)
        rw [hadd] at k0 k1 k2
        exact ⟨k0, k1, k2⟩
    · cases e
      have := hf 0 h0 0 (by omega)
      have h9 : w.cell? (Addr.add ⟨g, o, none⟩ 0) = some (.int .i64 (f 0).kind) := by simpa [V.cells] using this
      exact .inl (by simpa [Addr.add] using World.block_lt_of_cell? w _ h9)
end
end Go.Proofs.YtellmfimmghidaaGreat
