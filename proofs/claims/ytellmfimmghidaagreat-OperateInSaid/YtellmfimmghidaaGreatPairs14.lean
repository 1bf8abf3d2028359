/- Pairs of values as they come in. -/
import Derived.Test.YtellmfimmghidaaGreatRows3
import Derived.Test.YtellmfimmghidaaGreatOpen
namespace Go.Proofs.YtellmfimmghidaaGreat
set_option linter.unusedSimpArgs false
open Go.ChangeShapes Go.WideShapes Go.ChangeAt Go.RowKit
set_option linter.unusedVariables false
def pairC (p : V × V) : List Value := p.1.cells ++ p.2.cells
theorem pairC_len (p : V × V) : (pairC p).length = 6 := rfl
section
variable {H : Type} {enc : TypeId × Value → H} {w : World} {base : Nat} {spare : Nat → Bool} {held : Bool}
theorem cellsP : Tryz.prog.cellsOf 34 = 6 := by kernel_rfl
set_option maxRecDepth 100000 in
theorem pair_of_trod {n : Nat} {cs : List Value} {y : DataW H × List MemPlace} (h : DataW.trod enc Tryz.prog w base spare held n 34 cs = some y) : ∃ p : V × V, cs = pairC p := by
  obtain ⟨xs, n', _, hx, hlen, hxl, hf⟩ := DataW.trod_array Tryz.underlying34 h
  rw [cellsP] at hlen
  match cs, hlen with
  | [c0, c1, c2, c3, c4, c5], _ =>
    match xs, hxl with
    | [y0, y1], _ =>
      have h0 : DataW.trod enc Tryz.prog w base spare held n' 29 [c0, c1, c2] = some y0 := by have := hf 0 (by omega); simpa [cells1.2.2.2] using this
      have h1 : DataW.trod enc Tryz.prog w base spare held n' 29 [c3, c4, c5] = some y1 := by have := hf 1 (by omega); simpa [cells1.2.2.2] using this
      obtain ⟨v0, e0⟩ := val_of_trod h0
      obtain ⟨v1, e1⟩ := val_of_trod h1
      exact ⟨(v0, v1), by show [c0, c1, c2] ++ [c3, c4, c5] = _; rw [e0, e1]; rfl⟩
instance : Inhabited (V × V) := ⟨(V.zero, V.zero)⟩
set_option maxRecDepth 100000 in
theorem open_pairs {fuel : Nat} {v : Value} {x : DataW H × List MemPlace} (h : DataW.trod enc Tryz.prog w base spare held fuel 114 [v] = some x) : ∃ l : List (V × V), SeesR pairC 6 w v l := by
  rcases Deep.open_slice Tryz.underlying114 h with ⟨h0, _⟩ | ⟨a, len, cap, m, n, D, Pl, hcs, hb, hl, hm, hmm, hx, hi⟩
  · simp only [List.cons.injEq, and_true] at h0
    subst h0
    exact ⟨[], ⟨none, 0, rfl, by simp, by simp, .inl rfl⟩⟩
  · simp only [List.cons.injEq, and_true] at hcs
    subst hcs
    have hlm : len ≤ m := by rw [hmm]; split <;> omega
    rw [cellsP] at hi
    obtain ⟨f, hf⟩ : ∃ f : Nat → V × V, ∀ i, i < len → ∀ j, j < 6 → w.cell? (a.add (i * 6 + j)) = (pairC (f i))[j]? :=
      Deep.choose_lt (α := V × V) (p := fun i v => ∀ j, j < 6 → w.cell? (a.add (i * 6 + j)) = (pairC v)[j]?) (fun i hil => by
        obtain ⟨cs, h1, h2⟩ := hi i (by omega)
        obtain ⟨v, rfl⟩ := pair_of_trod h2
        obtain ⟨_, _, h3⟩ := World.cells?_some h1
        exact ⟨v, fun j hj => by rw [← Deep.add_add]; exact h3 j hj⟩)
    have hlen : ((List.range len).map f).length = len := by simp
    obtain ⟨g, o, spot⟩ := a
    refine ⟨(List.range len).map f, ⟨some ⟨g, o, spot⟩, cap, by rw [hlen], by rw [hlen]; exact hl, hm, ?_⟩⟩
    rcases Nat.eq_zero_or_pos len with h0 | h0
    · left; subst h0; rfl
    · right
      have hs : spot = none := by
        have := hf 0 h0 0 (by omega)
        have h9 : w.cell? (Addr.add ⟨g, o, spot⟩ 0) = some (.int .i64 (f 0).1.kind) := by simpa [pairC, V.cells] using this
        simpa [Addr.add] using World.cell?_spot h9
      subst hs
      refine ⟨g, o, rfl, fun i v hv j u hu => ?_⟩
      have hil : i < len := by have := (List.getElem?_eq_some_iff.1 hv).1; rwa [hlen] at this
      have hv' : f i = v := by rw [List.getElem?_map, List.getElem?_range hil] at hv; exact Option.some.inj hv
      subst hv'
      have hadd : ∀ j, (⟨g, o, none⟩ : Addr).add j = ⟨g, o + j, none⟩ := fun j => by unfold Addr.add; split <;> simp_all
      have hj : j < 6 := by have := (List.getElem?_eq_some_iff.1 hu).1; rwa [pairC_len] at this
      have k0 := hf i hil j hj
      rw [hadd, ← Nat.add_assoc, hu] at k0
      exact k0
end
end Go.Proofs.YtellmfimmghidaaGreat
