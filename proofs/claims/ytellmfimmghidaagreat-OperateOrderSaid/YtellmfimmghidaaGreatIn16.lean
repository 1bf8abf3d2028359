/- ch 16: what comes in. -/
import Derived.Test.YtellmfimmghidaaGreatFrame
import Derived.Test.YtellmfimmghidaaGreatOpen
namespace Go.Proofs.YtellmfimmghidaaGreat
set_option linter.unusedSimpArgs false
open Go.RowKit
set_option linter.unusedVariables false
theorem okWide_array {P : Program} {w : World} {r : Reach} {base : Nat} {t e : TypeId} {n : Nat} {v : Value} (ht : P.underlying t = some (.array n e)) (h : Value.okWide P w r base t v) : ∃ cs, v = .agg cs ∧ cs.size = P.cellsOf t := by
  simp only [Value.okWide, ht] at h
  obtain ⟨cs, h1, h2, _⟩ := h
  exact ⟨cs, h1, h2⟩
section
variable {HT : Type} {enc : TypeId × Value → HT} {w : World} {base : Nat} {spare : Nat → Bool} {held : Bool}
set_option maxRecDepth 100000 in
theorem ints2_of_trod {n : Nat} {cs : List Value} {y : DataW HT × List MemPlace} (h : DataW.trod enc Tryz.prog w base spare held n 26 cs = some y) : ∃ k0 k1 : Int, cs = [.int .i64 k0, .int .i64 k1] ∧ (Lit.int .i64 k0).wf = true ∧ (Lit.int .i64 k1).wf = true := by
  obtain ⟨xs, n', _, hx, hlen, hxl, hf⟩ := DataW.trod_array Tryz.underlying26 h
  have hc : Tryz.prog.cellsOf 26 = 2 ∧ Tryz.prog.cellsOf 2 = 1 := ⟨by kernel_rfl, by kernel_rfl⟩
  rw [hc.1] at hlen
  match cs, hlen with
  | [c0, c1], _ =>
    match xs, hxl with
    | [y0, y1], _ =>
      have h0 : DataW.trod enc Tryz.prog w base spare held n' 2 [c0] = some y0 := by have := hf 0 (by omega); simpa [hc.2] using this
      have h1 : DataW.trod enc Tryz.prog w base spare held n' 2 [c1] = some y1 := by have := hf 1 (by omega); simpa [hc.2] using this
      obtain ⟨k0, e0, _, a0⟩ := DataW.trod_int Tryz.underlying2 h0
      obtain ⟨k1, e1, _, a1⟩ := DataW.trod_int Tryz.underlying2 h1
      simp only [List.cons.injEq, and_true] at e0 e1
      exact ⟨k0, k1, by rw [e0, e1], a0, a1⟩
set_option maxRecDepth 100000 in
theorem strs2_of_trod {n : Nat} {cs : List Value} {y : DataW HT × List MemPlace} (h : DataW.trod enc Tryz.prog w base spare held n 27 cs = some y) : ∃ s0 s1 : ByteArray, cs = [.string s0, .string s1] ∧ s0.size ≤ maxLen ∧ s1.size ≤ maxLen := by
  obtain ⟨xs, n', _, hx, hlen, hxl, hf⟩ := DataW.trod_array Tryz.underlying27 h
  have hc : Tryz.prog.cellsOf 27 = 2 ∧ Tryz.prog.cellsOf 9 = 1 := ⟨by kernel_rfl, by kernel_rfl⟩
  rw [hc.1] at hlen
  match cs, hlen with
  | [c0, c1], _ =>
    match xs, hxl with
    | [y0, y1], _ =>
      have h0 : DataW.trod enc Tryz.prog w base spare held n' 9 [c0] = some y0 := by have := hf 0 (by omega); simpa [hc.2] using this
      have h1 : DataW.trod enc Tryz.prog w base spare held n' 9 [c1] = some y1 := by have := hf 1 (by omega); simpa [hc.2] using this
      obtain ⟨k0, e0, _, a0⟩ := DataW.trod_string Tryz.underlying9 h0
      obtain ⟨k1, e1, _, a1⟩ := DataW.trod_string Tryz.underlying9 h1
      simp only [List.cons.injEq, and_true] at e0 e1
      exact ⟨k0, k1, by rw [e0, e1], a0, a1⟩
end
end Go.Proofs.YtellmfimmghidaaGreat
