import Derived.Test.YtellmfimmghidaaGreatOperM
import Derived.Test.YtellmfimmghidaaGreatRows3
import Derived.Test.YtellmfimmghidaaGreatFrame
import Derived.Test.YtellmfimmghidaaGreatOpen
/- ch 16: the laws' own small functions. -/
namespace Go.Proofs.YtellmfimmghidaaGreat
set_option linter.unusedSimpArgs false
open Go.RowKit
set_option linter.unusedVariables false
theorem lnum_ok (W : World) (n : Int) : Calls Tryz.prog 16 #[.int .i64 n] W fun e W' => e = .returned (.agg #[.int .i64 2, .int .i64 n, .string ⟨#[]⟩]) ∧ Below W.heap.size W W' := by
  go_enter Tryz.func16, Tryz.ntmps16
  go_wp2
  exact bodyPost_ret (v := .agg #[.int .i64 2, .int .i64 n, .string ⟨#[]⟩]) (by simp [results, Tryz.results16, go_sem]) rfl ⟨rfl, by (repeat (first | exact Below.refl _ _ | assumption | refine Below.drewN ?_ _ | refine Below.drew ?_ | refine Below.alloc ?_ (by (try simp only [World.size_alloc, size_drewN, size_setCell]); omega) _ | refine Below.setCell ?_ (by (try simp only [World.size_alloc, size_drewN, size_setCell]); omega) _))⟩
theorem lstr_ok (W : World) (s : ByteArray) : Calls Tryz.prog 17 #[.string s] W fun e W' => e = .returned (.agg #[.int .i64 3, .int .i64 0, .string s]) ∧ Below W.heap.size W W' := by
  go_enter Tryz.func17, Tryz.ntmps17
  go_wp2
  exact bodyPost_ret (v := .agg #[.int .i64 3, .int .i64 0, .string s]) (by simp [results, Tryz.results17, go_sem]) rfl ⟨rfl, by (repeat (first | exact Below.refl _ _ | assumption | refine Below.drewN ?_ _ | refine Below.drew ?_ | refine Below.alloc ?_ (by (try simp only [World.size_alloc, size_drewN, size_setCell]); omega) _ | refine Below.setCell ?_ (by (try simp only [World.size_alloc, size_drewN, size_setCell]); omega) _))⟩
theorem lyes_ok (W : World) (b : Bool) : Calls Tryz.prog 20 #[.bool b] W fun e W' => e = .returned (.agg #[.int .i64 1, .int .i64 (if b = true then 1 else 0), .string ⟨#[]⟩]) ∧ Below W.heap.size W W' := by
  cases b
  · go_enter Tryz.func20, Tryz.ntmps20
    go_wp2
    exact bodyPost_ret (v := .agg #[.int .i64 1, .int .i64 0, .string ⟨#[]⟩]) (by simp [results, Tryz.results20, go_sem]) rfl ⟨rfl, by (repeat (first | exact Below.refl _ _ | assumption | refine Below.drewN ?_ _ | refine Below.drew ?_ | refine Below.alloc ?_ (by (try simp only [World.size_alloc, size_drewN, size_setCell]); omega) _ | refine Below.setCell ?_ (by (try simp only [World.size_alloc, size_drewN, size_setCell]); omega) _))⟩
  · go_enter Tryz.func20, Tryz.ntmps20
    go_wp2
    exact bodyPost_ret (v := .agg #[.int .i64 1, .int .i64 1, .string ⟨#[]⟩]) (by simp [results, Tryz.results20, go_sem]) rfl ⟨rfl, by (repeat (first | exact Below.refl _ _ | assumption | refine Below.drewN ?_ _ | refine Below.drew ?_ | refine Below.alloc ?_ (by (try simp only [World.size_alloc, size_drewN, size_setCell]); omega) _ | refine Below.setCell ?_ (by (try simp only [World.size_alloc, size_drewN, size_setCell]); omega) _))⟩
theorem none_z (W : World) : Calls Tryz.prog 19 #[excZ] W fun e W' => e = .returned (.bool true) ∧ Below W.heap.size W W' := by
  go_enter Tryz.func19, Tryz.ntmps19
  go_wp2
  go_ret
  exact ⟨rfl, by (repeat (first | exact Below.refl _ _ | assumption | refine Below.drewN ?_ _ | refine Below.drew ?_ | refine Below.alloc ?_ (by (try simp only [World.size_alloc, size_drewN, size_setCell]); omega) _ | refine Below.setCell ?_ (by (try simp only [World.size_alloc, size_drewN, size_setCell]); omega) _))⟩
theorem none_type (W : World) : Calls Tryz.prog 19 #[excN typeError] W fun e W' => e = .returned (.bool false) ∧ Below W.heap.size W W' := by
  go_enter Tryz.func19, Tryz.ntmps19
  go_wp2
  go_ret
  exact ⟨rfl, by (repeat (first | exact Below.refl _ _ | assumption | refine Below.drewN ?_ _ | refine Below.drew ?_ | refine Below.alloc ?_ (by (try simp only [World.size_alloc, size_drewN, size_setCell]); omega) _ | refine Below.setCell ?_ (by (try simp only [World.size_alloc, size_drewN, size_setCell]); omega) _))⟩
theorem raised_type (W : World) : Calls Tryz.prog 21 #[excN typeError, .string typeError] W fun e W' => e = .returned (.bool true) ∧ Below W.heap.size W W' := by
  go_enter Tryz.func21, Tryz.ntmps21
  go_wp2
  go_ret
  exact ⟨rfl, by (repeat (first | exact Below.refl _ _ | assumption | refine Below.drewN ?_ _ | refine Below.drew ?_ | refine Below.alloc ?_ (by (try simp only [World.size_alloc, size_drewN, size_setCell]); omega) _ | refine Below.setCell ?_ (by (try simp only [World.size_alloc, size_drewN, size_setCell]); omega) _))⟩
theorem raised_z_type (W : World) : Calls Tryz.prog 21 #[excZ, .string typeError] W fun e W' => e = .returned (.bool false) ∧ Below W.heap.size W W' := by
  go_enter Tryz.func21, Tryz.ntmps21
  go_wp2
  go_ret
  exact ⟨rfl, by (repeat (first | exact Below.refl _ _ | assumption | refine Below.drewN ?_ _ | refine Below.drew ?_ | refine Below.alloc ?_ (by (try simp only [World.size_alloc, size_drewN, size_setCell]); omega) _ | refine Below.setCell ?_ (by (try simp only [World.size_alloc, size_drewN, size_setCell]); omega) _))⟩
theorem none_index (W : World) : Calls Tryz.prog 19 #[excN indexError] W fun e W' => e = .returned (.bool false) ∧ Below W.heap.size W W' := by
  go_enter Tryz.func19, Tryz.ntmps19
  go_wp2
  go_ret
  exact ⟨rfl, by (repeat (first | exact Below.refl _ _ | assumption | refine Below.drewN ?_ _ | refine Below.drew ?_ | refine Below.alloc ?_ (by (try simp only [World.size_alloc, size_drewN, size_setCell]); omega) _ | refine Below.setCell ?_ (by (try simp only [World.size_alloc, size_drewN, size_setCell]); omega) _))⟩
theorem raised_index (W : World) : Calls Tryz.prog 21 #[excN indexError, .string indexError] W fun e W' => e = .returned (.bool true) ∧ Below W.heap.size W W' := by
  go_enter Tryz.func21, Tryz.ntmps21
  go_wp2
  go_ret
  exact ⟨rfl, by (repeat (first | exact Below.refl _ _ | assumption | refine Below.drewN ?_ _ | refine Below.drew ?_ | refine Below.alloc ?_ (by (try simp only [World.size_alloc, size_drewN, size_setCell]); omega) _ | refine Below.setCell ?_ (by (try simp only [World.size_alloc, size_drewN, size_setCell]); omega) _))⟩
theorem raised_z_index (W : World) : Calls Tryz.prog 21 #[excZ, .string indexError] W fun e W' => e = .returned (.bool false) ∧ Below W.heap.size W W' := by
  go_enter Tryz.func21, Tryz.ntmps21
  go_wp2
  go_ret
  exact ⟨rfl, by (repeat (first | exact Below.refl _ _ | assumption | refine Below.drewN ?_ _ | refine Below.drew ?_ | refine Below.alloc ?_ (by (try simp only [World.size_alloc, size_drewN, size_setCell]); omega) _ | refine Below.setCell ?_ (by (try simp only [World.size_alloc, size_drewN, size_setCell]); omega) _))⟩
theorem none_memory (W : World) : Calls Tryz.prog 19 #[excN memoryError] W fun e W' => e = .returned (.bool false) ∧ Below W.heap.size W W' := by
  go_enter Tryz.func19, Tryz.ntmps19
  go_wp2
  go_ret
  exact ⟨rfl, by (repeat (first | exact Below.refl _ _ | assumption | refine Below.drewN ?_ _ | refine Below.drew ?_ | refine Below.alloc ?_ (by (try simp only [World.size_alloc, size_drewN, size_setCell]); omega) _ | refine Below.setCell ?_ (by (try simp only [World.size_alloc, size_drewN, size_setCell]); omega) _))⟩
theorem raised_memory (W : World) : Calls Tryz.prog 21 #[excN memoryError, .string memoryError] W fun e W' => e = .returned (.bool true) ∧ Below W.heap.size W W' := by
  go_enter Tryz.func21, Tryz.ntmps21
  go_wp2
  go_ret
  exact ⟨rfl, by (repeat (first | exact Below.refl _ _ | assumption | refine Below.drewN ?_ _ | refine Below.drew ?_ | refine Below.alloc ?_ (by (try simp only [World.size_alloc, size_drewN, size_setCell]); omega) _ | refine Below.setCell ?_ (by (try simp only [World.size_alloc, size_drewN, size_setCell]); omega) _))⟩
theorem raised_z_memory (W : World) : Calls Tryz.prog 21 #[excZ, .string memoryError] W fun e W' => e = .returned (.bool false) ∧ Below W.heap.size W W' := by
  go_enter Tryz.func21, Tryz.ntmps21
  go_wp2
  go_ret
  exact ⟨rfl, by (repeat (first | exact Below.refl _ _ | assumption | refine Below.drewN ?_ _ | refine Below.drew ?_ | refine Below.alloc ?_ (by (try simp only [World.size_alloc, size_drewN, size_setCell]); omega) _ | refine Below.setCell ?_ (by (try simp only [World.size_alloc, size_drewN, size_setCell]); omega) _))⟩
theorem none_deep (W : World) : Calls Tryz.prog 19 #[excN recursionError] W fun e W' => e = .returned (.bool false) ∧ Below W.heap.size W W' := by
  go_enter Tryz.func19, Tryz.ntmps19
  go_wp2
  go_ret
  exact ⟨rfl, by (repeat (first | exact Below.refl _ _ | assumption | refine Below.drewN ?_ _ | refine Below.drew ?_ | refine Below.alloc ?_ (by (try simp only [World.size_alloc, size_drewN, size_setCell]); omega) _ | refine Below.setCell ?_ (by (try simp only [World.size_alloc, size_drewN, size_setCell]); omega) _))⟩
theorem raised_deep (W : World) : Calls Tryz.prog 21 #[excN recursionError, .string recursionError] W fun e W' => e = .returned (.bool true) ∧ Below W.heap.size W W' := by
  go_enter Tryz.func21, Tryz.ntmps21
  go_wp2
  go_ret
  exact ⟨rfl, by (repeat (first | exact Below.refl _ _ | assumption | refine Below.drewN ?_ _ | refine Below.drew ?_ | refine Below.alloc ?_ (by (try simp only [World.size_alloc, size_drewN, size_setCell]); omega) _ | refine Below.setCell ?_ (by (try simp only [World.size_alloc, size_drewN, size_setCell]); omega) _))⟩
theorem raised_z_deep (W : World) : Calls Tryz.prog 21 #[excZ, .string recursionError] W fun e W' => e = .returned (.bool false) ∧ Below W.heap.size W W' := by
  go_enter Tryz.func21, Tryz.ntmps21
  go_wp2
  go_ret
  exact ⟨rfl, by (repeat (first | exact Below.refl _ _ | assumption | refine Below.drewN ?_ _ | refine Below.drew ?_ | refine Below.alloc ?_ (by (try simp only [World.size_alloc, size_drewN, size_setCell]); omega) _ | refine Below.setCell ?_ (by (try simp only [World.size_alloc, size_drewN, size_setCell]); omega) _))⟩
end Go.Proofs.YtellmfimmghidaaGreat
/- ch 16: what comes in. -/
namespace Go.Proofs.YtellmfimmghidaaGreat
set_option linter.unusedSimpArgs false
open Go.RowKit
set_option linter.unusedVariables false
theorem okWide_array {P : Program} {w : World} {r : Reach} {base : Nat} {t e : TypeId} {n : Nat} {v : Value} (ht : P.underlying t = some (.array n e)) (h : Value.okWide P w r base t v) : ∃ cs, v = .agg cs ∧ cs.size = P.cellsOf t := by
  simp only [Value.okWide, ht] at h
  obtain ⟨cs, h1, h2, _⟩ := h
  exact ⟨cs, h1, h2⟩
section
variable {HT : Type} {enc : TypeId × Value → HT} {w : World} {base : Nat} {spare : Nat → Bool} {held : Bool}
set_option maxRecDepth 100000 in
theorem ints2_of_trod {n : Nat} {cs : List Value} {y : DataW HT × List MemPlace} (h : DataW.trod enc Tryz.prog w base spare held n 26 cs = some y) : ∃ k0 k1 : Int, cs = [.int .i64 k0, .int .i64 k1] ∧ (Lit.int .i64 k0).wf = true ∧ (Lit.int .i64 k1).wf = true := by
  obtain ⟨xs, n', _, hx, hlen, hxl, hf⟩ := DataW.trod_array Tryz.underlying26 h
  have hc : Tryz.prog.cellsOf 26 = 2 ∧ Tryz.prog.cellsOf 2 = 1 := ⟨by kernel_rfl, by kernel_rfl⟩
  rw [hc.1] at hlen
  match cs, hlen with
  | [c0, c1], _ =>
    match xs, hxl with
    | [y0, y1], _ =>
      have h0 : DataW.trod enc Tryz.prog w base spare held n' 2 [c0] = some y0 := by have := hf 0 (by omega); simpa [hc.2] using this
      have h1 : DataW.trod enc Tryz.prog w base spare held n' 2 [c1] = some y1 := by have := hf 1 (by omega); simpa [hc.2] using this
      obtain ⟨k0, e0, _, a0⟩ := DataW.trod_int Tryz.underlying2 h0
      obtain ⟨k1, e1, _, a1⟩ := DataW.trod_int Tryz.underlying2 h1
      simp only [List.cons.injEq, and_true] at e0 e1
      exact ⟨k0, k1, by rw [e0, e1], a0, a1⟩
set_option maxRecDepth 100000 in
theorem strs2_of_trod {n : Nat} {cs : List Value} {y : DataW HT × List MemPlace} (h : DataW.trod enc Tryz.prog w base spare held n 27 cs = some y) : ∃ s0 s1 : ByteArray, cs = [.string s0, .string s1] ∧ s0.size ≤ maxLen ∧ s1.size ≤ maxLen := by
  obtain ⟨xs, n', _, hx, hlen, hxl, hf⟩ := DataW.trod_array Tryz.underlying27 h
  have hc : Tryz.prog.cellsOf 27 = 2 ∧ Tryz.prog.cellsOf 9 = 1 := ⟨by kernel_rfl, by kernel_rfl⟩
  rw [hc.1] at hlen
  match cs, hlen with
  | [c0, c1], _ =>
    match xs, hxl with
    | [y0, y1], _ =>
      have h0 : DataW.trod enc Tryz.prog w base spare held n' 9 [c0] = some y0 := by have := hf 0 (by omega); simpa [hc.2] using this
      have h1 : DataW.trod enc Tryz.prog w base spare held n' 9 [c1] = some y1 := by have := hf 1 (by omega); simpa [hc.2] using this
      obtain ⟨k0, e0, _, a0⟩ := DataW.trod_string Tryz.underlying9 h0
      obtain ⟨k1, e1, _, a1⟩ := DataW.trod_string Tryz.underlying9 h1
      simp only [List.cons.injEq, and_true] at e0 e1
      exact ⟨k0, k1, by rw [e0, e1], a0, a1⟩
end
end Go.Proofs.YtellmfimmghidaaGreat
