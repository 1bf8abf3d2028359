/-
  CollectNil: for any row of bytes the law returns true: of a nil heap, and of one without objects, nothing is reached, garbage, or freed, whatever is held. No condition.
-/
import Derived.Test.YtjinabglachglaaBytes
namespace Go.Proofs.Ytjinabglachglaa.collectNil
set_option linter.unusedSimpArgs false
open Go.ChangeShapes Go.WideShapes Go.ChangeAt Go.RowKit
set_option linter.unusedVariables false
theorem held_len (l : List Nat) : (heldM l).length ≤ 12 := by unfold heldM; simp; omega
section
variable {w W : World} {Rs : List Res} {v : Value} {E : List V}
theorem nr (S : Sep w Rs W) (j : Nat) (hj : Rs[j]? = some (valsR v E)) (hE : E.length ≤ 12) : Calls Try.prog 16 #[.pointer none, v] W fun e W' => ∃ x, e = .returned x ∧ Sep w (numsR x [] :: Rs) W' := by
  have := reached_is W none (HAns.nil W) good_empty (by omega) (by simp [HeapM.Kinds]) v E ((S.row j hj).sees') (by omega)
  rw [reached_empty] at this
  exact this.mono fun e W' ⟨x, x1, x2⟩ => ⟨x, x1, S.join x2⟩
theorem ng (S : Sep w Rs W) (j : Nat) (hj : Rs[j]? = some (valsR v E)) (hE : E.length ≤ 12) : Calls Try.prog 17 #[.pointer none, v] W fun e W' => ∃ x, e = .returned x ∧ Sep w (numsR x [] :: Rs) W' := by
  have := garbage_is W none (HAns.nil W) good_empty (by omega) (by simp [HeapM.Kinds]) v E ((S.row j hj).sees') (by omega)
  rw [garbage_empty] at this
  exact this.mono fun e W' ⟨x, x1, x2⟩ => ⟨x, x1, S.join x2⟩
theorem hr (S : Sep w Rs W) (j i h : Nat) (hj : Rs[j]? = some (valsR v E)) (hi : Rs[i]? = some (heapR h KC.H0)) (hE : E.length ≤ 12) : Calls Try.prog 16 #[.pointer (some ⟨h, 0, none⟩), v] W fun e W' => ∃ x, e = .returned x ∧ Sep w (numsR x [] :: Rs) W' := by
  obtain ⟨F, h1, _⟩ := S.get i hi
  have := reached_is W _ (HAns.of h1 KC.g0 (by omega)) KC.g0 (by omega) (by simp [HeapM.Kinds, KC.H0]) v E ((S.row j hj).sees') (by omega)
  rw [show KC.H0 = ⟨[], 0⟩ from rfl, reached_empty] at this
  exact this.mono fun e W' ⟨x, x1, x2⟩ => ⟨x, x1, S.join x2⟩
theorem hg (S : Sep w Rs W) (j i h : Nat) (hj : Rs[j]? = some (valsR v E)) (hi : Rs[i]? = some (heapR h KC.H0)) (hE : E.length ≤ 12) : Calls Try.prog 17 #[.pointer (some ⟨h, 0, none⟩), v] W fun e W' => ∃ x, e = .returned x ∧ Sep w (numsR x [] :: Rs) W' := by
  obtain ⟨F, h1, _⟩ := S.get i hi
  have := garbage_is W _ (HAns.of h1 KC.g0 (by omega)) KC.g0 (by omega) (by simp [HeapM.Kinds, KC.H0]) v E ((S.row j hj).sees') (by omega)
  rw [show KC.H0 = ⟨[], 0⟩ from rfl, garbage_empty] at this
  exact this.mono fun e W' ⟨x, x1, x2⟩ => ⟨x, x1, S.join x2⟩
end
set_option maxRecDepth 100000 in
set_option maxHeartbeats 3200000 in
theorem walk (w : World) (sv : Value) (B : List Nat) (hs : SeesB w sv B) : Calls Try.prog 3 #[sv] w fun e W' => e = .returned (.bool true) ∧ Below w.heap.size w W' := by
  have K := Lib.hid (shown_ok w)
  have HS := Lib.hid hs
  obtain ⟨a, c, rfl, -, -, -⟩ := hs
  go_enter Try.func3, Try.ntmps3
  go_wp2_with fail
  refine K.out.mono ?_
  rintro e w1 ⟨rfl, b1⟩
  have D := Lib.hid (held_ok (Sep.start b1) (.slice none 0 0) (.slice none 0 0) _ rfl B HS.out)
  clear b1 K
  go_wp2_with fail
  refine D.out.mono ?_
  rintro e w2 ⟨v, rfl, S2⟩
  have hE := held_len B
  obtain ⟨E, hEE⟩ : ∃ E, heldM B = E := ⟨_, rfl⟩
  rw [hEE] at S2 hE
  have N0 := Lib.hid (Sep.new S2)
  have HE := Lib.hid hE
  clear S2 hEE hE D
  go_wp2_with fail
  refine N0.out.mono ?_
  rintro e w3 ⟨h, rfl, S3, -⟩
  replace S3 : Sep w [heapR h KC.H0, valsR v E] w3 := S3
  clear N0
  obtain ⟨va, vc, rfl⟩ := (S3.row 1 rfl).form
  have C1 := Lib.hid (collect_nil w3 va vc E (by have := HE.out; omega) ((S3.row 1 rfl).sees'))
  replace S3 := Lib.hid S3
  go_wp2_with fail
  refine C1.out.mono ?_
  rintro e w4 ⟨rfl, b4⟩
  have S4 := S3.out.later b4
  have C2 := Lib.hid (collect_ok S4 0 h rfl KC.g0 (by omega) (by simp [HeapM.Kinds, KC.H0]) va vc E (by have := HE.out; omega) (fun H' W' S' => (S'.row 1 rfl).sees') (fun W' => ArgS.row 1 (by decide) rfl))
  rw [show KC.H0 = ⟨[], 0⟩ from rfl, collect_empty] at C2
  clear C1 S3 S4 b4
  go_wp2_with fail
  refine C2.out.mono ?_
  rintro e w5 ⟨rfl, S5⟩
  replace S5 : Sep w [heapR h KC.H0, valsR (.slice va E.length vc) E] w5 := S5
  have C3 := Lib.hid (nr S5 1 rfl HE.out)
  clear C2 S5
  go_wp2_with fail
  refine C3.out.mono ?_
  rintro e w6 ⟨x1, rfl, S6⟩
  obtain ⟨a1, c1, rfl⟩ := (S6.row 0 rfl).form
  have C4 := Lib.hid (ng S6 2 rfl HE.out)
  clear C3 S6
  go_wp2_with fail
  refine C4.out.mono ?_
  rintro e w7 ⟨x2, rfl, S7⟩
  obtain ⟨a2, c2, rfl⟩ := (S7.row 0 rfl).form
  have C5 := Lib.hid (hr S7 3 2 h rfl rfl HE.out)
  clear C4 S7
  go_wp2_with fail
  refine C5.out.mono ?_
  rintro e w8 ⟨x3, rfl, S8⟩
  obtain ⟨a3, c3, rfl⟩ := (S8.row 0 rfl).form
  have C6 := Lib.hid (hg S8 4 3 h rfl rfl HE.out)
  clear C5 S8
  go_wp2_with fail
  refine C6.out.mono ?_
  rintro e w9 ⟨x4, rfl, S9⟩
  obtain ⟨a4, c4, rfl⟩ := (S9.row 0 rfl).form
  have B9 := Lib.hid S9.below
  clear C6 S9
  go_wp2
  go_ret
  exact ⟨rfl, B9.out⟩
set_option maxRecDepth 100000 in
theorem lifted (os : Os) (started : os.Started) (H : Type) (enc : TypeId × Value → H) :
    ReturnsInHanded {} Try.checked os 3 .any (Rows.collectNilSpec.pre6 enc Try.prog Try.f3 Rows.collectNilRow.domain false) (Rows.collectNilSpec.post enc Try.prog Try.f3 false true false false) := by
  refine law_lift (C := Try.checked) own started (by kernel_rfl) Try.func3
    (ChangeSpec.witness6 (enc := enc) (C := Try.checked) false ⟨#[], #[.slice none 0 0], []⟩ 8 (by kernel_rfl) (by kernel_rfl) (by kernel_rfl) (by kernel_rfl))
    (by kernel_rfl) (by kernel_rfl) rfl (fun ds h => by
      match ds, h with
      | [d1], _ => exact ⟨rfl, rfl, rfl⟩) rfl Try.underlying4 ?_
  intro W base args ds ps hval hA hlt hwt hsh
  rw [Try.params3] at hA hval
  obtain ⟨v0, vs0, d0, ds0, p0, q0, hargs, rfl, rfl, h0, r0⟩ := trodAll_cons hA
  obtain ⟨rfl, rfl, rfl⟩ := trodAll_nil r0
  obtain rfl : args = #[v0] := by cases args; simp_all
  obtain ⟨x0, len0, cap0, rfl⟩ := okWide_slice Try.underlying22 (hval 0 22 v0 rfl rfl)
  obtain ⟨fuel0, hf0⟩ := h0
  obtain ⟨l0, s0⟩ := open_bytes (v := .slice x0 len0 cap0) hf0
  -- WALK
  exact walk W _ l0 s0
theorem proved : Rows.CollectNilSaid :=
  OpenClaim.holds_of_wide 3 Try.f3 rfl rfl rfl rfl rfl rfl rfl ⟨rfl, rfl, rfl, rfl, rfl⟩ rfl rfl rfl rfl rfl (by kernel_rfl) Try.func3 (by kernel_rfl)
    (of_decide_eq_true (by kernel_rfl)) (by unfold Func.isWrapper; first | (rw [if_pos (by decide +kernel)]; kernel_rfl) | (rw [if_neg (by decide +kernel)]; exact ⟨rfl, rfl⟩))
    (fun os started H enc _ => lifted os started H enc)
#print axioms proved
end Go.Proofs.Ytjinabglachglaa.collectNil
