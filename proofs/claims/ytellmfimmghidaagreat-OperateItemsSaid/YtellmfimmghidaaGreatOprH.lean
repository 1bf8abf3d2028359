import Derived.Test.YtellmfimmghidaaGreatOprE
import Derived.Test.YtellmfimmghidaaGreatRegS
import Derived.Test.YtellmfimmghidaaGreatText1
import Derived.Test.YtellmfimmghidaaGreatText2
import Derived.Test.YtellmfimmghidaaGreatNumT
/- ch 16: add, of strs and rows. -/
namespace Go.Proofs.YtellmfimmghidaaGreat
set_option linter.unusedSimpArgs false
open Go.RowKit
set_option linter.unusedVariables false
theorem HeapM.kind_ref (H : HeapM) (v : V) (h : H.kind v ≠ 0) : v.kind = 4 := by
  unfold HeapM.kind HeapM.of at h
  by_cases e : v.kind = 4
  · exact e
  · rw [if_neg e] at h; simp at h
theorem HeapM.rowB_kind {H : HeapM} {v : V} (h : H.rowB v = true) : H.kind v = 1 ∨ H.kind v = 2 := by
  unfold HeapM.rowB at h; simpa using h
section
variable {w W : World} {Rs : List Res} {h : Nat} {H : HeapM}
end
end Go.Proofs.YtellmfimmghidaaGreat
/- ch 16: the small ones: place, end, lost, str, num. -/
namespace Go.Proofs.YtellmfimmghidaaGreat
set_option linter.unusedSimpArgs false
open Go.RowKit
set_option linter.unusedVariables false
section
variable {w W : World} {Rs : List Res} {h : Nat} {H : HeapM}
/-- The place of an index in so many. -/
def placeP (n : Nat) (i : Int) : Int := if i < 0 then i + n else i
def inP (n : Nat) (i : Int) : Bool := decide (0 ≤ placeP n i) && decide (placeP n i < n)
set_option maxRecDepth 100000 in
theorem place_ok (W : World) (n : Nat) (i : Int) (hn : n ≤ 9000000) (hi : (Lit.int .i64 i).wf = true) : Calls Tryz.prog 73 #[.int .i64 n, .int .i64 i] W fun e W' => e = .returned (.tuple #[.int .i64 (placeP n i), .bool (inP n i)]) ∧ W' = W := by
  have hb : -9223372036854775808 ≤ i ∧ i ≤ 9223372036854775807 := okI_range hi
  have hnn : (n : Int) ≤ 9000000 := by omega
  have hn0 : (0 : Int) ≤ n := by omega
  obtain ⟨p, hp⟩ : ∃ p, p = placeP n i := ⟨_, rfl⟩
  have hr : inP n i = (decide (0 ≤ p) && decide (p < n)) := by rw [hp]; rfl
  obtain ⟨r, hr1⟩ : ∃ r, r = (decide (0 ≤ p) && decide (p < n)) := ⟨_, rfl⟩
  rw [hr, ← hp, ← hr1]
  clear hr
  by_cases h0 : i < 0
  · have e : p = i + n := by rw [hp, placeP, if_pos h0]
    have hw : IntKind.i64.wrap (i + n) = i + n := IntWalk.i64_in (i + n) (by omega)
    subst e
    clear hp hi
    by_cases h1 : 0 ≤ i + n
    · by_cases h2 : i + n < n
      · obtain rfl : r = true := by rw [hr1]; simp [h1, h2]
        clear hr1
        go_enter Tryz.func73, Tryz.ntmps73
        go_wp2
        exact bodyPost_ret (v := .tuple #[.int .i64 (i + n), .bool true]) (by simp [results, Tryz.results73, go_sem, h1, h2]) rfl ⟨rfl, rfl⟩
      · obtain rfl : r = false := by rw [hr1]; simp [h2]
        clear hr1
        go_enter Tryz.func73, Tryz.ntmps73
        go_wp2
        exact bodyPost_ret (v := .tuple #[.int .i64 (i + n), .bool false]) (by simp [results, Tryz.results73, go_sem, h1, h2]) rfl ⟨rfl, rfl⟩
    · obtain rfl : r = false := by rw [hr1]; simp [h1]
      clear hr1
      go_enter Tryz.func73, Tryz.ntmps73
      go_wp2
      exact bodyPost_ret (v := .tuple #[.int .i64 (i + n), .bool false]) (by simp [results, Tryz.results73, go_sem, h1]) rfl ⟨rfl, rfl⟩
  · have e : p = i := by rw [hp, placeP, if_neg h0]
    subst e
    clear hp hi
    have h1 : 0 ≤ p := by omega
    by_cases h2 : p < n
    · obtain rfl : r = true := by rw [hr1]; simp [h1, h2]
      clear hr1
      go_enter Tryz.func73, Tryz.ntmps73
      go_wp2
      exact bodyPost_ret (v := .tuple #[.int .i64 p, .bool true]) (by simp [results, Tryz.results73, go_sem, h1, h2]) rfl ⟨rfl, rfl⟩
    · obtain rfl : r = false := by rw [hr1]; simp [h2]
      clear hr1
      go_enter Tryz.func73, Tryz.ntmps73
      go_wp2
      exact bodyPost_ret (v := .tuple #[.int .i64 p, .bool false]) (by simp [results, Tryz.results73, go_sem, h1, h2]) rfl ⟨rfl, rfl⟩
end
end Go.Proofs.YtellmfimmghidaaGreat
