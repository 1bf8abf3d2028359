/- ch 16: a heap of a list and a tuple. -/
import Derived.Test.YtellmfimmghidaaGreatRowT
import Derived.Test.YtellmfimmghidaaGreatOprJ
import Derived.Test.YtellmfimmghidaaGreatOprN
import Derived.Test.YtellmfimmghidaaGreatLawC
namespace Go.Proofs.YtellmfimmghidaaGreat
set_option linter.unusedSimpArgs false
open Go.RowKit
set_option linter.unusedVariables false
def HR (A B : List V) : HeapM := ((⟨[], 0⟩ : HeapM).add (rowO 1 (by decide) A)).add (rowO 2 (by decide) B)
def vA : V := ⟨4, 1, ⟨#[]⟩, by decide, by decide, by decide⟩
def vB : V := ⟨4, 2, ⟨#[]⟩, by decide, by decide, by decide⟩
section
variable {w W : World} {Rs : List Res} {h : Nat} {A B : List V}
theorem HR_kA : (HR A B).kind vA = 1 := rfl
theorem HR_kB : (HR A B).kind vB = 2 := rfl
theorem HR_good (hA : A.length ≤ 5000) (hB : B.length ≤ 5000) : (HR A B).Good 20000 :=
  ((good_empty.add (rowO 1 (by decide) A)).add (rowO 2 (by decide) B)).more (by simp [rowO, ObjM.vals]; omega)
theorem HR_set {i : Int} (h0 : 0 ≤ i) (h1 : i < A.length) (x : V) : (HR A B).setAt vA i x = HR (A.set i.toNat x) B := by
  have e : (HR A B).setAt vA i x = if 0 ≤ i ∧ i < (A.length : Int) then (HR A B).set 1 { rowO 1 (by decide) A with items := A.set i.toNat x } else HR A B := rfl
  rw [e, if_pos ⟨h0, h1⟩]; rfl
theorem HR_cut {i : Int} (h0 : 0 ≤ i) (h1 : i < A.length) : (HR A B).replace vA i (i + 1) [] = HR (A.take i.toNat ++ A.drop (i.toNat + 1)) B := by
  have e : (HR A B).replace vA i (i + 1) [] = if 0 ≤ i ∧ i ≤ i + 1 ∧ i + 1 ≤ (A.length : Int) then (HR A B).set 1 { rowO 1 (by decide) A with items := A.take i.toNat ++ [] ++ A.drop (i + 1).toNat } else HR A B := rfl
  have e2 : (i + 1).toNat = i.toNat + 1 := by omega
  rw [e, if_pos (by omega), List.append_nil, e2]; rfl
theorem r_idxA (S : Sep w Rs W) (i : Nat) (hi : Rs[i]? = some (heapR h (HR A B))) (hA : A.length ≤ 5000) (hB : B.length ≤ 5000) (y : Int) (hy : okI y) {k : Nat} {v : V} (hv : A[k]? = some v) (hp : placeP A.length y = k) : Calls Tryz.prog 34 #[.pointer (some ⟨h, 0, none⟩), .agg #[.int .i64 4, .int .i64 1, .string ⟨#[]⟩], .agg #[.int .i64 2, .int .i64 y, .string ⟨#[]⟩]] W fun e W' => e = .returned (.tuple #[.agg #[.int .i64 v.kind, .int .i64 v.n, .string v.s], excZ]) ∧ Sep w Rs W' := by
  have hk := (List.getElem?_eq_some_iff.1 hv).1
  exact idx_row S i hi (HR_good hA hB) (by decide) vA (vI y hy) v rfl rfl (by show inP A.length y = true; unfold inP; rw [hp]; simp; omega) (by show (HR A B).at vA (placeP A.length y) = some v; rw [hp]; show (if (0 : Int) ≤ (k : Int) then A[(k : Int).toNat]? else none) = some v; rw [if_pos (by omega)]; simpa using hv)
theorem r_idxA_no (S : Sep w Rs W) (i : Nat) (hi : Rs[i]? = some (heapR h (HR A B))) (hA : A.length ≤ 5000) (hB : B.length ≤ 5000) (y : Int) (hy : okI y) (hp : inP A.length y = false) : Calls Tryz.prog 34 #[.pointer (some ⟨h, 0, none⟩), .agg #[.int .i64 4, .int .i64 1, .string ⟨#[]⟩], .agg #[.int .i64 2, .int .i64 y, .string ⟨#[]⟩]] W fun e W' => e = .returned (.tuple #[zeroV, excN indexError]) ∧ Sep w Rs W' := by
  exact idx_row_no S i hi (HR_good hA hB) (by decide) vA (vI y hy) rfl rfl hp
theorem r_idxB (S : Sep w Rs W) (i : Nat) (hi : Rs[i]? = some (heapR h (HR A B))) (hA : A.length ≤ 5000) (hB : B.length ≤ 5000) (y : Int) (hy : okI y) {k : Nat} {v : V} (hv : B[k]? = some v) (hp : placeP B.length y = k) : Calls Tryz.prog 34 #[.pointer (some ⟨h, 0, none⟩), .agg #[.int .i64 4, .int .i64 2, .string ⟨#[]⟩], .agg #[.int .i64 2, .int .i64 y, .string ⟨#[]⟩]] W fun e W' => e = .returned (.tuple #[.agg #[.int .i64 v.kind, .int .i64 v.n, .string v.s], excZ]) ∧ Sep w Rs W' := by
  have hk := (List.getElem?_eq_some_iff.1 hv).1
  exact idx_row S i hi (HR_good hA hB) (by decide) vB (vI y hy) v rfl rfl (by show inP B.length y = true; unfold inP; rw [hp]; simp; omega) (by show (HR A B).at vB (placeP B.length y) = some v; rw [hp]; show (if (0 : Int) ≤ (k : Int) then B[(k : Int).toNat]? else none) = some v; rw [if_pos (by omega)]; simpa using hv)
theorem r_idxB_no (S : Sep w Rs W) (i : Nat) (hi : Rs[i]? = some (heapR h (HR A B))) (hA : A.length ≤ 5000) (hB : B.length ≤ 5000) (y : Int) (hy : okI y) (hp : inP B.length y = false) : Calls Tryz.prog 34 #[.pointer (some ⟨h, 0, none⟩), .agg #[.int .i64 4, .int .i64 2, .string ⟨#[]⟩], .agg #[.int .i64 2, .int .i64 y, .string ⟨#[]⟩]] W fun e W' => e = .returned (.tuple #[zeroV, excN indexError]) ∧ Sep w Rs W' := by
  exact idx_row_no S i hi (HR_good hA hB) (by decide) vB (vI y hy) rfl rfl hp
theorem r_setB (S : Sep w Rs W) (i : Nat) (hi : Rs[i]? = some (heapR h (HR A B))) (hA : A.length ≤ 5000) (hB : B.length ≤ 5000) (y : Int) (hy : okI y) (z : V) : Calls Tryz.prog 39 #[.pointer (some ⟨h, 0, none⟩), .agg #[.int .i64 4, .int .i64 2, .string ⟨#[]⟩], .agg #[.int .i64 2, .int .i64 y, .string ⟨#[]⟩], .agg #[.int .i64 z.kind, .int .i64 z.n, .string z.s]] W fun e W' => e = .returned (excN typeError) ∧ Sep w Rs W' := by
  have hh := si_w3 S i hi (HR_good hA hB) (by decide) vB (vI y hy) z (by rw [HR_kB]; decide) (by rw [HR_kB]; decide)
  rw [set_same hi] at hh
  exact hh
theorem r_delB (S : Sep w Rs W) (i : Nat) (hi : Rs[i]? = some (heapR h (HR A B))) (hA : A.length ≤ 5000) (hB : B.length ≤ 5000) (y : Int) (hy : okI y) : Calls Tryz.prog 40 #[.pointer (some ⟨h, 0, none⟩), .agg #[.int .i64 4, .int .i64 2, .string ⟨#[]⟩], .agg #[.int .i64 2, .int .i64 y, .string ⟨#[]⟩]] W fun e W' => e = .returned (excN typeError) ∧ Sep w Rs W' := by
  have hh := di_w3 S i hi (HR_good hA hB) (by decide) vB (vI y hy) (by rw [HR_kB]; decide) (by rw [HR_kB]; decide)
  rw [set_same hi] at hh
  exact hh
theorem r_setS (S : Sep w Rs W) (i : Nat) (hi : Rs[i]? = some (heapR h (HR A B))) (hA : A.length ≤ 5000) (hB : B.length ≤ 5000) (x y z : V) (hx : ¬ x.kind = 4) : Calls Tryz.prog 39 #[.pointer (some ⟨h, 0, none⟩), .agg #[.int .i64 x.kind, .int .i64 x.n, .string x.s], .agg #[.int .i64 y.kind, .int .i64 y.n, .string y.s], .agg #[.int .i64 z.kind, .int .i64 z.n, .string z.s]] W fun e W' => e = .returned (excN typeError) ∧ Sep w Rs W' := by
  have e : (HR A B).kind x = 0 := Classical.byContradiction fun e => hx ((HR A B).kind_ref x e)
  have hh := si_w3 S i hi (HR_good hA hB) (by decide) x y z (by rw [e]; decide) (by rw [e]; decide)
  rw [set_same hi] at hh
  exact hh
theorem r_setA_no (S : Sep w Rs W) (i : Nat) (hi : Rs[i]? = some (heapR h (HR A B))) (hA : A.length ≤ 5000) (hB : B.length ≤ 5000) (y : Int) (hy : okI y) (z : V) (hp : inP A.length y = false) : Calls Tryz.prog 39 #[.pointer (some ⟨h, 0, none⟩), .agg #[.int .i64 4, .int .i64 1, .string ⟨#[]⟩], .agg #[.int .i64 2, .int .i64 y, .string ⟨#[]⟩], .agg #[.int .i64 z.kind, .int .i64 z.n, .string z.s]] W fun e W' => e = .returned (excN indexError) ∧ Sep w Rs W' := by
  have hh := si_index S i hi (HR_good hA hB) (by decide) vA (vI y hy) z HR_kA rfl hp
  rw [set_same hi] at hh
  exact hh
theorem r_delA_no (S : Sep w Rs W) (i : Nat) (hi : Rs[i]? = some (heapR h (HR A B))) (hA : A.length ≤ 5000) (hB : B.length ≤ 5000) (y : Int) (hy : okI y) (hp : inP A.length y = false) : Calls Tryz.prog 40 #[.pointer (some ⟨h, 0, none⟩), .agg #[.int .i64 4, .int .i64 1, .string ⟨#[]⟩], .agg #[.int .i64 2, .int .i64 y, .string ⟨#[]⟩]] W fun e W' => e = .returned (excN indexError) ∧ Sep w Rs W' := by
  have hh := di_index S i hi (HR_good hA hB) (by decide) vA (vI y hy) HR_kA rfl hp
  rw [set_same hi] at hh
  exact hh
theorem r_setA (S : Sep w Rs W) (i : Nat) (hi : Rs[i]? = some (heapR h (HR A B))) (hA : A.length ≤ 5000) (hB : B.length ≤ 5000) (y : Int) (hy : okI y) (z : V) {k : Nat} (hk : k < A.length) (hp : placeP A.length y = k) : Calls Tryz.prog 39 #[.pointer (some ⟨h, 0, none⟩), .agg #[.int .i64 4, .int .i64 1, .string ⟨#[]⟩], .agg #[.int .i64 2, .int .i64 y, .string ⟨#[]⟩], .agg #[.int .i64 z.kind, .int .i64 z.n, .string z.s]] W fun e W' => e = .returned (excZ) ∧ Sep w (Rs.set i (heapR h (HR (A.set k z) B))) W' := by
  have hh := si_set S i hi (HR_good hA hB) (by decide) vA (vI y hy) z HR_kA rfl (by show inP A.length y = true; unfold inP; rw [hp]; simp; omega)
  have e : (HR A B).setAt vA (placeP ((HR A B).items vA).length (vI y hy).n) z = HR (A.set k z) B := by
    show (HR A B).setAt vA (placeP A.length y) z = _
    rw [hp, HR_set (by omega) (by omega)]; simp
  rw [e] at hh
  exact hh
theorem r_delA (S : Sep w Rs W) (i : Nat) (hi : Rs[i]? = some (heapR h (HR A B))) (hA : A.length ≤ 5000) (hB : B.length ≤ 5000) (y : Int) (hy : okI y) {k : Nat} (hk : k < A.length) (hp : placeP A.length y = k) : Calls Tryz.prog 40 #[.pointer (some ⟨h, 0, none⟩), .agg #[.int .i64 4, .int .i64 1, .string ⟨#[]⟩], .agg #[.int .i64 2, .int .i64 y, .string ⟨#[]⟩]] W fun e W' => e = .returned (excZ) ∧ Sep w (Rs.set i (heapR h (HR (A.take k ++ A.drop (k + 1)) B))) W' := by
  have hh := di_del S i hi (HR_good hA hB) (by decide) vA (vI y hy) HR_kA rfl (by show inP A.length y = true; unfold inP; rw [hp]; simp; omega)
  have e : (HR A B).replace vA (placeP ((HR A B).items vA).length (vI y hy).n) (placeP ((HR A B).items vA).length (vI y hy).n + 1) [] = HR (A.take k ++ A.drop (k + 1)) B := by
    show (HR A B).replace vA (placeP A.length y) (placeP A.length y + 1) [] = _
    rw [hp, HR_cut (by omega) (by omega)]; simp
  rw [e] at hh
  exact hh
end
end Go.Proofs.YtellmfimmghidaaGreat
