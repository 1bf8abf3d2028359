/- The reference's heap beside all else: what it tells. -/
import Derived.Test.YtoancpjlkhijiaaGreatRef6
namespace Go.Proofs.YtoancpjlkhijiaaGreat
set_option linter.unusedSimpArgs false
open Go.RowKit
set_option linter.unusedVariables false
section
variable {w W : World} {Rs : List Res} {r : Nat} {H : HeapM} {N : Nat}
theorem Sep.yKind (S : Sep w Rs W) (i : Nat) (hi : Rs[i]? = some (refR r H)) (v : V) : Calls Tryz.prog 37 #[.pointer (some ⟨r, 0, none⟩), v.val] W fun e W' => e = .returned (.int .i64 (H.kind v)) ∧ Sep w Rs W' := by
  obtain ⟨F, h1, _⟩ := S.get i hi
  exact (ref_kind W r v h1).mono fun e W' ⟨e1, e2⟩ => ⟨e1, S.later e2⟩
theorem Sep.yName (S : Sep w Rs W) (i : Nat) (hi : Rs[i]? = some (refR r H)) (v : V) : Calls Tryz.prog 39 #[.pointer (some ⟨r, 0, none⟩), v.val] W fun e W' => e = .returned (.string (H.name v)) ∧ Sep w Rs W' := by
  obtain ⟨F, h1, _⟩ := S.get i hi
  exact (ref_name W r v h1).mono fun e W' ⟨e1, e2⟩ => ⟨e1, S.later e2⟩
theorem Sep.yNum (S : Sep w Rs W) (i : Nat) (hi : Rs[i]? = some (refR r H)) (v : V) : Calls Tryz.prog 41 #[.pointer (some ⟨r, 0, none⟩), v.val] W fun e W' => e = .returned (.int .i64 (H.num v)) ∧ Sep w Rs W' := by
  obtain ⟨F, h1, _⟩ := S.get i hi
  exact (ref_num W r v h1).mono fun e W' ⟨e1, e2⟩ => ⟨e1, S.later e2⟩
theorem Sep.yItems (S : Sep w Rs W) (i : Nat) (hi : Rs[i]? = some (refR r H)) (G : H.Good N) (hN : N ≤ 4000000) (v : V) : Calls Tryz.prog 44 #[.pointer (some ⟨r, 0, none⟩), v.val] W fun e W' => ∃ sv, e = .returned sv ∧ Sep w (valsR sv (H.items v) :: Rs) W' := by
  obtain ⟨F, h1, _⟩ := S.get i hi
  have := G.items v
  exact (ref_items W r v h1 (by omega)).mono fun e W' ⟨sv, e1, e2, e3, e4⟩ => ⟨sv, e1, S.addRow e4 e2 e3⟩
theorem Sep.yKeys (S : Sep w Rs W) (i : Nat) (hi : Rs[i]? = some (refR r H)) (G : H.Good N) (hN : N ≤ 4000000) (v : V) : Calls Tryz.prog 48 #[.pointer (some ⟨r, 0, none⟩), v.val] W fun e W' => ∃ sv, e = .returned sv ∧ Sep w (valsR sv ((H.pairs v).map (·.1)) :: Rs) W' := by
  obtain ⟨F, h1, _⟩ := S.get i hi
  obtain ⟨rows, sa, sc, R⟩ := h1.cells
  exact (ref_keys R G hN v).mono fun e W' ⟨sv, e1, e2⟩ => ⟨sv, e1, S.join e2⟩
theorem Sep.yRefs (S : Sep w Rs W) (i : Nat) (hi : Rs[i]? = some (refR r H)) (G : H.Good N) (hN : N ≤ 4000000) (v : V) : Calls Tryz.prog 53 #[.pointer (some ⟨r, 0, none⟩), v.val] W fun e W' => ∃ sv, e = .returned sv ∧ Sep w (numsR sv (H.refNs v) :: Rs) W' := by
  obtain ⟨F, h1, _⟩ := S.get i hi
  obtain ⟨rows, sa, sc, R⟩ := h1.cells
  exact (ref_refs R G hN v).mono fun e W' ⟨sv, e1, e2⟩ => ⟨sv, e1, S.join e2⟩
theorem Sep.yCount (S : Sep w Rs W) (i : Nat) (hi : Rs[i]? = some (refR r H)) (G : H.Good N) (hN : N ≤ 4000000) (v : V) : Calls Tryz.prog 51 #[.pointer (some ⟨r, 0, none⟩), v.val] W fun e W' => e = .returned (.int .i64 (H.count v)) ∧ Sep w Rs W' := by
  obtain ⟨F, h1, _⟩ := S.get i hi
  obtain ⟨rows, sa, sc, R⟩ := h1.cells
  exact (ref_count R G hN v).mono fun e W' ⟨e1, e2⟩ => ⟨e1, S.later e2⟩
theorem RefCells.len {w : World} {rows : List RRow} {sa : Option Addr} {sc : Nat} (R : RefCells w r H rows sa sc) (G : H.Good N) (hN : N ≤ 4000000) : rows.length ≤ 4000000 := by
  have h1 : rows.length = H.objs.length := by rw [R.objs]; simp
  have := G.len; omega
theorem Sep.yAll (S : Sep w Rs W) (i : Nat) (hi : Rs[i]? = some (refR r H)) (G : H.Good N) (hN : N ≤ 4000000) : Calls Tryz.prog 14 #[.pointer (some ⟨r, 0, none⟩)] W fun e W' => ∃ sv, e = .returned sv ∧ Sep w (numsR sv (H.objs.map (·.1)) :: Rs) W' := by
  obtain ⟨F, h1, _⟩ := S.get i hi
  obtain ⟨rows, sa, sc, R⟩ := h1.cells
  exact (ref_all R (R.len G hN)).mono fun e W' ⟨sv, e1, e2⟩ => ⟨sv, e1, S.join e2⟩
theorem Sep.yLive (S : Sep w Rs W) (i : Nat) (hi : Rs[i]? = some (refR r H)) (G : H.Good N) (hN : N ≤ 4000000) (k : Int) : Calls Tryz.prog 9 #[.pointer (some ⟨r, 0, none⟩), .int .i64 k] W fun e W' => e = .returned (.int .i64 (H.live k)) ∧ Sep w Rs W' := by
  obtain ⟨F, h1, _⟩ := S.get i hi
  obtain ⟨rows, sa, sc, R⟩ := h1.cells
  exact (ref_live R (R.len G hN) k).mono fun e W' ⟨e1, e2⟩ => ⟨e1, S.later e2⟩
theorem Sep.yOf (S : Sep w Rs W) (i : Nat) (hi : Rs[i]? = some (refR r H)) (v : V) : ∃ p : Option Addr, p.isSome = (H.of v).isSome ∧ Calls Tryz.prog 65 #[.pointer (some ⟨r, 0, none⟩), v.val] W fun e W' => e = .returned (.pointer p) ∧ Sep w Rs W' := by
  obtain ⟨F, h1, _⟩ := S.get i hi
  obtain ⟨rows, sa, sc, R⟩ := h1.cells
  refine ⟨_, ?_, (R.of_ v W (Below.refl _ _)).mono fun e W' ⟨e1, e2⟩ => ⟨e1, S.later e2⟩⟩
  rw [← ofR_some R.objs v]; simp
end
theorem HeapM.refNs_ok {H : HeapM} {N : Nat} (G : H.Good N) (hN : N ≤ 4000000) (v : V) : ∀ m ∈ H.refNs v, okI m := fun m hm => by
  unfold HeapM.refNs at hm
  cases g : H.of v with
  | none => rw [g] at hm; cases hm
  | some o =>
    rw [g] at hm
    simp only at hm
    obtain ⟨x, hx, rfl⟩ := List.mem_map.1 hm
    exact x.hn
theorem refNew {w W : World} {Rs : List Res} (S : Sep w Rs W) : Sep w (refR W.heap.size ⟨[], 0⟩ :: Rs) (W.alloc (.cells #[.slice none 0 0, .int .i64 0] 29)) := by
  have h1 := S.addRow (Below.refl _ _) (e := 70) (m := 1) (f := RRow.ptr) (v := .slice none 0 0) (l := []) (World.ownsRow_nil _ _ _ _) (by simp [Value.ownBlock])
  have h2 := h1.alloc (.cells #[.slice none 0 0, .int .i64 0] 29)
  exact Sep.shutRef (H := ⟨[], 0⟩) (rows := []) (sv := .slice none 0 0) h2 rfl
end Go.Proofs.YtoancpjlkhijiaaGreat
