/- ch 14's example: each call. -/
import Derived.Test.YtkocenlglodklaaObjS
import Derived.Test.YtkocenlglodklaaLawA
import Derived.Test.YtkocenlglodklaaRegT
namespace Go.Proofs.Ytkocenlglodklaa
set_option linter.unusedSimpArgs false
open Go.RowKit
set_option linter.unusedVariables false
theorem seesV_nil (W : World) : SeesV W (.slice none 0 0) [] := ⟨none, 0, rfl, by simp, by simp, .inl rfl⟩
theorem seesV_one {W : World} {bk : Nat} {T : TypeId} {k n : Int} {t : ByteArray} (v : V) (hk : v.kind = k) (hn : v.n = n) (ht : v.s = t) (h : W.heap[bk]? = some (.cells #[.int .i64 k, .int .i64 n, .string t] T)) : SeesV W (.slice (some ⟨bk, 0, none⟩) 1 1) [v] := by
  subst hk hn ht
  refine ⟨_, 1, rfl, by simp, by simp [maxLen], .inr ⟨bk, 0, rfl, fun i x hx => ?_⟩⟩
  match i, hx with
  | 0, hx =>
    simp at hx; subst hx
    exact ⟨cellAt h 0 rfl, cellAt h 1 rfl, cellAt h 2 rfl⟩
  | i + 1, hx => simp at hx
theorem seesV_two {W : World} {bk : Nat} {T : TypeId} (v u : V) (h : W.heap[bk]? = some (.cells #[.int .i64 v.kind, .int .i64 v.n, .string v.s, .int .i64 u.kind, .int .i64 u.n, .string u.s] T)) : SeesV W (.slice (some ⟨bk, 0, none⟩) 2 2) [v, u] := by
  refine ⟨_, 2, rfl, by simp, by simp [maxLen], .inr ⟨bk, 0, rfl, fun i x hx => ?_⟩⟩
  match i, hx with
  | 0, hx =>
    simp at hx; subst hx
    exact ⟨cellAt h 0 rfl, cellAt h 1 rfl, cellAt h 2 rfl⟩
  | 1, hx =>
    simp at hx; subst hx
    exact ⟨cellAt h 3 rfl, cellAt h 4 rfl, cellAt h 5 rfl⟩
  | i + 2, hx => simp at hx
section
variable {w W : World} {Rs : List Res} {h : Nat}
theorem ko_1 (S : Sep w Rs W) (i : Nat) (hi : Rs[i]? = some (heapR h KO.H0)) : Calls Try.prog 19 #[.pointer (some ⟨h, 0, none⟩), .int .i64 3, .string ⟨#[]⟩, .int .i64 0, .slice none 0 0] W fun e W' => e = .returned (.agg #[.int .i64 4, .int .i64 1, .string ⟨#[]⟩]) ∧ Sep w (Rs.set i (heapR h KO.H1)) W' :=
  S.make i hi KO.f0.G (by omega) KO.oD0 (.slice none 0 0) (seesV_nil W) (by simp [KO.oD0]) rfl (by simp [KO.oD0]) (by simp [KO.oD0])
theorem ko_2 (S : Sep w Rs W) (i : Nat) (hi : Rs[i]? = some (heapR h KO.H1)) : Calls Try.prog 19 #[.pointer (some ⟨h, 0, none⟩), .int .i64 4, .string ⟨#[102]⟩, .int .i64 0, .slice none 0 0] W fun e W' => e = .returned (.agg #[.int .i64 4, .int .i64 2, .string ⟨#[]⟩]) ∧ Sep w (Rs.set i (heapR h KO.H2)) W' :=
  S.make i hi KO.f1.G (by omega) KO.oF (.slice none 0 0) (seesV_nil W) (by simp [KO.oF]) rfl (by simp [KO.oF]) (by simp [KO.oF])
theorem ko_3 (S : Sep w Rs W) (i : Nat) (hi : Rs[i]? = some (heapR h KO.H2)) : Calls Try.prog 31 #[.pointer (some ⟨h, 0, none⟩), .agg #[.int .i64 4, .int .i64 1, .string ⟨#[]⟩], .agg #[.int .i64 3, .int .i64 0, .string ⟨#[102]⟩], .agg #[.int .i64 4, .int .i64 2, .string ⟨#[]⟩]] W fun e W' => e = .returned (.bool true) ∧ Sep w (Rs.set i (heapR h KO.H3)) W' := by
  have := S.put i hi KO.r1 KO.f KO.r2
  rw [KO.c3, KO.e3] at this
  exact this
theorem ko_4 (S : Sep w Rs W) (i : Nat) (hi : Rs[i]? = some (heapR h KO.H3)) : Calls Try.prog 28 #[.pointer (some ⟨h, 0, none⟩), .string ⟨#[65]⟩, .slice none 0 0, .agg #[.int .i64 4, .int .i64 1, .string ⟨#[]⟩]] W fun e W' => e = .returned (.tuple #[.agg #[.int .i64 4, .int .i64 3, .string ⟨#[]⟩], excZ]) ∧ Sep w (Rs.set i (heapR h KO.H4)) W' := by
  have := class_ok S i hi KO.f3 ⟨#[65]⟩ (by decide) none 0 [] (fun W' _ => seesV_nil W') KO.r1 (by simp)
  rw [KO.e4] at this
  exact this
theorem ko_5 (S : Sep w Rs W) (i : Nat) (hi : Rs[i]? = some (heapR h KO.H4)) : Calls Try.prog 19 #[.pointer (some ⟨h, 0, none⟩), .int .i64 3, .string ⟨#[]⟩, .int .i64 0, .slice none 0 0] W fun e W' => e = .returned (.agg #[.int .i64 4, .int .i64 4, .string ⟨#[]⟩]) ∧ Sep w (Rs.set i (heapR h KO.H5)) W' :=
  S.make i hi KO.f4.G (by omega) KO.oD0 (.slice none 0 0) (seesV_nil W) (by simp [KO.oD0]) rfl (by simp [KO.oD0]) (by simp [KO.oD0])
theorem ko_6 (S : Sep w Rs W) (i : Nat) (hi : Rs[i]? = some (heapR h KO.H5)) (q j : Nat) (hj : Rs[j]? = some (valB q KO.r3)) : Calls Try.prog 28 #[.pointer (some ⟨h, 0, none⟩), .string ⟨#[66]⟩, .slice (some ⟨q, 0, none⟩) 1 1, .agg #[.int .i64 4, .int .i64 4, .string ⟨#[]⟩]] W fun e W' => e = .returned (.tuple #[.agg #[.int .i64 4, .int .i64 5, .string ⟨#[]⟩], excZ]) ∧ Sep w (Rs.set i (heapR h KO.H6)) W' := by
  have := class_ok S i hi KO.f5 ⟨#[66]⟩ (by decide) (some ⟨q, 0, none⟩) 1 [KO.r3] (fun W' S' => seesV_one KO.r3 rfl rfl rfl (S'.box j hj)) KO.r4 (by simp)
  rw [KO.e6] at this
  exact this
theorem ko_7 (S : Sep w Rs W) (i : Nat) (hi : Rs[i]? = some (heapR h KO.H6)) (q j : Nat) (hj : Rs[j]? = some (boxR q (.cells #[.int .i64 4, .int .i64 3, .string ⟨#[]⟩, .int .i64 4, .int .i64 5, .string ⟨#[]⟩] 33))) : Calls Try.prog 28 #[.pointer (some ⟨h, 0, none⟩), .string ⟨#[67]⟩, .slice (some ⟨q, 0, none⟩) 2 2, .agg #[.int .i64 4, .int .i64 1, .string ⟨#[]⟩]] W fun e W' => e = .returned (.tuple #[zeroV, excN typeError]) ∧ Sep w Rs W' := by
  have := class_ok S i hi KO.f6 ⟨#[67]⟩ (by decide) (some ⟨q, 0, none⟩) 2 [KO.r3, KO.r5] (fun W' S' => seesV_two KO.r3 KO.r5 (S'.box j hj)) KO.r1 (by simp)
  rw [KO.e6b] at this
  exact this
theorem ko_8 (S : Sep w Rs W) (i : Nat) (hi : Rs[i]? = some (heapR h KO.H6)) : Calls Try.prog 18 #[.pointer (some ⟨h, 0, none⟩), .agg #[.int .i64 4, .int .i64 5, .string ⟨#[]⟩]] W fun e W' => e = .returned (.tuple #[.agg #[.int .i64 4, .int .i64 6, .string ⟨#[]⟩], .bool true]) ∧ Sep w (Rs.set i (heapR h KO.H7)) W' := by
  have := instance_ok S i hi KO.f6 (by omega) KO.r5 (HeapM.name_le _ _) KO.c7
  rw [KO.e7] at this
  exact this
theorem ko_9 (S : Sep w Rs W) (i : Nat) (hi : Rs[i]? = some (heapR h KO.H7)) : Calls Try.prog 21 #[.pointer (some ⟨h, 0, none⟩), .agg #[.int .i64 4, .int .i64 6, .string ⟨#[]⟩], .string ⟨#[102]⟩] W fun e W' => e = .returned (.tuple #[.agg #[.int .i64 4, .int .i64 7, .string ⟨#[]⟩], excZ]) ∧ Sep w (Rs.set i (heapR h KO.H8)) W' := by
  have := get_ok S i hi KO.f7 (by omega) KO.r6 ⟨#[102]⟩ (by decide)
  have e : KO.H7.getA KO.r6 (keyS ⟨#[102]⟩ (by decide)) = some (KO.r7.val, KO.H8) := KO.e8
  rw [e] at this
  exact this
theorem ko_10 (S : Sep w Rs W) (i : Nat) (hi : Rs[i]? = some (heapR h KO.H8)) : Calls Try.prog 21 #[.pointer (some ⟨h, 0, none⟩), .agg #[.int .i64 4, .int .i64 6, .string ⟨#[]⟩], .string ⟨#[103]⟩] W fun e W' => e = .returned (.tuple #[zeroV, excA ⟨#[103]⟩]) ∧ Sep w Rs W' := by
  have := get_ok S i hi KO.f8 (by omega) KO.r6 ⟨#[103]⟩ (by decide)
  have e : KO.H8.getA KO.r6 (keyS ⟨#[103]⟩ (by decide)) = none := KO.e8b
  rw [e] at this
  exact this
theorem ko_11 (S : Sep w Rs W) (i : Nat) (hi : Rs[i]? = some (heapR h KO.H8)) : Calls Try.prog 20 #[.pointer (some ⟨h, 0, none⟩), .agg #[.int .i64 4, .int .i64 6, .string ⟨#[]⟩], .string ⟨#[102]⟩, .agg #[.int .i64 2, .int .i64 3, .string ⟨#[]⟩]] W fun e W' => e = .returned excZ ∧ Sep w (Rs.set i (heapR h KO.H9)) W' := by
  have := set_ok S i hi KO.r6 KO.i3 ⟨#[102]⟩ (by decide) KO.o9
  have e : KO.H8.put KO.r6 (keyS ⟨#[102]⟩ (by decide)) KO.i3 = KO.H9 := KO.e9
  have e2 : KO.H8.canPut KO.r6 (keyS ⟨#[102]⟩ (by decide)) = true := KO.c9
  rw [e, e2] at this
  exact this
theorem ko_12 (S : Sep w Rs W) (i : Nat) (hi : Rs[i]? = some (heapR h KO.H9)) : Calls Try.prog 21 #[.pointer (some ⟨h, 0, none⟩), .agg #[.int .i64 4, .int .i64 6, .string ⟨#[]⟩], .string ⟨#[102]⟩] W fun e W' => e = .returned (.tuple #[.agg #[.int .i64 2, .int .i64 3, .string ⟨#[]⟩], excZ]) ∧ Sep w Rs W' := by
  have := get_ok S i hi KO.f9 (by omega) KO.r6 ⟨#[102]⟩ (by decide)
  have e : KO.H9.getA KO.r6 (keyS ⟨#[102]⟩ (by decide)) = some (KO.i3.val, KO.H9) := KO.e10
  rw [e] at this
  unfold GetDone at this
  simp only [Sep.setSame hi] at this
  exact this
theorem ko_13 (S : Sep w Rs W) (i : Nat) (hi : Rs[i]? = some (heapR h KO.H9)) : Calls Try.prog 15 #[.pointer (some ⟨h, 0, none⟩), .agg #[.int .i64 4, .int .i64 5, .string ⟨#[]⟩]] W fun e W' => ∃ sv, e = .returned sv ∧ Sep w (valsR sv [KO.r5, KO.r3] :: Rs) W' := by
  have := order_list S i hi KO.f9.G (by omega) KO.r5
  rw [KO.ord] at this
  exact this
theorem ko_14 (S : Sep w Rs W) (i : Nat) (hi : Rs[i]? = some (heapR h KO.H9)) : Calls Try.prog 23 #[.pointer (some ⟨h, 0, none⟩), .agg #[.int .i64 4, .int .i64 7, .string ⟨#[]⟩]] W fun e W' => e = .returned (.int .i64 7) ∧ Sep w Rs W' := by
  have := S.kind i hi KO.r7
  rw [KO.kd] at this
  exact this.mono fun e W' ⟨e1, e2, _⟩ => ⟨e1, e2⟩
theorem ko_15 (S : Sep w Rs W) (i : Nat) (hi : Rs[i]? = some (heapR h KO.H9)) : Calls Try.prog 14 #[.pointer (some ⟨h, 0, none⟩), .agg #[.int .i64 4, .int .i64 5, .string ⟨#[]⟩], .agg #[.int .i64 4, .int .i64 3, .string ⟨#[]⟩]] W fun e W' => e = .returned (.bool true) ∧ Sep w Rs W' := by
  have := sub_ok S i hi KO.f9.G (by omega) KO.r5 KO.r3
  have e : KO.H9.subM KO.r5 KO.r3 = true := by unfold HeapM.subM; rw [KO.ord, KO.cl.1]; decide +kernel
  rw [e] at this
  exact this
theorem ko_16 (S : Sep w Rs W) (i : Nat) (hi : Rs[i]? = some (heapR h KO.H9)) : Calls Try.prog 14 #[.pointer (some ⟨h, 0, none⟩), .agg #[.int .i64 4, .int .i64 3, .string ⟨#[]⟩], .agg #[.int .i64 4, .int .i64 5, .string ⟨#[]⟩]] W fun e W' => e = .returned (.bool false) ∧ Sep w Rs W' := by
  have := sub_ok S i hi KO.f9.G (by omega) KO.r3 KO.r5
  have e : KO.H9.subM KO.r3 KO.r5 = false := by unfold HeapM.subM; rw [KO.ord3, KO.cl.2]; decide +kernel
  rw [e] at this
  exact this
end
end Go.Proofs.Ytkocenlglodklaa
