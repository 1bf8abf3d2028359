/- ch 16: the law's key; a heap of one dict. -/
import Derived.Test.YtellmfimmghidaaGreatOprJ
import Derived.Test.YtellmfimmghidaaGreatOprO
import Derived.Test.YtellmfimmghidaaGreatLawO
import Derived.Test.YtellmfimmghidaaGreatLawC
namespace Go.Proofs.YtellmfimmghidaaGreat
set_option linter.unusedSimpArgs false
open Go.RowKit
set_option linter.unusedVariables false
section
variable {w W : World} {Rs : List Res} {h : Nat} {H : HeapM}
theorem nilKey : (⟨#[]⟩ : ByteArray).toList.isEmpty = true := isE_of_zero _ rfl
set_option maxRecDepth 100000 in
set_option maxHeartbeats 12800000 in
theorem key_0 (S : Sep w Rs W) (x : V) (hq : bits .and .i64 x.kind 3 = 0) : Calls Tryz.prog 42 #[.agg #[.int .i64 x.kind, .int .i64 x.n, .string x.s]] W fun e W' => e = .returned (.agg #[.int .i64 0, .int .i64 0, .string ⟨#[]⟩]) ∧ Sep w Rs W' := by
  obtain ⟨b, hb⟩ : ∃ gx_, (W.heap.size) = gx_ := ⟨_, rfl⟩
  replace S := ((S.alloc (.cells #[.int .i64 x.kind, .int .i64 x.n, .string x.s] 29)).alloc (.cells #[.int .i64 0, .int .i64 0, .string ⟨#[]⟩] 29))
  simp only [World.size_alloc, hb] at S
  replace S : Sep w (boxZ (b + 1) :: boxV b x :: Rs) ((W.alloc (.cells #[.int .i64 x.kind, .int .i64 x.n, .string x.s] 29)).alloc (.cells #[.int .i64 0, .int .i64 0, .string ⟨#[]⟩] 29)) := S
  obtain ⟨bA, hbs⟩ : ∃ l, l = boxV b x :: Rs := ⟨_, rfl⟩
  have HBS := Lib.hid hbs
  replace S : Sep w ([boxZ (b + 1)] ++ bA) ((W.alloc (.cells #[.int .i64 x.kind, .int .i64 x.n, .string x.s] 29)).alloc (.cells #[.int .i64 0, .int .i64 0, .string ⟨#[]⟩] 29)) := by
    rw [hbs]
    refine (show Sep w ([boxZ (b + 1), boxV b x] ++ Rs) _ from S).perm ?_
    exact (show ([boxZ (b + 1), boxV b x] ++ Rs).Perm ([boxZ (b + 1)] ++ ([boxV b x] ++ Rs)) from by rw [← List.append_assoc]; exact List.Perm.append_right Rs (by exact perm_of [0, 1] (by show (List.range' 0 2).Perm [0, 1]; decide) (by rfl)))
  have C0 : Hid (∀ W (Q : List Res), Sep w (Q ++ bA) W → W.cell? ⟨b, 0, none⟩ = some (.int .i64 x.kind) ∧ W.cell? ⟨b, 1, none⟩ = some (.int .i64 x.n) ∧ W.cell? ⟨b, 2, none⟩ = some (.string x.s)) := Lib.hid fun W Q T => by
    rw [hbs] at T
    have i0 := T.box (b := b) (o := objV x) (Q.length + 0) (by rw [List.getElem?_append_right (by omega), Nat.add_sub_cancel_left]; rfl)
    exact ⟨cellAt i0 0 rfl, cellAt i0 1 rfl, cellAt i0 2 rfl⟩
  clear hbs
  replace S := Lib.hid S
  go_enter Tryz.func42, Tryz.ntmps42
  go_upto_region 1 with fail
  try simp only [World.size_alloc, hb]
  clear hb
  refine regionL (E := [boxZ (b + 1)]) (base := bA) S.out ?_
  clear S
  refine quietL ?_
  simp only [Act.put, pa]; try dsimp only [List.set]
  refine quietL (hy := fun E Wx hSw => by ((refine and3 (C0.out _ _ hSw) fun u0 u1 u2 => ?_); go_simp; exact ⟨rfl, hSw⟩)) (h := ?_)
  simp only [Act.put, pa]; try dsimp only [List.set]
  refine quietL ?_
  simp only [Act.put, pa]; try dsimp only [List.set]
  intro w1 S
  replace S := Lib.hid S
  go_upto_region 2 with fail
  refine regionL (E := [boxZ (b + 1)]) (base := bA) S.out ?_
  clear S
  iterate 2 (refine quietL ?_; simp only [Act.put, pa]; try dsimp only [List.set])
  intro w2 S
  replace S := Lib.hid S
  go_upto_region 3 with fail
  refine regionL (E := [boxZ (b + 1)]) (base := bA) S.out ?_
  clear S
  refine quietL ?_
  simp only [Act.put, pa]; try dsimp only [List.set]
  refine detL undef [boxZ (b + 1)] (h1 := fun Wx hSw => by (have hz := hSw.box (b := (b + 1)) (o := objZ) 0 rfl; refine useZ3 hz fun z0 z1 z2 y0 y1 y2 => ?_; go_simp; exact ⟨rfl, hSw.set3 0 rfl (.int .i64 0) (.int .i64 0) (.string ⟨#[]⟩)⟩)) (h2 := ?_)
  simp only [Act.put, pa]; try dsimp only [List.set]
  intro w3 S
  replace S := Lib.hid S
  replace S := S.out
  refine useR3 (S.box (b := b + 1) (o := objZ) 0 rfl) fun r0 r1 r2 => ?_
  replace S := Lib.hid S
  go_wp2
  refine bodyPost_ret (v := .agg #[.int .i64 0, .int .i64 0, .string ⟨#[]⟩]) (by simp [results, Tryz.results42, go_sem, r0, r1, r2]) rfl ⟨rfl, ?_⟩
  replace S := S.out
  rw [HBS.out] at S
  exact S.tail.tail
set_option maxRecDepth 100000 in
set_option maxHeartbeats 12800000 in
theorem key_1t (S : Sep w Rs W) (x : V) (hq : bits .and .i64 x.kind 3 = 1) (hm : bits .and .i64 x.n 1 = 1) : Calls Tryz.prog 42 #[.agg #[.int .i64 x.kind, .int .i64 x.n, .string x.s]] W fun e W' => e = .returned (.agg #[.int .i64 1, .int .i64 1, .string ⟨#[]⟩]) ∧ Sep w Rs W' := by
  obtain ⟨b, hb⟩ : ∃ gx_, (W.heap.size) = gx_ := ⟨_, rfl⟩
  replace S := ((S.alloc (.cells #[.int .i64 x.kind, .int .i64 x.n, .string x.s] 29)).alloc (.cells #[.int .i64 0, .int .i64 0, .string ⟨#[]⟩] 29))
  simp only [World.size_alloc, hb] at S
  replace S : Sep w (boxZ (b + 1) :: boxV b x :: Rs) ((W.alloc (.cells #[.int .i64 x.kind, .int .i64 x.n, .string x.s] 29)).alloc (.cells #[.int .i64 0, .int .i64 0, .string ⟨#[]⟩] 29)) := S
  obtain ⟨bA, hbs⟩ : ∃ l, l = boxV b x :: Rs := ⟨_, rfl⟩
  have HBS := Lib.hid hbs
  replace S : Sep w ([boxZ (b + 1)] ++ bA) ((W.alloc (.cells #[.int .i64 x.kind, .int .i64 x.n, .string x.s] 29)).alloc (.cells #[.int .i64 0, .int .i64 0, .string ⟨#[]⟩] 29)) := by
    rw [hbs]
    refine (show Sep w ([boxZ (b + 1), boxV b x] ++ Rs) _ from S).perm ?_
    exact (show ([boxZ (b + 1), boxV b x] ++ Rs).Perm ([boxZ (b + 1)] ++ ([boxV b x] ++ Rs)) from by rw [← List.append_assoc]; exact List.Perm.append_right Rs (by exact perm_of [0, 1] (by show (List.range' 0 2).Perm [0, 1]; decide) (by rfl)))
  have C0 : Hid (∀ W (Q : List Res), Sep w (Q ++ bA) W → W.cell? ⟨b, 0, none⟩ = some (.int .i64 x.kind) ∧ W.cell? ⟨b, 1, none⟩ = some (.int .i64 x.n) ∧ W.cell? ⟨b, 2, none⟩ = some (.string x.s)) := Lib.hid fun W Q T => by
    rw [hbs] at T
    have i0 := T.box (b := b) (o := objV x) (Q.length + 0) (by rw [List.getElem?_append_right (by omega), Nat.add_sub_cancel_left]; rfl)
    exact ⟨cellAt i0 0 rfl, cellAt i0 1 rfl, cellAt i0 2 rfl⟩
  clear hbs
  replace S := Lib.hid S
  go_enter Tryz.func42, Tryz.ntmps42
  go_upto_region 1 with fail
  try simp only [World.size_alloc, hb]
  clear hb
  refine regionL (E := [boxZ (b + 1)]) (base := bA) S.out ?_
  clear S
  refine quietL ?_
  simp only [Act.put, pa]; try dsimp only [List.set]
  refine quietL (hy := fun E Wx hSw => by ((refine and3 (C0.out _ _ hSw) fun u0 u1 u2 => ?_); go_simp; exact ⟨rfl, hSw⟩)) (h := ?_)
  simp only [Act.put, pa]; try dsimp only [List.set]
  refine quietL ?_
  simp only [Act.put, pa]; try dsimp only [List.set]
  intro w1 S
  replace S := Lib.hid S
  go_upto_region 2 with fail
  refine regionL (E := [boxZ (b + 1)]) (base := bA) S.out ?_
  clear S
  iterate 2 (refine quietL ?_; simp only [Act.put, pa]; try dsimp only [List.set])
  intro w2 S
  replace S := Lib.hid S
  go_upto_region 4 with fail
  refine regionL (E := [boxZ (b + 1)]) (base := bA) S.out ?_
  clear S
  iterate 2 (refine quietL ?_; simp only [Act.put, pa]; try dsimp only [List.set])
  intro w3 S
  replace S := Lib.hid S
  have KY : Hid (∀ W (Q : List Res), Sep w (Q ++ bA) W → Calls Tryz.prog 20 #[.bool true] W fun e W' => e = .returned (.agg #[.int .i64 1, .int .i64 1, .string ⟨#[]⟩]) ∧ Sep w (Q ++ bA) W') := Lib.hid fun W Q T => by
    exact (lyes_ok W true).mono fun e W' ⟨e1, e2⟩ => ⟨e1, T.later e2⟩
  go_upto_region 5 with fail
  refine regionL (E := [boxZ (b + 1)]) (base := bA) S.out ?_
  clear S
  refine quietL ?_
  simp only [Act.put, pa]; try dsimp only [List.set]
  refine quietL (hy := fun E Wx hSw => by ((refine and3 (C0.out _ _ hSw) fun u0 u1 u2 => ?_); go_simp; exact ⟨rfl, hSw⟩)) (h := ?_)
  simp only [Act.put, pa]; try dsimp only [List.set]
  iterate 2 (refine quietL ?_; simp only [Act.put, pa]; try dsimp only [List.set])
  refine quietL (hy := fun E Wx hSw => by (go_simp; exact symCall (KY.out _ _ hSw))) (h := ?_)
  simp only [Act.put, pa]; try dsimp only [List.set]
  refine detL undef [boxW (b + 1) 1 1 ⟨#[]⟩] (h1 := fun Wx hSw => by (have hz := hSw.box (b := (b + 1)) (o := objZ) 0 rfl; refine useZ3 hz fun z0 z1 z2 y0 y1 y2 => ?_; go_simp; exact ⟨rfl, hSw.set3 0 rfl (.int .i64 1) (.int .i64 1) (.string ⟨#[]⟩)⟩)) (h2 := ?_)
  simp only [Act.put, pa]; try dsimp only [List.set]
  intro w4 S
  replace S := Lib.hid S
  replace S := S.out
  refine useR3 (S.box (b := b + 1) (o := objW 1 1 ⟨#[]⟩) 0 rfl) fun r0 r1 r2 => ?_
  replace S := Lib.hid S
  go_wp2
  refine bodyPost_ret (v := .agg #[.int .i64 1, .int .i64 1, .string ⟨#[]⟩]) (by simp [results, Tryz.results42, go_sem, r0, r1, r2]) rfl ⟨rfl, ?_⟩
  replace S := S.out
  rw [HBS.out] at S
  exact S.tail.tail
set_option maxRecDepth 100000 in
set_option maxHeartbeats 12800000 in
theorem key_1f (S : Sep w Rs W) (x : V) (hq : bits .and .i64 x.kind 3 = 1) (m : Int) (hm : bits .and .i64 x.n 1 = m) (h1 : ¬ m = 1) : Calls Tryz.prog 42 #[.agg #[.int .i64 x.kind, .int .i64 x.n, .string x.s]] W fun e W' => e = .returned (.agg #[.int .i64 1, .int .i64 0, .string ⟨#[]⟩]) ∧ Sep w Rs W' := by
  have em : (m == 1) = false := by simpa using h1
  clear h1
  obtain ⟨b, hb⟩ : ∃ gx_, (W.heap.size) = gx_ := ⟨_, rfl⟩
  replace S := ((S.alloc (.cells #[.int .i64 x.kind, .int .i64 x.n, .string x.s] 29)).alloc (.cells #[.int .i64 0, .int .i64 0, .string ⟨#[]⟩] 29))
  simp only [World.size_alloc, hb] at S
  replace S : Sep w (boxZ (b + 1) :: boxV b x :: Rs) ((W.alloc (.cells #[.int .i64 x.kind, .int .i64 x.n, .string x.s] 29)).alloc (.cells #[.int .i64 0, .int .i64 0, .string ⟨#[]⟩] 29)) := S
  obtain ⟨bA, hbs⟩ : ∃ l, l = boxV b x :: Rs := ⟨_, rfl⟩
  have HBS := Lib.hid hbs
  replace S : Sep w ([boxZ (b + 1)] ++ bA) ((W.alloc (.cells #[.int .i64 x.kind, .int .i64 x.n, .string x.s] 29)).alloc (.cells #[.int .i64 0, .int .i64 0, .string ⟨#[]⟩] 29)) := by
    rw [hbs]
    refine (show Sep w ([boxZ (b + 1), boxV b x] ++ Rs) _ from S).perm ?_
    exact (show ([boxZ (b + 1), boxV b x] ++ Rs).Perm ([boxZ (b + 1)] ++ ([boxV b x] ++ Rs)) from by rw [← List.append_assoc]; exact List.Perm.append_right Rs (by exact perm_of [0, 1] (by show (List.range' 0 2).Perm [0, 1]; decide) (by rfl)))
  have C0 : Hid (∀ W (Q : List Res), Sep w (Q ++ bA) W → W.cell? ⟨b, 0, none⟩ = some (.int .i64 x.kind) ∧ W.cell? ⟨b, 1, none⟩ = some (.int .i64 x.n) ∧ W.cell? ⟨b, 2, none⟩ = some (.string x.s)) := Lib.hid fun W Q T => by
    rw [hbs] at T
    have i0 := T.box (b := b) (o := objV x) (Q.length + 0) (by rw [List.getElem?_append_right (by omega), Nat.add_sub_cancel_left]; rfl)
    exact ⟨cellAt i0 0 rfl, cellAt i0 1 rfl, cellAt i0 2 rfl⟩
  clear hbs
  replace S := Lib.hid S
  go_enter Tryz.func42, Tryz.ntmps42
  go_upto_region 1 with fail
  try simp only [World.size_alloc, hb]
  clear hb
  refine regionL (E := [boxZ (b + 1)]) (base := bA) S.out ?_
  clear S
  refine quietL ?_
  simp only [Act.put, pa]; try dsimp only [List.set]
  refine quietL (hy := fun E Wx hSw => by ((refine and3 (C0.out _ _ hSw) fun u0 u1 u2 => ?_); go_simp; exact ⟨rfl, hSw⟩)) (h := ?_)
  simp only [Act.put, pa]; try dsimp only [List.set]
  refine quietL ?_
  simp only [Act.put, pa]; try dsimp only [List.set]
  intro w1 S
  replace S := Lib.hid S
  go_upto_region 2 with fail
  refine regionL (E := [boxZ (b + 1)]) (base := bA) S.out ?_
  clear S
  iterate 2 (refine quietL ?_; simp only [Act.put, pa]; try dsimp only [List.set])
  intro w2 S
  replace S := Lib.hid S
  go_upto_region 4 with fail
  refine regionL (E := [boxZ (b + 1)]) (base := bA) S.out ?_
  clear S
  iterate 2 (refine quietL ?_; simp only [Act.put, pa]; try dsimp only [List.set])
  intro w3 S
  replace S := Lib.hid S
  have KY : Hid (∀ W (Q : List Res), Sep w (Q ++ bA) W → Calls Tryz.prog 20 #[.bool false] W fun e W' => e = .returned (.agg #[.int .i64 1, .int .i64 0, .string ⟨#[]⟩]) ∧ Sep w (Q ++ bA) W') := Lib.hid fun W Q T => by
    exact (lyes_ok W false).mono fun e W' ⟨e1, e2⟩ => ⟨e1, T.later e2⟩
  go_upto_region 5 with fail
  refine regionL (E := [boxZ (b + 1)]) (base := bA) S.out ?_
  clear S
  refine quietL ?_
  simp only [Act.put, pa]; try dsimp only [List.set]
  refine quietL (hy := fun E Wx hSw => by ((refine and3 (C0.out _ _ hSw) fun u0 u1 u2 => ?_); go_simp; exact ⟨rfl, hSw⟩)) (h := ?_)
  simp only [Act.put, pa]; try dsimp only [List.set]
  iterate 2 (refine quietL ?_; simp only [Act.put, pa]; try dsimp only [List.set])
  refine quietL (hy := fun E Wx hSw => by (go_simp; exact symCall (KY.out _ _ hSw))) (h := ?_)
  simp only [Act.put, pa]; try dsimp only [List.set]
  refine detL undef [boxW (b + 1) 1 0 ⟨#[]⟩] (h1 := fun Wx hSw => by (have hz := hSw.box (b := (b + 1)) (o := objZ) 0 rfl; refine useZ3 hz fun z0 z1 z2 y0 y1 y2 => ?_; go_simp; exact ⟨rfl, hSw.set3 0 rfl (.int .i64 1) (.int .i64 0) (.string ⟨#[]⟩)⟩)) (h2 := ?_)
  simp only [Act.put, pa]; try dsimp only [List.set]
  intro w4 S
  replace S := Lib.hid S
  replace S := S.out
  refine useR3 (S.box (b := b + 1) (o := objW 1 0 ⟨#[]⟩) 0 rfl) fun r0 r1 r2 => ?_
  replace S := Lib.hid S
  go_wp2
  refine bodyPost_ret (v := .agg #[.int .i64 1, .int .i64 0, .string ⟨#[]⟩]) (by simp [results, Tryz.results42, go_sem, r0, r1, r2]) rfl ⟨rfl, ?_⟩
  replace S := S.out
  rw [HBS.out] at S
  exact S.tail.tail
set_option maxRecDepth 100000 in
set_option maxHeartbeats 12800000 in
theorem key_2 (S : Sep w Rs W) (x : V) (hq : bits .and .i64 x.kind 3 = 2) : Calls Tryz.prog 42 #[.agg #[.int .i64 x.kind, .int .i64 x.n, .string x.s]] W fun e W' => e = .returned (.agg #[.int .i64 2, .int .i64 (x.n.tmod 5), .string ⟨#[]⟩]) ∧ Sep w Rs W' := by
  obtain ⟨b, hb⟩ : ∃ gx_, (W.heap.size) = gx_ := ⟨_, rfl⟩
  replace S := ((S.alloc (.cells #[.int .i64 x.kind, .int .i64 x.n, .string x.s] 29)).alloc (.cells #[.int .i64 0, .int .i64 0, .string ⟨#[]⟩] 29))
  simp only [World.size_alloc, hb] at S
  replace S : Sep w (boxZ (b + 1) :: boxV b x :: Rs) ((W.alloc (.cells #[.int .i64 x.kind, .int .i64 x.n, .string x.s] 29)).alloc (.cells #[.int .i64 0, .int .i64 0, .string ⟨#[]⟩] 29)) := S
  obtain ⟨bA, hbs⟩ : ∃ l, l = boxV b x :: Rs := ⟨_, rfl⟩
  have HBS := Lib.hid hbs
  replace S : Sep w ([boxZ (b + 1)] ++ bA) ((W.alloc (.cells #[.int .i64 x.kind, .int .i64 x.n, .string x.s] 29)).alloc (.cells #[.int .i64 0, .int .i64 0, .string ⟨#[]⟩] 29)) := by
    rw [hbs]
    refine (show Sep w ([boxZ (b + 1), boxV b x] ++ Rs) _ from S).perm ?_
    exact (show ([boxZ (b + 1), boxV b x] ++ Rs).Perm ([boxZ (b + 1)] ++ ([boxV b x] ++ Rs)) from by rw [← List.append_assoc]; exact List.Perm.append_right Rs (by exact perm_of [0, 1] (by show (List.range' 0 2).Perm [0, 1]; decide) (by rfl)))
  have C0 : Hid (∀ W (Q : List Res), Sep w (Q ++ bA) W → W.cell? ⟨b, 0, none⟩ = some (.int .i64 x.kind) ∧ W.cell? ⟨b, 1, none⟩ = some (.int .i64 x.n) ∧ W.cell? ⟨b, 2, none⟩ = some (.string x.s)) := Lib.hid fun W Q T => by
    rw [hbs] at T
    have i0 := T.box (b := b) (o := objV x) (Q.length + 0) (by rw [List.getElem?_append_right (by omega), Nat.add_sub_cancel_left]; rfl)
    exact ⟨cellAt i0 0 rfl, cellAt i0 1 rfl, cellAt i0 2 rfl⟩
  clear hbs
  replace S := Lib.hid S
  go_enter Tryz.func42, Tryz.ntmps42
  go_upto_region 1 with fail
  try simp only [World.size_alloc, hb]
  clear hb
  refine regionL (E := [boxZ (b + 1)]) (base := bA) S.out ?_
  clear S
  refine quietL ?_
  simp only [Act.put, pa]; try dsimp only [List.set]
  refine quietL (hy := fun E Wx hSw => by ((refine and3 (C0.out _ _ hSw) fun u0 u1 u2 => ?_); go_simp; exact ⟨rfl, hSw⟩)) (h := ?_)
  simp only [Act.put, pa]; try dsimp only [List.set]
  refine quietL ?_
  simp only [Act.put, pa]; try dsimp only [List.set]
  intro w1 S
  replace S := Lib.hid S
  go_upto_region 2 with fail
  refine regionL (E := [boxZ (b + 1)]) (base := bA) S.out ?_
  clear S
  iterate 2 (refine quietL ?_; simp only [Act.put, pa]; try dsimp only [List.set])
  intro w2 S
  replace S := Lib.hid S
  go_upto_region 4 with fail
  refine regionL (E := [boxZ (b + 1)]) (base := bA) S.out ?_
  clear S
  iterate 2 (refine quietL ?_; simp only [Act.put, pa]; try dsimp only [List.set])
  intro w3 S
  replace S := Lib.hid S
  go_upto_region 6 with fail
  refine regionL (E := [boxZ (b + 1)]) (base := bA) S.out ?_
  clear S
  iterate 2 (refine quietL ?_; simp only [Act.put, pa]; try dsimp only [List.set])
  intro w4 S
  replace S := Lib.hid S
  have KY : Hid (∀ W (Q : List Res), Sep w (Q ++ bA) W → Calls Tryz.prog 16 #[.int .i64 (x.n.tmod 5)] W fun e W' => e = .returned (.agg #[.int .i64 2, .int .i64 (x.n.tmod 5), .string ⟨#[]⟩]) ∧ Sep w (Q ++ bA) W') := Lib.hid fun W Q T => by
    exact (lnum_ok W _).mono fun e W' ⟨e1, e2⟩ => ⟨e1, T.later e2⟩
  go_upto_region 7 with fail
  refine regionL (E := [boxZ (b + 1)]) (base := bA) S.out ?_
  clear S
  refine quietL ?_
  simp only [Act.put, pa]; try dsimp only [List.set]
  refine quietL (hy := fun E Wx hSw => by ((refine and3 (C0.out _ _ hSw) fun u0 u1 u2 => ?_); go_simp; exact ⟨rfl, hSw⟩)) (h := ?_)
  simp only [Act.put, pa]; try dsimp only [List.set]
  refine quietL ?_
  simp only [Act.put, pa]; try dsimp only [List.set]
  refine quietL (hy := fun E Wx hSw => by (go_simp; exact symCall (KY.out _ _ hSw))) (h := ?_)
  simp only [Act.put, pa]; try dsimp only [List.set]
  refine detL undef [boxW (b + 1) 2 (x.n.tmod 5) ⟨#[]⟩] (h1 := fun Wx hSw => by (have hz := hSw.box (b := (b + 1)) (o := objZ) 0 rfl; refine useZ3 hz fun z0 z1 z2 y0 y1 y2 => ?_; go_simp; exact ⟨rfl, hSw.set3 0 rfl (.int .i64 2) (.int .i64 (x.n.tmod 5)) (.string ⟨#[]⟩)⟩)) (h2 := ?_)
  simp only [Act.put, pa]; try dsimp only [List.set]
  intro w5 S
  replace S := Lib.hid S
  replace S := S.out
  refine useR3 (S.box (b := b + 1) (o := objW 2 (x.n.tmod 5) ⟨#[]⟩) 0 rfl) fun r0 r1 r2 => ?_
  replace S := Lib.hid S
  go_wp2
  refine bodyPost_ret (v := .agg #[.int .i64 2, .int .i64 (x.n.tmod 5), .string ⟨#[]⟩]) (by simp [results, Tryz.results42, go_sem, r0, r1, r2]) rfl ⟨rfl, ?_⟩
  replace S := S.out
  rw [HBS.out] at S
  exact S.tail.tail
set_option maxRecDepth 100000 in
set_option maxHeartbeats 12800000 in
theorem key_3 (S : Sep w Rs W) (x : V) (q : Int) (hq : bits .and .i64 x.kind 3 = q) (h0 : ¬ q = 0) (h1 : ¬ q = 1) (h2 : ¬ q = 2) : Calls Tryz.prog 42 #[.agg #[.int .i64 x.kind, .int .i64 x.n, .string x.s]] W fun e W' => e = .returned (.agg #[.int .i64 3, .int .i64 0, .string (x.s.extract 0 (min x.s.size 2))]) ∧ Sep w Rs W' := by
  have e0 : (q == 0) = false := by simpa using h0
  have e1 : (q == 1) = false := by simpa using h1
  have e2 : (q == 2) = false := by simpa using h2
  clear h0 h1 h2
  obtain ⟨k, hk⟩ : ∃ k, k = min x.s.size 2 := ⟨_, rfl⟩
  have he : (if (2 : Int) < (x.s.size : Int) then (2 : Int) else (x.s.size : Int)) = (k : Int) := by rw [hk]; split <;> omega
  have he2 : min (x.s.size : Int) 2 = (k : Int) := by omega
  have hl : (k : Int) ≤ (x.s.size : Int) := by omega
  rw [← hk]
  have HK := Lib.hid hk
  clear hk
  obtain ⟨b, hb⟩ : ∃ gx_, (W.heap.size) = gx_ := ⟨_, rfl⟩
  replace S := ((S.alloc (.cells #[.int .i64 x.kind, .int .i64 x.n, .string x.s] 29)).alloc (.cells #[.int .i64 0, .int .i64 0, .string ⟨#[]⟩] 29))
  simp only [World.size_alloc, hb] at S
  replace S : Sep w (boxZ (b + 1) :: boxV b x :: Rs) ((W.alloc (.cells #[.int .i64 x.kind, .int .i64 x.n, .string x.s] 29)).alloc (.cells #[.int .i64 0, .int .i64 0, .string ⟨#[]⟩] 29)) := S
  obtain ⟨bA, hbs⟩ : ∃ l, l = boxV b x :: Rs := ⟨_, rfl⟩
  have HBS := Lib.hid hbs
  replace S : Sep w ([boxZ (b + 1)] ++ bA) ((W.alloc (.cells #[.int .i64 x.kind, .int .i64 x.n, .string x.s] 29)).alloc (.cells #[.int .i64 0, .int .i64 0, .string ⟨#[]⟩] 29)) := by
    rw [hbs]
    refine (show Sep w ([boxZ (b + 1), boxV b x] ++ Rs) _ from S).perm ?_
    exact (show ([boxZ (b + 1), boxV b x] ++ Rs).Perm ([boxZ (b + 1)] ++ ([boxV b x] ++ Rs)) from by rw [← List.append_assoc]; exact List.Perm.append_right Rs (by exact perm_of [0, 1] (by show (List.range' 0 2).Perm [0, 1]; decide) (by rfl)))
  have C0 : Hid (∀ W (Q : List Res), Sep w (Q ++ bA) W → W.cell? ⟨b, 0, none⟩ = some (.int .i64 x.kind) ∧ W.cell? ⟨b, 1, none⟩ = some (.int .i64 x.n) ∧ W.cell? ⟨b, 2, none⟩ = some (.string x.s)) := Lib.hid fun W Q T => by
    rw [hbs] at T
    have i0 := T.box (b := b) (o := objV x) (Q.length + 0) (by rw [List.getElem?_append_right (by omega), Nat.add_sub_cancel_left]; rfl)
    exact ⟨cellAt i0 0 rfl, cellAt i0 1 rfl, cellAt i0 2 rfl⟩
  clear hbs
  replace S := Lib.hid S
  go_enter Tryz.func42, Tryz.ntmps42
  go_upto_region 1 with fail
  try simp only [World.size_alloc, hb]
  clear hb
  refine regionL (E := [boxZ (b + 1)]) (base := bA) S.out ?_
  clear S
  refine quietL ?_
  simp only [Act.put, pa]; try dsimp only [List.set]
  refine quietL (hy := fun E Wx hSw => by ((refine and3 (C0.out _ _ hSw) fun u0 u1 u2 => ?_); go_simp; exact ⟨rfl, hSw⟩)) (h := ?_)
  simp only [Act.put, pa]; try dsimp only [List.set]
  refine quietL ?_
  simp only [Act.put, pa]; try dsimp only [List.set]
  intro w1 S
  replace S := Lib.hid S
  go_upto_region 2 with fail
  refine regionL (E := [boxZ (b + 1)]) (base := bA) S.out ?_
  clear S
  iterate 2 (refine quietL ?_; simp only [Act.put, pa]; try dsimp only [List.set])
  intro w2 S
  replace S := Lib.hid S
  go_upto_region 4 with fail
  refine regionL (E := [boxZ (b + 1)]) (base := bA) S.out ?_
  clear S
  iterate 2 (refine quietL ?_; simp only [Act.put, pa]; try dsimp only [List.set])
  intro w3 S
  replace S := Lib.hid S
  go_upto_region 6 with fail
  refine regionL (E := [boxZ (b + 1)]) (base := bA) S.out ?_
  clear S
  iterate 2 (refine quietL ?_; simp only [Act.put, pa]; try dsimp only [List.set])
  intro w4 S
  replace S := Lib.hid S
  have KY : Hid (∀ W (Q : List Res), Sep w (Q ++ bA) W → Calls Tryz.prog 17 #[.string (x.s.extract 0 k)] W fun e W' => e = .returned (.agg #[.int .i64 3, .int .i64 0, .string (x.s.extract 0 k)]) ∧ Sep w (Q ++ bA) W') := Lib.hid fun W Q T => by
    exact (lstr_ok W _).mono fun e W' ⟨e1, e2⟩ => ⟨e1, T.later e2⟩
  go_upto_region 8 with fail
  refine regionL (E := [boxZ (b + 1)]) (base := bA) S.out ?_
  clear S
  refine quietL ?_
  simp only [Act.put, pa]; try dsimp only [List.set]
  refine quietL (hy := fun E Wx hSw => by ((refine and3 (C0.out _ _ hSw) fun u0 u1 u2 => ?_); go_simp; exact ⟨rfl, hSw⟩)) (h := ?_)
  simp only [Act.put, pa]; try dsimp only [List.set]
  refine quietL ?_
  simp only [Act.put, pa]; try dsimp only [List.set]
  refine quietL (hy := fun E Wx hSw => by ((refine and3 (C0.out _ _ hSw) fun u0 u1 u2 => ?_); go_simp; exact ⟨rfl, hSw⟩)) (h := ?_)
  simp only [Act.put, pa]; try dsimp only [List.set]
  iterate 3 (refine quietL ?_; simp only [Act.put, pa]; try dsimp only [List.set])
  refine quietL (hy := fun E Wx hSw => by (go_simp; exact symCall (KY.out _ _ hSw))) (h := ?_)
  simp only [Act.put, pa]; try dsimp only [List.set]
  refine detL undef [boxW (b + 1) 3 0 (x.s.extract 0 k)] (h1 := fun Wx hSw => by (have hz := hSw.box (b := (b + 1)) (o := objZ) 0 rfl; refine useZ3 hz fun z0 z1 z2 y0 y1 y2 => ?_; go_simp; exact ⟨rfl, hSw.set3 0 rfl (.int .i64 3) (.int .i64 0) (.string (x.s.extract 0 k))⟩)) (h2 := ?_)
  simp only [Act.put, pa]; try dsimp only [List.set]
  intro w5 S
  replace S := Lib.hid S
  replace S := S.out
  refine useR3 (S.box (b := b + 1) (o := objW 3 0 (x.s.extract 0 k)) 0 rfl) fun r0 r1 r2 => ?_
  replace S := Lib.hid S
  go_wp2
  refine bodyPost_ret (v := .agg #[.int .i64 3, .int .i64 0, .string (x.s.extract 0 k)]) (by simp [results, Tryz.results42, go_sem, r0, r1, r2]) rfl ⟨rfl, ?_⟩
  replace S := S.out
  rw [HBS.out] at S
  exact S.tail.tail
/-- What a value is as a key: a key. -/
theorem lkey_ok (x : V) : ∃ k : V, k.isKey = true ∧ ∀ (w W : World) (Rs : List Res), Sep w Rs W → Calls Tryz.prog 42 #[.agg #[.int .i64 x.kind, .int .i64 x.n, .string x.s]] W fun e W' => e = .returned (.agg #[.int .i64 k.kind, .int .i64 k.n, .string k.s]) ∧ Sep w Rs W' := by
  by_cases h0 : bits .and .i64 x.kind 3 = 0
  · exact ⟨V.zero, by simp [V.isKey, V.zero, nilKey], fun _ _ _ S => key_0 S x h0⟩
  by_cases h1 : bits .and .i64 x.kind 3 = 1
  · by_cases hm : bits .and .i64 x.n 1 = 1
    · exact ⟨⟨1, 1, ⟨#[]⟩, by decide, by decide, by decide⟩, by simp [V.isKey, nilKey], fun _ _ _ S => key_1t S x h1 hm⟩
    · exact ⟨⟨1, 0, ⟨#[]⟩, by decide, by decide, by decide⟩, by simp [V.isKey, nilKey], fun _ _ _ S => key_1f S x h1 _ rfl hm⟩
  by_cases h2 : bits .and .i64 x.kind 3 = 2
  · exact ⟨vI (x.n.tmod 5) (okI_of (by have := Int.emod_emod_of_dvd x.n (show (1 : Int) ∣ 5 by decide); have a := Int.tmod_lt_of_pos x.n (show (0 : Int) < 5 by decide); have b := Int.lt_tmod_of_pos x.n (show (0 : Int) < 5 by decide); omega)), by simp [V.isKey, vI, nilKey], fun _ _ _ S => key_2 S x h2⟩
  · exact ⟨vS (x.s.extract 0 (min x.s.size 2)) (by have := x.hs; rw [ByteArray.size_extract]; omega), by simp [V.isKey, vS], fun _ _ _ S => key_3 S x _ rfl h0 h1 h2⟩
/-- A heap of one dict. -/
def dO (L : List (V × V)) : ObjM := ⟨3, ⟨#[]⟩, 0, [], L, by decide, by decide, by decide⟩
def HD (L : List (V × V)) : HeapM := (⟨[], 0⟩ : HeapM).add (dO L)
def vT : V := ⟨1, 1, ⟨#[]⟩, by decide, by decide, by decide⟩
theorem vT_key : vT.isKey = true := by simp [V.isKey, vT, nilKey]
theorem vI_key (n : Int) (hn) : (vI n hn).isKey = true := by simp [V.isKey, vI, nilKey]
def vD : V := ⟨4, 1, ⟨#[]⟩, by decide, by decide, by decide⟩
theorem HD_of (L : List (V × V)) : (HD L).of vD = some (dO L) := rfl
theorem HD_kind (L : List (V × V)) : (HD L).kind vD = 3 := rfl
theorem HD_row (L : List (V × V)) : (HD L).rowB vD = false := rfl
theorem HD_get (L : List (V × V)) (k : V) : (HD L).get vD k = getL L k := rfl
theorem HD_can (L : List (V × V)) (k : V) : (HD L).canPut vD k = putOk L k := rfl
theorem HD_has (L : List (V × V)) (k : V) : (HD L).has vD k = (getL L k).isSome := rfl
theorem HD_put (L : List (V × V)) (k x : V) (hk : putOk L k = true) : (HD L).put vD k x = HD (putL L k x) := by
  have e : (HD L).put vD k x = if putOk L k then (HD L).set 1 { dO L with pairs := putL L k x } else HD L := rfl
  rw [e, if_pos hk]; rfl
theorem HD_del (L : List (V × V)) (k : V) : (HD L).del vD k = HD (delL L k) := rfl
theorem HD_good {L : List (V × V)} (hL : L.length ≤ 100) : (HD L).Good 200 := (good_empty.add (dO L)).more (by simp [dO, ObjM.vals]; omega)
theorem putOk_of {L : List (V × V)} (hL : L.length ≤ 100) {k : V} (hk : k.isKey = true) : putOk L k = true := by
  unfold putOk; rw [hk]; simp; right; omega
theorem d_get {L : List (V × V)} (S : Sep w Rs W) (i : Nat) (hi : Rs[i]? = some (heapR h (HD L))) (y v : V) (hv : getL L y = some v) : Calls Tryz.prog 43 #[.pointer (some ⟨h, 0, none⟩), .agg #[.int .i64 4, .int .i64 1, .string ⟨#[]⟩], .agg #[.int .i64 y.kind, .int .i64 y.n, .string y.s]] W fun e W' => e = .returned (.tuple #[.agg #[.int .i64 v.kind, .int .i64 v.n, .string v.s], .bool true]) ∧ Sep w Rs W' := by
  exact idx_get S i hi vD y v hv
theorem d_get_no {L : List (V × V)} (S : Sep w Rs W) (i : Nat) (hi : Rs[i]? = some (heapR h (HD L))) (y : V) (hv : getL L y = none) : Calls Tryz.prog 43 #[.pointer (some ⟨h, 0, none⟩), .agg #[.int .i64 4, .int .i64 1, .string ⟨#[]⟩], .agg #[.int .i64 y.kind, .int .i64 y.n, .string y.s]] W fun e W' => e = .returned (.tuple #[zeroV, .bool false]) ∧ Sep w Rs W' := by
  exact idx_get_no S i hi vD y hv
theorem d_idx {L : List (V × V)} (S : Sep w Rs W) (i : Nat) (hi : Rs[i]? = some (heapR h (HD L))) (y v : V) (hk : y.isKey = true) (hv : getL L y = some v) : Calls Tryz.prog 34 #[.pointer (some ⟨h, 0, none⟩), .agg #[.int .i64 4, .int .i64 1, .string ⟨#[]⟩], .agg #[.int .i64 y.kind, .int .i64 y.n, .string y.s]] W fun e W' => e = .returned (.tuple #[.agg #[.int .i64 v.kind, .int .i64 v.n, .string v.s], excZ]) ∧ Sep w Rs W' := by
  exact idx_dict S i hi vD y v (by decide) (HD_row L) (HD_kind L) hk hv
theorem d_lost {L : List (V × V)} (S : Sep w Rs W) (i : Nat) (hi : Rs[i]? = some (heapR h (HD L))) (y : V) (hk : y.isKey = true) (hv : getL L y = none) : Calls Tryz.prog 34 #[.pointer (some ⟨h, 0, none⟩), .agg #[.int .i64 4, .int .i64 1, .string ⟨#[]⟩], .agg #[.int .i64 y.kind, .int .i64 y.n, .string y.s]] W fun e W' => e = .returned (.tuple #[zeroV, .agg #[.string keyError, .int .i64 y.kind, .int .i64 y.n, .string y.s, .bool true]]) ∧ Sep w Rs W' := by
  exact idx_lost S i hi vD y (by decide) (HD_row L) (HD_kind L) hk hv
theorem d_idx_w {L : List (V × V)} (S : Sep w Rs W) (i : Nat) (hi : Rs[i]? = some (heapR h (HD L))) (y : V) (hk : y.isKey = false) : Calls Tryz.prog 34 #[.pointer (some ⟨h, 0, none⟩), .agg #[.int .i64 4, .int .i64 1, .string ⟨#[]⟩], .agg #[.int .i64 y.kind, .int .i64 y.n, .string y.s]] W fun e W' => e = .returned (.tuple #[zeroV, excN typeError]) ∧ Sep w Rs W' := by
  exact idx_w3 S i hi vD y (by decide) (HD_row L) (HD_kind L) hk
theorem d_put {L : List (V × V)} (S : Sep w Rs W) (i : Nat) (hi : Rs[i]? = some (heapR h (HD L))) (hL : L.length ≤ 100) (y z : V) (hk : y.isKey = true) : Calls Tryz.prog 39 #[.pointer (some ⟨h, 0, none⟩), .agg #[.int .i64 4, .int .i64 1, .string ⟨#[]⟩], .agg #[.int .i64 y.kind, .int .i64 y.n, .string y.s], .agg #[.int .i64 z.kind, .int .i64 z.n, .string z.s]] W fun e W' => e = .returned (excZ) ∧ Sep w (Rs.set i (heapR h (HD (putL L y z)))) W' := by
  have hh := si_put S i hi (HD_good hL) (by decide) vD y z (by rw [HD_kind]; decide) (HD_kind L) hk (putOk_of hL hk)
  rw [HD_put L y z (putOk_of hL hk)] at hh
  exact hh
theorem d_put_w {L : List (V × V)} (S : Sep w Rs W) (i : Nat) (hi : Rs[i]? = some (heapR h (HD L))) (hL : L.length ≤ 100) (y z : V) (hk : y.isKey = false) : Calls Tryz.prog 39 #[.pointer (some ⟨h, 0, none⟩), .agg #[.int .i64 4, .int .i64 1, .string ⟨#[]⟩], .agg #[.int .i64 y.kind, .int .i64 y.n, .string y.s], .agg #[.int .i64 z.kind, .int .i64 z.n, .string z.s]] W fun e W' => e = .returned (excN typeError) ∧ Sep w Rs W' := by
  rw [← set_same hi]
  exact si_w2 S i hi (HD_good hL) (by decide) vD y z (by rw [HD_kind]; decide) (HD_kind L) hk
theorem d_rem {L : List (V × V)} (S : Sep w Rs W) (i : Nat) (hi : Rs[i]? = some (heapR h (HD L))) (hL : L.length ≤ 100) (y : V) (hk : y.isKey = true) (hv : (getL L y).isSome = true) : Calls Tryz.prog 40 #[.pointer (some ⟨h, 0, none⟩), .agg #[.int .i64 4, .int .i64 1, .string ⟨#[]⟩], .agg #[.int .i64 y.kind, .int .i64 y.n, .string y.s]] W fun e W' => e = .returned (excZ) ∧ Sep w (Rs.set i (heapR h (HD (delL L y)))) W' := by
  exact di_rem S i hi (HD_good hL) (by decide) vD y (by rw [HD_kind]; decide) (HD_kind L) hk hv
theorem d_rem_no {L : List (V × V)} (S : Sep w Rs W) (i : Nat) (hi : Rs[i]? = some (heapR h (HD L))) (hL : L.length ≤ 100) (y : V) (hk : y.isKey = true) (hv : (getL L y).isSome = false) : Calls Tryz.prog 40 #[.pointer (some ⟨h, 0, none⟩), .agg #[.int .i64 4, .int .i64 1, .string ⟨#[]⟩], .agg #[.int .i64 y.kind, .int .i64 y.n, .string y.s]] W fun e W' => e = .returned (.agg #[.string keyError, .int .i64 y.kind, .int .i64 y.n, .string y.s, .bool true]) ∧ Sep w (Rs.set i (heapR h (HD (delL L y)))) W' := by
  exact di_rem_no S i hi (HD_good hL) (by decide) vD y (by rw [HD_kind]; decide) (HD_kind L) hk hv
theorem d_rem_w {L : List (V × V)} (S : Sep w Rs W) (i : Nat) (hi : Rs[i]? = some (heapR h (HD L))) (hL : L.length ≤ 100) (y : V) (hk : y.isKey = false) : Calls Tryz.prog 40 #[.pointer (some ⟨h, 0, none⟩), .agg #[.int .i64 4, .int .i64 1, .string ⟨#[]⟩], .agg #[.int .i64 y.kind, .int .i64 y.n, .string y.s]] W fun e W' => e = .returned (excN typeError) ∧ Sep w Rs W' := by
  rw [← set_same hi]
  exact di_w2 S i hi (HD_good hL) (by decide) vD y (by rw [HD_kind]; decide) (HD_kind L) hk
theorem d_in {L : List (V × V)} (S : Sep w Rs W) (i : Nat) (hi : Rs[i]? = some (heapR h (HD L))) (y v : V) (hk : y.isKey = true) (hv : getL L y = some v) : Calls Tryz.prog 18 #[.pointer (some ⟨h, 0, none⟩), .string ⟨#[105, 110]⟩, .agg #[.int .i64 y.kind, .int .i64 y.n, .string y.s], .agg #[.int .i64 4, .int .i64 1, .string ⟨#[]⟩]] W fun e W' => e = .returned (.tuple #[.agg #[.int .i64 1, .int .i64 1, .string ⟨#[]⟩], excZ]) ∧ Sep w Rs W' := by
  have hh := cmp_in S i hi ⟨#[105, 110]⟩ (by decide) false y vD (.ok true) (fun m => by rfl) (fun {Rs W} i S hi => by
    by_cases hs : y.kind = 3
    · exact in_dicts S i hi y vD v hs (by decide) (HD_row L) (HD_kind L) hk hv
    · exact in_dict S i hi y vD v hs (by decide) (HD_row L) (HD_kind L) hk hv)
  exact hh
theorem d_in_no {L : List (V × V)} (S : Sep w Rs W) (i : Nat) (hi : Rs[i]? = some (heapR h (HD L))) (y : V) (hk : y.isKey = true) (hv : getL L y = none) : Calls Tryz.prog 18 #[.pointer (some ⟨h, 0, none⟩), .string ⟨#[105, 110]⟩, .agg #[.int .i64 y.kind, .int .i64 y.n, .string y.s], .agg #[.int .i64 4, .int .i64 1, .string ⟨#[]⟩]] W fun e W' => e = .returned (.tuple #[.agg #[.int .i64 1, .int .i64 0, .string ⟨#[]⟩], excZ]) ∧ Sep w Rs W' := by
  have hh := cmp_in S i hi ⟨#[105, 110]⟩ (by decide) false y vD (.ok false) (fun m => by rfl) (fun {Rs W} i S hi => by
    by_cases hs : y.kind = 3
    · exact in_dict_nos S i hi y vD hs (by decide) (HD_row L) (HD_kind L) hk hv
    · exact in_dict_no S i hi y vD hs (by decide) (HD_row L) (HD_kind L) hk hv)
  exact hh
theorem d_nin {L : List (V × V)} (S : Sep w Rs W) (i : Nat) (hi : Rs[i]? = some (heapR h (HD L))) (y : V) (hk : y.isKey = true) (hv : getL L y = none) : Calls Tryz.prog 18 #[.pointer (some ⟨h, 0, none⟩), .string ⟨#[110, 111, 116, 32, 105, 110]⟩, .agg #[.int .i64 y.kind, .int .i64 y.n, .string y.s], .agg #[.int .i64 4, .int .i64 1, .string ⟨#[]⟩]] W fun e W' => e = .returned (.tuple #[.agg #[.int .i64 1, .int .i64 1, .string ⟨#[]⟩], excZ]) ∧ Sep w Rs W' := by
  have hh := cmp_in S i hi ⟨#[110, 111, 116, 32, 105, 110]⟩ (by decide) true y vD (.ok false) (fun m => by rfl) (fun {Rs W} i S hi => by
    by_cases hs : y.kind = 3
    · exact in_dict_nos S i hi y vD hs (by decide) (HD_row L) (HD_kind L) hk hv
    · exact in_dict_no S i hi y vD hs (by decide) (HD_row L) (HD_kind L) hk hv)
  exact hh
theorem d_in_w {L : List (V × V)} (S : Sep w Rs W) (i : Nat) (hi : Rs[i]? = some (heapR h (HD L))) (y : V) (hk : y.isKey = false) : Calls Tryz.prog 18 #[.pointer (some ⟨h, 0, none⟩), .string ⟨#[105, 110]⟩, .agg #[.int .i64 y.kind, .int .i64 y.n, .string y.s], .agg #[.int .i64 4, .int .i64 1, .string ⟨#[]⟩]] W fun e W' => e = .returned (.tuple #[zeroV, excN typeError]) ∧ Sep w Rs W' := by
  have hh := cmp_in S i hi ⟨#[105, 110]⟩ (by decide) false y vD (.type) (fun m => by rfl) (fun {Rs W} i S hi => by
    by_cases hs : y.kind = 3
    · exact in_w2s S i hi y vD hs (by decide) (HD_row L) (HD_kind L) hk
    · exact in_w2 S i hi y vD hs (by decide) (HD_row L) (HD_kind L) hk)
  exact hh
end
end Go.Proofs.YtellmfimmghidaaGreat
