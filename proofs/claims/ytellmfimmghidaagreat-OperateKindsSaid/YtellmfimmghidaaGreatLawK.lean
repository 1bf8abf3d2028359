import Derived.Test.YtellmfimmghidaaGreatOprI
import Derived.Test.YtellmfimmghidaaGreatTellE
import Derived.Test.YtellmfimmghidaaGreatLawC
/- ch 16: what multiply, Neg and Bin refuse; Truth. -/
namespace Go.Proofs.YtellmfimmghidaaGreat
set_option linter.unusedSimpArgs false
open Go.RowKit
set_option linter.unusedVariables false
section
variable {w W : World} {Rs : List Res} {h : Nat} {H : HeapM}
set_option maxRecDepth 100000 in
set_option maxHeartbeats 12800000 in
theorem mul_w1 (S : Sep w Rs W) (i : Nat) (hi : Rs[i]? = some (heapR h H)) (x y : V) (hx : ¬ x.kind = 2) (hy : ¬ y.kind = 2) : Calls Tryz.prog 54 #[.pointer (some ⟨h, 0, none⟩), .agg #[.int .i64 x.kind, .int .i64 x.n, .string x.s], .agg #[.int .i64 y.kind, .int .i64 y.n, .string y.s]] W fun e W' => e = .returned (.tuple #[zeroV, excN typeError]) ∧ Sep w Rs W' := by
  have e1 : (x.kind == 2) = false := by simpa using hx
  have e2 : (y.kind != 2) = true := by simpa using hy
  clear hx hy
  obtain ⟨b, hb⟩ : ∃ gx_, (W.heap.size) = gx_ := ⟨_, rfl⟩
  replace S := ((((S.alloc (.cells #[.int .i64 x.kind, .int .i64 x.n, .string x.s] 29)).alloc (.cells #[.int .i64 y.kind, .int .i64 y.n, .string y.s] 29)).alloc (.cells #[.int .i64 0, .int .i64 0, .string ⟨#[]⟩] 29)).alloc (.cells #[.string ⟨#[]⟩, .int .i64 0, .int .i64 0, .string ⟨#[]⟩, .bool false] 38))
  simp only [World.size_alloc, hb] at S
  replace S : Sep w (boxR (b + 1 + 1 + 1) (.cells #[.string ⟨#[]⟩, .int .i64 0, .int .i64 0, .string ⟨#[]⟩, .bool false] 38) :: boxR (b + 1 + 1) (.cells #[.int .i64 0, .int .i64 0, .string ⟨#[]⟩] 29) :: boxR (b + 1) (.cells #[.int .i64 y.kind, .int .i64 y.n, .string y.s] 29) :: boxR b (.cells #[.int .i64 x.kind, .int .i64 x.n, .string x.s] 29) :: Rs) ((((W.alloc (.cells #[.int .i64 x.kind, .int .i64 x.n, .string x.s] 29)).alloc (.cells #[.int .i64 y.kind, .int .i64 y.n, .string y.s] 29)).alloc (.cells #[.int .i64 0, .int .i64 0, .string ⟨#[]⟩] 29)).alloc (.cells #[.string ⟨#[]⟩, .int .i64 0, .int .i64 0, .string ⟨#[]⟩, .bool false] 38)) := S
  obtain ⟨bA, hbs⟩ : ∃ l, l = Rs := ⟨_, rfl⟩
  have HBS := Lib.hid hbs
  replace S : Sep w ([boxR (b + 1 + 1 + 1) (.cells #[.string ⟨#[]⟩, .int .i64 0, .int .i64 0, .string ⟨#[]⟩, .bool false] 38), boxR (b + 1 + 1) (.cells #[.int .i64 0, .int .i64 0, .string ⟨#[]⟩] 29), boxR (b + 1) (.cells #[.int .i64 y.kind, .int .i64 y.n, .string y.s] 29), boxR b (.cells #[.int .i64 x.kind, .int .i64 x.n, .string x.s] 29)] ++ bA) ((((W.alloc (.cells #[.int .i64 x.kind, .int .i64 x.n, .string x.s] 29)).alloc (.cells #[.int .i64 y.kind, .int .i64 y.n, .string y.s] 29)).alloc (.cells #[.int .i64 0, .int .i64 0, .string ⟨#[]⟩] 29)).alloc (.cells #[.string ⟨#[]⟩, .int .i64 0, .int .i64 0, .string ⟨#[]⟩, .bool false] 38)) := by
    rw [hbs]
    refine (show Sep w ([boxR (b + 1 + 1 + 1) (.cells #[.string ⟨#[]⟩, .int .i64 0, .int .i64 0, .string ⟨#[]⟩, .bool false] 38), boxR (b + 1 + 1) (.cells #[.int .i64 0, .int .i64 0, .string ⟨#[]⟩] 29), boxR (b + 1) (.cells #[.int .i64 y.kind, .int .i64 y.n, .string y.s] 29), boxR b (.cells #[.int .i64 x.kind, .int .i64 x.n, .string x.s] 29)] ++ Rs) _ from S).perm ?_
    exact (show ([boxR (b + 1 + 1 + 1) (.cells #[.string ⟨#[]⟩, .int .i64 0, .int .i64 0, .string ⟨#[]⟩, .bool false] 38), boxR (b + 1 + 1) (.cells #[.int .i64 0, .int .i64 0, .string ⟨#[]⟩] 29), boxR (b + 1) (.cells #[.int .i64 y.kind, .int .i64 y.n, .string y.s] 29), boxR b (.cells #[.int .i64 x.kind, .int .i64 x.n, .string x.s] 29)] ++ Rs).Perm ([boxR (b + 1 + 1 + 1) (.cells #[.string ⟨#[]⟩, .int .i64 0, .int .i64 0, .string ⟨#[]⟩, .bool false] 38), boxR (b + 1 + 1) (.cells #[.int .i64 0, .int .i64 0, .string ⟨#[]⟩] 29), boxR (b + 1) (.cells #[.int .i64 y.kind, .int .i64 y.n, .string y.s] 29), boxR b (.cells #[.int .i64 x.kind, .int .i64 x.n, .string x.s] 29)] ++ ([] ++ Rs)) from by rw [← List.append_assoc]; exact List.Perm.append_right Rs (by exact perm_of [0, 1, 2, 3] (by show (List.range' 0 4).Perm [0, 1, 2, 3]; decide) (by rfl)))
  clear hbs
  replace S := Lib.hid S
  go_enter Tryz.func54, Tryz.ntmps54
  go_upto_region 1 with fail
  try simp only [World.size_alloc, hb]
  clear hb
  refine regionL (E := [boxR (b + 1 + 1 + 1) (.cells #[.string ⟨#[]⟩, .int .i64 0, .int .i64 0, .string ⟨#[]⟩, .bool false] 38), boxR (b + 1 + 1) (.cells #[.int .i64 0, .int .i64 0, .string ⟨#[]⟩] 29), boxR (b + 1) (.cells #[.int .i64 y.kind, .int .i64 y.n, .string y.s] 29), boxR b (.cells #[.int .i64 x.kind, .int .i64 x.n, .string x.s] 29)]) (base := bA) S.out ?_
  clear S
  refine quietL (hy := fun E Wx hSw => by (go_simp; exact ⟨rfl, hSw⟩)) (h := ?_)
  simp only [Act.put, List.setIfInBounds_toArray, List.set_cons_zero, List.set_cons_succ]
  refine detL _ [boxR (b + 1 + 1 + 1) (.cells #[.string ⟨#[]⟩, .int .i64 0, .int .i64 0, .string ⟨#[]⟩, .bool false] 38), boxR (b + 1 + 1) (.cells #[.int .i64 0, .int .i64 0, .string ⟨#[]⟩] 29), boxR (b + 1) (.cells #[.int .i64 y.kind, .int .i64 y.n, .string y.s] 29), boxR b (.cells #[.int .i64 x.kind, .int .i64 x.n, .string x.s] 29)] (h1 := fun Wx hSw => by (have hz := hSw.box (b := b) (o := .cells #[.int .i64 x.kind, .int .i64 x.n, .string x.s] 29) 3 rfl; have z0 := cellAt hz 0 (v := .int .i64 x.kind) rfl; have z1 := cellAt hz 1 (v := .int .i64 x.n) rfl; have z2 := cellAt hz 2 (v := .string x.s) rfl; go_simp; exact ⟨rfl, hSw⟩)) (h2 := ?_)
  simp only [Act.put, List.setIfInBounds_toArray, List.set_cons_zero, List.set_cons_succ]
  refine quietL (hy := fun E Wx hSw => by (go_simp; exact ⟨rfl, hSw⟩)) (h := ?_)
  simp only [Act.put, List.setIfInBounds_toArray, List.set_cons_zero, List.set_cons_succ]
  intro w1 S
  replace S := Lib.hid S
  go_upto_region 3 with fail
  refine regionL (E := [boxR (b + 1 + 1 + 1) (.cells #[.string ⟨#[]⟩, .int .i64 0, .int .i64 0, .string ⟨#[]⟩, .bool false] 38), boxR (b + 1 + 1) (.cells #[.int .i64 0, .int .i64 0, .string ⟨#[]⟩] 29), boxR (b + 1) (.cells #[.int .i64 y.kind, .int .i64 y.n, .string y.s] 29), boxR b (.cells #[.int .i64 x.kind, .int .i64 x.n, .string x.s] 29)]) (base := bA) S.out ?_
  clear S
  refine quietL (hy := fun E Wx hSw => by (go_simp; exact ⟨rfl, hSw⟩)) (h := ?_)
  simp only [Act.put, List.setIfInBounds_toArray, List.set_cons_zero, List.set_cons_succ]
  refine detL _ [boxR (b + 1 + 1 + 1) (.cells #[.string ⟨#[]⟩, .int .i64 0, .int .i64 0, .string ⟨#[]⟩, .bool false] 38), boxR (b + 1 + 1) (.cells #[.int .i64 0, .int .i64 0, .string ⟨#[]⟩] 29), boxR (b + 1) (.cells #[.int .i64 y.kind, .int .i64 y.n, .string y.s] 29), boxR b (.cells #[.int .i64 x.kind, .int .i64 x.n, .string x.s] 29)] (h1 := fun Wx hSw => by (have hz := hSw.box (b := (b + 1)) (o := .cells #[.int .i64 y.kind, .int .i64 y.n, .string y.s] 29) 2 rfl; have z0 := cellAt hz 0 (v := .int .i64 y.kind) rfl; have z1 := cellAt hz 1 (v := .int .i64 y.n) rfl; have z2 := cellAt hz 2 (v := .string y.s) rfl; go_simp; exact ⟨rfl, hSw⟩)) (h2 := ?_)
  simp only [Act.put, List.setIfInBounds_toArray, List.set_cons_zero, List.set_cons_succ]
  refine quietL (hy := fun E Wx hSw => by (go_simp; exact ⟨rfl, hSw⟩)) (h := ?_)
  simp only [Act.put, List.setIfInBounds_toArray, List.set_cons_zero, List.set_cons_succ]
  refine quietL (hy := fun E Wx hSw => by (go_simp; exact ⟨rfl, hSw⟩)) (h := ?_)
  simp only [Act.put, List.setIfInBounds_toArray, List.set_cons_zero, List.set_cons_succ]
  intro w2 S
  replace S := Lib.hid S
  have KW : Hid (∀ W (Q : List Res), Sep w (Q ++ bA) W → Calls Tryz.prog 48 #[] W fun e W' => e = .returned (.tuple #[zeroV, excN typeError]) ∧ Sep w (Q ++ bA) W') := Lib.hid fun W Q T => by
    exact wrong_ok T
  go_upto_region 4 with fail
  refine regionL (E := [boxR (b + 1 + 1 + 1) (.cells #[.string ⟨#[]⟩, .int .i64 0, .int .i64 0, .string ⟨#[]⟩, .bool false] 38), boxR (b + 1 + 1) (.cells #[.int .i64 0, .int .i64 0, .string ⟨#[]⟩] 29), boxR (b + 1) (.cells #[.int .i64 y.kind, .int .i64 y.n, .string y.s] 29), boxR b (.cells #[.int .i64 x.kind, .int .i64 x.n, .string x.s] 29)]) (base := bA) S.out ?_
  clear S
  refine quietL (hy := fun E Wx hSw => by (go_simp; exact symCall (KW.out _ _ hSw))) (h := ?_)
  simp only [Act.put, List.setIfInBounds_toArray, List.set_cons_zero, List.set_cons_succ]
  refine quietL (hy := fun E Wx hSw => by (go_simp; exact ⟨rfl, hSw⟩)) (h := ?_)
  simp only [Act.put, List.setIfInBounds_toArray, List.set_cons_zero, List.set_cons_succ]
  refine quietL (hy := fun E Wx hSw => by (go_simp; exact ⟨rfl, hSw⟩)) (h := ?_)
  simp only [Act.put, List.setIfInBounds_toArray, List.set_cons_zero, List.set_cons_succ]
  refine detL undef [boxR (b + 1 + 1 + 1) (.cells #[.string ⟨#[]⟩, .int .i64 0, .int .i64 0, .string ⟨#[]⟩, .bool false] 38), boxR (b + 1 + 1) (.cells #[.int .i64 0, .int .i64 0, .string ⟨#[]⟩] 29), boxR (b + 1) (.cells #[.int .i64 y.kind, .int .i64 y.n, .string y.s] 29), boxR b (.cells #[.int .i64 x.kind, .int .i64 x.n, .string x.s] 29)] (h1 := fun Wx hSw => by (have hz := hSw.box (b := (b + 1 + 1)) (o := .cells #[.int .i64 0, .int .i64 0, .string ⟨#[]⟩] 29) 1 rfl; have z0 := cellAt hz 0 (v := .int .i64 0) rfl; have y0 := frozenAt hz 0; have z1 := cellAt hz 1 (v := .int .i64 0) rfl; have y1 := frozenAt hz 1; have z2 := cellAt hz 2 (v := .string ⟨#[]⟩) rfl; have y2 := frozenAt hz 2; go_simp; exact ⟨rfl, (Sep.setBox (cs := #[.int .i64 0, .int .i64 0, .string ⟨#[]⟩]) (t := 29) (Sep.setBox (cs := #[.int .i64 0, .int .i64 0, .string ⟨#[]⟩]) (t := 29) (Sep.setBox (cs := #[.int .i64 0, .int .i64 0, .string ⟨#[]⟩]) (t := 29) hSw 1 rfl 0 (.int .i64 0)) 1 rfl 1 (.int .i64 0)) 1 rfl 2 (.string ⟨#[]⟩))⟩)) (h2 := ?_)
  simp only [Act.put, List.setIfInBounds_toArray, List.set_cons_zero, List.set_cons_succ]
  refine detL undef [boxR (b + 1 + 1 + 1) (.cells #[.string typeError, .int .i64 0, .int .i64 0, .string ⟨#[]⟩, .bool false] 38), boxR (b + 1 + 1) (.cells #[.int .i64 0, .int .i64 0, .string ⟨#[]⟩] 29), boxR (b + 1) (.cells #[.int .i64 y.kind, .int .i64 y.n, .string y.s] 29), boxR b (.cells #[.int .i64 x.kind, .int .i64 x.n, .string x.s] 29)] (h1 := fun Wx hSw => by (have hz := hSw.box (b := (b + 1 + 1 + 1)) (o := .cells #[.string ⟨#[]⟩, .int .i64 0, .int .i64 0, .string ⟨#[]⟩, .bool false] 38) 0 rfl; have z0 := cellAt hz 0 (v := .string ⟨#[]⟩) rfl; have y0 := frozenAt hz 0; have z1 := cellAt hz 1 (v := .int .i64 0) rfl; have y1 := frozenAt hz 1; have z2 := cellAt hz 2 (v := .int .i64 0) rfl; have y2 := frozenAt hz 2; have z3 := cellAt hz 3 (v := .string ⟨#[]⟩) rfl; have y3 := frozenAt hz 3; have z4 := cellAt hz 4 (v := .bool false) rfl; have y4 := frozenAt hz 4; go_simp; exact ⟨rfl, (Sep.setBox (cs := #[.string typeError, .int .i64 0, .int .i64 0, .string ⟨#[]⟩, .bool false]) (t := 38) (Sep.setBox (cs := #[.string typeError, .int .i64 0, .int .i64 0, .string ⟨#[]⟩, .bool false]) (t := 38) (Sep.setBox (cs := #[.string typeError, .int .i64 0, .int .i64 0, .string ⟨#[]⟩, .bool false]) (t := 38) (Sep.setBox (cs := #[.string typeError, .int .i64 0, .int .i64 0, .string ⟨#[]⟩, .bool false]) (t := 38) (Sep.setBox (cs := #[.string ⟨#[]⟩, .int .i64 0, .int .i64 0, .string ⟨#[]⟩, .bool false]) (t := 38) hSw 0 rfl 0 (.string typeError)) 0 rfl 1 (.int .i64 0)) 0 rfl 2 (.int .i64 0)) 0 rfl 3 (.string ⟨#[]⟩)) 0 rfl 4 (.bool false))⟩)) (h2 := ?_)
  simp only [Act.put, List.setIfInBounds_toArray, List.set_cons_zero, List.set_cons_succ]
  intro w3 S
  replace S := Lib.hid S
  replace S := S.out
  have r0 := cellAt (S.box (b := b + 1 + 1) 1 rfl) 0 (v := .int .i64 0) rfl
  have r1 := cellAt (S.box (b := b + 1 + 1) 1 rfl) 1 (v := .int .i64 0) rfl
  have r2 := cellAt (S.box (b := b + 1 + 1) 1 rfl) 2 (v := .string ⟨#[]⟩) rfl
  have r3 := cellAt (S.box (b := b + 1 + 1 + 1) 0 rfl) 0 (v := .string typeError) rfl
  have r4 := cellAt (S.box (b := b + 1 + 1 + 1) 0 rfl) 1 (v := .int .i64 0) rfl
  have r5 := cellAt (S.box (b := b + 1 + 1 + 1) 0 rfl) 2 (v := .int .i64 0) rfl
  have r6 := cellAt (S.box (b := b + 1 + 1 + 1) 0 rfl) 3 (v := .string ⟨#[]⟩) rfl
  have r7 := cellAt (S.box (b := b + 1 + 1 + 1) 0 rfl) 4 (v := .bool false) rfl
  replace S := Lib.hid S
  go_wp2
  refine bodyPost_ret (v := .tuple #[zeroV, excN typeError]) (by simp [results, Tryz.results54, go_sem, r0, r1, r2, r3, r4, r5, r6, r7]) rfl ⟨rfl, ?_⟩
  replace S := S.out
  rw [HBS.out] at S
  exact S.tail.tail.tail.tail
set_option maxRecDepth 100000 in
set_option maxHeartbeats 12800000 in
theorem mul_w2 (S : Sep w Rs W) (i : Nat) (hi : Rs[i]? = some (heapR h H)) (x y : V) (hx : ¬ x.kind = 2) (hy : y.kind = 2) (hs : ¬ x.kind = 3) (hr : H.rowB x = false) : Calls Tryz.prog 54 #[.pointer (some ⟨h, 0, none⟩), .agg #[.int .i64 x.kind, .int .i64 x.n, .string x.s], .agg #[.int .i64 y.kind, .int .i64 y.n, .string y.s]] W fun e W' => e = .returned (.tuple #[zeroV, excN typeError]) ∧ Sep w Rs W' := by
  have e1 : (x.kind == 2) = false := by simpa using hx
  have e2 : (y.kind != 2) = false := by simp [hy]
  have e3 : (x.kind == 3) = false := by simpa using hs
  have HR := Lib.hid hr
  clear hx hy hs hr
  obtain ⟨b, hb⟩ : ∃ gx_, (W.heap.size) = gx_ := ⟨_, rfl⟩
  replace S := ((((S.alloc (.cells #[.int .i64 x.kind, .int .i64 x.n, .string x.s] 29)).alloc (.cells #[.int .i64 y.kind, .int .i64 y.n, .string y.s] 29)).alloc (.cells #[.int .i64 0, .int .i64 0, .string ⟨#[]⟩] 29)).alloc (.cells #[.string ⟨#[]⟩, .int .i64 0, .int .i64 0, .string ⟨#[]⟩, .bool false] 38))
  simp only [World.size_alloc, hb] at S
  replace S : Sep w (boxR (b + 1 + 1 + 1) (.cells #[.string ⟨#[]⟩, .int .i64 0, .int .i64 0, .string ⟨#[]⟩, .bool false] 38) :: boxR (b + 1 + 1) (.cells #[.int .i64 0, .int .i64 0, .string ⟨#[]⟩] 29) :: boxR (b + 1) (.cells #[.int .i64 y.kind, .int .i64 y.n, .string y.s] 29) :: boxR b (.cells #[.int .i64 x.kind, .int .i64 x.n, .string x.s] 29) :: Rs) ((((W.alloc (.cells #[.int .i64 x.kind, .int .i64 x.n, .string x.s] 29)).alloc (.cells #[.int .i64 y.kind, .int .i64 y.n, .string y.s] 29)).alloc (.cells #[.int .i64 0, .int .i64 0, .string ⟨#[]⟩] 29)).alloc (.cells #[.string ⟨#[]⟩, .int .i64 0, .int .i64 0, .string ⟨#[]⟩, .bool false] 38)) := S
  obtain ⟨bA, hbs⟩ : ∃ l, l = Rs := ⟨_, rfl⟩
  have HBS := Lib.hid hbs
  replace S : Sep w ([boxR (b + 1 + 1 + 1) (.cells #[.string ⟨#[]⟩, .int .i64 0, .int .i64 0, .string ⟨#[]⟩, .bool false] 38), boxR (b + 1 + 1) (.cells #[.int .i64 0, .int .i64 0, .string ⟨#[]⟩] 29), boxR (b + 1) (.cells #[.int .i64 y.kind, .int .i64 y.n, .string y.s] 29), boxR b (.cells #[.int .i64 x.kind, .int .i64 x.n, .string x.s] 29)] ++ bA) ((((W.alloc (.cells #[.int .i64 x.kind, .int .i64 x.n, .string x.s] 29)).alloc (.cells #[.int .i64 y.kind, .int .i64 y.n, .string y.s] 29)).alloc (.cells #[.int .i64 0, .int .i64 0, .string ⟨#[]⟩] 29)).alloc (.cells #[.string ⟨#[]⟩, .int .i64 0, .int .i64 0, .string ⟨#[]⟩, .bool false] 38)) := by
    rw [hbs]
    refine (show Sep w ([boxR (b + 1 + 1 + 1) (.cells #[.string ⟨#[]⟩, .int .i64 0, .int .i64 0, .string ⟨#[]⟩, .bool false] 38), boxR (b + 1 + 1) (.cells #[.int .i64 0, .int .i64 0, .string ⟨#[]⟩] 29), boxR (b + 1) (.cells #[.int .i64 y.kind, .int .i64 y.n, .string y.s] 29), boxR b (.cells #[.int .i64 x.kind, .int .i64 x.n, .string x.s] 29)] ++ Rs) _ from S).perm ?_
    exact (show ([boxR (b + 1 + 1 + 1) (.cells #[.string ⟨#[]⟩, .int .i64 0, .int .i64 0, .string ⟨#[]⟩, .bool false] 38), boxR (b + 1 + 1) (.cells #[.int .i64 0, .int .i64 0, .string ⟨#[]⟩] 29), boxR (b + 1) (.cells #[.int .i64 y.kind, .int .i64 y.n, .string y.s] 29), boxR b (.cells #[.int .i64 x.kind, .int .i64 x.n, .string x.s] 29)] ++ Rs).Perm ([boxR (b + 1 + 1 + 1) (.cells #[.string ⟨#[]⟩, .int .i64 0, .int .i64 0, .string ⟨#[]⟩, .bool false] 38), boxR (b + 1 + 1) (.cells #[.int .i64 0, .int .i64 0, .string ⟨#[]⟩] 29), boxR (b + 1) (.cells #[.int .i64 y.kind, .int .i64 y.n, .string y.s] 29), boxR b (.cells #[.int .i64 x.kind, .int .i64 x.n, .string x.s] 29)] ++ ([] ++ Rs)) from by rw [← List.append_assoc]; exact List.Perm.append_right Rs (by exact perm_of [0, 1, 2, 3] (by show (List.range' 0 4).Perm [0, 1, 2, 3]; decide) (by rfl)))
  clear hbs
  replace S := Lib.hid S
  go_enter Tryz.func54, Tryz.ntmps54
  go_upto_region 1 with fail
  try simp only [World.size_alloc, hb]
  clear hb
  refine regionL (E := [boxR (b + 1 + 1 + 1) (.cells #[.string ⟨#[]⟩, .int .i64 0, .int .i64 0, .string ⟨#[]⟩, .bool false] 38), boxR (b + 1 + 1) (.cells #[.int .i64 0, .int .i64 0, .string ⟨#[]⟩] 29), boxR (b + 1) (.cells #[.int .i64 y.kind, .int .i64 y.n, .string y.s] 29), boxR b (.cells #[.int .i64 x.kind, .int .i64 x.n, .string x.s] 29)]) (base := bA) S.out ?_
  clear S
  refine quietL (hy := fun E Wx hSw => by (go_simp; exact ⟨rfl, hSw⟩)) (h := ?_)
  simp only [Act.put, List.setIfInBounds_toArray, List.set_cons_zero, List.set_cons_succ]
  refine detL _ [boxR (b + 1 + 1 + 1) (.cells #[.string ⟨#[]⟩, .int .i64 0, .int .i64 0, .string ⟨#[]⟩, .bool false] 38), boxR (b + 1 + 1) (.cells #[.int .i64 0, .int .i64 0, .string ⟨#[]⟩] 29), boxR (b + 1) (.cells #[.int .i64 y.kind, .int .i64 y.n, .string y.s] 29), boxR b (.cells #[.int .i64 x.kind, .int .i64 x.n, .string x.s] 29)] (h1 := fun Wx hSw => by (have hz := hSw.box (b := b) (o := .cells #[.int .i64 x.kind, .int .i64 x.n, .string x.s] 29) 3 rfl; have z0 := cellAt hz 0 (v := .int .i64 x.kind) rfl; have z1 := cellAt hz 1 (v := .int .i64 x.n) rfl; have z2 := cellAt hz 2 (v := .string x.s) rfl; go_simp; exact ⟨rfl, hSw⟩)) (h2 := ?_)
  simp only [Act.put, List.setIfInBounds_toArray, List.set_cons_zero, List.set_cons_succ]
  refine quietL (hy := fun E Wx hSw => by (go_simp; exact ⟨rfl, hSw⟩)) (h := ?_)
  simp only [Act.put, List.setIfInBounds_toArray, List.set_cons_zero, List.set_cons_succ]
  intro w1 S
  replace S := Lib.hid S
  go_upto_region 3 with fail
  refine regionL (E := [boxR (b + 1 + 1 + 1) (.cells #[.string ⟨#[]⟩, .int .i64 0, .int .i64 0, .string ⟨#[]⟩, .bool false] 38), boxR (b + 1 + 1) (.cells #[.int .i64 0, .int .i64 0, .string ⟨#[]⟩] 29), boxR (b + 1) (.cells #[.int .i64 y.kind, .int .i64 y.n, .string y.s] 29), boxR b (.cells #[.int .i64 x.kind, .int .i64 x.n, .string x.s] 29)]) (base := bA) S.out ?_
  clear S
  refine quietL (hy := fun E Wx hSw => by (go_simp; exact ⟨rfl, hSw⟩)) (h := ?_)
  simp only [Act.put, List.setIfInBounds_toArray, List.set_cons_zero, List.set_cons_succ]
  refine detL _ [boxR (b + 1 + 1 + 1) (.cells #[.string ⟨#[]⟩, .int .i64 0, .int .i64 0, .string ⟨#[]⟩, .bool false] 38), boxR (b + 1 + 1) (.cells #[.int .i64 0, .int .i64 0, .string ⟨#[]⟩] 29), boxR (b + 1) (.cells #[.int .i64 y.kind, .int .i64 y.n, .string y.s] 29), boxR b (.cells #[.int .i64 x.kind, .int .i64 x.n, .string x.s] 29)] (h1 := fun Wx hSw => by (have hz := hSw.box (b := (b + 1)) (o := .cells #[.int .i64 y.kind, .int .i64 y.n, .string y.s] 29) 2 rfl; have z0 := cellAt hz 0 (v := .int .i64 y.kind) rfl; have z1 := cellAt hz 1 (v := .int .i64 y.n) rfl; have z2 := cellAt hz 2 (v := .string y.s) rfl; go_simp; exact ⟨rfl, hSw⟩)) (h2 := ?_)
  simp only [Act.put, List.setIfInBounds_toArray, List.set_cons_zero, List.set_cons_succ]
  refine quietL (hy := fun E Wx hSw => by (go_simp; exact ⟨rfl, hSw⟩)) (h := ?_)
  simp only [Act.put, List.setIfInBounds_toArray, List.set_cons_zero, List.set_cons_succ]
  refine quietL (hy := fun E Wx hSw => by (go_simp; exact ⟨rfl, hSw⟩)) (h := ?_)
  simp only [Act.put, List.setIfInBounds_toArray, List.set_cons_zero, List.set_cons_succ]
  intro w2 S
  replace S := Lib.hid S
  have KW : Hid (∀ W (Q : List Res), Sep w (Q ++ bA) W → Calls Tryz.prog 48 #[] W fun e W' => e = .returned (.tuple #[zeroV, excN typeError]) ∧ Sep w (Q ++ bA) W') := Lib.hid fun W Q T => by
    exact wrong_ok T
  go_upto_region 5 with fail
  refine regionL (E := [boxR (b + 1 + 1 + 1) (.cells #[.string ⟨#[]⟩, .int .i64 0, .int .i64 0, .string ⟨#[]⟩, .bool false] 38), boxR (b + 1 + 1) (.cells #[.int .i64 0, .int .i64 0, .string ⟨#[]⟩] 29), boxR (b + 1) (.cells #[.int .i64 y.kind, .int .i64 y.n, .string y.s] 29), boxR b (.cells #[.int .i64 x.kind, .int .i64 x.n, .string x.s] 29)]) (base := bA) S.out ?_
  clear S
  refine quietL (hy := fun E Wx hSw => by (go_simp; exact ⟨rfl, hSw⟩)) (h := ?_)
  simp only [Act.put, List.setIfInBounds_toArray, List.set_cons_zero, List.set_cons_succ]
  refine detL _ [boxR (b + 1 + 1 + 1) (.cells #[.string ⟨#[]⟩, .int .i64 0, .int .i64 0, .string ⟨#[]⟩, .bool false] 38), boxR (b + 1 + 1) (.cells #[.int .i64 0, .int .i64 0, .string ⟨#[]⟩] 29), boxR (b + 1) (.cells #[.int .i64 y.kind, .int .i64 y.n, .string y.s] 29), boxR b (.cells #[.int .i64 x.kind, .int .i64 x.n, .string x.s] 29)] (h1 := fun Wx hSw => by (have hz := hSw.box (b := b) (o := .cells #[.int .i64 x.kind, .int .i64 x.n, .string x.s] 29) 3 rfl; have z0 := cellAt hz 0 (v := .int .i64 x.kind) rfl; have z1 := cellAt hz 1 (v := .int .i64 x.n) rfl; have z2 := cellAt hz 2 (v := .string x.s) rfl; go_simp; exact ⟨rfl, hSw⟩)) (h2 := ?_)
  simp only [Act.put, List.setIfInBounds_toArray, List.set_cons_zero, List.set_cons_succ]
  refine quietL (hy := fun E Wx hSw => by (go_simp; exact ⟨rfl, hSw⟩)) (h := ?_)
  simp only [Act.put, List.setIfInBounds_toArray, List.set_cons_zero, List.set_cons_succ]
  refine quietL (hy := fun E Wx hSw => by (go_simp; exact ⟨rfl, hSw⟩)) (h := ?_)
  simp only [Act.put, List.setIfInBounds_toArray, List.set_cons_zero, List.set_cons_succ]
  intro w3 S
  replace S := Lib.hid S
  have KR : Hid (∀ W (Q : List Res), Sep w (Q ++ bA) W → Calls Tryz.prog 72 #[.pointer (some ⟨h, 0, none⟩), .agg #[.int .i64 x.kind, .int .i64 x.n, .string x.s]] W fun e W' => e = .returned (.bool false) ∧ Sep w (Q ++ bA) W') := Lib.hid fun W Q T => by
    rw [HBS.out] at T ⊢
    exact row_ok T (Q.length + 0 + i) (by rw [List.getElem?_append_right (by omega), show Q.length + 0 + i - Q.length = i + 0 by omega]; simpa using hi) x _ HR.out
  go_upto_region 7 with fail
  refine regionL (E := [boxR (b + 1 + 1 + 1) (.cells #[.string ⟨#[]⟩, .int .i64 0, .int .i64 0, .string ⟨#[]⟩, .bool false] 38), boxR (b + 1 + 1) (.cells #[.int .i64 0, .int .i64 0, .string ⟨#[]⟩] 29), boxR (b + 1) (.cells #[.int .i64 y.kind, .int .i64 y.n, .string y.s] 29), boxR b (.cells #[.int .i64 x.kind, .int .i64 x.n, .string x.s] 29)]) (base := bA) S.out ?_
  clear S
  refine quietL (hy := fun E Wx hSw => by (go_simp; exact ⟨rfl, hSw⟩)) (h := ?_)
  simp only [Act.put, List.setIfInBounds_toArray, List.set_cons_zero, List.set_cons_succ]
  refine detL _ [boxR (b + 1 + 1 + 1) (.cells #[.string ⟨#[]⟩, .int .i64 0, .int .i64 0, .string ⟨#[]⟩, .bool false] 38), boxR (b + 1 + 1) (.cells #[.int .i64 0, .int .i64 0, .string ⟨#[]⟩] 29), boxR (b + 1) (.cells #[.int .i64 y.kind, .int .i64 y.n, .string y.s] 29), boxR b (.cells #[.int .i64 x.kind, .int .i64 x.n, .string x.s] 29)] (h1 := fun Wx hSw => by (have hz := hSw.box (b := b) (o := .cells #[.int .i64 x.kind, .int .i64 x.n, .string x.s] 29) 3 rfl; have z0 := cellAt hz 0 (v := .int .i64 x.kind) rfl; have z1 := cellAt hz 1 (v := .int .i64 x.n) rfl; have z2 := cellAt hz 2 (v := .string x.s) rfl; go_simp; exact ⟨rfl, hSw⟩)) (h2 := ?_)
  simp only [Act.put, List.setIfInBounds_toArray, List.set_cons_zero, List.set_cons_succ]
  refine quietL (hy := fun E Wx hSw => by (go_simp; exact symCall (KR.out _ _ hSw))) (h := ?_)
  simp only [Act.put, List.setIfInBounds_toArray, List.set_cons_zero, List.set_cons_succ]
  refine quietL (hy := fun E Wx hSw => by (go_simp; exact ⟨rfl, hSw⟩)) (h := ?_)
  simp only [Act.put, List.setIfInBounds_toArray, List.set_cons_zero, List.set_cons_succ]
  refine quietL (hy := fun E Wx hSw => by (go_simp; exact ⟨rfl, hSw⟩)) (h := ?_)
  simp only [Act.put, List.setIfInBounds_toArray, List.set_cons_zero, List.set_cons_succ]
  intro w4 S
  replace S := Lib.hid S
  go_upto_region 8 with fail
  refine regionL (E := [boxR (b + 1 + 1 + 1) (.cells #[.string ⟨#[]⟩, .int .i64 0, .int .i64 0, .string ⟨#[]⟩, .bool false] 38), boxR (b + 1 + 1) (.cells #[.int .i64 0, .int .i64 0, .string ⟨#[]⟩] 29), boxR (b + 1) (.cells #[.int .i64 y.kind, .int .i64 y.n, .string y.s] 29), boxR b (.cells #[.int .i64 x.kind, .int .i64 x.n, .string x.s] 29)]) (base := bA) S.out ?_
  clear S
  refine quietL (hy := fun E Wx hSw => by (go_simp; exact symCall (KW.out _ _ hSw))) (h := ?_)
  simp only [Act.put, List.setIfInBounds_toArray, List.set_cons_zero, List.set_cons_succ]
  refine quietL (hy := fun E Wx hSw => by (go_simp; exact ⟨rfl, hSw⟩)) (h := ?_)
  simp only [Act.put, List.setIfInBounds_toArray, List.set_cons_zero, List.set_cons_succ]
  refine quietL (hy := fun E Wx hSw => by (go_simp; exact ⟨rfl, hSw⟩)) (h := ?_)
  simp only [Act.put, List.setIfInBounds_toArray, List.set_cons_zero, List.set_cons_succ]
  refine detL undef [boxR (b + 1 + 1 + 1) (.cells #[.string ⟨#[]⟩, .int .i64 0, .int .i64 0, .string ⟨#[]⟩, .bool false] 38), boxR (b + 1 + 1) (.cells #[.int .i64 0, .int .i64 0, .string ⟨#[]⟩] 29), boxR (b + 1) (.cells #[.int .i64 y.kind, .int .i64 y.n, .string y.s] 29), boxR b (.cells #[.int .i64 x.kind, .int .i64 x.n, .string x.s] 29)] (h1 := fun Wx hSw => by (have hz := hSw.box (b := (b + 1 + 1)) (o := .cells #[.int .i64 0, .int .i64 0, .string ⟨#[]⟩] 29) 1 rfl; have z0 := cellAt hz 0 (v := .int .i64 0) rfl; have y0 := frozenAt hz 0; have z1 := cellAt hz 1 (v := .int .i64 0) rfl; have y1 := frozenAt hz 1; have z2 := cellAt hz 2 (v := .string ⟨#[]⟩) rfl; have y2 := frozenAt hz 2; go_simp; exact ⟨rfl, (Sep.setBox (cs := #[.int .i64 0, .int .i64 0, .string ⟨#[]⟩]) (t := 29) (Sep.setBox (cs := #[.int .i64 0, .int .i64 0, .string ⟨#[]⟩]) (t := 29) (Sep.setBox (cs := #[.int .i64 0, .int .i64 0, .string ⟨#[]⟩]) (t := 29) hSw 1 rfl 0 (.int .i64 0)) 1 rfl 1 (.int .i64 0)) 1 rfl 2 (.string ⟨#[]⟩))⟩)) (h2 := ?_)
  simp only [Act.put, List.setIfInBounds_toArray, List.set_cons_zero, List.set_cons_succ]
  refine detL undef [boxR (b + 1 + 1 + 1) (.cells #[.string typeError, .int .i64 0, .int .i64 0, .string ⟨#[]⟩, .bool false] 38), boxR (b + 1 + 1) (.cells #[.int .i64 0, .int .i64 0, .string ⟨#[]⟩] 29), boxR (b + 1) (.cells #[.int .i64 y.kind, .int .i64 y.n, .string y.s] 29), boxR b (.cells #[.int .i64 x.kind, .int .i64 x.n, .string x.s] 29)] (h1 := fun Wx hSw => by (have hz := hSw.box (b := (b + 1 + 1 + 1)) (o := .cells #[.string ⟨#[]⟩, .int .i64 0, .int .i64 0, .string ⟨#[]⟩, .bool false] 38) 0 rfl; have z0 := cellAt hz 0 (v := .string ⟨#[]⟩) rfl; have y0 := frozenAt hz 0; have z1 := cellAt hz 1 (v := .int .i64 0) rfl; have y1 := frozenAt hz 1; have z2 := cellAt hz 2 (v := .int .i64 0) rfl; have y2 := frozenAt hz 2; have z3 := cellAt hz 3 (v := .string ⟨#[]⟩) rfl; have y3 := frozenAt hz 3; have z4 := cellAt hz 4 (v := .bool false) rfl; have y4 := frozenAt hz 4; go_simp; exact ⟨rfl, (Sep.setBox (cs := #[.string typeError, .int .i64 0, .int .i64 0, .string ⟨#[]⟩, .bool false]) (t := 38) (Sep.setBox (cs := #[.string typeError, .int .i64 0, .int .i64 0, .string ⟨#[]⟩, .bool false]) (t := 38) (Sep.setBox (cs := #[.string typeError, .int .i64 0, .int .i64 0, .string ⟨#[]⟩, .bool false]) (t := 38) (Sep.setBox (cs := #[.string typeError, .int .i64 0, .int .i64 0, .string ⟨#[]⟩, .bool false]) (t := 38) (Sep.setBox (cs := #[.string ⟨#[]⟩, .int .i64 0, .int .i64 0, .string ⟨#[]⟩, .bool false]) (t := 38) hSw 0 rfl 0 (.string typeError)) 0 rfl 1 (.int .i64 0)) 0 rfl 2 (.int .i64 0)) 0 rfl 3 (.string ⟨#[]⟩)) 0 rfl 4 (.bool false))⟩)) (h2 := ?_)
  simp only [Act.put, List.setIfInBounds_toArray, List.set_cons_zero, List.set_cons_succ]
  intro w5 S
  replace S := Lib.hid S
  replace S := S.out
  have r0 := cellAt (S.box (b := b + 1 + 1) 1 rfl) 0 (v := .int .i64 0) rfl
  have r1 := cellAt (S.box (b := b + 1 + 1) 1 rfl) 1 (v := .int .i64 0) rfl
  have r2 := cellAt (S.box (b := b + 1 + 1) 1 rfl) 2 (v := .string ⟨#[]⟩) rfl
  have r3 := cellAt (S.box (b := b + 1 + 1 + 1) 0 rfl) 0 (v := .string typeError) rfl
  have r4 := cellAt (S.box (b := b + 1 + 1 + 1) 0 rfl) 1 (v := .int .i64 0) rfl
  have r5 := cellAt (S.box (b := b + 1 + 1 + 1) 0 rfl) 2 (v := .int .i64 0) rfl
  have r6 := cellAt (S.box (b := b + 1 + 1 + 1) 0 rfl) 3 (v := .string ⟨#[]⟩) rfl
  have r7 := cellAt (S.box (b := b + 1 + 1 + 1) 0 rfl) 4 (v := .bool false) rfl
  replace S := Lib.hid S
  go_wp2
  refine bodyPost_ret (v := .tuple #[zeroV, excN typeError]) (by simp [results, Tryz.results54, go_sem, r0, r1, r2, r3, r4, r5, r6, r7]) rfl ⟨rfl, ?_⟩
  replace S := S.out
  rw [HBS.out] at S
  exact S.tail.tail.tail.tail
set_option maxRecDepth 100000 in
set_option maxHeartbeats 12800000 in
theorem mul_w3 (S : Sep w Rs W) (i : Nat) (hi : Rs[i]? = some (heapR h H)) (x y : V) (hx : x.kind = 2) (hs : ¬ y.kind = 3) (hr : H.rowB y = false) : Calls Tryz.prog 54 #[.pointer (some ⟨h, 0, none⟩), .agg #[.int .i64 x.kind, .int .i64 x.n, .string x.s], .agg #[.int .i64 y.kind, .int .i64 y.n, .string y.s]] W fun e W' => e = .returned (.tuple #[zeroV, excN typeError]) ∧ Sep w Rs W' := by
  have e1 : (x.kind == 2) = true := by simp [hx]
  have e2 : (x.kind != 2) = false := by simp [hx]
  have e3 : (y.kind == 3) = false := by simpa using hs
  have HR := Lib.hid hr
  clear hx hs hr
  obtain ⟨b, hb⟩ : ∃ gx_, (W.heap.size) = gx_ := ⟨_, rfl⟩
  replace S := ((((S.alloc (.cells #[.int .i64 x.kind, .int .i64 x.n, .string x.s] 29)).alloc (.cells #[.int .i64 y.kind, .int .i64 y.n, .string y.s] 29)).alloc (.cells #[.int .i64 0, .int .i64 0, .string ⟨#[]⟩] 29)).alloc (.cells #[.string ⟨#[]⟩, .int .i64 0, .int .i64 0, .string ⟨#[]⟩, .bool false] 38))
  simp only [World.size_alloc, hb] at S
  replace S : Sep w (boxR (b + 1 + 1 + 1) (.cells #[.string ⟨#[]⟩, .int .i64 0, .int .i64 0, .string ⟨#[]⟩, .bool false] 38) :: boxR (b + 1 + 1) (.cells #[.int .i64 0, .int .i64 0, .string ⟨#[]⟩] 29) :: boxR (b + 1) (.cells #[.int .i64 y.kind, .int .i64 y.n, .string y.s] 29) :: boxR b (.cells #[.int .i64 x.kind, .int .i64 x.n, .string x.s] 29) :: Rs) ((((W.alloc (.cells #[.int .i64 x.kind, .int .i64 x.n, .string x.s] 29)).alloc (.cells #[.int .i64 y.kind, .int .i64 y.n, .string y.s] 29)).alloc (.cells #[.int .i64 0, .int .i64 0, .string ⟨#[]⟩] 29)).alloc (.cells #[.string ⟨#[]⟩, .int .i64 0, .int .i64 0, .string ⟨#[]⟩, .bool false] 38)) := S
  obtain ⟨bA, hbs⟩ : ∃ l, l = Rs := ⟨_, rfl⟩
  have HBS := Lib.hid hbs
  replace S : Sep w ([boxR (b + 1 + 1 + 1) (.cells #[.string ⟨#[]⟩, .int .i64 0, .int .i64 0, .string ⟨#[]⟩, .bool false] 38), boxR (b + 1 + 1) (.cells #[.int .i64 0, .int .i64 0, .string ⟨#[]⟩] 29), boxR (b + 1) (.cells #[.int .i64 y.kind, .int .i64 y.n, .string y.s] 29), boxR b (.cells #[.int .i64 x.kind, .int .i64 x.n, .string x.s] 29)] ++ bA) ((((W.alloc (.cells #[.int .i64 x.kind, .int .i64 x.n, .string x.s] 29)).alloc (.cells #[.int .i64 y.kind, .int .i64 y.n, .string y.s] 29)).alloc (.cells #[.int .i64 0, .int .i64 0, .string ⟨#[]⟩] 29)).alloc (.cells #[.string ⟨#[]⟩, .int .i64 0, .int .i64 0, .string ⟨#[]⟩, .bool false] 38)) := by
    rw [hbs]
    refine (show Sep w ([boxR (b + 1 + 1 + 1) (.cells #[.string ⟨#[]⟩, .int .i64 0, .int .i64 0, .string ⟨#[]⟩, .bool false] 38), boxR (b + 1 + 1) (.cells #[.int .i64 0, .int .i64 0, .string ⟨#[]⟩] 29), boxR (b + 1) (.cells #[.int .i64 y.kind, .int .i64 y.n, .string y.s] 29), boxR b (.cells #[.int .i64 x.kind, .int .i64 x.n, .string x.s] 29)] ++ Rs) _ from S).perm ?_
    exact (show ([boxR (b + 1 + 1 + 1) (.cells #[.string ⟨#[]⟩, .int .i64 0, .int .i64 0, .string ⟨#[]⟩, .bool false] 38), boxR (b + 1 + 1) (.cells #[.int .i64 0, .int .i64 0, .string ⟨#[]⟩] 29), boxR (b + 1) (.cells #[.int .i64 y.kind, .int .i64 y.n, .string y.s] 29), boxR b (.cells #[.int .i64 x.kind, .int .i64 x.n, .string x.s] 29)] ++ Rs).Perm ([boxR (b + 1 + 1 + 1) (.cells #[.string ⟨#[]⟩, .int .i64 0, .int .i64 0, .string ⟨#[]⟩, .bool false] 38), boxR (b + 1 + 1) (.cells #[.int .i64 0, .int .i64 0, .string ⟨#[]⟩] 29), boxR (b + 1) (.cells #[.int .i64 y.kind, .int .i64 y.n, .string y.s] 29), boxR b (.cells #[.int .i64 x.kind, .int .i64 x.n, .string x.s] 29)] ++ ([] ++ Rs)) from by rw [← List.append_assoc]; exact List.Perm.append_right Rs (by exact perm_of [0, 1, 2, 3] (by show (List.range' 0 4).Perm [0, 1, 2, 3]; decide) (by rfl)))
  clear hbs
  replace S := Lib.hid S
  go_enter Tryz.func54, Tryz.ntmps54
  go_upto_region 1 with fail
  try simp only [World.size_alloc, hb]
  clear hb
  refine regionL (E := [boxR (b + 1 + 1 + 1) (.cells #[.string ⟨#[]⟩, .int .i64 0, .int .i64 0, .string ⟨#[]⟩, .bool false] 38), boxR (b + 1 + 1) (.cells #[.int .i64 0, .int .i64 0, .string ⟨#[]⟩] 29), boxR (b + 1) (.cells #[.int .i64 y.kind, .int .i64 y.n, .string y.s] 29), boxR b (.cells #[.int .i64 x.kind, .int .i64 x.n, .string x.s] 29)]) (base := bA) S.out ?_
  clear S
  refine quietL (hy := fun E Wx hSw => by (go_simp; exact ⟨rfl, hSw⟩)) (h := ?_)
  simp only [Act.put, List.setIfInBounds_toArray, List.set_cons_zero, List.set_cons_succ]
  refine detL _ [boxR (b + 1 + 1 + 1) (.cells #[.string ⟨#[]⟩, .int .i64 0, .int .i64 0, .string ⟨#[]⟩, .bool false] 38), boxR (b + 1 + 1) (.cells #[.int .i64 0, .int .i64 0, .string ⟨#[]⟩] 29), boxR (b + 1) (.cells #[.int .i64 y.kind, .int .i64 y.n, .string y.s] 29), boxR b (.cells #[.int .i64 x.kind, .int .i64 x.n, .string x.s] 29)] (h1 := fun Wx hSw => by (have hz := hSw.box (b := b) (o := .cells #[.int .i64 x.kind, .int .i64 x.n, .string x.s] 29) 3 rfl; have z0 := cellAt hz 0 (v := .int .i64 x.kind) rfl; have z1 := cellAt hz 1 (v := .int .i64 x.n) rfl; have z2 := cellAt hz 2 (v := .string x.s) rfl; go_simp; exact ⟨rfl, hSw⟩)) (h2 := ?_)
  simp only [Act.put, List.setIfInBounds_toArray, List.set_cons_zero, List.set_cons_succ]
  refine quietL (hy := fun E Wx hSw => by (go_simp; exact ⟨rfl, hSw⟩)) (h := ?_)
  simp only [Act.put, List.setIfInBounds_toArray, List.set_cons_zero, List.set_cons_succ]
  intro w1 S
  replace S := Lib.hid S
  go_upto_region 2 with fail
  refine regionL (E := [boxR (b + 1 + 1 + 1) (.cells #[.string ⟨#[]⟩, .int .i64 0, .int .i64 0, .string ⟨#[]⟩, .bool false] 38), boxR (b + 1 + 1) (.cells #[.int .i64 0, .int .i64 0, .string ⟨#[]⟩] 29), boxR (b + 1) (.cells #[.int .i64 y.kind, .int .i64 y.n, .string y.s] 29), boxR b (.cells #[.int .i64 x.kind, .int .i64 x.n, .string x.s] 29)]) (base := bA) S.out ?_
  clear S
  refine detL _ [boxR (b + 1 + 1 + 1) (.cells #[.string ⟨#[]⟩, .int .i64 0, .int .i64 0, .string ⟨#[]⟩, .bool false] 38), boxR (b + 1 + 1) (.cells #[.int .i64 0, .int .i64 0, .string ⟨#[]⟩] 29), boxR (b + 1) (.cells #[.int .i64 y.kind, .int .i64 y.n, .string y.s] 29), boxR b (.cells #[.int .i64 x.kind, .int .i64 x.n, .string x.s] 29)] (h1 := fun Wx hSw => by (have hz := hSw.box (b := (b + 1)) (o := .cells #[.int .i64 y.kind, .int .i64 y.n, .string y.s] 29) 2 rfl; have z0 := cellAt hz 0 (v := .int .i64 y.kind) rfl; have z1 := cellAt hz 1 (v := .int .i64 y.n) rfl; have z2 := cellAt hz 2 (v := .string y.s) rfl; go_simp; exact ⟨rfl, hSw⟩)) (h2 := ?_)
  simp only [Act.put, List.setIfInBounds_toArray, List.set_cons_zero, List.set_cons_succ]
  refine detL _ [boxR (b + 1 + 1 + 1) (.cells #[.string ⟨#[]⟩, .int .i64 0, .int .i64 0, .string ⟨#[]⟩, .bool false] 38), boxR (b + 1 + 1) (.cells #[.int .i64 0, .int .i64 0, .string ⟨#[]⟩] 29), boxR (b + 1) (.cells #[.int .i64 y.kind, .int .i64 y.n, .string y.s] 29), boxR b (.cells #[.int .i64 x.kind, .int .i64 x.n, .string x.s] 29)] (h1 := fun Wx hSw => by (have hz := hSw.box (b := b) (o := .cells #[.int .i64 x.kind, .int .i64 x.n, .string x.s] 29) 3 rfl; have z0 := cellAt hz 0 (v := .int .i64 x.kind) rfl; have z1 := cellAt hz 1 (v := .int .i64 x.n) rfl; have z2 := cellAt hz 2 (v := .string x.s) rfl; go_simp; exact ⟨rfl, hSw⟩)) (h2 := ?_)
  simp only [Act.put, List.setIfInBounds_toArray, List.set_cons_zero, List.set_cons_succ]
  refine detL undef [boxR (b + 1 + 1 + 1) (.cells #[.string ⟨#[]⟩, .int .i64 0, .int .i64 0, .string ⟨#[]⟩, .bool false] 38), boxR (b + 1 + 1) (.cells #[.int .i64 0, .int .i64 0, .string ⟨#[]⟩] 29), boxR (b + 1) (.cells #[.int .i64 y.kind, .int .i64 y.n, .string y.s] 29), boxR b (.cells #[.int .i64 y.kind, .int .i64 y.n, .string y.s] 29)] (h1 := fun Wx hSw => by (have hz := hSw.box (b := b) (o := .cells #[.int .i64 x.kind, .int .i64 x.n, .string x.s] 29) 3 rfl; have z0 := cellAt hz 0 (v := .int .i64 x.kind) rfl; have y0 := frozenAt hz 0; have z1 := cellAt hz 1 (v := .int .i64 x.n) rfl; have y1 := frozenAt hz 1; have z2 := cellAt hz 2 (v := .string x.s) rfl; have y2 := frozenAt hz 2; go_simp; exact ⟨rfl, (Sep.setBox (cs := #[.int .i64 y.kind, .int .i64 y.n, .string x.s]) (t := 29) (Sep.setBox (cs := #[.int .i64 y.kind, .int .i64 x.n, .string x.s]) (t := 29) (Sep.setBox (cs := #[.int .i64 x.kind, .int .i64 x.n, .string x.s]) (t := 29) hSw 3 rfl 0 (.int .i64 y.kind)) 3 rfl 1 (.int .i64 y.n)) 3 rfl 2 (.string y.s))⟩)) (h2 := ?_)
  simp only [Act.put, List.setIfInBounds_toArray, List.set_cons_zero, List.set_cons_succ]
  refine detL undef [boxR (b + 1 + 1 + 1) (.cells #[.string ⟨#[]⟩, .int .i64 0, .int .i64 0, .string ⟨#[]⟩, .bool false] 38), boxR (b + 1 + 1) (.cells #[.int .i64 0, .int .i64 0, .string ⟨#[]⟩] 29), boxR (b + 1) (.cells #[.int .i64 x.kind, .int .i64 x.n, .string x.s] 29), boxR b (.cells #[.int .i64 y.kind, .int .i64 y.n, .string y.s] 29)] (h1 := fun Wx hSw => by (have hz := hSw.box (b := (b + 1)) (o := .cells #[.int .i64 y.kind, .int .i64 y.n, .string y.s] 29) 2 rfl; have z0 := cellAt hz 0 (v := .int .i64 y.kind) rfl; have y0 := frozenAt hz 0; have z1 := cellAt hz 1 (v := .int .i64 y.n) rfl; have y1 := frozenAt hz 1; have z2 := cellAt hz 2 (v := .string y.s) rfl; have y2 := frozenAt hz 2; go_simp; exact ⟨rfl, (Sep.setBox (cs := #[.int .i64 x.kind, .int .i64 x.n, .string y.s]) (t := 29) (Sep.setBox (cs := #[.int .i64 x.kind, .int .i64 y.n, .string y.s]) (t := 29) (Sep.setBox (cs := #[.int .i64 y.kind, .int .i64 y.n, .string y.s]) (t := 29) hSw 2 rfl 0 (.int .i64 x.kind)) 2 rfl 1 (.int .i64 x.n)) 2 rfl 2 (.string x.s))⟩)) (h2 := ?_)
  simp only [Act.put, List.setIfInBounds_toArray, List.set_cons_zero, List.set_cons_succ]
  intro w2 S
  replace S := Lib.hid S
  go_upto_region 3 with fail
  refine regionL (E := [boxR (b + 1 + 1 + 1) (.cells #[.string ⟨#[]⟩, .int .i64 0, .int .i64 0, .string ⟨#[]⟩, .bool false] 38), boxR (b + 1 + 1) (.cells #[.int .i64 0, .int .i64 0, .string ⟨#[]⟩] 29), boxR (b + 1) (.cells #[.int .i64 x.kind, .int .i64 x.n, .string x.s] 29), boxR b (.cells #[.int .i64 y.kind, .int .i64 y.n, .string y.s] 29)]) (base := bA) S.out ?_
  clear S
  refine quietL (hy := fun E Wx hSw => by (go_simp; exact ⟨rfl, hSw⟩)) (h := ?_)
  simp only [Act.put, List.setIfInBounds_toArray, List.set_cons_zero, List.set_cons_succ]
  refine detL _ [boxR (b + 1 + 1 + 1) (.cells #[.string ⟨#[]⟩, .int .i64 0, .int .i64 0, .string ⟨#[]⟩, .bool false] 38), boxR (b + 1 + 1) (.cells #[.int .i64 0, .int .i64 0, .string ⟨#[]⟩] 29), boxR (b + 1) (.cells #[.int .i64 x.kind, .int .i64 x.n, .string x.s] 29), boxR b (.cells #[.int .i64 y.kind, .int .i64 y.n, .string y.s] 29)] (h1 := fun Wx hSw => by (have hz := hSw.box (b := (b + 1)) (o := .cells #[.int .i64 x.kind, .int .i64 x.n, .string x.s] 29) 2 rfl; have z0 := cellAt hz 0 (v := .int .i64 x.kind) rfl; have z1 := cellAt hz 1 (v := .int .i64 x.n) rfl; have z2 := cellAt hz 2 (v := .string x.s) rfl; go_simp; exact ⟨rfl, hSw⟩)) (h2 := ?_)
  simp only [Act.put, List.setIfInBounds_toArray, List.set_cons_zero, List.set_cons_succ]
  refine quietL (hy := fun E Wx hSw => by (go_simp; exact ⟨rfl, hSw⟩)) (h := ?_)
  simp only [Act.put, List.setIfInBounds_toArray, List.set_cons_zero, List.set_cons_succ]
  refine quietL (hy := fun E Wx hSw => by (go_simp; exact ⟨rfl, hSw⟩)) (h := ?_)
  simp only [Act.put, List.setIfInBounds_toArray, List.set_cons_zero, List.set_cons_succ]
  intro w3 S
  replace S := Lib.hid S
  have KW : Hid (∀ W (Q : List Res), Sep w (Q ++ bA) W → Calls Tryz.prog 48 #[] W fun e W' => e = .returned (.tuple #[zeroV, excN typeError]) ∧ Sep w (Q ++ bA) W') := Lib.hid fun W Q T => by
    exact wrong_ok T
  go_upto_region 5 with fail
  refine regionL (E := [boxR (b + 1 + 1 + 1) (.cells #[.string ⟨#[]⟩, .int .i64 0, .int .i64 0, .string ⟨#[]⟩, .bool false] 38), boxR (b + 1 + 1) (.cells #[.int .i64 0, .int .i64 0, .string ⟨#[]⟩] 29), boxR (b + 1) (.cells #[.int .i64 x.kind, .int .i64 x.n, .string x.s] 29), boxR b (.cells #[.int .i64 y.kind, .int .i64 y.n, .string y.s] 29)]) (base := bA) S.out ?_
  clear S
  refine quietL (hy := fun E Wx hSw => by (go_simp; exact ⟨rfl, hSw⟩)) (h := ?_)
  simp only [Act.put, List.setIfInBounds_toArray, List.set_cons_zero, List.set_cons_succ]
  refine detL _ [boxR (b + 1 + 1 + 1) (.cells #[.string ⟨#[]⟩, .int .i64 0, .int .i64 0, .string ⟨#[]⟩, .bool false] 38), boxR (b + 1 + 1) (.cells #[.int .i64 0, .int .i64 0, .string ⟨#[]⟩] 29), boxR (b + 1) (.cells #[.int .i64 x.kind, .int .i64 x.n, .string x.s] 29), boxR b (.cells #[.int .i64 y.kind, .int .i64 y.n, .string y.s] 29)] (h1 := fun Wx hSw => by (have hz := hSw.box (b := b) (o := .cells #[.int .i64 y.kind, .int .i64 y.n, .string y.s] 29) 3 rfl; have z0 := cellAt hz 0 (v := .int .i64 y.kind) rfl; have z1 := cellAt hz 1 (v := .int .i64 y.n) rfl; have z2 := cellAt hz 2 (v := .string y.s) rfl; go_simp; exact ⟨rfl, hSw⟩)) (h2 := ?_)
  simp only [Act.put, List.setIfInBounds_toArray, List.set_cons_zero, List.set_cons_succ]
  refine quietL (hy := fun E Wx hSw => by (go_simp; exact ⟨rfl, hSw⟩)) (h := ?_)
  simp only [Act.put, List.setIfInBounds_toArray, List.set_cons_zero, List.set_cons_succ]
  refine quietL (hy := fun E Wx hSw => by (go_simp; exact ⟨rfl, hSw⟩)) (h := ?_)
  simp only [Act.put, List.setIfInBounds_toArray, List.set_cons_zero, List.set_cons_succ]
  intro w4 S
  replace S := Lib.hid S
  have KR : Hid (∀ W (Q : List Res), Sep w (Q ++ bA) W → Calls Tryz.prog 72 #[.pointer (some ⟨h, 0, none⟩), .agg #[.int .i64 y.kind, .int .i64 y.n, .string y.s]] W fun e W' => e = .returned (.bool false) ∧ Sep w (Q ++ bA) W') := Lib.hid fun W Q T => by
    rw [HBS.out] at T ⊢
    exact row_ok T (Q.length + 0 + i) (by rw [List.getElem?_append_right (by omega), show Q.length + 0 + i - Q.length = i + 0 by omega]; simpa using hi) y _ HR.out
  go_upto_region 7 with fail
  refine regionL (E := [boxR (b + 1 + 1 + 1) (.cells #[.string ⟨#[]⟩, .int .i64 0, .int .i64 0, .string ⟨#[]⟩, .bool false] 38), boxR (b + 1 + 1) (.cells #[.int .i64 0, .int .i64 0, .string ⟨#[]⟩] 29), boxR (b + 1) (.cells #[.int .i64 x.kind, .int .i64 x.n, .string x.s] 29), boxR b (.cells #[.int .i64 y.kind, .int .i64 y.n, .string y.s] 29)]) (base := bA) S.out ?_
  clear S
  refine quietL (hy := fun E Wx hSw => by (go_simp; exact ⟨rfl, hSw⟩)) (h := ?_)
  simp only [Act.put, List.setIfInBounds_toArray, List.set_cons_zero, List.set_cons_succ]
  refine detL _ [boxR (b + 1 + 1 + 1) (.cells #[.string ⟨#[]⟩, .int .i64 0, .int .i64 0, .string ⟨#[]⟩, .bool false] 38), boxR (b + 1 + 1) (.cells #[.int .i64 0, .int .i64 0, .string ⟨#[]⟩] 29), boxR (b + 1) (.cells #[.int .i64 x.kind, .int .i64 x.n, .string x.s] 29), boxR b (.cells #[.int .i64 y.kind, .int .i64 y.n, .string y.s] 29)] (h1 := fun Wx hSw => by (have hz := hSw.box (b := b) (o := .cells #[.int .i64 y.kind, .int .i64 y.n, .string y.s] 29) 3 rfl; have z0 := cellAt hz 0 (v := .int .i64 y.kind) rfl; have z1 := cellAt hz 1 (v := .int .i64 y.n) rfl; have z2 := cellAt hz 2 (v := .string y.s) rfl; go_simp; exact ⟨rfl, hSw⟩)) (h2 := ?_)
  simp only [Act.put, List.setIfInBounds_toArray, List.set_cons_zero, List.set_cons_succ]
  refine quietL (hy := fun E Wx hSw => by (go_simp; exact symCall (KR.out _ _ hSw))) (h := ?_)
  simp only [Act.put, List.setIfInBounds_toArray, List.set_cons_zero, List.set_cons_succ]
  refine quietL (hy := fun E Wx hSw => by (go_simp; exact ⟨rfl, hSw⟩)) (h := ?_)
  simp only [Act.put, List.setIfInBounds_toArray, List.set_cons_zero, List.set_cons_succ]
  refine quietL (hy := fun E Wx hSw => by (go_simp; exact ⟨rfl, hSw⟩)) (h := ?_)
  simp only [Act.put, List.setIfInBounds_toArray, List.set_cons_zero, List.set_cons_succ]
  intro w5 S
  replace S := Lib.hid S
  go_upto_region 8 with fail
  refine regionL (E := [boxR (b + 1 + 1 + 1) (.cells #[.string ⟨#[]⟩, .int .i64 0, .int .i64 0, .string ⟨#[]⟩, .bool false] 38), boxR (b + 1 + 1) (.cells #[.int .i64 0, .int .i64 0, .string ⟨#[]⟩] 29), boxR (b + 1) (.cells #[.int .i64 x.kind, .int .i64 x.n, .string x.s] 29), boxR b (.cells #[.int .i64 y.kind, .int .i64 y.n, .string y.s] 29)]) (base := bA) S.out ?_
  clear S
  refine quietL (hy := fun E Wx hSw => by (go_simp; exact symCall (KW.out _ _ hSw))) (h := ?_)
  simp only [Act.put, List.setIfInBounds_toArray, List.set_cons_zero, List.set_cons_succ]
  refine quietL (hy := fun E Wx hSw => by (go_simp; exact ⟨rfl, hSw⟩)) (h := ?_)
  simp only [Act.put, List.setIfInBounds_toArray, List.set_cons_zero, List.set_cons_succ]
  refine quietL (hy := fun E Wx hSw => by (go_simp; exact ⟨rfl, hSw⟩)) (h := ?_)
  simp only [Act.put, List.setIfInBounds_toArray, List.set_cons_zero, List.set_cons_succ]
  refine detL undef [boxR (b + 1 + 1 + 1) (.cells #[.string ⟨#[]⟩, .int .i64 0, .int .i64 0, .string ⟨#[]⟩, .bool false] 38), boxR (b + 1 + 1) (.cells #[.int .i64 0, .int .i64 0, .string ⟨#[]⟩] 29), boxR (b + 1) (.cells #[.int .i64 x.kind, .int .i64 x.n, .string x.s] 29), boxR b (.cells #[.int .i64 y.kind, .int .i64 y.n, .string y.s] 29)] (h1 := fun Wx hSw => by (have hz := hSw.box (b := (b + 1 + 1)) (o := .cells #[.int .i64 0, .int .i64 0, .string ⟨#[]⟩] 29) 1 rfl; have z0 := cellAt hz 0 (v := .int .i64 0) rfl; have y0 := frozenAt hz 0; have z1 := cellAt hz 1 (v := .int .i64 0) rfl; have y1 := frozenAt hz 1; have z2 := cellAt hz 2 (v := .string ⟨#[]⟩) rfl; have y2 := frozenAt hz 2; go_simp; exact ⟨rfl, (Sep.setBox (cs := #[.int .i64 0, .int .i64 0, .string ⟨#[]⟩]) (t := 29) (Sep.setBox (cs := #[.int .i64 0, .int .i64 0, .string ⟨#[]⟩]) (t := 29) (Sep.setBox (cs := #[.int .i64 0, .int .i64 0, .string ⟨#[]⟩]) (t := 29) hSw 1 rfl 0 (.int .i64 0)) 1 rfl 1 (.int .i64 0)) 1 rfl 2 (.string ⟨#[]⟩))⟩)) (h2 := ?_)
  simp only [Act.put, List.setIfInBounds_toArray, List.set_cons_zero, List.set_cons_succ]
  refine detL undef [boxR (b + 1 + 1 + 1) (.cells #[.string typeError, .int .i64 0, .int .i64 0, .string ⟨#[]⟩, .bool false] 38), boxR (b + 1 + 1) (.cells #[.int .i64 0, .int .i64 0, .string ⟨#[]⟩] 29), boxR (b + 1) (.cells #[.int .i64 x.kind, .int .i64 x.n, .string x.s] 29), boxR b (.cells #[.int .i64 y.kind, .int .i64 y.n, .string y.s] 29)] (h1 := fun Wx hSw => by (have hz := hSw.box (b := (b + 1 + 1 + 1)) (o := .cells #[.string ⟨#[]⟩, .int .i64 0, .int .i64 0, .string ⟨#[]⟩, .bool false] 38) 0 rfl; have z0 := cellAt hz 0 (v := .string ⟨#[]⟩) rfl; have y0 := frozenAt hz 0; have z1 := cellAt hz 1 (v := .int .i64 0) rfl; have y1 := frozenAt hz 1; have z2 := cellAt hz 2 (v := .int .i64 0) rfl; have y2 := frozenAt hz 2; have z3 := cellAt hz 3 (v := .string ⟨#[]⟩) rfl; have y3 := frozenAt hz 3; have z4 := cellAt hz 4 (v := .bool false) rfl; have y4 := frozenAt hz 4; go_simp; exact ⟨rfl, (Sep.setBox (cs := #[.string typeError, .int .i64 0, .int .i64 0, .string ⟨#[]⟩, .bool false]) (t := 38) (Sep.setBox (cs := #[.string typeError, .int .i64 0, .int .i64 0, .string ⟨#[]⟩, .bool false]) (t := 38) (Sep.setBox (cs := #[.string typeError, .int .i64 0, .int .i64 0, .string ⟨#[]⟩, .bool false]) (t := 38) (Sep.setBox (cs := #[.string typeError, .int .i64 0, .int .i64 0, .string ⟨#[]⟩, .bool false]) (t := 38) (Sep.setBox (cs := #[.string ⟨#[]⟩, .int .i64 0, .int .i64 0, .string ⟨#[]⟩, .bool false]) (t := 38) hSw 0 rfl 0 (.string typeError)) 0 rfl 1 (.int .i64 0)) 0 rfl 2 (.int .i64 0)) 0 rfl 3 (.string ⟨#[]⟩)) 0 rfl 4 (.bool false))⟩)) (h2 := ?_)
  simp only [Act.put, List.setIfInBounds_toArray, List.set_cons_zero, List.set_cons_succ]
  intro w6 S
  replace S := Lib.hid S
  replace S := S.out
  have r0 := cellAt (S.box (b := b + 1 + 1) 1 rfl) 0 (v := .int .i64 0) rfl
  have r1 := cellAt (S.box (b := b + 1 + 1) 1 rfl) 1 (v := .int .i64 0) rfl
  have r2 := cellAt (S.box (b := b + 1 + 1) 1 rfl) 2 (v := .string ⟨#[]⟩) rfl
  have r3 := cellAt (S.box (b := b + 1 + 1 + 1) 0 rfl) 0 (v := .string typeError) rfl
  have r4 := cellAt (S.box (b := b + 1 + 1 + 1) 0 rfl) 1 (v := .int .i64 0) rfl
  have r5 := cellAt (S.box (b := b + 1 + 1 + 1) 0 rfl) 2 (v := .int .i64 0) rfl
  have r6 := cellAt (S.box (b := b + 1 + 1 + 1) 0 rfl) 3 (v := .string ⟨#[]⟩) rfl
  have r7 := cellAt (S.box (b := b + 1 + 1 + 1) 0 rfl) 4 (v := .bool false) rfl
  replace S := Lib.hid S
  go_wp2
  refine bodyPost_ret (v := .tuple #[zeroV, excN typeError]) (by simp [results, Tryz.results54, go_sem, r0, r1, r2, r3, r4, r5, r6, r7]) rfl ⟨rfl, ?_⟩
  replace S := S.out
  rw [HBS.out] at S
  exact S.tail.tail.tail.tail
set_option maxRecDepth 100000 in
set_option maxHeartbeats 12800000 in
theorem neg_wrong (S : Sep w Rs W) (x : V) (hx : ¬ x.kind = 2) : Calls Tryz.prog 35 #[.pointer (some ⟨h, 0, none⟩), .agg #[.int .i64 x.kind, .int .i64 x.n, .string x.s]] W fun e W' => e = .returned (.tuple #[zeroV, excN typeError]) ∧ Sep w Rs W' := by
  have e1 : (x.kind != 2) = true := by simpa using hx
  clear hx
  obtain ⟨b, hb⟩ : ∃ gx_, (W.heap.size) = gx_ := ⟨_, rfl⟩
  replace S := (((S.alloc (.cells #[.int .i64 x.kind, .int .i64 x.n, .string x.s] 29)).alloc (.cells #[.int .i64 0, .int .i64 0, .string ⟨#[]⟩] 29)).alloc (.cells #[.string ⟨#[]⟩, .int .i64 0, .int .i64 0, .string ⟨#[]⟩, .bool false] 38))
  simp only [World.size_alloc, hb] at S
  replace S : Sep w (boxR (b + 1 + 1) (.cells #[.string ⟨#[]⟩, .int .i64 0, .int .i64 0, .string ⟨#[]⟩, .bool false] 38) :: boxR (b + 1) (.cells #[.int .i64 0, .int .i64 0, .string ⟨#[]⟩] 29) :: boxR b (.cells #[.int .i64 x.kind, .int .i64 x.n, .string x.s] 29) :: Rs) (((W.alloc (.cells #[.int .i64 x.kind, .int .i64 x.n, .string x.s] 29)).alloc (.cells #[.int .i64 0, .int .i64 0, .string ⟨#[]⟩] 29)).alloc (.cells #[.string ⟨#[]⟩, .int .i64 0, .int .i64 0, .string ⟨#[]⟩, .bool false] 38)) := S
  obtain ⟨bA, hbs⟩ : ∃ l, l = boxR b (.cells #[.int .i64 x.kind, .int .i64 x.n, .string x.s] 29) :: Rs := ⟨_, rfl⟩
  have HBS := Lib.hid hbs
  replace S : Sep w ([boxR (b + 1 + 1) (.cells #[.string ⟨#[]⟩, .int .i64 0, .int .i64 0, .string ⟨#[]⟩, .bool false] 38), boxR (b + 1) (.cells #[.int .i64 0, .int .i64 0, .string ⟨#[]⟩] 29)] ++ bA) (((W.alloc (.cells #[.int .i64 x.kind, .int .i64 x.n, .string x.s] 29)).alloc (.cells #[.int .i64 0, .int .i64 0, .string ⟨#[]⟩] 29)).alloc (.cells #[.string ⟨#[]⟩, .int .i64 0, .int .i64 0, .string ⟨#[]⟩, .bool false] 38)) := by
    rw [hbs]
    refine (show Sep w ([boxR (b + 1 + 1) (.cells #[.string ⟨#[]⟩, .int .i64 0, .int .i64 0, .string ⟨#[]⟩, .bool false] 38), boxR (b + 1) (.cells #[.int .i64 0, .int .i64 0, .string ⟨#[]⟩] 29), boxR b (.cells #[.int .i64 x.kind, .int .i64 x.n, .string x.s] 29)] ++ Rs) _ from S).perm ?_
    exact (show ([boxR (b + 1 + 1) (.cells #[.string ⟨#[]⟩, .int .i64 0, .int .i64 0, .string ⟨#[]⟩, .bool false] 38), boxR (b + 1) (.cells #[.int .i64 0, .int .i64 0, .string ⟨#[]⟩] 29), boxR b (.cells #[.int .i64 x.kind, .int .i64 x.n, .string x.s] 29)] ++ Rs).Perm ([boxR (b + 1 + 1) (.cells #[.string ⟨#[]⟩, .int .i64 0, .int .i64 0, .string ⟨#[]⟩, .bool false] 38), boxR (b + 1) (.cells #[.int .i64 0, .int .i64 0, .string ⟨#[]⟩] 29)] ++ ([boxR b (.cells #[.int .i64 x.kind, .int .i64 x.n, .string x.s] 29)] ++ Rs)) from by rw [← List.append_assoc]; exact List.Perm.append_right Rs (by exact perm_of [0, 1, 2] (by show (List.range' 0 3).Perm [0, 1, 2]; decide) (by rfl)))
  have C0 : Hid (∀ W (Q : List Res), Sep w (Q ++ bA) W → W.cell? ⟨b, 0, none⟩ = some (.int .i64 x.kind) ∧ W.cell? ⟨b, 1, none⟩ = some (.int .i64 x.n) ∧ W.cell? ⟨b, 2, none⟩ = some (.string x.s)) := Lib.hid fun W Q T => by
    rw [hbs] at T
    have i0 := T.box (b := b) (o := .cells #[.int .i64 x.kind, .int .i64 x.n, .string x.s] 29) (Q.length + 0) (by rw [List.getElem?_append_right (by omega), Nat.add_sub_cancel_left]; rfl)
    exact ⟨cellAt i0 0 rfl, cellAt i0 1 rfl, cellAt i0 2 rfl⟩
  clear hbs
  replace S := Lib.hid S
  go_enter Tryz.func35, Tryz.ntmps35
  go_upto_region 1 with fail
  try simp only [World.size_alloc, hb]
  clear hb
  refine regionL (E := [boxR (b + 1 + 1) (.cells #[.string ⟨#[]⟩, .int .i64 0, .int .i64 0, .string ⟨#[]⟩, .bool false] 38), boxR (b + 1) (.cells #[.int .i64 0, .int .i64 0, .string ⟨#[]⟩] 29)]) (base := bA) S.out ?_
  clear S
  refine quietL (hy := fun E Wx hSw => by (go_simp; exact ⟨rfl, hSw⟩)) (h := ?_)
  simp only [Act.put, List.setIfInBounds_toArray, List.set_cons_zero, List.set_cons_succ]
  refine quietL (hy := fun E Wx hSw => by ((obtain ⟨u0, u1, u2⟩ := C0.out _ _ hSw); go_simp; exact ⟨rfl, hSw⟩)) (h := ?_)
  simp only [Act.put, List.setIfInBounds_toArray, List.set_cons_zero, List.set_cons_succ]
  refine quietL (hy := fun E Wx hSw => by (go_simp; exact ⟨rfl, hSw⟩)) (h := ?_)
  simp only [Act.put, List.setIfInBounds_toArray, List.set_cons_zero, List.set_cons_succ]
  intro w1 S
  replace S := Lib.hid S
  have KW : Hid (∀ W (Q : List Res), Sep w (Q ++ bA) W → Calls Tryz.prog 48 #[] W fun e W' => e = .returned (.tuple #[zeroV, excN typeError]) ∧ Sep w (Q ++ bA) W') := Lib.hid fun W Q T => by
    exact wrong_ok T
  go_upto_region 2 with fail
  refine regionL (E := [boxR (b + 1 + 1) (.cells #[.string ⟨#[]⟩, .int .i64 0, .int .i64 0, .string ⟨#[]⟩, .bool false] 38), boxR (b + 1) (.cells #[.int .i64 0, .int .i64 0, .string ⟨#[]⟩] 29)]) (base := bA) S.out ?_
  clear S
  refine quietL (hy := fun E Wx hSw => by (go_simp; exact symCall (KW.out _ _ hSw))) (h := ?_)
  simp only [Act.put, List.setIfInBounds_toArray, List.set_cons_zero, List.set_cons_succ]
  refine quietL (hy := fun E Wx hSw => by (go_simp; exact ⟨rfl, hSw⟩)) (h := ?_)
  simp only [Act.put, List.setIfInBounds_toArray, List.set_cons_zero, List.set_cons_succ]
  refine quietL (hy := fun E Wx hSw => by (go_simp; exact ⟨rfl, hSw⟩)) (h := ?_)
  simp only [Act.put, List.setIfInBounds_toArray, List.set_cons_zero, List.set_cons_succ]
  refine detL undef [boxR (b + 1 + 1) (.cells #[.string ⟨#[]⟩, .int .i64 0, .int .i64 0, .string ⟨#[]⟩, .bool false] 38), boxR (b + 1) (.cells #[.int .i64 0, .int .i64 0, .string ⟨#[]⟩] 29)] (h1 := fun Wx hSw => by (have hz := hSw.box (b := (b + 1)) (o := .cells #[.int .i64 0, .int .i64 0, .string ⟨#[]⟩] 29) 1 rfl; have z0 := cellAt hz 0 (v := .int .i64 0) rfl; have y0 := frozenAt hz 0; have z1 := cellAt hz 1 (v := .int .i64 0) rfl; have y1 := frozenAt hz 1; have z2 := cellAt hz 2 (v := .string ⟨#[]⟩) rfl; have y2 := frozenAt hz 2; go_simp; exact ⟨rfl, (Sep.setBox (cs := #[.int .i64 0, .int .i64 0, .string ⟨#[]⟩]) (t := 29) (Sep.setBox (cs := #[.int .i64 0, .int .i64 0, .string ⟨#[]⟩]) (t := 29) (Sep.setBox (cs := #[.int .i64 0, .int .i64 0, .string ⟨#[]⟩]) (t := 29) hSw 1 rfl 0 (.int .i64 0)) 1 rfl 1 (.int .i64 0)) 1 rfl 2 (.string ⟨#[]⟩))⟩)) (h2 := ?_)
  simp only [Act.put, List.setIfInBounds_toArray, List.set_cons_zero, List.set_cons_succ]
  refine detL undef [boxR (b + 1 + 1) (.cells #[.string typeError, .int .i64 0, .int .i64 0, .string ⟨#[]⟩, .bool false] 38), boxR (b + 1) (.cells #[.int .i64 0, .int .i64 0, .string ⟨#[]⟩] 29)] (h1 := fun Wx hSw => by (have hz := hSw.box (b := (b + 1 + 1)) (o := .cells #[.string ⟨#[]⟩, .int .i64 0, .int .i64 0, .string ⟨#[]⟩, .bool false] 38) 0 rfl; have z0 := cellAt hz 0 (v := .string ⟨#[]⟩) rfl; have y0 := frozenAt hz 0; have z1 := cellAt hz 1 (v := .int .i64 0) rfl; have y1 := frozenAt hz 1; have z2 := cellAt hz 2 (v := .int .i64 0) rfl; have y2 := frozenAt hz 2; have z3 := cellAt hz 3 (v := .string ⟨#[]⟩) rfl; have y3 := frozenAt hz 3; have z4 := cellAt hz 4 (v := .bool false) rfl; have y4 := frozenAt hz 4; go_simp; exact ⟨rfl, (Sep.setBox (cs := #[.string typeError, .int .i64 0, .int .i64 0, .string ⟨#[]⟩, .bool false]) (t := 38) (Sep.setBox (cs := #[.string typeError, .int .i64 0, .int .i64 0, .string ⟨#[]⟩, .bool false]) (t := 38) (Sep.setBox (cs := #[.string typeError, .int .i64 0, .int .i64 0, .string ⟨#[]⟩, .bool false]) (t := 38) (Sep.setBox (cs := #[.string typeError, .int .i64 0, .int .i64 0, .string ⟨#[]⟩, .bool false]) (t := 38) (Sep.setBox (cs := #[.string ⟨#[]⟩, .int .i64 0, .int .i64 0, .string ⟨#[]⟩, .bool false]) (t := 38) hSw 0 rfl 0 (.string typeError)) 0 rfl 1 (.int .i64 0)) 0 rfl 2 (.int .i64 0)) 0 rfl 3 (.string ⟨#[]⟩)) 0 rfl 4 (.bool false))⟩)) (h2 := ?_)
  simp only [Act.put, List.setIfInBounds_toArray, List.set_cons_zero, List.set_cons_succ]
  intro w2 S
  replace S := Lib.hid S
  replace S := S.out
  have r0 := cellAt (S.box (b := b + 1) 1 rfl) 0 (v := .int .i64 0) rfl
  have r1 := cellAt (S.box (b := b + 1) 1 rfl) 1 (v := .int .i64 0) rfl
  have r2 := cellAt (S.box (b := b + 1) 1 rfl) 2 (v := .string ⟨#[]⟩) rfl
  have r3 := cellAt (S.box (b := b + 1 + 1) 0 rfl) 0 (v := .string typeError) rfl
  have r4 := cellAt (S.box (b := b + 1 + 1) 0 rfl) 1 (v := .int .i64 0) rfl
  have r5 := cellAt (S.box (b := b + 1 + 1) 0 rfl) 2 (v := .int .i64 0) rfl
  have r6 := cellAt (S.box (b := b + 1 + 1) 0 rfl) 3 (v := .string ⟨#[]⟩) rfl
  have r7 := cellAt (S.box (b := b + 1 + 1) 0 rfl) 4 (v := .bool false) rfl
  replace S := Lib.hid S
  go_wp2
  refine bodyPost_ret (v := .tuple #[zeroV, excN typeError]) (by simp [results, Tryz.results35, go_sem, r0, r1, r2, r3, r4, r5, r6, r7]) rfl ⟨rfl, ?_⟩
  replace S := S.out
  rw [HBS.out] at S
  exact S.tail.tail.tail
set_option maxRecDepth 100000 in
set_option maxHeartbeats 12800000 in
theorem truth_bool (S : Sep w Rs W) (x : V) (hx : x.kind = 1) : Calls Tryz.prog 37 #[.pointer (some ⟨h, 0, none⟩), .agg #[.int .i64 x.kind, .int .i64 x.n, .string x.s]] W fun e W' => e = .returned (.bool (x.n != 0)) ∧ Sep w Rs W' := by
  have e0 : (x.kind == 0) = false := by simp [hx]
  have e1 : (x.kind == 1) = true := by simp [hx]
  have e2 : (x.kind == 2) = false := by simp [hx]
  clear hx
  obtain ⟨b, hb⟩ : ∃ gx_, (W.heap.size) = gx_ := ⟨_, rfl⟩
  replace S := (S.alloc (.cells #[.int .i64 x.kind, .int .i64 x.n, .string x.s] 29))
  simp only [World.size_alloc, hb] at S
  replace S : Sep w (boxR b (.cells #[.int .i64 x.kind, .int .i64 x.n, .string x.s] 29) :: Rs) (W.alloc (.cells #[.int .i64 x.kind, .int .i64 x.n, .string x.s] 29)) := S
  obtain ⟨bA, hbs⟩ : ∃ l, l = boxR b (.cells #[.int .i64 x.kind, .int .i64 x.n, .string x.s] 29) :: Rs := ⟨_, rfl⟩
  have HBS := Lib.hid hbs
  replace S : Sep w ([] ++ bA) (W.alloc (.cells #[.int .i64 x.kind, .int .i64 x.n, .string x.s] 29)) := by
    rw [hbs]
    refine (show Sep w ([boxR b (.cells #[.int .i64 x.kind, .int .i64 x.n, .string x.s] 29)] ++ Rs) _ from S).perm ?_
    exact (show ([boxR b (.cells #[.int .i64 x.kind, .int .i64 x.n, .string x.s] 29)] ++ Rs).Perm ([] ++ ([boxR b (.cells #[.int .i64 x.kind, .int .i64 x.n, .string x.s] 29)] ++ Rs)) from by rw [← List.append_assoc]; exact List.Perm.append_right Rs (by exact perm_of [0] (by show (List.range' 0 1).Perm [0]; decide) (by rfl)))
  have C0 : Hid (∀ W (Q : List Res), Sep w (Q ++ bA) W → W.cell? ⟨b, 0, none⟩ = some (.int .i64 x.kind) ∧ W.cell? ⟨b, 1, none⟩ = some (.int .i64 x.n) ∧ W.cell? ⟨b, 2, none⟩ = some (.string x.s)) := Lib.hid fun W Q T => by
    rw [hbs] at T
    have i0 := T.box (b := b) (o := .cells #[.int .i64 x.kind, .int .i64 x.n, .string x.s] 29) (Q.length + 0) (by rw [List.getElem?_append_right (by omega), Nat.add_sub_cancel_left]; rfl)
    exact ⟨cellAt i0 0 rfl, cellAt i0 1 rfl, cellAt i0 2 rfl⟩
  clear hbs
  replace S := Lib.hid S
  go_enter Tryz.func37, Tryz.ntmps37
  go_upto_region 1 with fail
  try simp only [World.size_alloc, hb]
  clear hb
  refine regionL (E := []) (base := bA) S.out ?_
  clear S
  refine quietL (hy := fun E Wx hSw => by (go_simp; exact ⟨rfl, hSw⟩)) (h := ?_)
  simp only [Act.put, List.setIfInBounds_toArray, List.set_cons_zero, List.set_cons_succ]
  refine quietL (hy := fun E Wx hSw => by ((obtain ⟨u0, u1, u2⟩ := C0.out _ _ hSw); go_simp; exact ⟨rfl, hSw⟩)) (h := ?_)
  simp only [Act.put, List.setIfInBounds_toArray, List.set_cons_zero, List.set_cons_succ]
  intro w1 S
  replace S := Lib.hid S
  go_upto_region 6 with fail
  refine regionL (E := []) (base := bA) S.out ?_
  clear S
  refine quietL (hy := fun E Wx hSw => by (go_simp; exact ⟨rfl, hSw⟩)) (h := ?_)
  simp only [Act.put, List.setIfInBounds_toArray, List.set_cons_zero, List.set_cons_succ]
  refine quietL (hy := fun E Wx hSw => by ((obtain ⟨u0, u1, u2⟩ := C0.out _ _ hSw); go_simp; exact ⟨rfl, hSw⟩)) (h := ?_)
  simp only [Act.put, List.setIfInBounds_toArray, List.set_cons_zero, List.set_cons_succ]
  refine quietL (hy := fun E Wx hSw => by (go_simp; exact ⟨rfl, hSw⟩)) (h := ?_)
  simp only [Act.put, List.setIfInBounds_toArray, List.set_cons_zero, List.set_cons_succ]
  refine quietL (hy := fun E Wx hSw => by (go_simp; exact ⟨rfl, hSw⟩)) (h := ?_)
  simp only [Act.put, List.setIfInBounds_toArray, List.set_cons_zero, List.set_cons_succ]
  intro w2 S
  replace S := Lib.hid S
  replace S := S.out
  rw [HBS.out] at S
  replace S := Lib.hid S
  by_cases hn : x.n = 0
  · go_wp2
    go_ret
    exact ⟨by simp [hn], S.out.tail⟩
  · go_wp2
    go_ret
    exact ⟨by simp [hn], S.out.tail⟩
set_option maxRecDepth 100000 in
set_option maxHeartbeats 12800000 in
theorem truth_int (S : Sep w Rs W) (x : V) (hx : x.kind = 2) : Calls Tryz.prog 37 #[.pointer (some ⟨h, 0, none⟩), .agg #[.int .i64 x.kind, .int .i64 x.n, .string x.s]] W fun e W' => e = .returned (.bool (x.n != 0)) ∧ Sep w Rs W' := by
  have e0 : (x.kind == 0) = false := by simp [hx]
  have e1 : (x.kind == 1) = false := by simp [hx]
  have e2 : (x.kind == 2) = true := by simp [hx]
  clear hx
  obtain ⟨b, hb⟩ : ∃ gx_, (W.heap.size) = gx_ := ⟨_, rfl⟩
  replace S := (S.alloc (.cells #[.int .i64 x.kind, .int .i64 x.n, .string x.s] 29))
  simp only [World.size_alloc, hb] at S
  replace S : Sep w (boxR b (.cells #[.int .i64 x.kind, .int .i64 x.n, .string x.s] 29) :: Rs) (W.alloc (.cells #[.int .i64 x.kind, .int .i64 x.n, .string x.s] 29)) := S
  obtain ⟨bA, hbs⟩ : ∃ l, l = boxR b (.cells #[.int .i64 x.kind, .int .i64 x.n, .string x.s] 29) :: Rs := ⟨_, rfl⟩
  have HBS := Lib.hid hbs
  replace S : Sep w ([] ++ bA) (W.alloc (.cells #[.int .i64 x.kind, .int .i64 x.n, .string x.s] 29)) := by
    rw [hbs]
    refine (show Sep w ([boxR b (.cells #[.int .i64 x.kind, .int .i64 x.n, .string x.s] 29)] ++ Rs) _ from S).perm ?_
    exact (show ([boxR b (.cells #[.int .i64 x.kind, .int .i64 x.n, .string x.s] 29)] ++ Rs).Perm ([] ++ ([boxR b (.cells #[.int .i64 x.kind, .int .i64 x.n, .string x.s] 29)] ++ Rs)) from by rw [← List.append_assoc]; exact List.Perm.append_right Rs (by exact perm_of [0] (by show (List.range' 0 1).Perm [0]; decide) (by rfl)))
  have C0 : Hid (∀ W (Q : List Res), Sep w (Q ++ bA) W → W.cell? ⟨b, 0, none⟩ = some (.int .i64 x.kind) ∧ W.cell? ⟨b, 1, none⟩ = some (.int .i64 x.n) ∧ W.cell? ⟨b, 2, none⟩ = some (.string x.s)) := Lib.hid fun W Q T => by
    rw [hbs] at T
    have i0 := T.box (b := b) (o := .cells #[.int .i64 x.kind, .int .i64 x.n, .string x.s] 29) (Q.length + 0) (by rw [List.getElem?_append_right (by omega), Nat.add_sub_cancel_left]; rfl)
    exact ⟨cellAt i0 0 rfl, cellAt i0 1 rfl, cellAt i0 2 rfl⟩
  clear hbs
  replace S := Lib.hid S
  go_enter Tryz.func37, Tryz.ntmps37
  go_upto_region 1 with fail
  try simp only [World.size_alloc, hb]
  clear hb
  refine regionL (E := []) (base := bA) S.out ?_
  clear S
  refine quietL (hy := fun E Wx hSw => by (go_simp; exact ⟨rfl, hSw⟩)) (h := ?_)
  simp only [Act.put, List.setIfInBounds_toArray, List.set_cons_zero, List.set_cons_succ]
  refine quietL (hy := fun E Wx hSw => by ((obtain ⟨u0, u1, u2⟩ := C0.out _ _ hSw); go_simp; exact ⟨rfl, hSw⟩)) (h := ?_)
  simp only [Act.put, List.setIfInBounds_toArray, List.set_cons_zero, List.set_cons_succ]
  intro w1 S
  replace S := Lib.hid S
  go_upto_region 6 with fail
  refine regionL (E := []) (base := bA) S.out ?_
  clear S
  refine quietL (hy := fun E Wx hSw => by (go_simp; exact ⟨rfl, hSw⟩)) (h := ?_)
  simp only [Act.put, List.setIfInBounds_toArray, List.set_cons_zero, List.set_cons_succ]
  refine quietL (hy := fun E Wx hSw => by ((obtain ⟨u0, u1, u2⟩ := C0.out _ _ hSw); go_simp; exact ⟨rfl, hSw⟩)) (h := ?_)
  simp only [Act.put, List.setIfInBounds_toArray, List.set_cons_zero, List.set_cons_succ]
  refine quietL (hy := fun E Wx hSw => by (go_simp; exact ⟨rfl, hSw⟩)) (h := ?_)
  simp only [Act.put, List.setIfInBounds_toArray, List.set_cons_zero, List.set_cons_succ]
  refine quietL (hy := fun E Wx hSw => by (go_simp; exact ⟨rfl, hSw⟩)) (h := ?_)
  simp only [Act.put, List.setIfInBounds_toArray, List.set_cons_zero, List.set_cons_succ]
  intro w2 S
  replace S := Lib.hid S
  replace S := S.out
  rw [HBS.out] at S
  replace S := Lib.hid S
  by_cases hn : x.n = 0
  · go_wp2
    go_ret
    exact ⟨by simp [hn], S.out.tail⟩
  · go_wp2
    go_ret
    exact ⟨by simp [hn], S.out.tail⟩
/-- Whatever the operator: these two do not go together. -/
theorem bin_wrong (S : Sep w Rs W) (i : Nat) (hi : Rs[i]? = some (heapR h H)) (op : ByteArray) (hops : op.size ≤ maxLen) (x y : V) (hint : ¬(x.kind = 2 ∧ y.kind = 2)) (hstr : ¬(x.kind = 3 ∧ y.kind = 3)) (hrow : ¬(H.rowB x = true ∧ H.kind x = H.kind y)) (hx : ¬ x.kind = 3) (hy : ¬ y.kind = 3) (rx : H.rowB x = false ∨ ¬ y.kind = 2) (ry : H.rowB y = false ∨ ¬ x.kind = 2) :
    Calls Tryz.prog 23 #[.pointer (some ⟨h, 0, none⟩), .string op, .agg #[.int .i64 x.kind, .int .i64 x.n, .string x.s], .agg #[.int .i64 y.kind, .int .i64 y.n, .string y.s]] W fun e W' => e = .returned (.tuple #[zeroV, excN typeError]) ∧ Sep w Rs W' := by
  have hj : ∀ (Q : List Res), (Q ++ Rs)[Q.length + i]? = some (heapR h H) := fun Q => by rw [List.getElem?_append_right (by omega), Nat.add_sub_cancel_left]; exact hi
  by_cases h1 : op = ⟨#[43]⟩
  · subst h1
    exact bin_add S ⟨#[43]⟩ (by decide) x y hint rfl 0 0 ⟨#[]⟩ typeError (fun Q W S => add_wrong S (Q.length + i) (hj Q) x y hstr hrow)
  · by_cases h2 : op = ⟨#[42]⟩
    · subst h2
      refine bin_mul S ⟨#[42]⟩ (by decide) x y hint rfl 0 0 ⟨#[]⟩ typeError (fun Q W S => ?_)
      by_cases kx : x.kind = 2
      · exact mul_w3 S (Q.length + i) (hj Q) x y kx hy (ry.resolve_right (fun h => h kx))
      · by_cases ky : y.kind = 2
        · exact mul_w2 S (Q.length + i) (hj Q) x y kx ky hx (rx.resolve_right (fun h => h ky))
        · exact mul_w1 S (Q.length + i) (hj Q) x y kx ky
    · refine bin_none S op hops x y hint ?_
      have n1 : ¬ (⟨#[43]⟩ : ByteArray) = op := fun e => h1 e.symm
      have n2 : ¬ (⟨#[42]⟩ : ByteArray) = op := fun e => h2 e.symm
      simp [getL, h1, h2, n1, n2]
end
end Go.Proofs.YtellmfimmghidaaGreat
/- ch 16: values that are no objects: told, and the same. -/
namespace Go.Proofs.YtellmfimmghidaaGreat
set_option linter.unusedSimpArgs false
open Go.RowKit
set_option linter.unusedVariables false
theorem HeapM.kind_no (H : HeapM) (v : V) (h : ¬ v.kind = 4) : H.kind v = 0 := Classical.byContradiction fun e => h (H.kind_ref v e)
theorem HeapM.rowB_no (H : HeapM) (v : V) (h : ¬ v.kind = 4) : H.rowB v = false := by unfold HeapM.rowB; rw [H.kind_no v h]; rfl
theorem HeapM.wholeB_no (H : HeapM) (v : V) (h : ¬ v.kind = 4) : H.wholeB v = false := by unfold HeapM.wholeB; rw [H.rowB_no v h, H.kind_no v h]; rfl
theorem HeapM.items_no (H : HeapM) (v : V) (h : ¬ v.kind = 4) : H.items v = [] := by
  unfold HeapM.items HeapM.of; rw [if_neg h]; rfl
theorem HeapM.pairs_no (H : HeapM) (v : V) (h : ¬ v.kind = 4) : H.pairs v = [] := by
  unfold HeapM.pairs HeapM.of; rw [if_neg h]; rfl
/-- Two values that are no objects are the same if they are the same one. -/
theorem HeapM.same_no (H : HeapM) (f : Nat) (x y : V) (hx : ¬ x.kind = 4) (hy : ¬ y.kind = 4) : H.sameF f x y = some (decide (x = y)) := by
  have kx := H.kind_no x hx
  have ky := H.kind_no y hy
  have wx := H.wholeB_no x hx
  cases f <;> (unfold HeapM.sameF HeapM.sameT HeapM.oneB; simp only [kx, ky, wx]; by_cases e : x = y <;> simp [e])
section
variable {w W : World} {Rs : List Res} {h : Nat} {H : HeapM}
theorem repr_one {N : Nat} (G : H.Good N) (hN : N ≤ 4000000) (S : Sep w Rs W) (i : Nat) (hi : Rs[i]? = some (heapR h H)) (v : V) (hk : v.kind = 0 ∨ v.kind = 1 ∨ v.kind = 2 ∨ v.kind = 3) (hs : v.s.size ≤ 100000) (r : Value) (hr : r = reprV (H.reprM v)) :
    Calls Tryz.prog 25 #[.pointer (some ⟨h, 0, none⟩), .agg #[.int .i64 v.kind, .int .i64 v.n, .string v.s]] W fun e W' => e = .returned r ∧ Sep w Rs W' := by
  subst hr
  have h4 : ¬ v.kind = 4 := by omega
  exact repr_ok G hN (plainAt (P := fun x => x = v) (fun x hx _ => by subst hx; exact ⟨hk, hs⟩)) (fun x y hx hy => by subst hx; rw [H.items_no x h4] at hy; cases hy) (fun x p hx hp => by subst hx; rw [H.pairs_no x h4] at hp; cases hp) S i hi v rfl
end
theorem HeapM.repr_fits (H : HeapM) (v : V) (h4 : ¬ v.kind = 4) (hl : (H.plainL v).length ≤ 65536) : reprV (H.reprM v) = .tuple #[.string ⟨(H.plainL v).toArray⟩, excZ] := by
  unfold HeapM.reprM HeapM.tellF HeapM.tellT
  simp only [H.wholeB_no v h4, if_true]
  unfold TelM.say
  simp only [List.length_nil, Nat.zero_add]
  rw [if_neg (by omega)]
  rfl
theorem HeapM.repr_long (H : HeapM) (v : V) (h4 : ¬ v.kind = 4) (hl : 65536 < (H.plainL v).length) : reprV (H.reprM v) = .tuple #[.string ⟨#[]⟩, excN memoryError] := by
  unfold HeapM.reprM HeapM.tellF HeapM.tellT
  simp only [H.wholeB_no v h4, if_true]
  unfold TelM.say
  simp only [List.length_nil, Nat.zero_add]
  rw [if_pos hl]
  rfl
end Go.Proofs.YtellmfimmghidaaGreat
